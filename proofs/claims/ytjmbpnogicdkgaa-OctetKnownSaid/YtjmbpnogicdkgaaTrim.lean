/-
  nat.trim; a strings.Builder that a call has made: WriteByte.
-/
import Derived.Test.YtjmbpnogicdkgaaDigits
import Derived.Test.YtjmbpnogicdkgaaNatWalks
import Derived.Test.YtjmbpnogicdkgaaSeal
import Derived.Test.YtjmbpnogicdkgaaShelf
import Derived.Deep.DeepMust
namespace Go.Proofs.Ytjmbpnogicdkgaa
open Go.RowKit
set_option linter.unusedSimpArgs false
set_option linter.unusedVariables false

def lenOf : Value → Nat
  | .slice _ n _ => n
  | _ => 0

theorem trimL_take0 {l : List Nat} {k : Nat} (h : l[k]? = some 0) : trimL (l.take (k + 1)) = trimL (l.take k) := by
  rw [List.take_add_one, h, Option.toList_some, trimL_snoc0]
theorem trimL_takeS {l : List Nat} {k x : Nat} (h : l[k]? = some x) (hx : x ≠ 0) : trimL (l.take (k + 1)) = l.take (k + 1) := by
  rw [List.take_add_one, h, Option.toList_some, trimL_snoc _ _ hx]

theorem nat_trim (A : Option Addr) (n c B : Nat) (l : List Nat) (w : World) (h : Reads w B 1 A n (l.map u64v)) (hn : n ≤ 9223372036854775807) (hc : n ≤ c) :
    Calls Try.prog 56 #[.slice A n c] w fun e w' => e = .returned (.slice A (trimL l).length c) ∧ w = w' := by
  have hl := h.lenf
  have HL := Lib.hid hl
  clear hl
  go_enter Try.func56, Try.ntmps56
  go_wp2
  go_loop [0] (fun v => ∃ k : Nat, k ≤ n ∧ v = .slice A k c ∧ Hid (trimL (l.take k) = trimL l)) (fun v => lenOf v)
  case atStart => exact ⟨n, Nat.le_refl _, rfl, by show _ = _; rw [List.take_of_length_le (by rw [HL.out]; omega)]⟩
  case round =>
    obtain ⟨k, hk, rfl, HK⟩ := hrel
    by_cases h0 : k = 0
    · subst h0
      go_wp2
      go_ret
      have := HK.out
      rw [← this]
      exact ⟨rfl, rfl⟩
    · obtain ⟨j, rfl⟩ : ∃ j, k = j + 1 := ⟨k - 1, by omega⟩
      obtain ⟨ad, x, hA, hb, hx, hcell⟩ := h.atf (show j < n by omega)
      subst hA
      unfold u64v at hcell
      have k1 : (((j + 1 : Nat) : Int) - 1) = (j : Int) := by omega
      have k2 : (j : Int) < ((j + 1 : Nat) : Int) := by omega
      have k3 : (0 : Int) < ((j + 1 : Nat) : Int) := by omega
      have k4 : (j : Int) ≤ (c : Int) := by omega
      have HX := Lib.hid hx
      clear hx
      by_cases hx0 : x = 0
      · subst hx0
        go_wp2
        refine ⟨⟨j, by omega, rfl, ?_⟩, by simp [lenOf]⟩
        show _ = _
        rw [← trimL_take0 HX.out]
        exact HK.out
      · have hx1 : ((x : Int) == 0) = false := by simp; omega
        go_wp2
        go_ret
        refine ⟨?_, rfl⟩
        have h1 := HK.out
        rw [trimL_takeS HX.out hx0] at h1
        rw [← h1, List.length_take, HL.out, Nat.min_eq_left hk]
        rfl

theorem builder_writeByte (B b : Nat) (l : List UInt8) (x : UInt8) (w : World) (h : Lib.BuilderAt 88 5 B b (.pointer (some ⟨b, 0, none⟩)) (Lib.byteCells l) w) (hl : l.length < 140737488355328) (hB : B ≤ w.heap.size) :
    Calls Try.prog 58 #[.pointer (some ⟨b, 0, none⟩), .int .u8 (x.toNat : Int)] w fun e w' => (∃ v, e = .returned v) ∧ Lib.BuilderAt 88 5 B b (.pointer (some ⟨b, 0, none⟩)) (Lib.byteCells (l ++ [x])) w' ∧ Below B w w' := by
  obtain ⟨hBb, v, hblk, hown, hne⟩ := h
  have q0 : w.cell? ⟨b, 0, none⟩ = some (.pointer (some ⟨b, 0, none⟩)) := by simp [World.cell?, hblk]
  have q1 : w.cell? ⟨b, 1, none⟩ = some v := by simp [World.cell?, hblk]
  have f1 : w.frozen? ⟨b, 1, none⟩ = false := by simp [World.frozen?, hblk]
  obtain ⟨i0, hi0, hz0, hz1, hz2⟩ := info_parts Try.infoU8
  rw [Lib.byteCells_length] at hown
  have hsame : ∀ w : World, (binOp .neq 86 (.pointer (some ⟨b, 0, none⟩)) (.pointer (some ⟨b, 0, none⟩))).run Try.prog w = .ok (.bool false) w := fun w => by
    obtain ⟨j, hj⟩ : ∃ j, Try.prog.info? 88 = some j := Option.isSome_iff_exists.1 (by kernel_rfl)
    exact Lib.run_neq_ptr_same w _ Try.underlying86 hj
  go_enter Try.func58, Try.ntmps58
  go_wp2_with (first | (at_builtin; go_must (refine wpList_append_any _ rfl (.tmp 11) (.tmp 13) 29 rfl B 5 i0 (u8v 0) 1 1 Try.underlying29 hi0 hz0 hz1 hz2 rfl (by omega) v l.length (Lib.byteCells l) rfl (hown.alloc _) (w.heap.size + 1) (some ⟨w.heap.size, 0, none⟩) 1 1 [.int .u8 (x.toNat : Int)] rfl (Reads.one _ _ _) ?c1 ?c2 ?c3 ?c4 ?_)) | go_in)
  case c1 => intro u hu; simp at hu; subst hu; rfl
  case c2 => unfold maxLen; omega
  case c3 => omega
  case c4 => simp; omega
  intro v' w1 hown1 hgr hwh
  have hlt : b < w.heap.size := by
    rcases Nat.lt_or_ge b w.heap.size with h1 | h1
    · exact h1
    · rw [Array.getElem?_eq_none h1] at hblk; cases hblk
  have hblk1 : w1.heap[b]? = some (.cells #[.pointer (some ⟨b, 0, none⟩), v] 88 (0, 0)) := by
    rw [hgr.block b (by simp; omega) (fun e => hne e.symm), Below.heap_alloc _ _ _ hlt]
    exact hblk
  have q1' : w1.cell? ⟨b, 1, none⟩ = some v := by simp [World.cell?, hblk1]
  have f1' : w1.frozen? ⟨b, 1, none⟩ = false := by simp [World.frozen?, hblk1]
  have hne' : v'.ownBlock ≠ some b := by
    rcases hwh with h1 | h1
    · rw [h1]; exact hne
    · rw [h1]
      simp
      omega
  have hvB : ∀ k, v.ownBlock = some k → B ≤ k := fun k hk => (World.ownsRow.lt hown k hk).1
  have hbel : Below B w w1 := ((Below.refl _ _).alloc (by omega) _).trans ⟨hgr.os, hgr.tape, hgr.output, hgr.size, fun k hk => hgr.block k (by simp; omega) (fun e => by have := hvB k e.symm; omega)⟩
  have hbld : Lib.BuilderAt 88 5 B b (.pointer (some ⟨b, 0, none⟩)) (Lib.byteCells (l ++ [x])) (w1.setCell ⟨b, 1, none⟩ v') := by
    refine ⟨hBb, v', ?_, ?_, hne'⟩
    · simp [World.setCell, Array.getElem?_modify, hblk1]
    · have h5 : Lib.byteCells (l ++ [x]) = Lib.byteCells l ++ [.int .u8 (x.toNat : Int)] := by simp [Lib.byteCells]
      rw [h5, List.length_append, Lib.byteCells_length]
      exact hown1.kept (row := some b) ⟨rfl, rfl, rfl, by simp [World.setCell], fun k _ hk => Below.heap_setCell _ _ _ _ (fun e => hk (by simp [e]))⟩ (Or.inr hne')
  have HF := Lib.hid (And.intro hbld (hbel.setCell (p := ⟨b, 1, none⟩) hBb v'))
  obtain ⟨A', n', c', hv'⟩ : ∃ A' n' c', v' = .slice A' n' c' := by
    rcases hown1.2 with ⟨h1, _⟩ | ⟨g, cap, cur, h1, _⟩
    · exact ⟨_, _, _, h1⟩
    · exact ⟨_, _, _, h1⟩
  rw [hv'] at HF ⊢
  clear hblk hown hown1 hbld hbel hgr hwh hv' q0 q1 hblk1
  go_wp2
  go_ret
  exact ⟨⟨_, rfl⟩, HF.out.1, HF.out.2⟩
end Go.Proofs.Ytjmbpnogicdkgaa
