/-
  octet.exact and hand.Few: copies of bytes in new memory.
-/
import Derived.Test.YtjmbpnogicdkgaaCount
namespace Go.Proofs.Ytjmbpnogicdkgaa
open Go.RowKit
set_option linter.unusedSimpArgs false
set_option linter.unusedVariables false

/-- v is a slice of new memory that holds the bytes l; nothing that was there has changed -/
def NewB (w w' : World) (v : Value) (l : List UInt8) : Prop := Own w' 5 u8v v l ∧ Below w.heap.size w w' ∧ ∀ k, v.ownBlock = some k → w.heap.size ≤ k

theorem Try.sizeU8 : (Try.prog.info? 5).map (·.size) = some 1 := by kernel_rfl
theorem Own.ofBlk {α : Type} {w : World} {e : TypeId} {f : α → Value} {l : List α} {g : Nat} (h : Row w g e f l) (hm : l.length ≤ maxLen) : Own w e f (.slice (some ⟨g, 0, none⟩) l.length l.length) l :=
  ⟨by simp, .inr ⟨g, l.length, (l.map f).toArray, rfl, Nat.zero_le _, h, Nat.le_refl _, hm, by simp, by rw [Nat.mul_one, List.take_of_length_le (by simp)]⟩⟩

set_option maxRecDepth 100000 in
set_option maxHeartbeats 400000 in
theorem octet_exact_full (A : Option Addr) (n c B : Nat) (bs : List UInt8) (w : World) (h : Bytes w B A n bs) (hB : B ≤ w.heap.size) (hn : n ≤ 1099511627800) :
    Calls Try.prog 34 #[.slice A n c] w fun e w' => ∃ g, e = .returned (.slice (some ⟨g, 0, none⟩) n n) ∧ NewB w w' (.slice (some ⟨g, 0, none⟩) n n) bs := by
  have hmk := make_row (P := Try.prog) (fun b : UInt8 => u8v b) 0 29 5 1 Try.underlying29 Try.infoU8 rfl .i64 .i64 n (by omega) (by omega)
  have hl := h.len
  have HL := Lib.hid hl
  clear hl
  have C3 : Hid (0 < (bs.map u8v).length → (some ⟨w.heap.size, 0, none⟩ : Option Addr) = some ⟨w.heap.size, 0, none⟩ ∧ ∃ ad, A = some ad ∧ ∀ j v, (bs.map u8v)[j]? = some v → (w.alloc (.cells (Array.replicate n (u8v 0)) 5)).cell? (ad.add j) = some v) := by
    intro hp
    have hl := HL.out
    rw [List.length_map] at hp
    obtain ⟨ad, e, hb, hc⟩ := (Reads.alloc h hB (.cells (Array.replicate n (u8v 0)) 5)).2 (by omega)
    exact ⟨rfl, ad, e, hc⟩
  have C1 : Hid ((w.alloc (.cells (Array.replicate n (u8v 0)) 5)).heap[w.heap.size]? = some (.cells (List.replicate n (u8v 0)).toArray 5 (0, 0))) := by
    have := heap_alloc_new w (.cells (Array.replicate n (u8v 0)) 5)
    show _ = _
    simpa using this
  have C2 : Hid ((bs.map u8v).length = Nat.min n n) := by
    have := HL.out
    show _ = _
    simp [this]
  have C4 : Hid (0 + (bs.map u8v).length ≤ (List.replicate n (u8v 0)).length) := by
    have := HL.out
    show _ ≤ _
    simp [this]
  have C5 : Hid (∀ v ∈ bs.map u8v, v.oneCell' = true) := by
    intro u hu
    simp at hu
    obtain ⟨x, _, rfl⟩ := hu
    rfl
  go_enter Try.func34, Try.ntmps34
  go_wp2_with (with_reducible refine wpList_copy_splice rfl (.tmp 7) (.tmp 8) 29 29 rfl 5 Try.underlying29 Try.sizeU8 (some ⟨w.heap.size, 0, none⟩) A n n n c rfl rfl w.heap.size 0 (List.replicate n (u8v 0)) 5 C1.out (bs.map u8v) C2.out C3.out C4.out C5.out w.heap.size w ((Below.refl _ _).alloc (Nat.le_refl _) _) (Nat.le_refl _) ?_)
  intro w1 HR hb1
  have hn2 : (n : Int) ≤ (n : Int) := Int.le_refl _
  go_wp2
  go_ret
  have hl := HL.out
  have hr : Row w1 w.heap.size 5 u8v bs := by
    have := HR.out
    unfold splice at this
    simp [hl] at this
    unfold Row Blk
    simpa using this
  have ho := Own.ofBlk hr (by unfold maxLen; omega)
  rw [hl] at ho
  exact ⟨_, rfl, ho, hb1, fun k hk => by simp [Value.ownBlock] at hk; omega⟩

theorem octet_exact (A : Option Addr) (n c B : Nat) (bs : List UInt8) (w : World) (h : Bytes w B A n bs) (hB : B ≤ w.heap.size) (hn : n ≤ 1099511627800) :
    Calls Try.prog 34 #[.slice A n c] w fun e w' => ∃ v', e = .returned v' ∧ NewB w w' v' bs :=
  (octet_exact_full A n c B bs w h hB hn).mono fun _ _ ⟨_, h1, h2⟩ => ⟨_, h1, h2⟩

/-- 'append([]byte{}, b[:min(len(b), n)]...)' -/
theorem hand_few (A : Option Addr) (n c B : Nat) (bs : List UInt8) (m : Nat) (w : World) (h : Bytes w B A n bs) (hB : B ≤ w.heap.size) (hn : n ≤ 9223372036854775807) (hc : n ≤ c) (hm : m ≤ 140737488355328) :
    Calls Try.prog 19 #[.slice A n c, .int .i64 (m : Int)] w fun e w' => ∃ v', e = .returned v' ∧ NewB w w' v' (bs.take m) := by
  have hl := h.len
  have HL := Lib.hid hl
  clear hl
  obtain ⟨k, hk⟩ : ∃ k, min n m = k := ⟨_, rfl⟩
  have hmin : (if m < n then (m : Int) else (n : Int)) = (k : Int) := by split <;> omega
  have hk1 : k ≤ n := by omega
  have hk3 : k ≤ 140737488355328 := by omega
  have hk2 : (k : Int) ≤ (c : Int) := by omega
  have hr : Bytes (w.alloc (.cells #[] 5)) B A k (bs.take m) := by
    have h1 := (Reads.alloc h hB (.cells #[] 5)).front hk1
    rw [Nat.mul_one, ← List.map_take] at h1
    have h2 : bs.take k = bs.take m := by
      have := HL.out
      rw [← hk, ← this]
      exact (List.take_eq_take_iff.2 (by omega))
    rw [h2] at h1
    exact h1
  have HK := Lib.hid hk
  clear hk
  have ho : Own (w.alloc (.cells #[] 5)) 5 u8v (.slice (some ⟨w.heap.size, 0, none⟩) 0 0) [] := Own.lit w 5 u8v [] (by unfold maxLen; simp)
  go_enter Try.func19, Try.ntmps19
  go_wp2_with (at_builtin; refine appN Try.eltU8 rfl (.tmp 5) (.tmp 11) rfl (w.alloc (.cells #[] 5)) _ [] B A k c (bs.take m) rfl ho rfl hr u8v_one ?c1 ?c2 ?_)
  case c1 => unfold maxLen; simp; omega
  case c2 => simp; omega
  intro v' w1 hown hgr
  go_wp2
  go_ret
  have hb := Grew.below (B := w.heap.size) hgr (by simp) (by intro k hk; simp [Value.ownBlock] at hk; omega)
  have hfr := Grew.fresh (B := w.heap.size) hgr (by simp) (by intro k hk; simp [Value.ownBlock] at hk; omega)
  exact ⟨v', rfl, by simpa using hown, ((Below.refl _ _).alloc (Nat.le_refl _) _).trans hb, hfr⟩
end Go.Proofs.Ytjmbpnogicdkgaa
