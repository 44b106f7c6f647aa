/-
  dice.Order and dice.Draw.
-/
import Derived.Test.YtjmbpnogicdkgaaDoorBelow
import Derived.Test.YtjmbpnogicdkgaaDoorOrderMath
import Derived.RegionTactic
import Derived.Deep.LoopGhost
import Derived.BigRegion
namespace Go.Proofs.YtjmbpnogicdkgaaDoor
open Go.RowKit
set_option linter.unusedSimpArgs false
set_option linter.unusedVariables false

theorem Tryd.infoInt : (Tryd.prog.info? 3).map (fun i => (i.zero, i.size, i.bytes)) = some (some (iv 0), 1, 8) := by kernel_rfl

theorem fill_step (n k : Nat) (hk : k < n) : (List.range k ++ List.replicate (n - k) 0).set k k = List.range (k + 1) ++ List.replicate (n - (k + 1)) 0 := by
  apply List.ext_getElem
  · simp; omega
  · intro i h1 h2
    simp at h1 h2
    rw [List.getElem_set]
    by_cases h : k = i
    · subst h; simp
    · rw [if_neg h]
      by_cases h3 : i < k
      · rw [List.getElem_append_left (by simpa using h3), List.getElem_append_left (by simp; omega)]
        simp
      · rw [List.getElem_append_right (by simp; omega), List.getElem_append_right (by simp; omega)]
        simp

/-- a store into an old block on both sides -/
theorem below_set {B : Nat} {w w' : World} (h : Below B w w') {b : Nat} (hb : b < B) (v : Value) : Below B (w.setCell ⟨b, 0, none⟩ v) (w'.setCell ⟨b, 0, none⟩ v) := by
  refine ⟨h.os, h.tape, h.output, by simpa [World.setCell] using h.size, fun k hk => ?_⟩
  simp only [World.setCell, Array.getElem?_modify]
  rw [h.block k hk]

def FillRel (w : World) (n k : Nat) (wr : World) : Prop := Row wr w.heap.size 3 iv (List.range k ++ List.replicate (n - k) 0) ∧ Below w.heap.size w wr
def MixRel (w : World) (b n s0 i : Nat) (wr : World) : Prop :=
  ∃ l s, i < n ∧ s < 18446744073709551616 ∧ l.length = n ∧ Dice.shuffle i l s = Dice.shuffle (n - 1) (List.range n) s0 ∧ Row wr w.heap.size 3 iv l ∧ Blk wr b 82 #[.int .u64 (s : Int)] ∧
    Below w.heap.size (w.setCell ⟨b, 0, none⟩ (.int .u64 (s : Int))) wr

theorem mix_step {w x1 : World} {b n s0 i j t' vi vj : Nat} {l : List Nat} (hst : t' < 18446744073709551616) (hl : l.length = n) (hi : i + 1 < n) (hr1 : Row x1 w.heap.size 3 iv l)
    (hd1 : Blk x1 b 82 #[.int .u64 (t' : Int)]) (hb1 : Below w.heap.size (w.setCell ⟨b, 0, none⟩ (.int .u64 (t' : Int))) x1) (hbl : b < w.heap.size)
    (hsu : Dice.shuffle i (Dice.swapL l (i + 1) j) t' = Dice.shuffle (n - 1) (List.range n) s0) (hvi : l.getD (i + 1) 0 = vi) (hvj : l.getD j 0 = vj) :
    Value.int .i64 (i : Int) = .int .i64 (i : Int) ∧ MixRel w b n s0 i ((x1.setCell ⟨w.heap.size, i + 1, none⟩ (.int .i64 (vj : Int))).setCell ⟨w.heap.size, j, none⟩ (.int .i64 (vi : Int))).drew := by
  have e : Dice.swapL l (i + 1) j = (l.set (i + 1) vj).set j vi := by unfold Dice.swapL; rw [hvi, hvj]
  refine ⟨rfl, Dice.swapL l (i + 1) j, t', by omega, hst, by rw [Dice.swapL_len]; exact hl, hsu, ?_, ?_, ?_⟩
  · rw [e]
    exact ((hr1.set_ (i + 1) vj).set_ j vi).drew
  · exact ((hd1.far (by simp; omega) _).far (by simp; omega) _).drew
  · exact ((hb1.setCell (Nat.le_refl _) _).setCell (Nat.le_refl _) _).drew

set_option maxHeartbeats 1000000 in
theorem dice_order (b s n : Nat) (w : World) (hs : s < 18446744073709551616) (hn1 : 1 ≤ n) (hn2 : n ≤ 65536) (hd : Blk w b 82 #[.int .u64 (s : Int)]) :
    Calls Tryd.prog 22 #[.pointer (some ⟨b, 0, none⟩), .int .i64 (n : Int)] w fun e w' => e = .returned (.slice (some ⟨w.heap.size, 0, none⟩) n n) ∧
      Row w' w.heap.size 3 iv (Dice.order n s).1 ∧ Blk w' b 82 #[.int .u64 (((Dice.order n s).2 : Nat) : Int)] ∧ Below w.heap.size (w.setCell ⟨b, 0, none⟩ (.int .u64 (((Dice.order n s).2 : Nat) : Int))) w' := by
  have hmk := make_row (P := Tryd.prog) iv 0 54 3 8 Tryd.underlying54 Tryd.infoInt rfl .i64 .i64 n (by omega) (by omega)
  have hc1 : decide ((n : Int) < 1) = false := by simp; omega
  have hc2 : decide ((65536 : Int) < (n : Int)) = false := by simp; omega
  have hbl := hd.lt
  go_enter Tryd.func22, Tryd.ntmps22
  go_wp2
  go_loopw [6, 20] (fun x i wr => ∃ k : Nat, k ≤ n ∧ i = .int .i64 k ∧ FillRel w n k wr) (fun _ i _ => n - (intOf i).toNat)
  case atStart =>
    refine ⟨0, Nat.zero_le _, rfl, ?_, (Below.refl _ _).alloc (Nat.le_refl _) _⟩
    have := Row.rep w 3 iv 0 n
    simpa using this
  case round =>
    obtain ⟨k, hk, rfl, hrow, hbel⟩ := hrel
    by_cases hlt : k < n
    · have hlt2 : (k : Int) < (n : Int) := by omega
      have hcell := hrow.cell (k := k) (x := 0) (by rw [List.getElem?_append_right (by simp)]; rw [List.getElem?_replicate]; simp; omega)
      have hfr := hrow.frozen k
      unfold iv at hcell
      go_wp2
      exact ⟨⟨k + 1, by omega, by go_num, by have := hrow.set_ k k; rw [fill_step n k hlt] at this; exact this, hbel.setCell (Nat.le_refl _) _⟩, by simp [intOf]; omega⟩
    · obtain rfl : k = n := by omega
      have hrow1 : Row wr w.heap.size 3 iv (List.range k) := by simpa using hrow
      have hd1 := hd.below hbel hbl
      clear hrow
      go_wp2
      go_loopg [8, 9] (k - 1) (fun i x y wr => x = .int .i64 i ∧ MixRel w b k s i wr)
      case atStart =>
        refine ⟨by go_num, List.range k, s, by omega, hs, by simp, rfl, hrow1, hd1, ?_⟩
        rw [hd.setCell_self 0 (.int .u64 (s : Int)) rfl]
        exact hbel
      case round =>
        obtain ⟨rfl, l, t, hi, ht, hl, hsh, hrow, hdi, hbel2⟩ := hrel
        have HSH := Lib.hid hsh
        have HL := Lib.hid hl
        clear hsh hl
        by_cases hi1 : 1 ≤ gk
        · obtain ⟨i, rfl⟩ : ∃ i, gk = i + 1 := ⟨gk - 1, by omega⟩
          go_wp2_with fail
          rw [show ((i : Int) + 1 + 1) = ((i + 2 : Nat) : Int) from by omega]
          refine (dice_below b t (i + 2) wr ht (by omega) (by omega) hdi).mono ?_
          rintro e x1 ⟨rfl, rfl⟩
          have hlt := Dice.below_lt (i + 2) t (by omega)
          have hst := Dice.below_state (i + 2) t ht
          have hsu := HSH.out
          rw [Dice.shuffle_succ] at hsu
          have hr1 := hrow.far (p := ⟨b, 0, none⟩) (by simp; omega) (.int .u64 (((Dice.below (i + 2) t).2 : Nat) : Int))
          have hd1 := hdi.set_ 0 (.int .u64 (((Dice.below (i + 2) t).2 : Nat) : Int))
          have hb1 : Below w.heap.size (w.setCell ⟨b, 0, none⟩ (.int .u64 (((Dice.below (i + 2) t).2 : Nat) : Int))) (wr.setCell ⟨b, 0, none⟩ (.int .u64 (((Dice.below (i + 2) t).2 : Nat) : Int))) := by
            have := below_set hbel2 hbl (.int .u64 (((Dice.below (i + 2) t).2 : Nat) : Int))
            rw [setCell_setCell] at this
            exact this
          generalize wr.setCell ⟨b, 0, none⟩ (.int .u64 (((Dice.below (i + 2) t).2 : Nat) : Int)) = x1 at *
          generalize (Dice.below (i + 2) t).1 = j at *
          generalize (Dice.below (i + 2) t).2 = t' at *
          have HSU := Lib.hid hsu
          clear hsu hrow hdi hbel2 HSH ht
          have hl := HL.out
          have hci := hr1.cell (k := i + 1) (x := l.getD (i + 1) 0) (by rw [List.getD_eq_getElem?_getD, List.getElem?_eq_getElem (by omega)]; rfl)
          have hcj := hr1.cell (k := j) (x := l.getD j 0) (by rw [List.getD_eq_getElem?_getD, List.getElem?_eq_getElem (by omega)]; rfl)
          have hfi := hr1.frozen (i + 1)
          have hfj := hr1.frozen j
          clear hl
          unfold iv at hci hcj
          obtain ⟨vi, hvi⟩ : ∃ v, l.getD (i + 1) 0 = v := ⟨_, rfl⟩
          obtain ⟨vj, hvj⟩ : ∃ v, l.getD j 0 = v := ⟨_, rfl⟩
          rw [hvi] at hci
          rw [hvj] at hcj
          have HV := Lib.hid (And.intro hvi hvj)
          clear hvi hvj
          have g1 : ((i + 1 : Nat) : Int) < (k : Int) := by omega
          have g2 : (j : Int) < (k : Int) := by omega
          by_cases hij : j = i + 1
          · subst hij
            obtain rfl : vi = vj := HV.out.1.symm.trans HV.out.2
            go_wp2_with fail
            go_region
            go_wp2
            go_roundg i
            case rel => exact mix_step hst HL.out hi hr1 (by exact hd1) hb1 hbl HSU.out HV.out.1 HV.out.2
            case measure => omega
          · go_wp2_with fail
            go_region
            go_wp2
            go_roundg i
            case rel => exact mix_step hst HL.out hi hr1 (by exact hd1) hb1 hbl HSU.out HV.out.1 HV.out.2
            case measure => omega
        · go_wp2_with fail
          go_ret
          obtain rfl : gk = 0 := by omega
          have hsu := HSH.out
          rw [Dice.shuffle_zero] at hsu
          unfold Dice.order
          rw [← hsu]
          exact ⟨rfl, hrow, hdi, hbel2⟩

def DrawRel (w : World) (b n k0 s0 i : Nat) (wr : World) : Prop :=
  Row wr w.heap.size 3 iv ((Dice.draws n i s0).1 ++ List.replicate (k0 - i) 0) ∧ Blk wr b 82 #[.int .u64 (((Dice.draws n i s0).2 : Nat) : Int)] ∧
    Below w.heap.size (w.setCell ⟨b, 0, none⟩ (.int .u64 (((Dice.draws n i s0).2 : Nat) : Int))) wr
theorem draw_set (n k i s : Nat) (hi : i < k) : ((Dice.draws n i s).1 ++ List.replicate (k - i) 0).set i (Dice.below n (Dice.draws n i s).2).1 = (Dice.draws n (i + 1) s).1 ++ List.replicate (k - (i + 1)) 0 := by
  rw [Dice.draws_succ]
  have hl := Dice.draws_len n i s
  obtain ⟨m, rfl⟩ : ∃ m, k = i + 1 + m := ⟨k - (i + 1), by omega⟩
  rw [show i + 1 + m - i = m + 1 from by omega, show i + 1 + m - (i + 1) = m from by omega, List.replicate_succ, List.set_append_right _ _ (by omega), hl, Nat.sub_self, List.set_cons_zero, List.append_assoc]
  rfl
theorem draw_step {w x1 : World} {b n k0 s0 i : Nat} (hi : i < k0) (hbl : b < w.heap.size) (h : DrawRel w b n k0 s0 i x1) :
    DrawRel w b n k0 s0 (i + 1) ((x1.setCell ⟨b, 0, none⟩ (.int .u64 (((Dice.below n (Dice.draws n i s0).2).2 : Nat) : Int))).setCell ⟨w.heap.size, i, none⟩ (.int .i64 (((Dice.below n (Dice.draws n i s0).2).1 : Nat) : Int))) := by
  obtain ⟨h1, h2, h3⟩ := h
  have e : (Dice.draws n (i + 1) s0).2 = (Dice.below n (Dice.draws n i s0).2).2 := by rw [Dice.draws_succ]
  unfold DrawRel
  rw [e]
  refine ⟨?_, ?_, ?_⟩
  · rw [← draw_set n k0 i s0 hi]
    exact (h1.far (by simp; omega) _).set_ i (Dice.below n (Dice.draws n i s0).2).1
  · exact (h2.set_ 0 _).far (by simp; omega) _
  · have := below_set h3 hbl (.int .u64 (((Dice.below n (Dice.draws n i s0).2).2 : Nat) : Int))
    rw [setCell_setCell] at this
    exact this.setCell (Nat.le_refl _) _

set_option maxHeartbeats 1000000 in
theorem dice_draw (b s n k : Nat) (w : World) (hs : s < 18446744073709551616) (hn1 : 1 ≤ n) (hn2 : n ≤ 9223372036854775807) (hk1 : 1 ≤ k) (hk2 : k ≤ 65536) (hd : Blk w b 82 #[.int .u64 (s : Int)]) :
    Calls Tryd.prog 23 #[.pointer (some ⟨b, 0, none⟩), .int .i64 (n : Int), .int .i64 (k : Int)] w fun e w' => e = .returned (.slice (some ⟨w.heap.size, 0, none⟩) k k) ∧
      Row w' w.heap.size 3 iv (Dice.draws n k s).1 ∧ Blk w' b 82 #[.int .u64 (((Dice.draws n k s).2 : Nat) : Int)] ∧ Below w.heap.size (w.setCell ⟨b, 0, none⟩ (.int .u64 (((Dice.draws n k s).2 : Nat) : Int))) w' := by
  have hmk := make_row (P := Tryd.prog) iv 0 54 3 8 Tryd.underlying54 Tryd.infoInt rfl .i64 .i64 k (by omega) (by omega)
  have hc1 : decide ((n : Int) < 1) = false := by simp; omega
  have hc2 : decide ((k : Int) < 1) = false := by simp; omega
  have hc3 : decide ((65536 : Int) < (k : Int)) = false := by simp; omega
  have hbl := hd.lt
  go_enter Tryd.func23, Tryd.ntmps23
  go_wp2
  go_loopw [9, 26] (fun x i wr => ∃ j : Nat, j ≤ k ∧ i = .int .i64 j ∧ DrawRel w b n k s j wr) (fun _ i _ => k - (intOf i).toNat)
  case atStart =>
    have h1 := Row.rep w 3 iv 0 k
    refine ⟨0, Nat.zero_le _, rfl, ?_⟩
    unfold DrawRel
    rw [Dice.draws_zero]
    refine ⟨by simpa using h1, hd.alloc _, ?_⟩
    rw [hd.setCell_self 0 (.int .u64 (s : Int)) rfl]
    exact (Below.refl _ _).alloc (Nat.le_refl _) _
  case round =>
    obtain ⟨j, hj, rfl, hrow⟩ := hrel
    by_cases hlt : j < k
    · have hlt2 : (j : Int) < (k : Int) := by omega
      have hst := Dice.draws_state n j s hs
      have hnx := draw_step hlt hbl hrow
      have hcell := (hrow.1.far (p := ⟨b, 0, none⟩) (by simp; omega) (.int .u64 (((Dice.below n (Dice.draws n j s).2).2 : Nat) : Int))).cell (k := j) (x := 0)
        (by rw [List.getElem?_append_right (by rw [Dice.draws_len]; omega), Dice.draws_len, List.getElem?_replicate]; simp; omega)
      have hfr := (hrow.1.far (p := ⟨b, 0, none⟩) (by simp; omega) (.int .u64 (((Dice.below n (Dice.draws n j s).2).2 : Nat) : Int))).frozen j
      unfold iv at hcell
      go_wp2_with fail
      refine (dice_below b _ n wr hst (by omega) (by omega) hrow.2.1).mono ?_
      rintro e x1 ⟨rfl, rfl⟩
      go_wp2
      exact ⟨⟨j + 1, by omega, by go_num, hnx⟩, by simp [intOf]; omega⟩
    · obtain rfl : j = k := by omega
      go_wp2
      go_ret
      obtain ⟨h1, h2, h3⟩ := hrow
      exact ⟨rfl, by simpa using h1, h2, h3⟩
end Go.Proofs.YtjmbpnogicdkgaaDoor
