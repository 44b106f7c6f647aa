/-
  dice.Below: the first output that is at most the last whole multiple, modulo n.
  The plain mathematics of Order and Draw.
  dice.Order and dice.Draw.
  dice.Draw of no number; the marks that the law on orders makes.
-/
import Derived.Test.YtjmbpnogicdkgaaGreatDoorDiceW
import Derived.Deep.LoopGhost
import Derived.Test.YtjmbpnogicdkgaaGreatDoorMathA
import Derived.RegionTactic
import Derived.BigRegion
/-! dice.Below: the first output that is at most the last whole multiple, modulo n. -/
namespace Go.Proofs.YtjmbpnogicdkgaaGreatDoor
open Go.RowKit
set_option linter.unusedSimpArgs false
set_option linter.unusedVariables false

theorem setCell_setCell (w : World) (b o : Nat) (v v' : Value) : (w.setCell ⟨b, o, none⟩ v).setCell ⟨b, o, none⟩ v' = w.setCell ⟨b, o, none⟩ v' := by
  unfold World.setCell
  congr 1
  apply Array.ext
  · simp
  · intro i h1 h2
    simp only [Array.getElem_modify]
    split
    · cases w.heap[i]'(by simpa using h2) <;> simp
    · rfl
theorem Blk.setCell_self {w : World} {g : Nat} {t : TypeId} {cs : Array Value} (h : Blk w g t cs) (o : Nat) (v : Value) (hv : cs[o]? = some v) : w.setCell ⟨g, o, none⟩ v = w := by
  unfold Blk at h
  have : w.heap.modify g (fun | .cells c elem frozen => .cells (if (none : Option Nat).isSome then c else c.setIfInBounds o v) elem frozen | o => o) = w.heap := by
    apply Array.ext
    · simp
    · intro i h1 h2
      simp only [Array.getElem_modify]
      split
      · rename_i he
        subst he
        have h' : w.heap[g] = .cells cs t (0, 0) := by
          rw [Array.getElem?_eq_getElem h2] at h
          exact Option.some.inj h
        rw [h']
        simp
        apply Array.ext
        · simp
        · intro j h3 h4
          rw [Array.getElem_setIfInBounds]
          split
          · rename_i hj
            subst hj
            rw [Array.getElem?_eq_getElem h4] at hv
            exact (Option.some.inj hv).symm
          · rfl
      · rfl
  have e : w.setCell ⟨g, o, none⟩ v = { w with heap := w.heap.modify g (fun | .cells c elem frozen => .cells (if (none : Option Nat).isSome then c else c.setIfInBounds o v) elem frozen | o => o) } := rfl
  rw [e, this]

theorem last_walk (n : Nat) (hn1 : 1 ≤ n) (hn2 : n ≤ 9223372036854775807) :
    IntKind.u64.wrap (18446744073709551615 - (IntKind.u64.wrap (18446744073709551615 % (n : Int) + 1)).tmod (n : Int)) = ((Dice.last n : Nat) : Int) := by
  have h1 : 18446744073709551615 % n < n := Nat.mod_lt _ hn1
  have e1 : (18446744073709551615 % (n : Int) + 1) = ((18446744073709551615 % n + 1 : Nat) : Int) := by
    rw [Int.natCast_add, Int.natCast_emod]; rfl
  have h2 : (18446744073709551615 % n + 1) % n < n := Nat.mod_lt _ hn1
  rw [e1, wrap_u64_nat, Nat.mod_eq_of_lt (by omega), Int.tmod_eq_emod_of_nonneg (by omega), ← Int.natCast_emod]
  have e2 : (18446744073709551615 : Int) - (((18446744073709551615 % n + 1) % n : Nat) : Int) = ((18446744073709551615 - (18446744073709551615 % n + 1) % n : Nat) : Int) := by omega
  rw [e2, wrap_u64_nat, Nat.mod_eq_of_lt (by omega)]
  rfl
theorem rem_walk (u n : Nat) (hn1 : 1 ≤ n) (hn2 : n ≤ 9223372036854775807) : IntKind.i64.wrap ((u : Int) % (n : Int)) = ((u % n : Nat) : Int) := by
  have h1 : u % n < n := Nat.mod_lt _ hn1
  rw [← Int.natCast_emod, IntWalk.i64_in _ (by omega)]

def BelowRel (w : World) (b n s0 : Nat) (k : Nat) (wr : World) : Prop :=
  ∃ s, s < 18446744073709551616 ∧ Dice.Gap s k ∧ 1 ≤ k ∧ wr = w.setCell ⟨b, 0, none⟩ (.int .u64 (s : Int)) ∧ Dice.draw (Dice.last n) s = Dice.draw (Dice.last n) s0

set_option maxHeartbeats 400000 in
theorem dice_below (b s n : Nat) (w : World) (hs : s < 18446744073709551616) (hn1 : 1 ≤ n) (hn2 : n ≤ 9223372036854775807) (hd : Blk w b 125 #[.int .u64 (s : Int)]) :
    Calls Tryz.prog 46 #[.pointer (some ⟨b, 0, none⟩), .int .i64 (n : Int)] w fun e w' => e = .returned (.int .i64 (((Dice.below n s).1 : Nat) : Int)) ∧ w.setCell ⟨b, 0, none⟩ (.int .u64 (((Dice.below n s).2 : Nat) : Int)) = w' := by
  have e3 := last_walk n hn1 hn2
  obtain ⟨k0, hk1, hk2, hg0⟩ := Dice.gap_exists s hs
  clear hk2
  have hc1 : decide ((n : Int) < 1) = false := by simp; omega
  go_enter Tryz.func46, Tryz.ntmps46
  go_wp2_with fail
  go_loopg [7] k0 (fun k u wr => BelowRel w b n s k wr)
  case atStart => exact ⟨s, hs, hg0, hk1, (hd.setCell_self 0 _ rfl).symm, rfl⟩
  case round =>
    obtain ⟨r, hr, hg, hk, rfl, hd2⟩ := hrel
    have HD := Lib.hid hd2
    clear hd2 hs hg0 hk1 e3
    have hd3 := hd.set_ 0 (.int .u64 (r : Int))
    have es := setCell_setCell w b 0 (.int .u64 (r : Int)) (.int .u64 ((Dice.step r : Nat) : Int))
    have hx := Lib.hid (Dice.draw_step (Dice.last n) r hr)
    by_cases hle : Dice.next r ≤ Dice.last n
    · have e4 := rem_walk (Dice.next r) n hn1 hn2
      go_wp2_with fail
      refine (dice_next b r _ hr (hd3.cell 0) (hd3.frozen 0)).mono ?_
      rintro e w1 ⟨rfl, rfl⟩
      rw [es]
      go_wp2_with fail
      go_ret
      have hx2 := hx.out
      rw [if_pos hle, HD.out] at hx2
      refine ⟨ret_int ?_, ?_⟩
      · rw [Dice.below_fst, hx2]
        exact (Int.natCast_emod _ _).symm
      · rw [Dice.below_snd, hx2]
    · go_wp2_with fail
      refine (dice_next b r _ hr (hd3.cell 0) (hd3.frozen 0)).mono ?_
      rintro e w1 ⟨rfl, rfl⟩
      rw [es]
      go_wp2_with fail
      have hk2 : 2 ≤ gk := by
        rcases Nat.lt_or_ge gk 2 with h | h
        · obtain rfl : gk = 1 := by omega
          have := Dice.gap_zero r hg
          omega
        · exact h
      obtain ⟨g', rfl⟩ : ∃ g', gk = g' + 1 := ⟨gk - 1, by omega⟩
      go_roundg g'
      case rel =>
        have hx2 := hx.out
        rw [if_neg hle] at hx2
        exact ⟨Dice.step r, Dice.step_lt _, Dice.gap_step r g' hg, by omega, rfl, by rw [← hx2]; exact HD.out⟩
      case measure => omega
end Go.Proofs.YtjmbpnogicdkgaaGreatDoor

/-! The plain mathematics of Order and Draw. -/
namespace Go.Proofs.YtjmbpnogicdkgaaGreatDoor
namespace Dice
set_option linter.unusedSimpArgs false
set_option linter.unusedVariables false

def swapL (l : List Nat) (i j : Nat) : List Nat := (l.set i (l.getD j 0)).set j (l.getD i 0)
noncomputable def shuffle : Nat → List Nat → Nat → List Nat × Nat
  | 0, l, s => (l, s)
  | i + 1, l, s => shuffle i (swapL l (i + 1) (below (i + 2) s).1) (below (i + 2) s).2
theorem shuffle_zero (l : List Nat) (s : Nat) : shuffle 0 l s = (l, s) := by simp only [shuffle]
theorem shuffle_succ (i : Nat) (l : List Nat) (s : Nat) : shuffle (i + 1) l s = shuffle i (swapL l (i + 1) (below (i + 2) s).1) (below (i + 2) s).2 := by simp only [shuffle]
noncomputable def draws (n : Nat) : Nat → Nat → List Nat × Nat
  | 0, s => ([], s)
  | k + 1, s => ((draws n k s).1 ++ [(below n (draws n k s).2).1], (below n (draws n k s).2).2)
theorem draws_zero (n s : Nat) : draws n 0 s = ([], s) := by simp only [draws]
theorem draws_succ (n k s : Nat) : draws n (k + 1) s = ((draws n k s).1 ++ [(below n (draws n k s).2).1], (below n (draws n k s).2).2) := by simp only [draws]
theorem draws_len (n k s : Nat) : (draws n k s).1.length = k := by
  induction k with
  | zero => rw [draws_zero]; rfl
  | succ k ih => rw [draws_succ]; simp [ih]
theorem draws_lt (n k s : Nat) (hn : 0 < n) : ∀ x ∈ (draws n k s).1, x < n := by
  induction k with
  | zero => rw [draws_zero]; intro x hx; cases hx
  | succ k ih =>
    rw [draws_succ]
    intro x hx
    rcases List.mem_append.1 hx with h | h
    · exact ih x h
    · rw [List.mem_singleton] at h
      subst h
      exact below_lt n _ hn
theorem draws_state (n k s : Nat) (hs : s < 18446744073709551616) : (draws n k s).2 < 18446744073709551616 := by
  induction k with
  | zero => rw [draws_zero]; exact hs
  | succ k ih => rw [draws_succ]; exact below_state n _ ih

theorem swapL_len (l : List Nat) (i j : Nat) : (swapL l i j).length = l.length := by simp [swapL]
theorem swapL_get (l : List Nat) (i j k : Nat) (hi : i < l.length) (hj : j < l.length) :
    (swapL l i j)[k]? = l[if k = j then i else if k = i then j else k]? := by
  unfold swapL
  rw [List.getElem?_set]
  by_cases h1 : j = k
  · subst h1
    simp [hj, List.getD_eq_getElem?_getD, List.getElem?_eq_getElem hi]
  · rw [if_neg h1, List.getElem?_set]
    by_cases h2 : i = k
    · subst h2
      have : ¬ i = j := fun h => h1 h.symm
      simp [hi, this, List.getD_eq_getElem?_getD, List.getElem?_eq_getElem hj]
    · have a : ¬ k = j := fun h => h1 h.symm
      have b : ¬ k = i := fun h => h2 h.symm
      simp [h2, a, b]
/-- each number below n once -/
def Perm (n : Nat) (l : List Nat) : Prop := l.length = n ∧ (∀ x ∈ l, x < n) ∧ ∀ a b, a < n → b < n → l[a]? = l[b]? → a = b
theorem perm_range (n : Nat) : Perm n (List.range n) := by
  refine ⟨by simp, fun x hx => by simpa using hx, fun a b ha hb h => ?_⟩
  simp [ha, hb] at h
  exact h
theorem perm_swap (n i j : Nat) (l : List Nat) (h : Perm n l) (hi : i < n) (hj : j < n) : Perm n (swapL l i j) := by
  obtain ⟨h1, h2, h3⟩ := h
  refine ⟨by rw [swapL_len, h1], ?_, ?_⟩
  · intro x hx
    obtain ⟨k, hk⟩ := List.getElem?_of_mem hx
    rw [swapL_get l i j k (by omega) (by omega)] at hk
    exact h2 x (List.mem_of_getElem? hk)
  · intro a b ha hb hab
    rw [swapL_get l i j a (by omega) (by omega), swapL_get l i j b (by omega) (by omega)] at hab
    have := h3 _ _ (by split <;> (try split) <;> omega) (by split <;> (try split) <;> omega) hab
    split at this <;> split at this <;> (try split at this) <;> (try split at this) <;> omega
theorem shuffle_perm (n i : Nat) : ∀ (l : List Nat) (s : Nat), i < n → Perm n l → Perm n (shuffle i l s).1 := by
  induction i with
  | zero => intro l s _ h; rw [shuffle_zero]; exact h
  | succ i ih =>
    intro l s hi h
    rw [shuffle_succ]
    have := below_lt (i + 2) s (by omega)
    exact ih _ _ (by omega) (perm_swap n (i + 1) _ l h hi (by omega))
theorem shuffle_state (i : Nat) : ∀ (l : List Nat) (s : Nat), s < 18446744073709551616 → (shuffle i l s).2 < 18446744073709551616 := by
  induction i with
  | zero => intro l s h; rw [shuffle_zero]; exact h
  | succ i ih => intro l s h; rw [shuffle_succ]; exact ih _ _ (below_state _ _ h)
/-- Order(n) at the state s -/
noncomputable def order (n s : Nat) : List Nat × Nat := shuffle (n - 1) (List.range n) s
end Dice
end Go.Proofs.YtjmbpnogicdkgaaGreatDoor

/-! dice.Order and dice.Draw. -/
namespace Go.Proofs.YtjmbpnogicdkgaaGreatDoor
open Go.RowKit
set_option linter.unusedSimpArgs false
set_option linter.unusedVariables false

theorem Tryz.infoInt : (Tryz.prog.info? 3).map (fun i => (i.zero, i.size, i.bytes)) = some (some (iv 0), 1, 8) := by kernel_rfl

theorem fill_step (n k : Nat) (hk : k < n) : (List.range k ++ List.replicate (n - k) 0).set k k = List.range (k + 1) ++ List.replicate (n - (k + 1)) 0 := by
  apply List.ext_getElem
  · simp; omega
  · intro i h1 h2
    simp at h1 h2
    rw [List.getElem_set]
    by_cases h : k = i
    · subst h; simp
    · rw [if_neg h]
      by_cases h3 : i < k
      · rw [List.getElem_append_left (by simpa using h3), List.getElem_append_left (by simp; omega)]
        simp
      · rw [List.getElem_append_right (by simp; omega), List.getElem_append_right (by simp; omega)]
        simp

/-- a store into an old block on both sides -/
theorem below_set {B : Nat} {w w' : World} (h : Below B w w') {b : Nat} (hb : b < B) (v : Value) : Below B (w.setCell ⟨b, 0, none⟩ v) (w'.setCell ⟨b, 0, none⟩ v) := by
  refine ⟨h.os, h.tape, h.output, by simpa [World.setCell] using h.size, fun k hk => ?_⟩
  simp only [World.setCell, Array.getElem?_modify]
  rw [h.block k hk]

def FillRel (w : World) (n k : Nat) (wr : World) : Prop := Row wr w.heap.size 3 iv (List.range k ++ List.replicate (n - k) 0) ∧ Below w.heap.size w wr
def MixRel (w : World) (b n s0 i : Nat) (wr : World) : Prop :=
  ∃ l s, i < n ∧ s < 18446744073709551616 ∧ l.length = n ∧ Dice.shuffle i l s = Dice.shuffle (n - 1) (List.range n) s0 ∧ Row wr w.heap.size 3 iv l ∧ Blk wr b 125 #[.int .u64 (s : Int)] ∧
    Below w.heap.size (w.setCell ⟨b, 0, none⟩ (.int .u64 (s : Int))) wr

theorem mix_step {w x1 : World} {b n s0 i j t' vi vj : Nat} {l : List Nat} (hst : t' < 18446744073709551616) (hl : l.length = n) (hi : i + 1 < n) (hr1 : Row x1 w.heap.size 3 iv l)
    (hd1 : Blk x1 b 125 #[.int .u64 (t' : Int)]) (hb1 : Below w.heap.size (w.setCell ⟨b, 0, none⟩ (.int .u64 (t' : Int))) x1) (hbl : b < w.heap.size)
    (hsu : Dice.shuffle i (Dice.swapL l (i + 1) j) t' = Dice.shuffle (n - 1) (List.range n) s0) (hvi : l.getD (i + 1) 0 = vi) (hvj : l.getD j 0 = vj) :
    Value.int .i64 (i : Int) = .int .i64 (i : Int) ∧ MixRel w b n s0 i ((x1.setCell ⟨w.heap.size, i + 1, none⟩ (.int .i64 (vj : Int))).setCell ⟨w.heap.size, j, none⟩ (.int .i64 (vi : Int))).drew := by
  have e : Dice.swapL l (i + 1) j = (l.set (i + 1) vj).set j vi := by unfold Dice.swapL; rw [hvi, hvj]
  refine ⟨rfl, Dice.swapL l (i + 1) j, t', by omega, hst, by rw [Dice.swapL_len]; exact hl, hsu, ?_, ?_, ?_⟩
  · rw [e]
    exact ((hr1.set_ (i + 1) vj).set_ j vi).drew
  · exact ((hd1.far (by simp; omega) _).far (by simp; omega) _).drew
  · exact ((hb1.setCell (Nat.le_refl _) _).setCell (Nat.le_refl _) _).drew

set_option maxHeartbeats 1000000 in
theorem dice_order (b s n : Nat) (w : World) (hs : s < 18446744073709551616) (hn1 : 1 ≤ n) (hn2 : n ≤ 65536) (hd : Blk w b 125 #[.int .u64 (s : Int)]) :
    Calls Tryz.prog 49 #[.pointer (some ⟨b, 0, none⟩), .int .i64 (n : Int)] w fun e w' => e = .returned (.slice (some ⟨w.heap.size, 0, none⟩) n n) ∧
      Row w' w.heap.size 3 iv (Dice.order n s).1 ∧ Blk w' b 125 #[.int .u64 (((Dice.order n s).2 : Nat) : Int)] ∧ Below w.heap.size (w.setCell ⟨b, 0, none⟩ (.int .u64 (((Dice.order n s).2 : Nat) : Int))) w' := by
  have hmk := make_row (P := Tryz.prog) iv 0 43 3 8 Tryz.underlying43 Tryz.infoInt rfl .i64 .i64 n (by omega) (by omega)
  have hc1 : decide ((n : Int) < 1) = false := by simp; omega
  have hc2 : decide ((65536 : Int) < (n : Int)) = false := by simp; omega
  have hbl := hd.lt
  go_enter Tryz.func49, Tryz.ntmps49
  go_wp2
  go_loopw [6, 20] (fun x i wr => ∃ k : Nat, k ≤ n ∧ i = .int .i64 k ∧ FillRel w n k wr) (fun _ i _ => n - (intOf i).toNat)
  case atStart =>
    refine ⟨0, Nat.zero_le _, rfl, ?_, (Below.refl _ _).alloc (Nat.le_refl _) _⟩
    have := Row.rep w 3 iv 0 n
    simpa using this
  case round =>
    obtain ⟨k, hk, rfl, hrow, hbel⟩ := hrel
    by_cases hlt : k < n
    · have hlt2 : (k : Int) < (n : Int) := by omega
      have hcell := hrow.cell (k := k) (x := 0) (by rw [List.getElem?_append_right (by simp)]; rw [List.getElem?_replicate]; simp; omega)
      have hfr := hrow.frozen k
      unfold iv at hcell
      go_wp2
      exact ⟨⟨k + 1, by omega, by go_num, by have := hrow.set_ k k; rw [fill_step n k hlt] at this; exact this, hbel.setCell (Nat.le_refl _) _⟩, by simp [intOf]; omega⟩
    · obtain rfl : k = n := by omega
      have hrow1 : Row wr w.heap.size 3 iv (List.range k) := by simpa using hrow
      have hd1 := hd.below hbel hbl
      clear hrow
      go_wp2
      go_loopg [8, 9] (k - 1) (fun i x y wr => x = .int .i64 i ∧ MixRel w b k s i wr)
      case atStart =>
        refine ⟨by go_num, List.range k, s, by omega, hs, by simp, rfl, hrow1, hd1, ?_⟩
        rw [hd.setCell_self 0 (.int .u64 (s : Int)) rfl]
        exact hbel
      case round =>
        obtain ⟨rfl, l, t, hi, ht, hl, hsh, hrow, hdi, hbel2⟩ := hrel
        have HSH := Lib.hid hsh
        have HL := Lib.hid hl
        clear hsh hl
        by_cases hi1 : 1 ≤ gk
        · obtain ⟨i, rfl⟩ : ∃ i, gk = i + 1 := ⟨gk - 1, by omega⟩
          go_wp2_with fail
          rw [show ((i : Int) + 1 + 1) = ((i + 2 : Nat) : Int) from by omega]
          refine (dice_below b t (i + 2) wr ht (by omega) (by omega) hdi).mono ?_
          rintro e x1 ⟨rfl, rfl⟩
          have hlt := Dice.below_lt (i + 2) t (by omega)
          have hst := Dice.below_state (i + 2) t ht
          have hsu := HSH.out
          rw [Dice.shuffle_succ] at hsu
          have hr1 := hrow.far (p := ⟨b, 0, none⟩) (by simp; omega) (.int .u64 (((Dice.below (i + 2) t).2 : Nat) : Int))
          have hd1 := hdi.set_ 0 (.int .u64 (((Dice.below (i + 2) t).2 : Nat) : Int))
          have hb1 : Below w.heap.size (w.setCell ⟨b, 0, none⟩ (.int .u64 (((Dice.below (i + 2) t).2 : Nat) : Int))) (wr.setCell ⟨b, 0, none⟩ (.int .u64 (((Dice.below (i + 2) t).2 : Nat) : Int))) := by
            have := below_set hbel2 hbl (.int .u64 (((Dice.below (i + 2) t).2 : Nat) : Int))
            rw [setCell_setCell] at this
            exact this
          generalize wr.setCell ⟨b, 0, none⟩ (.int .u64 (((Dice.below (i + 2) t).2 : Nat) : Int)) = x1 at *
          generalize (Dice.below (i + 2) t).1 = j at *
          generalize (Dice.below (i + 2) t).2 = t' at *
          have HSU := Lib.hid hsu
          clear hsu hrow hdi hbel2 HSH ht
          have hl := HL.out
          have hci := hr1.cell (k := i + 1) (x := l.getD (i + 1) 0) (by rw [List.getD_eq_getElem?_getD, List.getElem?_eq_getElem (by omega)]; rfl)
          have hcj := hr1.cell (k := j) (x := l.getD j 0) (by rw [List.getD_eq_getElem?_getD, List.getElem?_eq_getElem (by omega)]; rfl)
          have hfi := hr1.frozen (i + 1)
          have hfj := hr1.frozen j
          clear hl
          unfold iv at hci hcj
          obtain ⟨vi, hvi⟩ : ∃ v, l.getD (i + 1) 0 = v := ⟨_, rfl⟩
          obtain ⟨vj, hvj⟩ : ∃ v, l.getD j 0 = v := ⟨_, rfl⟩
          rw [hvi] at hci
          rw [hvj] at hcj
          have HV := Lib.hid (And.intro hvi hvj)
          clear hvi hvj
          have g1 : ((i + 1 : Nat) : Int) < (k : Int) := by omega
          have g2 : (j : Int) < (k : Int) := by omega
          by_cases hij : j = i + 1
          · subst hij
            obtain rfl : vi = vj := HV.out.1.symm.trans HV.out.2
            go_wp2_with fail
            go_region
            go_wp2
            go_roundg i
            case rel => exact mix_step hst HL.out hi hr1 (by exact hd1) hb1 hbl HSU.out HV.out.1 HV.out.2
            case measure => omega
          · go_wp2_with fail
            go_region
            go_wp2
            go_roundg i
            case rel => exact mix_step hst HL.out hi hr1 (by exact hd1) hb1 hbl HSU.out HV.out.1 HV.out.2
            case measure => omega
        · go_wp2_with fail
          go_ret
          obtain rfl : gk = 0 := by omega
          have hsu := HSH.out
          rw [Dice.shuffle_zero] at hsu
          unfold Dice.order
          rw [← hsu]
          exact ⟨rfl, hrow, hdi, hbel2⟩

def DrawRel (w : World) (b n k0 s0 i : Nat) (wr : World) : Prop :=
  Row wr w.heap.size 3 iv ((Dice.draws n i s0).1 ++ List.replicate (k0 - i) 0) ∧ Blk wr b 125 #[.int .u64 (((Dice.draws n i s0).2 : Nat) : Int)] ∧
    Below w.heap.size (w.setCell ⟨b, 0, none⟩ (.int .u64 (((Dice.draws n i s0).2 : Nat) : Int))) wr
theorem draw_set (n k i s : Nat) (hi : i < k) : ((Dice.draws n i s).1 ++ List.replicate (k - i) 0).set i (Dice.below n (Dice.draws n i s).2).1 = (Dice.draws n (i + 1) s).1 ++ List.replicate (k - (i + 1)) 0 := by
  rw [Dice.draws_succ]
  have hl := Dice.draws_len n i s
  obtain ⟨m, rfl⟩ : ∃ m, k = i + 1 + m := ⟨k - (i + 1), by omega⟩
  rw [show i + 1 + m - i = m + 1 from by omega, show i + 1 + m - (i + 1) = m from by omega, List.replicate_succ, List.set_append_right _ _ (by omega), hl, Nat.sub_self, List.set_cons_zero, List.append_assoc]
  rfl
theorem draw_step {w x1 : World} {b n k0 s0 i : Nat} (hi : i < k0) (hbl : b < w.heap.size) (h : DrawRel w b n k0 s0 i x1) :
    DrawRel w b n k0 s0 (i + 1) ((x1.setCell ⟨b, 0, none⟩ (.int .u64 (((Dice.below n (Dice.draws n i s0).2).2 : Nat) : Int))).setCell ⟨w.heap.size, i, none⟩ (.int .i64 (((Dice.below n (Dice.draws n i s0).2).1 : Nat) : Int))) := by
  obtain ⟨h1, h2, h3⟩ := h
  have e : (Dice.draws n (i + 1) s0).2 = (Dice.below n (Dice.draws n i s0).2).2 := by rw [Dice.draws_succ]
  unfold DrawRel
  rw [e]
  refine ⟨?_, ?_, ?_⟩
  · rw [← draw_set n k0 i s0 hi]
    exact (h1.far (by simp; omega) _).set_ i (Dice.below n (Dice.draws n i s0).2).1
  · exact (h2.set_ 0 _).far (by simp; omega) _
  · have := below_set h3 hbl (.int .u64 (((Dice.below n (Dice.draws n i s0).2).2 : Nat) : Int))
    rw [setCell_setCell] at this
    exact this.setCell (Nat.le_refl _) _

set_option maxHeartbeats 1000000 in
theorem dice_draw (b s n k : Nat) (w : World) (hs : s < 18446744073709551616) (hn1 : 1 ≤ n) (hn2 : n ≤ 9223372036854775807) (hk1 : 1 ≤ k) (hk2 : k ≤ 65536) (hd : Blk w b 125 #[.int .u64 (s : Int)]) :
    Calls Tryz.prog 51 #[.pointer (some ⟨b, 0, none⟩), .int .i64 (n : Int), .int .i64 (k : Int)] w fun e w' => e = .returned (.slice (some ⟨w.heap.size, 0, none⟩) k k) ∧
      Row w' w.heap.size 3 iv (Dice.draws n k s).1 ∧ Blk w' b 125 #[.int .u64 (((Dice.draws n k s).2 : Nat) : Int)] ∧ Below w.heap.size (w.setCell ⟨b, 0, none⟩ (.int .u64 (((Dice.draws n k s).2 : Nat) : Int))) w' := by
  have hmk := make_row (P := Tryz.prog) iv 0 43 3 8 Tryz.underlying43 Tryz.infoInt rfl .i64 .i64 k (by omega) (by omega)
  have hc1 : decide ((n : Int) < 1) = false := by simp; omega
  have hc2 : decide ((k : Int) < 1) = false := by simp; omega
  have hc3 : decide ((65536 : Int) < (k : Int)) = false := by simp; omega
  have hbl := hd.lt
  go_enter Tryz.func51, Tryz.ntmps51
  go_wp2
  go_loopw [9, 26] (fun x i wr => ∃ j : Nat, j ≤ k ∧ i = .int .i64 j ∧ DrawRel w b n k s j wr) (fun _ i _ => k - (intOf i).toNat)
  case atStart =>
    have h1 := Row.rep w 3 iv 0 k
    refine ⟨0, Nat.zero_le _, rfl, ?_⟩
    unfold DrawRel
    rw [Dice.draws_zero]
    refine ⟨by simpa using h1, hd.alloc _, ?_⟩
    rw [hd.setCell_self 0 (.int .u64 (s : Int)) rfl]
    exact (Below.refl _ _).alloc (Nat.le_refl _) _
  case round =>
    obtain ⟨j, hj, rfl, hrow⟩ := hrel
    by_cases hlt : j < k
    · have hlt2 : (j : Int) < (k : Int) := by omega
      have hst := Dice.draws_state n j s hs
      have hnx := draw_step hlt hbl hrow
      have hcell := (hrow.1.far (p := ⟨b, 0, none⟩) (by simp; omega) (.int .u64 (((Dice.below n (Dice.draws n j s).2).2 : Nat) : Int))).cell (k := j) (x := 0)
        (by rw [List.getElem?_append_right (by rw [Dice.draws_len]; omega), Dice.draws_len, List.getElem?_replicate]; simp; omega)
      have hfr := (hrow.1.far (p := ⟨b, 0, none⟩) (by simp; omega) (.int .u64 (((Dice.below n (Dice.draws n j s).2).2 : Nat) : Int))).frozen j
      unfold iv at hcell
      go_wp2_with fail
      refine (dice_below b _ n wr hst (by omega) (by omega) hrow.2.1).mono ?_
      rintro e x1 ⟨rfl, rfl⟩
      go_wp2
      exact ⟨⟨j + 1, by omega, by go_num, hnx⟩, by simp [intOf]; omega⟩
    · obtain rfl : j = k := by omega
      go_wp2
      go_ret
      obtain ⟨h1, h2, h3⟩ := hrow
      exact ⟨rfl, by simpa using h1, h2, h3⟩
end Go.Proofs.YtjmbpnogicdkgaaGreatDoor

/-! dice.Draw of no number; the marks that the law on orders makes. -/
namespace Go.Proofs.YtjmbpnogicdkgaaGreatDoor
open Go.RowKit
set_option linter.unusedSimpArgs false
set_option linter.unusedVariables false

theorem dice_draw_none (b n : Nat) (w : World) (hn1 : 1 ≤ n) (hn2 : n ≤ 9223372036854775807) :
    Calls Tryz.prog 51 #[.pointer (some ⟨b, 0, none⟩), .int .i64 (n : Int), .int .i64 0] w fun e w' => e = .returned (.slice none 0 0) ∧ w = w' := by
  have hc1 : decide ((n : Int) < 1) = false := by simp; omega
  go_enter Tryz.func51, Tryz.ntmps51
  go_wp2
  go_ret
  exact ⟨rfl, rfl⟩

/-- Draw of k numbers, none too -/
theorem dice_draw_any (b s n k : Nat) (w : World) (hs : s < 18446744073709551616) (hn1 : 1 ≤ n) (hn2 : n ≤ 9223372036854775807) (hk2 : k ≤ 65536) (hd : Blk w b 125 #[.int .u64 (s : Int)]) :
    Calls Tryz.prog 51 #[.pointer (some ⟨b, 0, none⟩), .int .i64 (n : Int), .int .i64 (k : Int)] w fun e w' => ∃ A, e = .returned (.slice A k k) ∧ (∀ ad, A = some ad → w.heap.size ≤ ad.block) ∧
      Reads w' w'.heap.size 1 A k ((Dice.draws n k s).1.map iv) ∧ Blk w' b 125 #[.int .u64 (((Dice.draws n k s).2 : Nat) : Int)] ∧ Below w.heap.size (w.setCell ⟨b, 0, none⟩ (.int .u64 (((Dice.draws n k s).2 : Nat) : Int))) w' := by
  by_cases hk : k = 0
  · subst hk
    refine (dice_draw_none b n w hn1 hn2).mono ?_
    rintro e w' ⟨rfl, rfl⟩
    rw [Dice.draws_zero]
    refine ⟨none, rfl, (fun _ h => by cases h), Reads.none_, hd, ?_⟩
    rw [hd.setCell_self 0 (.int .u64 (s : Int)) rfl]
    exact Below.refl _ _
  · refine (dice_draw b s n k w hs hn1 hn2 (by omega) hk2 hd).mono ?_
    rintro e w' ⟨rfl, h1, h2, h3⟩
    have hr := h1.reads
    rw [Dice.draws_len] at hr
    exact ⟨_, rfl, (fun ad h => by cases h; exact Nat.le_refl _), hr.more h1.lt, h2, h3⟩

namespace Dice
/-- the marks after k rounds: 1 at each of the first k numbers of l -/
def marks (l : List Nat) (n k : Nat) : List Nat := (l.take k).foldl (fun m x => m.set x 1) (List.replicate n 0)
theorem marks_succ (l : List Nat) (n k v : Nat) (h : l[k]? = some v) : marks l n (k + 1) = (marks l n k).set v 1 := by
  unfold marks
  rw [List.take_add_one, h, List.foldl_append]
  rfl
theorem fold_other (t : List Nat) : ∀ (m : List Nat) (v : Nat), v ∉ t → (t.foldl (fun m x => m.set x 1) m)[v]? = m[v]? := by
  induction t with
  | nil => intro m v _; rfl
  | cons x t ih =>
    intro m v hv
    simp only [List.mem_cons, not_or] at hv
    rw [List.foldl_cons, ih _ v hv.2, List.getElem?_set_ne (fun h => hv.1 h.symm)]
theorem marks_at (l : List Nat) (n k v : Nat) (hp : Perm n l) (hk : k < n) (h : l[k]? = some v) : (marks l n k)[v]? = some 0 := by
  obtain ⟨h1, h2, h3⟩ := hp
  have hv : v < n := h2 v (List.mem_of_getElem? h)
  unfold marks
  rw [fold_other]
  · rw [List.getElem?_replicate]
    simp [hv]
  · intro hm
    obtain ⟨j, hj⟩ := List.getElem?_of_mem hm
    rw [List.getElem?_take] at hj
    split at hj
    · have := h3 j k (by omega) hk (by rw [hj, h])
      omega
    · cases hj
theorem order_perm (n s : Nat) (hn : 1 ≤ n) : Perm n (order n s).1 := shuffle_perm n (n - 1) _ s (by omega) (perm_range n)
theorem order_state (n s : Nat) (hs : s < 18446744073709551616) : (order n s).2 < 18446744073709551616 := shuffle_state _ _ _ hs
end Dice
end Go.Proofs.YtjmbpnogicdkgaaGreatDoor
