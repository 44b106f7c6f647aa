/-
  dice.Below: the first output that is at most the last whole multiple, modulo n.
-/
import Derived.Test.YtjmbpnogicdkgaaDoorDiceW
import Derived.Deep.LoopGhost
namespace Go.Proofs.YtjmbpnogicdkgaaDoor
open Go.RowKit
set_option linter.unusedSimpArgs false
set_option linter.unusedVariables false

theorem setCell_setCell (w : World) (b o : Nat) (v v' : Value) : (w.setCell ⟨b, o, none⟩ v).setCell ⟨b, o, none⟩ v' = w.setCell ⟨b, o, none⟩ v' := by
  unfold World.setCell
  congr 1
  apply Array.ext
  · simp
  · intro i h1 h2
    simp only [Array.getElem_modify]
    split
    · cases w.heap[i]'(by simpa using h2) <;> simp
    · rfl
theorem Blk.setCell_self {w : World} {g : Nat} {t : TypeId} {cs : Array Value} (h : Blk w g t cs) (o : Nat) (v : Value) (hv : cs[o]? = some v) : w.setCell ⟨g, o, none⟩ v = w := by
  unfold Blk at h
  have : w.heap.modify g (fun | .cells c elem frozen => .cells (if (none : Option Nat).isSome then c else c.setIfInBounds o v) elem frozen | o => o) = w.heap := by
    apply Array.ext
    · simp
    · intro i h1 h2
      simp only [Array.getElem_modify]
      split
      · rename_i he
        subst he
        have h' : w.heap[g] = .cells cs t (0, 0) := by
          rw [Array.getElem?_eq_getElem h2] at h
          exact Option.some.inj h
        rw [h']
        simp
        apply Array.ext
        · simp
        · intro j h3 h4
          rw [Array.getElem_setIfInBounds]
          split
          · rename_i hj
            subst hj
            rw [Array.getElem?_eq_getElem h4] at hv
            exact (Option.some.inj hv).symm
          · rfl
      · rfl
  have e : w.setCell ⟨g, o, none⟩ v = { w with heap := w.heap.modify g (fun | .cells c elem frozen => .cells (if (none : Option Nat).isSome then c else c.setIfInBounds o v) elem frozen | o => o) } := rfl
  rw [e, this]

theorem last_walk (n : Nat) (hn1 : 1 ≤ n) (hn2 : n ≤ 9223372036854775807) :
    IntKind.u64.wrap (18446744073709551615 - (IntKind.u64.wrap (18446744073709551615 % (n : Int) + 1)).tmod (n : Int)) = ((Dice.last n : Nat) : Int) := by
  have h1 : 18446744073709551615 % n < n := Nat.mod_lt _ hn1
  have e1 : (18446744073709551615 % (n : Int) + 1) = ((18446744073709551615 % n + 1 : Nat) : Int) := by
    rw [Int.natCast_add, Int.natCast_emod]; rfl
  have h2 : (18446744073709551615 % n + 1) % n < n := Nat.mod_lt _ hn1
  rw [e1, wrap_u64_nat, Nat.mod_eq_of_lt (by omega), Int.tmod_eq_emod_of_nonneg (by omega), ← Int.natCast_emod]
  have e2 : (18446744073709551615 : Int) - (((18446744073709551615 % n + 1) % n : Nat) : Int) = ((18446744073709551615 - (18446744073709551615 % n + 1) % n : Nat) : Int) := by omega
  rw [e2, wrap_u64_nat, Nat.mod_eq_of_lt (by omega)]
  rfl
theorem rem_walk (u n : Nat) (hn1 : 1 ≤ n) (hn2 : n ≤ 9223372036854775807) : IntKind.i64.wrap ((u : Int) % (n : Int)) = ((u % n : Nat) : Int) := by
  have h1 : u % n < n := Nat.mod_lt _ hn1
  rw [← Int.natCast_emod, IntWalk.i64_in _ (by omega)]

def BelowRel (w : World) (b n s0 : Nat) (k : Nat) (wr : World) : Prop :=
  ∃ s, s < 18446744073709551616 ∧ Dice.Gap s k ∧ 1 ≤ k ∧ wr = w.setCell ⟨b, 0, none⟩ (.int .u64 (s : Int)) ∧ Dice.draw (Dice.last n) s = Dice.draw (Dice.last n) s0

set_option maxHeartbeats 400000 in
theorem dice_below (b s n : Nat) (w : World) (hs : s < 18446744073709551616) (hn1 : 1 ≤ n) (hn2 : n ≤ 9223372036854775807) (hd : Blk w b 82 #[.int .u64 (s : Int)]) :
    Calls Tryd.prog 20 #[.pointer (some ⟨b, 0, none⟩), .int .i64 (n : Int)] w fun e w' => e = .returned (.int .i64 (((Dice.below n s).1 : Nat) : Int)) ∧ w.setCell ⟨b, 0, none⟩ (.int .u64 (((Dice.below n s).2 : Nat) : Int)) = w' := by
  have e3 := last_walk n hn1 hn2
  obtain ⟨k0, hk1, hk2, hg0⟩ := Dice.gap_exists s hs
  clear hk2
  have hc1 : decide ((n : Int) < 1) = false := by simp; omega
  go_enter Tryd.func20, Tryd.ntmps20
  go_wp2_with fail
  go_loopg [7] k0 (fun k u wr => BelowRel w b n s k wr)
  case atStart => exact ⟨s, hs, hg0, hk1, (hd.setCell_self 0 _ rfl).symm, rfl⟩
  case round =>
    obtain ⟨r, hr, hg, hk, rfl, hd2⟩ := hrel
    have HD := Lib.hid hd2
    clear hd2 hs hg0 hk1 e3
    have hd3 := hd.set_ 0 (.int .u64 (r : Int))
    have es := setCell_setCell w b 0 (.int .u64 (r : Int)) (.int .u64 ((Dice.step r : Nat) : Int))
    have hx := Lib.hid (Dice.draw_step (Dice.last n) r hr)
    by_cases hle : Dice.next r ≤ Dice.last n
    · have e4 := rem_walk (Dice.next r) n hn1 hn2
      go_wp2_with fail
      refine (dice_next b r _ hr (hd3.cell 0) (hd3.frozen 0)).mono ?_
      rintro e w1 ⟨rfl, rfl⟩
      rw [es]
      go_wp2_with fail
      go_ret
      have hx2 := hx.out
      rw [if_pos hle, HD.out] at hx2
      refine ⟨ret_int ?_, ?_⟩
      · rw [Dice.below_fst, hx2]
        exact (Int.natCast_emod _ _).symm
      · rw [Dice.below_snd, hx2]
    · go_wp2_with fail
      refine (dice_next b r _ hr (hd3.cell 0) (hd3.frozen 0)).mono ?_
      rintro e w1 ⟨rfl, rfl⟩
      rw [es]
      go_wp2_with fail
      have hk2 : 2 ≤ gk := by
        rcases Nat.lt_or_ge gk 2 with h | h
        · obtain rfl : gk = 1 := by omega
          have := Dice.gap_zero r hg
          omega
        · exact h
      obtain ⟨g', rfl⟩ : ∃ g', gk = g' + 1 := ⟨gk - 1, by omega⟩
      go_roundg g'
      case rel =>
        have hx2 := hx.out
        rw [if_neg hle] at hx2
        exact ⟨Dice.step r, Dice.step_lt _, Dice.gap_step r g' hg, by omega, rfl, by rw [← hx2]; exact HD.out⟩
      case measure => omega
end Go.Proofs.YtjmbpnogicdkgaaDoor
