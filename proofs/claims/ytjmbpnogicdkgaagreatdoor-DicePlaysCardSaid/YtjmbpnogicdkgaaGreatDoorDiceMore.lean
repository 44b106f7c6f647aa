/-
  dice.Below, Order of numbers below 1; fractions in a literal slice; what Pick finds of the weights 0, 3, 0.
-/
import Derived.Test.YtjmbpnogicdkgaaGreatDoorOrder
import Derived.Test.YtjmbpnogicdkgaaGreatDoorPick
namespace Go.Proofs.YtjmbpnogicdkgaaGreatDoor
open Go.RowKit
set_option linter.unusedSimpArgs false
set_option linter.unusedVariables false

theorem dice_below_none (b : Nat) (z : Int) (w : World) (hz : z < 1) :
    Calls Tryz.prog 46 #[.pointer (some ⟨b, 0, none⟩), .int .i64 z] w fun e w' => e = .returned (.int .i64 0) ∧ w = w' := by
  go_enter Tryz.func46, Tryz.ntmps46
  go_wp2
  go_ret
  exact ⟨rfl, rfl⟩
theorem dice_order_none (b : Nat) (z : Int) (w : World) (hz : z < 1) :
    Calls Tryz.prog 49 #[.pointer (some ⟨b, 0, none⟩), .int .i64 z] w fun e w' => e = .returned (.slice none 0 0) ∧ w = w' := by
  go_enter Tryz.func49, Tryz.ntmps49
  go_wp2
  go_ret
  exact ⟨rfl, rfl⟩
theorem readsQL {w : World} {g : Nat} {t : TypeId} (l : List Rat) (h : Blk w g t (l.flatMap qC).toArray) : ReadsQ w (g + 1) (some ⟨g, 0, none⟩) l.length l := by
  refine ⟨rfl, by rw [flatW_len qC_len], fun _ => ⟨_, rfl, by simp, fun j u hu => ?_⟩⟩
  rw [add_zero_off, h.cell]
  simpa using hu
theorem known_pick {u i : Nat} {ok : Bool} (h : PickRes [((0 : Int) : Rat), ((3 : Int) : Rat), ((0 : Int) : Rat)] u i ok) (hu : u < 18446744073709551616) : ok = true ∧ i = 1 := by
  have s1 : sumQ [((0 : Int) : Rat), ((3 : Int) : Rat), ((0 : Int) : Rat)] = ((3 : Int) : Rat) := by decide +kernel
  have t0 : sumQ ([((0 : Int) : Rat), ((3 : Int) : Rat), ((0 : Int) : Rat)].take (0 + 1)) = ((0 : Int) : Rat) := by decide +kernel
  have t1 : sumQ ([((0 : Int) : Rat), ((3 : Int) : Rat), ((0 : Int) : Rat)].take (1 + 1)) = ((3 : Int) : Rat) := by decide +kernel
  have h0 : ¬ ((u : Int) : Rat) * sumQ [((0 : Int) : Rat), ((3 : Int) : Rat), ((0 : Int) : Rat)] < sumQ ([((0 : Int) : Rat), ((3 : Int) : Rat), ((0 : Int) : Rat)].take (0 + 1)) * ((18446744073709551616 : Int) : Rat) := by
    rw [s1, t0, ← Rat.intCast_mul, ← Rat.intCast_mul, Rat.intCast_lt_intCast]
    omega
  have h1 : ((u : Int) : Rat) * sumQ [((0 : Int) : Rat), ((3 : Int) : Rat), ((0 : Int) : Rat)] < sumQ ([((0 : Int) : Rat), ((3 : Int) : Rat), ((0 : Int) : Rat)].take (1 + 1)) * ((18446744073709551616 : Int) : Rat) := by
    rw [s1, t1, ← Rat.intCast_mul, ← Rat.intCast_mul, Rat.intCast_lt_intCast]
    omega
  rcases h with ⟨g1, g2, g3, g4⟩ | ⟨g1, g2, g3⟩
  · refine ⟨g1, ?_⟩
    rcases Nat.lt_trichotomy i 1 with h | h | h
    · obtain rfl : i = 0 := by omega
      exact absurd g3 h0
    · exact h
    · exact absurd h1 (g4 1 h)
  · exact absurd h1 (g3 1 (by decide))
end Go.Proofs.YtjmbpnogicdkgaaGreatDoor
