/-
  The walks of package dice: New, Next, State, and the check of chapter 5's example.
-/
import Derived.Test.YtjmbpnogicdkgaaProg
import Derived.Test.YtjmbpnogicdkgaaDiceMath
namespace Go.Proofs.Ytjmbpnogicdkgaa
open Go.RowKit
set_option linter.unusedSimpArgs false
set_option linter.unusedVariables false

theorem dice_new (s : Nat) (w : World) :
    Calls Try.prog 8 #[.int .u64 (s : Int)] w fun e w' => e = .returned (.pointer (some ⟨w.heap.size, 0, none⟩)) ∧ w.alloc (.cells #[.int .u64 (s : Int)] 58) = w' := by
  go_enter Try.func8, Try.ntmps8
  go_wp2
  go_ret
  exact ⟨rfl, rfl⟩

theorem dice_state (b s : Nat) (w : World) (hc : w.cell? ⟨b, 0, none⟩ = some (.int .u64 (s : Int))) :
    Calls Try.prog 12 #[.pointer (some ⟨b, 0, none⟩)] w fun e w' => e = .returned (.int .u64 (s : Int)) ∧ w = w' := by
  go_enter Try.func12, Try.ntmps12
  go_wp2
  go_ret
  exact ⟨rfl, rfl⟩

theorem dice_next (b s : Nat) (w : World) (hs : s < 18446744073709551616) (hc : w.cell? ⟨b, 0, none⟩ = some (.int .u64 (s : Int))) (hf : w.frozen? ⟨b, 0, none⟩ = false) :
    Calls Try.prog 11 #[.pointer (some ⟨b, 0, none⟩)] w fun e w' => e = .returned (.int .u64 ((Dice.next s : Nat) : Int)) ∧ w.setCell ⟨b, 0, none⟩ (.int .u64 ((Dice.step s : Nat) : Int)) = w' := by
  have e1 := Dice.step_walk s
  have e2 := Dice.mixA_walk (Dice.step s) (Dice.step_lt s)
  have e3 := Dice.mixB_walk (Dice.mixA (Dice.step s)) (Dice.mixA_lt _)
  have e4 := Dice.mixC_walk (Dice.mixB (Dice.mixA (Dice.step s))) (Dice.mixB_lt _)
  go_enter Try.func11, Try.ntmps11
  go_wp2
  go_ret

  exact ⟨rfl, rfl⟩
end Go.Proofs.Ytjmbpnogicdkgaa
