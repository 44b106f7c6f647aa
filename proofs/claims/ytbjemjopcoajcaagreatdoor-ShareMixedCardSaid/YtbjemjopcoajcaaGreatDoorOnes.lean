/-
  math/bits.OnesCount of a set of at most ten columns.
-/
import Derived.Test.YtbjemjopcoajcaaGreatDoorProg
import Derived.Test.YtbjemjopcoajcaaGreatDoorMem
import Derived.Test.YtbjemjopcoajcaaGreatDoorMathA
import Derived.Test.YtbjemjopcoajcaaGreatDoorShareMath
namespace Go.Proofs.YtbjemjopcoajcaaGreatDoor
open Go.RowKit
set_option linter.unusedSimpArgs false
set_option linter.unusedVariables false

theorem ones64 (x : Nat) (w : World) (hx : x < 1024) : Calls Tryz.prog 75 #[.int .u64 (x : Int)] w fun e w' => e = .returned (.int .i64 (ones x : Int)) ∧ w = w' := by
  go_enter Tryz.func75, Tryz.ntmps75
  go_wp2
  go_ret
  refine ⟨ret_int ?_, rfl⟩
  clear w
  revert hx
  revert x
  decide +kernel
theorem bits_ones (x : Nat) (w : World) (hx : x < 1024) : Calls Tryz.prog 38 #[.int .u64 (x : Int)] w fun e w' => e = .returned (.int .i64 (ones x : Int)) ∧ w = w' := by
  go_enter Tryz.func38, Tryz.ntmps38
  go_wp2_with fail
  refine (ones64 x w hx).mono ?_
  rintro e w' ⟨rfl, rfl⟩
  go_wp2
  go_ret
  exact ⟨rfl, rfl⟩
end Go.Proofs.YtbjemjopcoajcaaGreatDoor
