/-
  The table that the row lists (math/bits.deBruijn64tab) lies in memory.
-/
import Derived.Test.YtcoloflmigcphaaGreatDoorRows
import Derived.Test.YtcoloflmigcphaaGreatDoorGcdV
import Derived.Lib.LaidTab
import Derived.Deep.DeepHandedRow
namespace Go.Proofs.YtcoloflmigcphaaGreatDoor
open Go.RowKit

theorem Jof : Tryz.prog.globalNamed "math/bits.deBruijn64tab" = some 2 := by kernel_rfl
theorem Jlk : (Tryz.prog.globals[2]?).map (·.type) = some 197 := by kernel_rfl
theorem Jls : Tryz.prog.cellsOf 197 = 64 := by kernel_rfl
theorem cellsByte : Tryz.prog.cellsOf 5 = 1 := by kernel_rfl
theorem Jna {W : World} {rest : List (String × DataW Unit)} (h : laidMet Tryz.prog (("math/bits.deBruijn64tab", Rows.laid_math_bits_deBruijn64tab) :: rest) W) : Tab W := by
  have e : (Rows.laid_math_bits_deBruijn64tab : DataW Unit) = Lib.tabData .u8 (Lib.deBruijn64tab.map (fun n : Nat => (n : Int))) := by kernel_rfl
  rw [e] at h
  have h1 : Lib.TabIs Tryz.prog W "math/bits.deBruijn64tab" .u8 (Lib.deBruijn64tab.map (fun n : Nat => (n : Int))) :=
    Lib.tabIs_of_head (rest := rest) Jof Jlk Tryz.underlying197 Tryz.underlying5 cellsByte Jls h
  intro j hj
  have h2 := h1.cell Jof j (by simpa using hj)
  rw [h2]
  simp [List.getD_eq_getElem?_getD, hj]
end Go.Proofs.YtcoloflmigcphaaGreatDoor
