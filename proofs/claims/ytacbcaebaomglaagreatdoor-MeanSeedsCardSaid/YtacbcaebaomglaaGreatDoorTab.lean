/-
  The table that the row lists (math/bits.deBruijn64tab) lies in memory.
-/
import Derived.Test.YtacbcaebaomglaaGreatDoorRows
import Derived.Test.YtacbcaebaomglaaGreatDoorGcdV
import Derived.Lib.LaidTab
import Derived.Deep.DeepHandedRow
namespace Go.Proofs.YtacbcaebaomglaaGreatDoor
open Go.RowKit

theorem Jo6 : Tryz.prog.globalNamed "math/bits.deBruijn64tab" = some 2 := by kernel_rfl
theorem Jmh : (Tryz.prog.globals[2]?).map (·.type) = some 228 := by kernel_rfl
theorem Jmr : Tryz.prog.cellsOf 228 = 64 := by kernel_rfl
theorem cellsByte : Tryz.prog.cellsOf 5 = 1 := by kernel_rfl
theorem Jga {W : World} {rest : List (String × DataW Unit)} (h : laidMet Tryz.prog (("math/bits.deBruijn64tab", Rows.laid_math_bits_deBruijn64tab) :: rest) W) : Tab W := by
  have e : (Rows.laid_math_bits_deBruijn64tab : DataW Unit) = Lib.tabData .u8 (Lib.deBruijn64tab.map (fun n : Nat => (n : Int))) := by kernel_rfl
  rw [e] at h
  have h1 : Lib.TabIs Tryz.prog W "math/bits.deBruijn64tab" .u8 (Lib.deBruijn64tab.map (fun n : Nat => (n : Int))) :=
    Lib.tabIs_of_head (rest := rest) Jo6 Jmh Tryz.underlying228 Tryz.underlying5 cellsByte Jmr h
  intro j hj
  have h2 := h1.cell Jo6 j (by simpa using hj)
  rw [h2]
  simp [List.getD_eq_getElem?_getD, hj]
end Go.Proofs.YtacbcaebaomglaaGreatDoor
