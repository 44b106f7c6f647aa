/-
  The table that the row lists (math/bits.deBruijn64tab) lies in memory.
-/
import Derived.Test.YtjmbpnogicdkgaaDoorRows
import Derived.Test.YtjmbpnogicdkgaaDoorGcdV
import Derived.Lib.LaidTab
import Derived.Deep.DeepHandedRow
namespace Go.Proofs.YtjmbpnogicdkgaaDoor
open Go.RowKit

theorem gTab : Tryd.prog.globalNamed "math/bits.deBruijn64tab" = some 3 := by kernel_rfl
theorem gTabType : (Tryd.prog.globals[3]?).map (·.type) = some 154 := by kernel_rfl
theorem cellsTab : Tryd.prog.cellsOf 154 = 64 := by kernel_rfl
theorem cellsByte : Tryd.prog.cellsOf 5 = 1 := by kernel_rfl
theorem tab_of {W : World} {rest : List (String × DataW Unit)} (h : laidMet Tryd.prog (("math/bits.deBruijn64tab", Rows.laid_math_bits_deBruijn64tab) :: rest) W) : Tab W := by
  have e : (Rows.laid_math_bits_deBruijn64tab : DataW Unit) = Lib.tabData .u8 (Lib.deBruijn64tab.map (fun n : Nat => (n : Int))) := by kernel_rfl
  rw [e] at h
  have h1 : Lib.TabIs Tryd.prog W "math/bits.deBruijn64tab" .u8 (Lib.deBruijn64tab.map (fun n : Nat => (n : Int))) :=
    Lib.tabIs_of_head (rest := rest) gTab gTabType Tryd.underlying154 Tryd.underlying5 cellsByte cellsTab h
  intro j hj
  have h2 := h1.cell gTab j (by simpa using hj)
  rw [h2]
  simp [List.getD_eq_getElem?_getD, hj]
end Go.Proofs.YtjmbpnogicdkgaaDoor
