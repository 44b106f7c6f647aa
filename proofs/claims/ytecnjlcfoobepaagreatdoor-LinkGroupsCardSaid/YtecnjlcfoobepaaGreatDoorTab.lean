/-
  The table that the row lists (math/bits.deBruijn64tab) lies in memory.
-/
import Derived.Test.YtecnjlcfoobepaaGreatDoorRows
import Derived.Test.YtecnjlcfoobepaaGreatDoorGcdV
import Derived.Lib.LaidTab
import Derived.Deep.DeepHandedRow
namespace Go.Proofs.YtecnjlcfoobepaaGreatDoor
open Go.RowKit

theorem Jtf : Tryz.prog.globalNamed "math/bits.deBruijn64tab" = some 2 := by kernel_rfl
theorem Jp0 : (Tryz.prog.globals[2]?).map (·.type) = some 212 := by kernel_rfl
theorem Jqg : Tryz.prog.cellsOf 212 = 64 := by kernel_rfl
theorem cellsByte : Tryz.prog.cellsOf 5 = 1 := by kernel_rfl
theorem Jse {W : World} {rest : List (String × DataW Unit)} (h : laidMet Tryz.prog (("math/bits.deBruijn64tab", Rows.laid_math_bits_deBruijn64tab) :: rest) W) : Tab W := by
  have e : (Rows.laid_math_bits_deBruijn64tab : DataW Unit) = Lib.tabData .u8 (Lib.deBruijn64tab.map (fun n : Nat => (n : Int))) := by kernel_rfl
  rw [e] at h
  have h1 : Lib.TabIs Tryz.prog W "math/bits.deBruijn64tab" .u8 (Lib.deBruijn64tab.map (fun n : Nat => (n : Int))) :=
    Lib.tabIs_of_head (rest := rest) Jtf Jp0 Tryz.underlying212 Tryz.underlying5 cellsByte Jqg h
  intro j hj
  have h2 := h1.cell Jtf j (by simpa using hj)
  rw [h2]
  simp [List.getD_eq_getElem?_getD, hj]
end Go.Proofs.YtecnjlcfoobepaaGreatDoor
