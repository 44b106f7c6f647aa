import Derived.Test.YtecnjlcfoobepaaGreatDoorLinkFine
namespace Go.Proofs.YtecnjlcfoobepaaGreatDoor
open Go.RowKit
set_option linter.unusedSimpArgs false
set_option linter.unusedVariables false
theorem dOf_QS {f : List (List Rat)} {m : Nat} (h : ∀ l ∈ f, ∀ x ∈ l, QS m x) (hm : 1 <= m) (a b : Nat) : QS m (dOf f a b) := by
 unfold dOf
 rw [List.getD_eq_getElem?_getD (l := f)]
 cases hl : f[a]? with
 | none => exact QS.getD (fun x hx => by cases hx) hm b
 | some l => exact QS.getD (h l (List.mem_of_getElem? hl)) hm b
end Go.Proofs.YtecnjlcfoobepaaGreatDoor
