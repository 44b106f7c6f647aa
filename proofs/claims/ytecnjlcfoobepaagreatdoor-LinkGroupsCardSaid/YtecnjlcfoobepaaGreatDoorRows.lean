/-
  NARROWER THAN 'FOR EVERY INPUT', by the rows' own cells (each row's printed sentence says how): LinkFars: laid · LinkBuilds: laid · LinkRises: laid · LinkThree: laid · LinkSingle: laid · LinkUnits: laid · LinkKnown: laid · LinkInto: laid · LinkComplete: laid · LinkGroups: laid.
  DERIVED. THE GIVEN ROWS OF THIS SEAT. 10 by the template 'for every input the law returns true; each argument reads behind the call as it read before'; 0 by the template 'total and deterministic' (their statements: YtecnjlcfoobepaaGreatDoorTotals.lean).
  GIVEN WITH THE SEED: the statements are not yours to turn. If you find one false, say at which input.
  Laid BY PROGRAM, IN A SANDBOX (cutbox-rows.mjs): the forced cells as the released guide's own fill.sh prints them over the translation 9760995d7305aa12… (all of the seat's roots in one cut). By AI agents, Wed Nov 11 2026. No macro, syntax, notation, axiom, sorry.
-/
import Derived.Test.YtecnjlcfoobepaaGreatDoorChecked
import GoSem.Claim
import GoSem.ClaimJoined
import GoSem.ClaimMapViews
import Derived.JoinedTies
import Derived.KernelRfl
namespace Go.Proofs.YtecnjlcfoobepaaGreatDoor
/- THE CELL 'sum', in the pinned program and in every row, IS THE sha256 OF THE DUMP (.gsa) THAT YtecnjlcfoobepaaGreatDoorProg.lean LOADS. Nothing in Lean hashes anything: it is a label: what it is worth is what the hold of that sum in a sandbox is worth. -/
noncomputable def Tryz.pinned : Pinned := { name := "ytecnjlcfoobepaagreatdoor", sum := "9760995d7305aa12ab3544ff69207392c699c2de814aaa8c16a269d555aed2e0", checked := Tryz.checked }
namespace Rows
def none {H : Type} : Left H := { results := [], args := [] }

/- WHAT THE LISTED PACKAGE-LEVEL VARIABLES READ AS WHEN THE CALL BEGINS. Each datum BY PROGRAM (the guide's laid-datum.mjs) off the statement by which the dump's own 'gosem.cut.vars' lays the variable. In a bare row this is a premise. The card (YtecnjlcfoobepaaGreatDoorCards.lean) ties it to the program's text. -/
def laid_math_bits_deBruijn64tab {H : Type} : DataW H := .agg [.lit (.int .u8 0), .lit (.int .u8 1), .lit (.int .u8 56), .lit (.int .u8 2), .lit (.int .u8 57), .lit (.int .u8 49), .lit (.int .u8 28), .lit (.int .u8 3), .lit (.int .u8 61), .lit (.int .u8 58), .lit (.int .u8 42), .lit (.int .u8 50), .lit (.int .u8 38), .lit (.int .u8 29), .lit (.int .u8 17), .lit (.int .u8 4), .lit (.int .u8 62), .lit (.int .u8 47), .lit (.int .u8 59), .lit (.int .u8 36), .lit (.int .u8 45), .lit (.int .u8 43), .lit (.int .u8 51), .lit (.int .u8 22), .lit (.int .u8 53), .lit (.int .u8 39), .lit (.int .u8 33), .lit (.int .u8 30), .lit (.int .u8 24), .lit (.int .u8 18), .lit (.int .u8 12), .lit (.int .u8 5), .lit (.int .u8 63), .lit (.int .u8 55), .lit (.int .u8 48), .lit (.int .u8 27), .lit (.int .u8 60), .lit (.int .u8 41), .lit (.int .u8 37), .lit (.int .u8 16), .lit (.int .u8 46), .lit (.int .u8 35), .lit (.int .u8 44), .lit (.int .u8 21), .lit (.int .u8 52), .lit (.int .u8 32), .lit (.int .u8 23), .lit (.int .u8 11), .lit (.int .u8 54), .lit (.int .u8 26), .lit (.int .u8 40), .lit (.int .u8 15), .lit (.int .u8 34), .lit (.int .u8 20), .lit (.int .u8 31), .lit (.int .u8 10), .lit (.int .u8 25), .lit (.int .u8 14), .lit (.int .u8 19), .lit (.int .u8 9), .lit (.int .u8 13), .lit (.int .u8 8), .lit (.int .u8 7), .lit (.int .u8 6)]

/-- 'abaculuslaw24.LinkFars': WHATEVER THE INPUT: true; the input reads as it did. -/
def linkFarsSpec : ChangeSpec := { name := "linkFars", fn := fun _ => fun
  | [d1, d2, d3, d4, d5, d6, d7] => { results := [.lit (.bool true)], args := [d1, d2, d3, d4, d5, d6, d7] }
  | _ => none }
def linkFarsRow : OpenClaim := { program := "ytecnjlcfoobepaagreatdoor", sum := "9760995d7305aa12ab3544ff69207392c699c2de814aaa8c16a269d555aed2e0", func := "abaculus/abaculuslaw24.LinkFars", spec := "linkFars", inPlace := ["internal/abi.NoEscape", "internal/bytealg.MakeNoZero", "math/bits.Add64", "math/bits.Sub64"], named := ["math/bits.divideError", "math/bits.overflowError", "math/bits.deBruijn64tab"], apart := false, laid := [("math/bits.deBruijn64tab", laid_math_bits_deBruijn64tab)] }
def LinkFarsSaid : Prop := linkFarsRow.holds Tryz.pinned (OpenSpec.ofChange linkFarsSpec)

/-- ITS FALSE NEIGHBOUR: 'it returns false'. Refute it at one input. -/
def linkFarsWrong : ChangeSpec := { name := "linkFars", fn := fun _ => fun
  | [d1, d2, d3, d4, d5, d6, d7] => { results := [.lit (.bool false)], args := [d1, d2, d3, d4, d5, d6, d7] }
  | _ => none }
def LinkFarsWrongFalsely : Prop := linkFarsRow.holds Tryz.pinned (OpenSpec.ofChange linkFarsWrong)

/-- 'abaculuslaw24.LinkBuilds': WHATEVER THE INPUT: true; the input reads as it did. -/
def linkBuildsSpec : ChangeSpec := { name := "linkBuilds", fn := fun _ => fun
  | [d1, d2, d3, d4, d5, d6, d7, d8] => { results := [.lit (.bool true)], args := [d1, d2, d3, d4, d5, d6, d7, d8] }
  | _ => none }
def linkBuildsRow : OpenClaim := { program := "ytecnjlcfoobepaagreatdoor", sum := "9760995d7305aa12ab3544ff69207392c699c2de814aaa8c16a269d555aed2e0", func := "abaculus/abaculuslaw24.LinkBuilds", spec := "linkBuilds", inPlace := ["internal/abi.NoEscape", "internal/bytealg.MakeNoZero", "math/bits.Add64", "math/bits.Sub64"], named := ["math/bits.divideError", "math/bits.overflowError", "math/bits.deBruijn64tab"], apart := false, laid := [("math/bits.deBruijn64tab", laid_math_bits_deBruijn64tab)] }
def LinkBuildsSaid : Prop := linkBuildsRow.holds Tryz.pinned (OpenSpec.ofChange linkBuildsSpec)

/-- ITS FALSE NEIGHBOUR: 'it returns false'. Refute it at one input. -/
def linkBuildsWrong : ChangeSpec := { name := "linkBuilds", fn := fun _ => fun
  | [d1, d2, d3, d4, d5, d6, d7, d8] => { results := [.lit (.bool false)], args := [d1, d2, d3, d4, d5, d6, d7, d8] }
  | _ => none }
def LinkBuildsWrongFalsely : Prop := linkBuildsRow.holds Tryz.pinned (OpenSpec.ofChange linkBuildsWrong)

/-- 'abaculuslaw24.LinkRises': WHATEVER THE INPUT: true; the input reads as it did. -/
def linkRisesSpec : ChangeSpec := { name := "linkRises", fn := fun _ => fun
  | [d1, d2, d3, d4] => { results := [.lit (.bool true)], args := [d1, d2, d3, d4] }
  | _ => none }
def linkRisesRow : OpenClaim := { program := "ytecnjlcfoobepaagreatdoor", sum := "9760995d7305aa12ab3544ff69207392c699c2de814aaa8c16a269d555aed2e0", func := "abaculus/abaculuslaw24.LinkRises", spec := "linkRises", inPlace := ["internal/abi.NoEscape", "internal/bytealg.MakeNoZero", "math/bits.Add64", "math/bits.Sub64"], named := ["math/bits.divideError", "math/bits.overflowError", "math/bits.deBruijn64tab"], apart := false, laid := [("math/bits.deBruijn64tab", laid_math_bits_deBruijn64tab)] }
def LinkRisesSaid : Prop := linkRisesRow.holds Tryz.pinned (OpenSpec.ofChange linkRisesSpec)

/-- ITS FALSE NEIGHBOUR: 'it returns false'. Refute it at one input. -/
def linkRisesWrong : ChangeSpec := { name := "linkRises", fn := fun _ => fun
  | [d1, d2, d3, d4] => { results := [.lit (.bool false)], args := [d1, d2, d3, d4] }
  | _ => none }
def LinkRisesWrongFalsely : Prop := linkRisesRow.holds Tryz.pinned (OpenSpec.ofChange linkRisesWrong)

/-- 'abaculuslaw24.LinkThree': WHATEVER THE INPUT: true; the input reads as it did. -/
def linkThreeSpec : ChangeSpec := { name := "linkThree", fn := fun _ => fun
  | [d1, d2, d3, d4, d5, d6, d7] => { results := [.lit (.bool true)], args := [d1, d2, d3, d4, d5, d6, d7] }
  | _ => none }
def linkThreeRow : OpenClaim := { program := "ytecnjlcfoobepaagreatdoor", sum := "9760995d7305aa12ab3544ff69207392c699c2de814aaa8c16a269d555aed2e0", func := "abaculus/abaculuslaw24.LinkThree", spec := "linkThree", inPlace := ["internal/abi.NoEscape", "internal/bytealg.MakeNoZero", "math/bits.Add64", "math/bits.Sub64"], named := ["math/bits.divideError", "math/bits.overflowError", "math/bits.deBruijn64tab"], apart := false, laid := [("math/bits.deBruijn64tab", laid_math_bits_deBruijn64tab)] }
def LinkThreeSaid : Prop := linkThreeRow.holds Tryz.pinned (OpenSpec.ofChange linkThreeSpec)

/-- ITS FALSE NEIGHBOUR: 'it returns false'. Refute it at one input. -/
def linkThreeWrong : ChangeSpec := { name := "linkThree", fn := fun _ => fun
  | [d1, d2, d3, d4, d5, d6, d7] => { results := [.lit (.bool false)], args := [d1, d2, d3, d4, d5, d6, d7] }
  | _ => none }
def LinkThreeWrongFalsely : Prop := linkThreeRow.holds Tryz.pinned (OpenSpec.ofChange linkThreeWrong)

/-- 'abaculuslaw24.LinkSingle': WHATEVER THE INPUT: true; the input reads as it did. -/
def linkSingleSpec : ChangeSpec := { name := "linkSingle", fn := fun _ => fun
  | [d1, d2, d3, d4, d5] => { results := [.lit (.bool true)], args := [d1, d2, d3, d4, d5] }
  | _ => none }
def linkSingleRow : OpenClaim := { program := "ytecnjlcfoobepaagreatdoor", sum := "9760995d7305aa12ab3544ff69207392c699c2de814aaa8c16a269d555aed2e0", func := "abaculus/abaculuslaw24.LinkSingle", spec := "linkSingle", inPlace := ["internal/abi.NoEscape", "internal/bytealg.MakeNoZero", "math/bits.Add64", "math/bits.Sub64"], named := ["math/bits.divideError", "math/bits.overflowError", "math/bits.deBruijn64tab"], apart := false, laid := [("math/bits.deBruijn64tab", laid_math_bits_deBruijn64tab)] }
def LinkSingleSaid : Prop := linkSingleRow.holds Tryz.pinned (OpenSpec.ofChange linkSingleSpec)

/-- ITS FALSE NEIGHBOUR: 'it returns false'. Refute it at one input. -/
def linkSingleWrong : ChangeSpec := { name := "linkSingle", fn := fun _ => fun
  | [d1, d2, d3, d4, d5] => { results := [.lit (.bool false)], args := [d1, d2, d3, d4, d5] }
  | _ => none }
def LinkSingleWrongFalsely : Prop := linkSingleRow.holds Tryz.pinned (OpenSpec.ofChange linkSingleWrong)

/-- 'abaculuslaw24.LinkUnits': WHATEVER THE INPUT: true; the input reads as it did. -/
def linkUnitsSpec : ChangeSpec := { name := "linkUnits", fn := fun _ => fun
  | [d1, d2, d3, d4, d5, d6, d7, d8] => { results := [.lit (.bool true)], args := [d1, d2, d3, d4, d5, d6, d7, d8] }
  | _ => none }
def linkUnitsRow : OpenClaim := { program := "ytecnjlcfoobepaagreatdoor", sum := "9760995d7305aa12ab3544ff69207392c699c2de814aaa8c16a269d555aed2e0", func := "abaculus/abaculuslaw24.LinkUnits", spec := "linkUnits", inPlace := ["internal/abi.NoEscape", "internal/bytealg.MakeNoZero", "math/bits.Add64", "math/bits.Sub64"], named := ["math/bits.divideError", "math/bits.overflowError", "math/bits.deBruijn64tab"], apart := false, laid := [("math/bits.deBruijn64tab", laid_math_bits_deBruijn64tab)] }
def LinkUnitsSaid : Prop := linkUnitsRow.holds Tryz.pinned (OpenSpec.ofChange linkUnitsSpec)

/-- ITS FALSE NEIGHBOUR: 'it returns false'. Refute it at one input. -/
def linkUnitsWrong : ChangeSpec := { name := "linkUnits", fn := fun _ => fun
  | [d1, d2, d3, d4, d5, d6, d7, d8] => { results := [.lit (.bool false)], args := [d1, d2, d3, d4, d5, d6, d7, d8] }
  | _ => none }
def LinkUnitsWrongFalsely : Prop := linkUnitsRow.holds Tryz.pinned (OpenSpec.ofChange linkUnitsWrong)

/-- 'abaculuslaw24.LinkKnown': WHATEVER THE INPUT: true; the input reads as it did. -/
def linkKnownSpec : ChangeSpec := { name := "linkKnown", fn := fun _ => fun
  | [] => { results := [.lit (.bool true)], args := [] }
  | _ => none }
def linkKnownRow : OpenClaim := { program := "ytecnjlcfoobepaagreatdoor", sum := "9760995d7305aa12ab3544ff69207392c699c2de814aaa8c16a269d555aed2e0", func := "abaculus/abaculuslaw24.LinkKnown", spec := "linkKnown", inPlace := ["math/bits.Add64", "internal/abi.NoEscape", "internal/bytealg.MakeNoZero", "math/bits.Sub64"], named := ["math/bits.divideError", "math/bits.overflowError", "math/bits.deBruijn64tab"], apart := false, laid := [("math/bits.deBruijn64tab", laid_math_bits_deBruijn64tab)] }
def LinkKnownSaid : Prop := linkKnownRow.holds Tryz.pinned (OpenSpec.ofChange linkKnownSpec)

/-- ITS FALSE NEIGHBOUR: 'it returns false'. Refute it at one input. -/
def linkKnownWrong : ChangeSpec := { name := "linkKnown", fn := fun _ => fun
  | [] => { results := [.lit (.bool false)], args := [] }
  | _ => none }
def LinkKnownWrongFalsely : Prop := linkKnownRow.holds Tryz.pinned (OpenSpec.ofChange linkKnownWrong)

/-- 'abaculuslaw24.LinkInto': WHATEVER THE INPUT: true; the input reads as it did. -/
def linkIntoSpec : ChangeSpec := { name := "linkInto", fn := fun _ => fun
  | [d1, d2, d3, d4, d5] => { results := [.lit (.bool true)], args := [d1, d2, d3, d4, d5] }
  | _ => none }
def linkIntoRow : OpenClaim := { program := "ytecnjlcfoobepaagreatdoor", sum := "9760995d7305aa12ab3544ff69207392c699c2de814aaa8c16a269d555aed2e0", func := "abaculus/abaculuslaw24.LinkInto", spec := "linkInto", inPlace := ["internal/abi.NoEscape", "internal/bytealg.MakeNoZero", "math/bits.Add64", "math/bits.Sub64"], named := ["math/bits.divideError", "math/bits.overflowError", "math/bits.deBruijn64tab"], apart := false, laid := [("math/bits.deBruijn64tab", laid_math_bits_deBruijn64tab)] }
def LinkIntoSaid : Prop := linkIntoRow.holds Tryz.pinned (OpenSpec.ofChange linkIntoSpec)

/-- ITS FALSE NEIGHBOUR: 'it returns false'. Refute it at one input. -/
def linkIntoWrong : ChangeSpec := { name := "linkInto", fn := fun _ => fun
  | [d1, d2, d3, d4, d5] => { results := [.lit (.bool false)], args := [d1, d2, d3, d4, d5] }
  | _ => none }
def LinkIntoWrongFalsely : Prop := linkIntoRow.holds Tryz.pinned (OpenSpec.ofChange linkIntoWrong)

/-- 'abaculuslaw24.LinkComplete': WHATEVER THE INPUT: true; the input reads as it did. -/
def linkCompleteSpec : ChangeSpec := { name := "linkComplete", fn := fun _ => fun
  | [d1, d2, d3, d4] => { results := [.lit (.bool true)], args := [d1, d2, d3, d4] }
  | _ => none }
def linkCompleteRow : OpenClaim := { program := "ytecnjlcfoobepaagreatdoor", sum := "9760995d7305aa12ab3544ff69207392c699c2de814aaa8c16a269d555aed2e0", func := "abaculus/abaculuslaw24.LinkComplete", spec := "linkComplete", inPlace := ["internal/abi.NoEscape", "internal/bytealg.MakeNoZero", "math/bits.Add64", "math/bits.Sub64"], named := ["math/bits.divideError", "math/bits.overflowError", "math/bits.deBruijn64tab"], apart := false, laid := [("math/bits.deBruijn64tab", laid_math_bits_deBruijn64tab)] }
def LinkCompleteSaid : Prop := linkCompleteRow.holds Tryz.pinned (OpenSpec.ofChange linkCompleteSpec)

/-- ITS FALSE NEIGHBOUR: 'it returns false'. Refute it at one input. -/
def linkCompleteWrong : ChangeSpec := { name := "linkComplete", fn := fun _ => fun
  | [d1, d2, d3, d4] => { results := [.lit (.bool false)], args := [d1, d2, d3, d4] }
  | _ => none }
def LinkCompleteWrongFalsely : Prop := linkCompleteRow.holds Tryz.pinned (OpenSpec.ofChange linkCompleteWrong)

/-- 'abaculuslaw24.LinkGroups': WHATEVER THE INPUT: true; the input reads as it did. -/
def linkGroupsSpec : ChangeSpec := { name := "linkGroups", fn := fun _ => fun
  | [d1, d2, d3, d4, d5, d6, d7, d8, d9, d10, d11] => { results := [.lit (.bool true)], args := [d1, d2, d3, d4, d5, d6, d7, d8, d9, d10, d11] }
  | _ => none }
def linkGroupsRow : OpenClaim := { program := "ytecnjlcfoobepaagreatdoor", sum := "9760995d7305aa12ab3544ff69207392c699c2de814aaa8c16a269d555aed2e0", func := "abaculus/abaculuslaw24.LinkGroups", spec := "linkGroups", inPlace := ["internal/abi.NoEscape", "internal/bytealg.MakeNoZero", "math/bits.Add64", "math/bits.Sub64"], named := ["math/bits.divideError", "math/bits.overflowError", "math/bits.deBruijn64tab"], apart := false, laid := [("math/bits.deBruijn64tab", laid_math_bits_deBruijn64tab)] }
def LinkGroupsSaid : Prop := linkGroupsRow.holds Tryz.pinned (OpenSpec.ofChange linkGroupsSpec)

/-- ITS FALSE NEIGHBOUR: 'it returns false'. Refute it at one input. -/
def linkGroupsWrong : ChangeSpec := { name := "linkGroups", fn := fun _ => fun
  | [d1, d2, d3, d4, d5, d6, d7, d8, d9, d10, d11] => { results := [.lit (.bool false)], args := [d1, d2, d3, d4, d5, d6, d7, d8, d9, d10, d11] }
  | _ => none }
def LinkGroupsWrongFalsely : Prop := linkGroupsRow.holds Tryz.pinned (OpenSpec.ofChange linkGroupsWrong)

/- THE SECOND FORM. 'bulk': how many values and letters a reading holds, each counted each time it is reached (what is shared counts as often as it is met; a slice's spare places count too). A statement '..UptoSaid' is the law's where the arguments, and the package variables that the reading takes, are together of bulk at most 1048576: NARROWER than '..Said'. Prove '..Said' where nothing that the law and all that it calls make is longer than what came in: it says more and counts as full. Else prove '..UptoSaid'. A law counts once. -/
mutual
def uptoBulk {H : Type} : DataW H → Nat
  | .lit (.string bytes) => bytes.length + 1
  | .lit _ => 1
  | .nil => 1
  | .ptr d => uptoBulk d + 1
  | .slice elems spare => uptoBulkAll elems + uptoBulkAll spare + 1
  | .agg parts => uptoBulkAll parts + 1
  | .iface _ d => uptoBulk d + 1
  | .map entries => uptoBulkEntries entries + 1
  | .held _ => 1
def uptoBulkAll {H : Type} : List (DataW H) → Nat
  | [] => 0
  | d :: r => uptoBulk d + uptoBulkAll r
def uptoBulkEntries {H : Type} : List (Lit × DataW H) → Nat
  | [] => 0
  | x :: r => uptoBulkEntry x + uptoBulkEntries r
def uptoBulkEntry {H : Type} : Lit × DataW H → Nat
  | (.string bytes, d) => bytes.length + uptoBulk d + 1
  | (_, d) => uptoBulk d + 1
 end
def uptoSmall : (H : Type) → List (DataW H) → Bool := fun _ ds => decide (uptoBulkAll ds ≤ 1048576)
def OpenSpec.upto (s : _root_.Go.ChangeSpec) : _root_.Go.OpenSpec := { _root_.Go.OpenSpec.ofChange s with cond := some uptoSmall }

/-- 'abaculuslaw24.LinkFars', WHERE WHAT IT READS IS OF BULK AT MOST 1048576: true; the input reads as it did. -/
def linkFarsUptoRow : OpenClaim := { program := "ytecnjlcfoobepaagreatdoor", sum := "9760995d7305aa12ab3544ff69207392c699c2de814aaa8c16a269d555aed2e0", func := "abaculus/abaculuslaw24.LinkFars", spec := "linkFars", inPlace := ["internal/abi.NoEscape", "internal/bytealg.MakeNoZero", "math/bits.Add64", "math/bits.Sub64"], named := ["math/bits.divideError", "math/bits.overflowError", "math/bits.deBruijn64tab"], apart := false, laid := [("math/bits.deBruijn64tab", laid_math_bits_deBruijn64tab)], narrowed := true }
def LinkFarsUptoSaid : Prop := linkFarsUptoRow.holds Tryz.pinned (OpenSpec.upto linkFarsSpec)

/-- 'abaculuslaw24.LinkBuilds', WHERE WHAT IT READS IS OF BULK AT MOST 1048576: true; the input reads as it did. -/
def linkBuildsUptoRow : OpenClaim := { program := "ytecnjlcfoobepaagreatdoor", sum := "9760995d7305aa12ab3544ff69207392c699c2de814aaa8c16a269d555aed2e0", func := "abaculus/abaculuslaw24.LinkBuilds", spec := "linkBuilds", inPlace := ["internal/abi.NoEscape", "internal/bytealg.MakeNoZero", "math/bits.Add64", "math/bits.Sub64"], named := ["math/bits.divideError", "math/bits.overflowError", "math/bits.deBruijn64tab"], apart := false, laid := [("math/bits.deBruijn64tab", laid_math_bits_deBruijn64tab)], narrowed := true }
def LinkBuildsUptoSaid : Prop := linkBuildsUptoRow.holds Tryz.pinned (OpenSpec.upto linkBuildsSpec)

/-- 'abaculuslaw24.LinkRises', WHERE WHAT IT READS IS OF BULK AT MOST 1048576: true; the input reads as it did. -/
def linkRisesUptoRow : OpenClaim := { program := "ytecnjlcfoobepaagreatdoor", sum := "9760995d7305aa12ab3544ff69207392c699c2de814aaa8c16a269d555aed2e0", func := "abaculus/abaculuslaw24.LinkRises", spec := "linkRises", inPlace := ["internal/abi.NoEscape", "internal/bytealg.MakeNoZero", "math/bits.Add64", "math/bits.Sub64"], named := ["math/bits.divideError", "math/bits.overflowError", "math/bits.deBruijn64tab"], apart := false, laid := [("math/bits.deBruijn64tab", laid_math_bits_deBruijn64tab)], narrowed := true }
def LinkRisesUptoSaid : Prop := linkRisesUptoRow.holds Tryz.pinned (OpenSpec.upto linkRisesSpec)

/-- 'abaculuslaw24.LinkThree', WHERE WHAT IT READS IS OF BULK AT MOST 1048576: true; the input reads as it did. -/
def linkThreeUptoRow : OpenClaim := { program := "ytecnjlcfoobepaagreatdoor", sum := "9760995d7305aa12ab3544ff69207392c699c2de814aaa8c16a269d555aed2e0", func := "abaculus/abaculuslaw24.LinkThree", spec := "linkThree", inPlace := ["internal/abi.NoEscape", "internal/bytealg.MakeNoZero", "math/bits.Add64", "math/bits.Sub64"], named := ["math/bits.divideError", "math/bits.overflowError", "math/bits.deBruijn64tab"], apart := false, laid := [("math/bits.deBruijn64tab", laid_math_bits_deBruijn64tab)], narrowed := true }
def LinkThreeUptoSaid : Prop := linkThreeUptoRow.holds Tryz.pinned (OpenSpec.upto linkThreeSpec)

/-- 'abaculuslaw24.LinkSingle', WHERE WHAT IT READS IS OF BULK AT MOST 1048576: true; the input reads as it did. -/
def linkSingleUptoRow : OpenClaim := { program := "ytecnjlcfoobepaagreatdoor", sum := "9760995d7305aa12ab3544ff69207392c699c2de814aaa8c16a269d555aed2e0", func := "abaculus/abaculuslaw24.LinkSingle", spec := "linkSingle", inPlace := ["internal/abi.NoEscape", "internal/bytealg.MakeNoZero", "math/bits.Add64", "math/bits.Sub64"], named := ["math/bits.divideError", "math/bits.overflowError", "math/bits.deBruijn64tab"], apart := false, laid := [("math/bits.deBruijn64tab", laid_math_bits_deBruijn64tab)], narrowed := true }
def LinkSingleUptoSaid : Prop := linkSingleUptoRow.holds Tryz.pinned (OpenSpec.upto linkSingleSpec)

/-- 'abaculuslaw24.LinkUnits', WHERE WHAT IT READS IS OF BULK AT MOST 1048576: true; the input reads as it did. -/
def linkUnitsUptoRow : OpenClaim := { program := "ytecnjlcfoobepaagreatdoor", sum := "9760995d7305aa12ab3544ff69207392c699c2de814aaa8c16a269d555aed2e0", func := "abaculus/abaculuslaw24.LinkUnits", spec := "linkUnits", inPlace := ["internal/abi.NoEscape", "internal/bytealg.MakeNoZero", "math/bits.Add64", "math/bits.Sub64"], named := ["math/bits.divideError", "math/bits.overflowError", "math/bits.deBruijn64tab"], apart := false, laid := [("math/bits.deBruijn64tab", laid_math_bits_deBruijn64tab)], narrowed := true }
def LinkUnitsUptoSaid : Prop := linkUnitsUptoRow.holds Tryz.pinned (OpenSpec.upto linkUnitsSpec)

/-- 'abaculuslaw24.LinkKnown', WHERE WHAT IT READS IS OF BULK AT MOST 1048576: true; the input reads as it did. -/
def linkKnownUptoRow : OpenClaim := { program := "ytecnjlcfoobepaagreatdoor", sum := "9760995d7305aa12ab3544ff69207392c699c2de814aaa8c16a269d555aed2e0", func := "abaculus/abaculuslaw24.LinkKnown", spec := "linkKnown", inPlace := ["math/bits.Add64", "internal/abi.NoEscape", "internal/bytealg.MakeNoZero", "math/bits.Sub64"], named := ["math/bits.divideError", "math/bits.overflowError", "math/bits.deBruijn64tab"], apart := false, laid := [("math/bits.deBruijn64tab", laid_math_bits_deBruijn64tab)], narrowed := true }
def LinkKnownUptoSaid : Prop := linkKnownUptoRow.holds Tryz.pinned (OpenSpec.upto linkKnownSpec)

/-- 'abaculuslaw24.LinkInto', WHERE WHAT IT READS IS OF BULK AT MOST 1048576: true; the input reads as it did. -/
def linkIntoUptoRow : OpenClaim := { program := "ytecnjlcfoobepaagreatdoor", sum := "9760995d7305aa12ab3544ff69207392c699c2de814aaa8c16a269d555aed2e0", func := "abaculus/abaculuslaw24.LinkInto", spec := "linkInto", inPlace := ["internal/abi.NoEscape", "internal/bytealg.MakeNoZero", "math/bits.Add64", "math/bits.Sub64"], named := ["math/bits.divideError", "math/bits.overflowError", "math/bits.deBruijn64tab"], apart := false, laid := [("math/bits.deBruijn64tab", laid_math_bits_deBruijn64tab)], narrowed := true }
def LinkIntoUptoSaid : Prop := linkIntoUptoRow.holds Tryz.pinned (OpenSpec.upto linkIntoSpec)

/-- 'abaculuslaw24.LinkComplete', WHERE WHAT IT READS IS OF BULK AT MOST 1048576: true; the input reads as it did. -/
def linkCompleteUptoRow : OpenClaim := { program := "ytecnjlcfoobepaagreatdoor", sum := "9760995d7305aa12ab3544ff69207392c699c2de814aaa8c16a269d555aed2e0", func := "abaculus/abaculuslaw24.LinkComplete", spec := "linkComplete", inPlace := ["internal/abi.NoEscape", "internal/bytealg.MakeNoZero", "math/bits.Add64", "math/bits.Sub64"], named := ["math/bits.divideError", "math/bits.overflowError", "math/bits.deBruijn64tab"], apart := false, laid := [("math/bits.deBruijn64tab", laid_math_bits_deBruijn64tab)], narrowed := true }
def LinkCompleteUptoSaid : Prop := linkCompleteUptoRow.holds Tryz.pinned (OpenSpec.upto linkCompleteSpec)

/-- 'abaculuslaw24.LinkGroups', WHERE WHAT IT READS IS OF BULK AT MOST 1048576: true; the input reads as it did. -/
def linkGroupsUptoRow : OpenClaim := { program := "ytecnjlcfoobepaagreatdoor", sum := "9760995d7305aa12ab3544ff69207392c699c2de814aaa8c16a269d555aed2e0", func := "abaculus/abaculuslaw24.LinkGroups", spec := "linkGroups", inPlace := ["internal/abi.NoEscape", "internal/bytealg.MakeNoZero", "math/bits.Add64", "math/bits.Sub64"], named := ["math/bits.divideError", "math/bits.overflowError", "math/bits.deBruijn64tab"], apart := false, laid := [("math/bits.deBruijn64tab", laid_math_bits_deBruijn64tab)], narrowed := true }
def LinkGroupsUptoSaid : Prop := linkGroupsUptoRow.holds Tryz.pinned (OpenSpec.upto linkGroupsSpec)

end Rows
end Go.Proofs.YtecnjlcfoobepaaGreatDoor
