/-
  NARROWER THAN 'FOR EVERY INPUT', by the rows' own cells (each row's printed sentence says how): MeanFits: laid · MeanUnits: laid · MeanSteps: laid · MeanStays: laid · MeanNearest: laid · MeanGroups: laid · MeanOrder: laid · MeanKnown: laid · MeanFalls: laid · MeanSeeds: laid.
  DERIVED. THE GIVEN ROWS OF THIS SEAT. 10 by the template 'for every input the law returns true; each argument reads behind the call as it read before'; 0 by the template 'total and deterministic' (their statements: YtacbcaebaomglaaGreatDoorTotals.lean).
  GIVEN WITH THE SEED: the statements are not yours to turn. If you find one false, say at which input.
  Laid BY PROGRAM, IN A SANDBOX (cutbox-rows.mjs): the forced cells as the released guide's own fill.sh prints them over the translation 7a0b7c13d06a2578… (all of the seat's roots in one cut). By AI agents, Wed Nov 11 2026. No macro, syntax, notation, axiom, sorry.
-/
import Derived.Test.YtacbcaebaomglaaGreatDoorChecked
import GoSem.Claim
import GoSem.ClaimJoined
import GoSem.ClaimMapViews
import Derived.JoinedTies
import Derived.KernelRfl
namespace Go.Proofs.YtacbcaebaomglaaGreatDoor
/- THE CELL 'sum', in the pinned program and in every row, IS THE sha256 OF THE DUMP (.gsa) THAT YtacbcaebaomglaaGreatDoorProg.lean LOADS. Nothing in Lean hashes anything: it is a label: what it is worth is what the hold of that sum in a sandbox is worth. -/
noncomputable def Tryz.pinned : Pinned := { name := "ytacbcaebaomglaagreatdoor", sum := "7a0b7c13d06a25780d1632e4554b22807f1ec412d94b1e5d944d8c90bf069a8f", checked := Tryz.checked }
namespace Rows
def none {H : Type} : Left H := { results := [], args := [] }

/- WHAT THE LISTED PACKAGE-LEVEL VARIABLES READ AS WHEN THE CALL BEGINS. Each datum BY PROGRAM (the guide's laid-datum.mjs) off the statement by which the dump's own 'gosem.cut.vars' lays the variable. In a bare row this is a premise. The card (YtacbcaebaomglaaGreatDoorCards.lean) ties it to the program's text. -/
def laid_math_bits_deBruijn64tab {H : Type} : DataW H := .agg [.lit (.int .u8 0), .lit (.int .u8 1), .lit (.int .u8 56), .lit (.int .u8 2), .lit (.int .u8 57), .lit (.int .u8 49), .lit (.int .u8 28), .lit (.int .u8 3), .lit (.int .u8 61), .lit (.int .u8 58), .lit (.int .u8 42), .lit (.int .u8 50), .lit (.int .u8 38), .lit (.int .u8 29), .lit (.int .u8 17), .lit (.int .u8 4), .lit (.int .u8 62), .lit (.int .u8 47), .lit (.int .u8 59), .lit (.int .u8 36), .lit (.int .u8 45), .lit (.int .u8 43), .lit (.int .u8 51), .lit (.int .u8 22), .lit (.int .u8 53), .lit (.int .u8 39), .lit (.int .u8 33), .lit (.int .u8 30), .lit (.int .u8 24), .lit (.int .u8 18), .lit (.int .u8 12), .lit (.int .u8 5), .lit (.int .u8 63), .lit (.int .u8 55), .lit (.int .u8 48), .lit (.int .u8 27), .lit (.int .u8 60), .lit (.int .u8 41), .lit (.int .u8 37), .lit (.int .u8 16), .lit (.int .u8 46), .lit (.int .u8 35), .lit (.int .u8 44), .lit (.int .u8 21), .lit (.int .u8 52), .lit (.int .u8 32), .lit (.int .u8 23), .lit (.int .u8 11), .lit (.int .u8 54), .lit (.int .u8 26), .lit (.int .u8 40), .lit (.int .u8 15), .lit (.int .u8 34), .lit (.int .u8 20), .lit (.int .u8 31), .lit (.int .u8 10), .lit (.int .u8 25), .lit (.int .u8 14), .lit (.int .u8 19), .lit (.int .u8 9), .lit (.int .u8 13), .lit (.int .u8 8), .lit (.int .u8 7), .lit (.int .u8 6)]

/-- 'abaculuslaw22.MeanFits': WHATEVER THE INPUT: true; the input reads as it did. -/
def meanFitsSpec : ChangeSpec := { name := "meanFits", fn := fun _ => fun
  | [d1, d2, d3, d4, d5, d6, d7] => { results := [.lit (.bool true)], args := [d1, d2, d3, d4, d5, d6, d7] }
  | _ => none }
def meanFitsRow : OpenClaim := { program := "ytacbcaebaomglaagreatdoor", sum := "7a0b7c13d06a25780d1632e4554b22807f1ec412d94b1e5d944d8c90bf069a8f", func := "abaculus/abaculuslaw22.MeanFits", spec := "meanFits", inPlace := ["internal/abi.NoEscape", "internal/bytealg.MakeNoZero", "math/bits.Add64", "math/bits.Sub64"], unfollowed := true, recurses := true, named := ["math/bits.divideError", "math/bits.overflowError", "math/bits.deBruijn64tab"], apart := false, laid := [("math/bits.deBruijn64tab", laid_math_bits_deBruijn64tab)] }
def MeanFitsSaid : Prop := meanFitsRow.holds Tryz.pinned (OpenSpec.ofChange meanFitsSpec)

/-- ITS FALSE NEIGHBOUR: 'it returns false'. Refute it at one input. -/
def meanFitsWrong : ChangeSpec := { name := "meanFits", fn := fun _ => fun
  | [d1, d2, d3, d4, d5, d6, d7] => { results := [.lit (.bool false)], args := [d1, d2, d3, d4, d5, d6, d7] }
  | _ => none }
def MeanFitsWrongFalsely : Prop := meanFitsRow.holds Tryz.pinned (OpenSpec.ofChange meanFitsWrong)

/-- 'abaculuslaw22.MeanUnits': WHATEVER THE INPUT: true; the input reads as it did. -/
def meanUnitsSpec : ChangeSpec := { name := "meanUnits", fn := fun _ => fun
  | [d1, d2, d3, d4, d5, d6] => { results := [.lit (.bool true)], args := [d1, d2, d3, d4, d5, d6] }
  | _ => none }
def meanUnitsRow : OpenClaim := { program := "ytacbcaebaomglaagreatdoor", sum := "7a0b7c13d06a25780d1632e4554b22807f1ec412d94b1e5d944d8c90bf069a8f", func := "abaculus/abaculuslaw22.MeanUnits", spec := "meanUnits", inPlace := ["internal/abi.NoEscape", "internal/bytealg.MakeNoZero", "math/bits.Add64", "math/bits.Sub64"], unfollowed := true, recurses := true, named := ["math/bits.divideError", "math/bits.overflowError", "math/bits.deBruijn64tab"], apart := false, laid := [("math/bits.deBruijn64tab", laid_math_bits_deBruijn64tab)] }
def MeanUnitsSaid : Prop := meanUnitsRow.holds Tryz.pinned (OpenSpec.ofChange meanUnitsSpec)

/-- ITS FALSE NEIGHBOUR: 'it returns false'. Refute it at one input. -/
def meanUnitsWrong : ChangeSpec := { name := "meanUnits", fn := fun _ => fun
  | [d1, d2, d3, d4, d5, d6] => { results := [.lit (.bool false)], args := [d1, d2, d3, d4, d5, d6] }
  | _ => none }
def MeanUnitsWrongFalsely : Prop := meanUnitsRow.holds Tryz.pinned (OpenSpec.ofChange meanUnitsWrong)

/-- 'abaculuslaw22.MeanSteps': WHATEVER THE INPUT: true; the input reads as it did. -/
def meanStepsSpec : ChangeSpec := { name := "meanSteps", fn := fun _ => fun
  | [d1, d2, d3, d4, d5, d6] => { results := [.lit (.bool true)], args := [d1, d2, d3, d4, d5, d6] }
  | _ => none }
def meanStepsRow : OpenClaim := { program := "ytacbcaebaomglaagreatdoor", sum := "7a0b7c13d06a25780d1632e4554b22807f1ec412d94b1e5d944d8c90bf069a8f", func := "abaculus/abaculuslaw22.MeanSteps", spec := "meanSteps", inPlace := ["internal/abi.NoEscape", "internal/bytealg.MakeNoZero", "math/bits.Add64", "math/bits.Sub64"], unfollowed := true, recurses := true, named := ["math/bits.divideError", "math/bits.overflowError", "math/bits.deBruijn64tab"], apart := false, laid := [("math/bits.deBruijn64tab", laid_math_bits_deBruijn64tab)] }
def MeanStepsSaid : Prop := meanStepsRow.holds Tryz.pinned (OpenSpec.ofChange meanStepsSpec)

/-- ITS FALSE NEIGHBOUR: 'it returns false'. Refute it at one input. -/
def meanStepsWrong : ChangeSpec := { name := "meanSteps", fn := fun _ => fun
  | [d1, d2, d3, d4, d5, d6] => { results := [.lit (.bool false)], args := [d1, d2, d3, d4, d5, d6] }
  | _ => none }
def MeanStepsWrongFalsely : Prop := meanStepsRow.holds Tryz.pinned (OpenSpec.ofChange meanStepsWrong)

/-- 'abaculuslaw22.MeanStays': WHATEVER THE INPUT: true; the input reads as it did. -/
def meanStaysSpec : ChangeSpec := { name := "meanStays", fn := fun _ => fun
  | [d1, d2, d3, d4, d5] => { results := [.lit (.bool true)], args := [d1, d2, d3, d4, d5] }
  | _ => none }
def meanStaysRow : OpenClaim := { program := "ytacbcaebaomglaagreatdoor", sum := "7a0b7c13d06a25780d1632e4554b22807f1ec412d94b1e5d944d8c90bf069a8f", func := "abaculus/abaculuslaw22.MeanStays", spec := "meanStays", inPlace := ["internal/abi.NoEscape", "internal/bytealg.MakeNoZero", "math/bits.Add64", "math/bits.Sub64"], unfollowed := true, recurses := true, named := ["math/bits.divideError", "math/bits.overflowError", "math/bits.deBruijn64tab"], apart := false, laid := [("math/bits.deBruijn64tab", laid_math_bits_deBruijn64tab)] }
def MeanStaysSaid : Prop := meanStaysRow.holds Tryz.pinned (OpenSpec.ofChange meanStaysSpec)

/-- ITS FALSE NEIGHBOUR: 'it returns false'. Refute it at one input. -/
def meanStaysWrong : ChangeSpec := { name := "meanStays", fn := fun _ => fun
  | [d1, d2, d3, d4, d5] => { results := [.lit (.bool false)], args := [d1, d2, d3, d4, d5] }
  | _ => none }
def MeanStaysWrongFalsely : Prop := meanStaysRow.holds Tryz.pinned (OpenSpec.ofChange meanStaysWrong)

/-- 'abaculuslaw22.MeanNearest': WHATEVER THE INPUT: true; the input reads as it did. -/
def meanNearestSpec : ChangeSpec := { name := "meanNearest", fn := fun _ => fun
  | [d1, d2, d3, d4, d5] => { results := [.lit (.bool true)], args := [d1, d2, d3, d4, d5] }
  | _ => none }
def meanNearestRow : OpenClaim := { program := "ytacbcaebaomglaagreatdoor", sum := "7a0b7c13d06a25780d1632e4554b22807f1ec412d94b1e5d944d8c90bf069a8f", func := "abaculus/abaculuslaw22.MeanNearest", spec := "meanNearest", inPlace := ["internal/abi.NoEscape", "internal/bytealg.MakeNoZero", "math/bits.Add64", "math/bits.Sub64"], unfollowed := true, recurses := true, named := ["math/bits.divideError", "math/bits.overflowError", "math/bits.deBruijn64tab"], apart := false, laid := [("math/bits.deBruijn64tab", laid_math_bits_deBruijn64tab)] }
def MeanNearestSaid : Prop := meanNearestRow.holds Tryz.pinned (OpenSpec.ofChange meanNearestSpec)

/-- ITS FALSE NEIGHBOUR: 'it returns false'. Refute it at one input. -/
def meanNearestWrong : ChangeSpec := { name := "meanNearest", fn := fun _ => fun
  | [d1, d2, d3, d4, d5] => { results := [.lit (.bool false)], args := [d1, d2, d3, d4, d5] }
  | _ => none }
def MeanNearestWrongFalsely : Prop := meanNearestRow.holds Tryz.pinned (OpenSpec.ofChange meanNearestWrong)

/-- 'abaculuslaw22.MeanGroups': WHATEVER THE INPUT: true; the input reads as it did. -/
def meanGroupsSpec : ChangeSpec := { name := "meanGroups", fn := fun _ => fun
  | [d1, d2, d3, d4, d5, d6] => { results := [.lit (.bool true)], args := [d1, d2, d3, d4, d5, d6] }
  | _ => none }
def meanGroupsRow : OpenClaim := { program := "ytacbcaebaomglaagreatdoor", sum := "7a0b7c13d06a25780d1632e4554b22807f1ec412d94b1e5d944d8c90bf069a8f", func := "abaculus/abaculuslaw22.MeanGroups", spec := "meanGroups", inPlace := ["internal/abi.NoEscape", "internal/bytealg.MakeNoZero", "math/bits.Add64", "math/bits.Sub64"], unfollowed := true, recurses := true, named := ["math/bits.divideError", "math/bits.overflowError", "math/bits.deBruijn64tab"], apart := false, laid := [("math/bits.deBruijn64tab", laid_math_bits_deBruijn64tab)] }
def MeanGroupsSaid : Prop := meanGroupsRow.holds Tryz.pinned (OpenSpec.ofChange meanGroupsSpec)

/-- ITS FALSE NEIGHBOUR: 'it returns false'. Refute it at one input. -/
def meanGroupsWrong : ChangeSpec := { name := "meanGroups", fn := fun _ => fun
  | [d1, d2, d3, d4, d5, d6] => { results := [.lit (.bool false)], args := [d1, d2, d3, d4, d5, d6] }
  | _ => none }
def MeanGroupsWrongFalsely : Prop := meanGroupsRow.holds Tryz.pinned (OpenSpec.ofChange meanGroupsWrong)

/-- 'abaculuslaw22.MeanOrder': WHATEVER THE INPUT: true; the input reads as it did. -/
def meanOrderSpec : ChangeSpec := { name := "meanOrder", fn := fun _ => fun
  | [d1, d2, d3, d4, d5, d6] => { results := [.lit (.bool true)], args := [d1, d2, d3, d4, d5, d6] }
  | _ => none }
def meanOrderRow : OpenClaim := { program := "ytacbcaebaomglaagreatdoor", sum := "7a0b7c13d06a25780d1632e4554b22807f1ec412d94b1e5d944d8c90bf069a8f", func := "abaculus/abaculuslaw22.MeanOrder", spec := "meanOrder", inPlace := ["internal/abi.NoEscape", "internal/bytealg.MakeNoZero", "math/bits.Add64", "math/bits.Sub64"], unfollowed := true, recurses := true, named := ["math/bits.divideError", "math/bits.overflowError", "math/bits.deBruijn64tab"], apart := false, laid := [("math/bits.deBruijn64tab", laid_math_bits_deBruijn64tab)] }
def MeanOrderSaid : Prop := meanOrderRow.holds Tryz.pinned (OpenSpec.ofChange meanOrderSpec)

/-- ITS FALSE NEIGHBOUR: 'it returns false'. Refute it at one input. -/
def meanOrderWrong : ChangeSpec := { name := "meanOrder", fn := fun _ => fun
  | [d1, d2, d3, d4, d5, d6] => { results := [.lit (.bool false)], args := [d1, d2, d3, d4, d5, d6] }
  | _ => none }
def MeanOrderWrongFalsely : Prop := meanOrderRow.holds Tryz.pinned (OpenSpec.ofChange meanOrderWrong)

/-- 'abaculuslaw22.MeanKnown': WHATEVER THE INPUT: true; the input reads as it did. -/
def meanKnownSpec : ChangeSpec := { name := "meanKnown", fn := fun _ => fun
  | [] => { results := [.lit (.bool true)], args := [] }
  | _ => none }
def meanKnownRow : OpenClaim := { program := "ytacbcaebaomglaagreatdoor", sum := "7a0b7c13d06a25780d1632e4554b22807f1ec412d94b1e5d944d8c90bf069a8f", func := "abaculus/abaculuslaw22.MeanKnown", spec := "meanKnown", inPlace := ["internal/abi.NoEscape", "internal/bytealg.MakeNoZero", "math/bits.Add64", "math/bits.Sub64"], unfollowed := true, recurses := true, named := ["math/bits.divideError", "math/bits.overflowError", "math/bits.deBruijn64tab"], apart := false, laid := [("math/bits.deBruijn64tab", laid_math_bits_deBruijn64tab)] }
def MeanKnownSaid : Prop := meanKnownRow.holds Tryz.pinned (OpenSpec.ofChange meanKnownSpec)

/-- ITS FALSE NEIGHBOUR: 'it returns false'. Refute it at one input. -/
def meanKnownWrong : ChangeSpec := { name := "meanKnown", fn := fun _ => fun
  | [] => { results := [.lit (.bool false)], args := [] }
  | _ => none }
def MeanKnownWrongFalsely : Prop := meanKnownRow.holds Tryz.pinned (OpenSpec.ofChange meanKnownWrong)

/-- 'abaculuslaw22.MeanFalls': WHATEVER THE INPUT: true; the input reads as it did. -/
def meanFallsSpec : ChangeSpec := { name := "meanFalls", fn := fun _ => fun
  | [d1, d2, d3, d4, d5] => { results := [.lit (.bool true)], args := [d1, d2, d3, d4, d5] }
  | _ => none }
def meanFallsRow : OpenClaim := { program := "ytacbcaebaomglaagreatdoor", sum := "7a0b7c13d06a25780d1632e4554b22807f1ec412d94b1e5d944d8c90bf069a8f", func := "abaculus/abaculuslaw22.MeanFalls", spec := "meanFalls", inPlace := ["internal/abi.NoEscape", "internal/bytealg.MakeNoZero", "math/bits.Add64", "math/bits.Sub64"], unfollowed := true, recurses := true, named := ["math/bits.divideError", "math/bits.overflowError", "math/bits.deBruijn64tab"], apart := false, laid := [("math/bits.deBruijn64tab", laid_math_bits_deBruijn64tab)] }
def MeanFallsSaid : Prop := meanFallsRow.holds Tryz.pinned (OpenSpec.ofChange meanFallsSpec)

/-- ITS FALSE NEIGHBOUR: 'it returns false'. Refute it at one input. -/
def meanFallsWrong : ChangeSpec := { name := "meanFalls", fn := fun _ => fun
  | [d1, d2, d3, d4, d5] => { results := [.lit (.bool false)], args := [d1, d2, d3, d4, d5] }
  | _ => none }
def MeanFallsWrongFalsely : Prop := meanFallsRow.holds Tryz.pinned (OpenSpec.ofChange meanFallsWrong)

/-- 'abaculuslaw22.MeanSeeds': WHATEVER THE INPUT: true; the input reads as it did. -/
def meanSeedsSpec : ChangeSpec := { name := "meanSeeds", fn := fun _ => fun
  | [d1, d2, d3, d4, d5] => { results := [.lit (.bool true)], args := [d1, d2, d3, d4, d5] }
  | _ => none }
def meanSeedsRow : OpenClaim := { program := "ytacbcaebaomglaagreatdoor", sum := "7a0b7c13d06a25780d1632e4554b22807f1ec412d94b1e5d944d8c90bf069a8f", func := "abaculus/abaculuslaw22.MeanSeeds", spec := "meanSeeds", inPlace := ["internal/abi.NoEscape", "internal/bytealg.MakeNoZero", "math/bits.Add64", "math/bits.Sub64"], unfollowed := true, recurses := true, named := ["math/bits.divideError", "math/bits.overflowError", "math/bits.deBruijn64tab"], apart := false, laid := [("math/bits.deBruijn64tab", laid_math_bits_deBruijn64tab)] }
def MeanSeedsSaid : Prop := meanSeedsRow.holds Tryz.pinned (OpenSpec.ofChange meanSeedsSpec)

/-- ITS FALSE NEIGHBOUR: 'it returns false'. Refute it at one input. -/
def meanSeedsWrong : ChangeSpec := { name := "meanSeeds", fn := fun _ => fun
  | [d1, d2, d3, d4, d5] => { results := [.lit (.bool false)], args := [d1, d2, d3, d4, d5] }
  | _ => none }
def MeanSeedsWrongFalsely : Prop := meanSeedsRow.holds Tryz.pinned (OpenSpec.ofChange meanSeedsWrong)

/- THE SECOND FORM. 'bulk': how many values and letters a reading holds, each counted each time it is reached (what is shared counts as often as it is met; a slice's spare places count too). A statement '..UptoSaid' is the law's where the arguments, and the package variables that the reading takes, are together of bulk at most 1048576: NARROWER than '..Said'. Prove '..Said' where nothing that the law and all that it calls make is longer than what came in: it says more and counts as full. Else prove '..UptoSaid'. A law counts once. -/
mutual
def uptoBulk {H : Type} : DataW H → Nat
  | .lit (.string bytes) => bytes.length + 1
  | .lit _ => 1
  | .nil => 1
  | .ptr d => uptoBulk d + 1
  | .slice elems spare => uptoBulkAll elems + uptoBulkAll spare + 1
  | .agg parts => uptoBulkAll parts + 1
  | .iface _ d => uptoBulk d + 1
  | .map entries => uptoBulkEntries entries + 1
  | .held _ => 1
def uptoBulkAll {H : Type} : List (DataW H) → Nat
  | [] => 0
  | d :: r => uptoBulk d + uptoBulkAll r
def uptoBulkEntries {H : Type} : List (Lit × DataW H) → Nat
  | [] => 0
  | x :: r => uptoBulkEntry x + uptoBulkEntries r
def uptoBulkEntry {H : Type} : Lit × DataW H → Nat
  | (.string bytes, d) => bytes.length + uptoBulk d + 1
  | (_, d) => uptoBulk d + 1
 end
def uptoSmall : (H : Type) → List (DataW H) → Bool := fun _ ds => decide (uptoBulkAll ds ≤ 1048576)
def OpenSpec.upto (s : _root_.Go.ChangeSpec) : _root_.Go.OpenSpec := { _root_.Go.OpenSpec.ofChange s with cond := some uptoSmall }

/-- 'abaculuslaw22.MeanFits', WHERE WHAT IT READS IS OF BULK AT MOST 1048576: true; the input reads as it did. -/
def meanFitsUptoRow : OpenClaim := { program := "ytacbcaebaomglaagreatdoor", sum := "7a0b7c13d06a25780d1632e4554b22807f1ec412d94b1e5d944d8c90bf069a8f", func := "abaculus/abaculuslaw22.MeanFits", spec := "meanFits", inPlace := ["internal/abi.NoEscape", "internal/bytealg.MakeNoZero", "math/bits.Add64", "math/bits.Sub64"], unfollowed := true, recurses := true, named := ["math/bits.divideError", "math/bits.overflowError", "math/bits.deBruijn64tab"], apart := false, laid := [("math/bits.deBruijn64tab", laid_math_bits_deBruijn64tab)], narrowed := true }
def MeanFitsUptoSaid : Prop := meanFitsUptoRow.holds Tryz.pinned (OpenSpec.upto meanFitsSpec)

/-- 'abaculuslaw22.MeanUnits', WHERE WHAT IT READS IS OF BULK AT MOST 1048576: true; the input reads as it did. -/
def meanUnitsUptoRow : OpenClaim := { program := "ytacbcaebaomglaagreatdoor", sum := "7a0b7c13d06a25780d1632e4554b22807f1ec412d94b1e5d944d8c90bf069a8f", func := "abaculus/abaculuslaw22.MeanUnits", spec := "meanUnits", inPlace := ["internal/abi.NoEscape", "internal/bytealg.MakeNoZero", "math/bits.Add64", "math/bits.Sub64"], unfollowed := true, recurses := true, named := ["math/bits.divideError", "math/bits.overflowError", "math/bits.deBruijn64tab"], apart := false, laid := [("math/bits.deBruijn64tab", laid_math_bits_deBruijn64tab)], narrowed := true }
def MeanUnitsUptoSaid : Prop := meanUnitsUptoRow.holds Tryz.pinned (OpenSpec.upto meanUnitsSpec)

/-- 'abaculuslaw22.MeanSteps', WHERE WHAT IT READS IS OF BULK AT MOST 1048576: true; the input reads as it did. -/
def meanStepsUptoRow : OpenClaim := { program := "ytacbcaebaomglaagreatdoor", sum := "7a0b7c13d06a25780d1632e4554b22807f1ec412d94b1e5d944d8c90bf069a8f", func := "abaculus/abaculuslaw22.MeanSteps", spec := "meanSteps", inPlace := ["internal/abi.NoEscape", "internal/bytealg.MakeNoZero", "math/bits.Add64", "math/bits.Sub64"], unfollowed := true, recurses := true, named := ["math/bits.divideError", "math/bits.overflowError", "math/bits.deBruijn64tab"], apart := false, laid := [("math/bits.deBruijn64tab", laid_math_bits_deBruijn64tab)], narrowed := true }
def MeanStepsUptoSaid : Prop := meanStepsUptoRow.holds Tryz.pinned (OpenSpec.upto meanStepsSpec)

/-- 'abaculuslaw22.MeanStays', WHERE WHAT IT READS IS OF BULK AT MOST 1048576: true; the input reads as it did. -/
def meanStaysUptoRow : OpenClaim := { program := "ytacbcaebaomglaagreatdoor", sum := "7a0b7c13d06a25780d1632e4554b22807f1ec412d94b1e5d944d8c90bf069a8f", func := "abaculus/abaculuslaw22.MeanStays", spec := "meanStays", inPlace := ["internal/abi.NoEscape", "internal/bytealg.MakeNoZero", "math/bits.Add64", "math/bits.Sub64"], unfollowed := true, recurses := true, named := ["math/bits.divideError", "math/bits.overflowError", "math/bits.deBruijn64tab"], apart := false, laid := [("math/bits.deBruijn64tab", laid_math_bits_deBruijn64tab)], narrowed := true }
def MeanStaysUptoSaid : Prop := meanStaysUptoRow.holds Tryz.pinned (OpenSpec.upto meanStaysSpec)

/-- 'abaculuslaw22.MeanNearest', WHERE WHAT IT READS IS OF BULK AT MOST 1048576: true; the input reads as it did. -/
def meanNearestUptoRow : OpenClaim := { program := "ytacbcaebaomglaagreatdoor", sum := "7a0b7c13d06a25780d1632e4554b22807f1ec412d94b1e5d944d8c90bf069a8f", func := "abaculus/abaculuslaw22.MeanNearest", spec := "meanNearest", inPlace := ["internal/abi.NoEscape", "internal/bytealg.MakeNoZero", "math/bits.Add64", "math/bits.Sub64"], unfollowed := true, recurses := true, named := ["math/bits.divideError", "math/bits.overflowError", "math/bits.deBruijn64tab"], apart := false, laid := [("math/bits.deBruijn64tab", laid_math_bits_deBruijn64tab)], narrowed := true }
def MeanNearestUptoSaid : Prop := meanNearestUptoRow.holds Tryz.pinned (OpenSpec.upto meanNearestSpec)

/-- 'abaculuslaw22.MeanGroups', WHERE WHAT IT READS IS OF BULK AT MOST 1048576: true; the input reads as it did. -/
def meanGroupsUptoRow : OpenClaim := { program := "ytacbcaebaomglaagreatdoor", sum := "7a0b7c13d06a25780d1632e4554b22807f1ec412d94b1e5d944d8c90bf069a8f", func := "abaculus/abaculuslaw22.MeanGroups", spec := "meanGroups", inPlace := ["internal/abi.NoEscape", "internal/bytealg.MakeNoZero", "math/bits.Add64", "math/bits.Sub64"], unfollowed := true, recurses := true, named := ["math/bits.divideError", "math/bits.overflowError", "math/bits.deBruijn64tab"], apart := false, laid := [("math/bits.deBruijn64tab", laid_math_bits_deBruijn64tab)], narrowed := true }
def MeanGroupsUptoSaid : Prop := meanGroupsUptoRow.holds Tryz.pinned (OpenSpec.upto meanGroupsSpec)

/-- 'abaculuslaw22.MeanOrder', WHERE WHAT IT READS IS OF BULK AT MOST 1048576: true; the input reads as it did. -/
def meanOrderUptoRow : OpenClaim := { program := "ytacbcaebaomglaagreatdoor", sum := "7a0b7c13d06a25780d1632e4554b22807f1ec412d94b1e5d944d8c90bf069a8f", func := "abaculus/abaculuslaw22.MeanOrder", spec := "meanOrder", inPlace := ["internal/abi.NoEscape", "internal/bytealg.MakeNoZero", "math/bits.Add64", "math/bits.Sub64"], unfollowed := true, recurses := true, named := ["math/bits.divideError", "math/bits.overflowError", "math/bits.deBruijn64tab"], apart := false, laid := [("math/bits.deBruijn64tab", laid_math_bits_deBruijn64tab)], narrowed := true }
def MeanOrderUptoSaid : Prop := meanOrderUptoRow.holds Tryz.pinned (OpenSpec.upto meanOrderSpec)

/-- 'abaculuslaw22.MeanKnown', WHERE WHAT IT READS IS OF BULK AT MOST 1048576: true; the input reads as it did. -/
def meanKnownUptoRow : OpenClaim := { program := "ytacbcaebaomglaagreatdoor", sum := "7a0b7c13d06a25780d1632e4554b22807f1ec412d94b1e5d944d8c90bf069a8f", func := "abaculus/abaculuslaw22.MeanKnown", spec := "meanKnown", inPlace := ["internal/abi.NoEscape", "internal/bytealg.MakeNoZero", "math/bits.Add64", "math/bits.Sub64"], unfollowed := true, recurses := true, named := ["math/bits.divideError", "math/bits.overflowError", "math/bits.deBruijn64tab"], apart := false, laid := [("math/bits.deBruijn64tab", laid_math_bits_deBruijn64tab)], narrowed := true }
def MeanKnownUptoSaid : Prop := meanKnownUptoRow.holds Tryz.pinned (OpenSpec.upto meanKnownSpec)

/-- 'abaculuslaw22.MeanFalls', WHERE WHAT IT READS IS OF BULK AT MOST 1048576: true; the input reads as it did. -/
def meanFallsUptoRow : OpenClaim := { program := "ytacbcaebaomglaagreatdoor", sum := "7a0b7c13d06a25780d1632e4554b22807f1ec412d94b1e5d944d8c90bf069a8f", func := "abaculus/abaculuslaw22.MeanFalls", spec := "meanFalls", inPlace := ["internal/abi.NoEscape", "internal/bytealg.MakeNoZero", "math/bits.Add64", "math/bits.Sub64"], unfollowed := true, recurses := true, named := ["math/bits.divideError", "math/bits.overflowError", "math/bits.deBruijn64tab"], apart := false, laid := [("math/bits.deBruijn64tab", laid_math_bits_deBruijn64tab)], narrowed := true }
def MeanFallsUptoSaid : Prop := meanFallsUptoRow.holds Tryz.pinned (OpenSpec.upto meanFallsSpec)

/-- 'abaculuslaw22.MeanSeeds', WHERE WHAT IT READS IS OF BULK AT MOST 1048576: true; the input reads as it did. -/
def meanSeedsUptoRow : OpenClaim := { program := "ytacbcaebaomglaagreatdoor", sum := "7a0b7c13d06a25780d1632e4554b22807f1ec412d94b1e5d944d8c90bf069a8f", func := "abaculus/abaculuslaw22.MeanSeeds", spec := "meanSeeds", inPlace := ["internal/abi.NoEscape", "internal/bytealg.MakeNoZero", "math/bits.Add64", "math/bits.Sub64"], unfollowed := true, recurses := true, named := ["math/bits.divideError", "math/bits.overflowError", "math/bits.deBruijn64tab"], apart := false, laid := [("math/bits.deBruijn64tab", laid_math_bits_deBruijn64tab)], narrowed := true }
def MeanSeedsUptoSaid : Prop := meanSeedsUptoRow.holds Tryz.pinned (OpenSpec.upto meanSeedsSpec)

end Rows
end Go.Proofs.YtacbcaebaomglaaGreatDoor
