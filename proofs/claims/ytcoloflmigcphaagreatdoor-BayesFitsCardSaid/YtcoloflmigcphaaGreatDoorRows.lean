/-
  NARROWER THAN 'FOR EVERY INPUT', by the rows' own cells (each row's printed sentence says how): BayesChecks: laid · BayesSum: laid · BayesStays: laid · BayesTeaches: laid · BayesFits: laid · BayesChances: laid · BayesLacks: laid · BayesKnown: laid · BayesOrder: laid.
  DERIVED. THE GIVEN ROWS OF THIS SEAT. 9 by the template 'for every input the law returns true; each argument reads behind the call as it read before'; 0 by the template 'total and deterministic' (their statements: YtcoloflmigcphaaGreatDoorTotals.lean).
  GIVEN WITH THE SEED: the statements are not yours to turn. If you find one false, say at which input.
  Laid BY PROGRAM, IN A SANDBOX (cutbox-rows.mjs): the forced cells as the released guide's own fill.sh prints them over the translation 4c84817c72e9a7c9… (all of the seat's roots in one cut). By AI agents, Wed Nov 11 2026. No macro, syntax, notation, axiom, sorry.
-/
import Derived.Test.YtcoloflmigcphaaGreatDoorChecked
import GoSem.Claim
import GoSem.ClaimJoined
import GoSem.ClaimMapViews
import Derived.JoinedTies
import Derived.KernelRfl
namespace Go.Proofs.YtcoloflmigcphaaGreatDoor
/- THE CELL 'sum', in the pinned program and in every row, IS THE sha256 OF THE DUMP (.gsa) THAT YtcoloflmigcphaaGreatDoorProg.lean LOADS. Nothing in Lean hashes anything: it is a label: what it is worth is what the hold of that sum in a sandbox is worth. -/
noncomputable def Tryz.pinned : Pinned := { name := "ytcoloflmigcphaagreatdoor", sum := "4c84817c72e9a7c93164b5ab960072f5d1c4f108683673f4eb9c200a9a70fce3", checked := Tryz.checked }
namespace Rows
def none {H : Type} : Left H := { results := [], args := [] }

/- WHAT THE LISTED PACKAGE-LEVEL VARIABLES READ AS WHEN THE CALL BEGINS. Each datum BY PROGRAM (the guide's laid-datum.mjs) off the statement by which the dump's own 'gosem.cut.vars' lays the variable. In a bare row this is a premise. The card (YtcoloflmigcphaaGreatDoorCards.lean) ties it to the program's text. -/
def laid_math_bits_deBruijn64tab {H : Type} : DataW H := .agg [.lit (.int .u8 0), .lit (.int .u8 1), .lit (.int .u8 56), .lit (.int .u8 2), .lit (.int .u8 57), .lit (.int .u8 49), .lit (.int .u8 28), .lit (.int .u8 3), .lit (.int .u8 61), .lit (.int .u8 58), .lit (.int .u8 42), .lit (.int .u8 50), .lit (.int .u8 38), .lit (.int .u8 29), .lit (.int .u8 17), .lit (.int .u8 4), .lit (.int .u8 62), .lit (.int .u8 47), .lit (.int .u8 59), .lit (.int .u8 36), .lit (.int .u8 45), .lit (.int .u8 43), .lit (.int .u8 51), .lit (.int .u8 22), .lit (.int .u8 53), .lit (.int .u8 39), .lit (.int .u8 33), .lit (.int .u8 30), .lit (.int .u8 24), .lit (.int .u8 18), .lit (.int .u8 12), .lit (.int .u8 5), .lit (.int .u8 63), .lit (.int .u8 55), .lit (.int .u8 48), .lit (.int .u8 27), .lit (.int .u8 60), .lit (.int .u8 41), .lit (.int .u8 37), .lit (.int .u8 16), .lit (.int .u8 46), .lit (.int .u8 35), .lit (.int .u8 44), .lit (.int .u8 21), .lit (.int .u8 52), .lit (.int .u8 32), .lit (.int .u8 23), .lit (.int .u8 11), .lit (.int .u8 54), .lit (.int .u8 26), .lit (.int .u8 40), .lit (.int .u8 15), .lit (.int .u8 34), .lit (.int .u8 20), .lit (.int .u8 31), .lit (.int .u8 10), .lit (.int .u8 25), .lit (.int .u8 14), .lit (.int .u8 19), .lit (.int .u8 9), .lit (.int .u8 13), .lit (.int .u8 8), .lit (.int .u8 7), .lit (.int .u8 6)]

/-- 'abaculuslaw25.BayesChecks': WHATEVER THE INPUT: true; the input reads as it did. -/
def bayesChecksSpec : ChangeSpec := { name := "bayesChecks", fn := fun _ => fun
  | [d1, d2, d3, d4, d5, d6, d7, d8, d9] => { results := [.lit (.bool true)], args := [d1, d2, d3, d4, d5, d6, d7, d8, d9] }
  | _ => none }
def bayesChecksRow : OpenClaim := { program := "ytcoloflmigcphaagreatdoor", sum := "4c84817c72e9a7c93164b5ab960072f5d1c4f108683673f4eb9c200a9a70fce3", func := "abaculus/abaculuslaw25.BayesChecks", spec := "bayesChecks", inPlace := ["internal/abi.NoEscape", "internal/bytealg.MakeNoZero", "math/bits.Add64", "math/bits.Sub64"], unfollowed := true, recurses := true, named := ["math/bits.divideError", "math/bits.overflowError", "math/bits.deBruijn64tab"], apart := false, laid := [("math/bits.deBruijn64tab", laid_math_bits_deBruijn64tab)] }
def BayesChecksSaid : Prop := bayesChecksRow.holds Tryz.pinned (OpenSpec.ofChange bayesChecksSpec)

/-- ITS FALSE NEIGHBOUR: 'it returns false'. Refute it at one input. -/
def bayesChecksWrong : ChangeSpec := { name := "bayesChecks", fn := fun _ => fun
  | [d1, d2, d3, d4, d5, d6, d7, d8, d9] => { results := [.lit (.bool false)], args := [d1, d2, d3, d4, d5, d6, d7, d8, d9] }
  | _ => none }
def BayesChecksWrongFalsely : Prop := bayesChecksRow.holds Tryz.pinned (OpenSpec.ofChange bayesChecksWrong)

/-- 'abaculuslaw25.BayesSum': WHATEVER THE INPUT: true; the input reads as it did. -/
def bayesSumSpec : ChangeSpec := { name := "bayesSum", fn := fun _ => fun
  | [d1, d2, d3, d4, d5] => { results := [.lit (.bool true)], args := [d1, d2, d3, d4, d5] }
  | _ => none }
def bayesSumRow : OpenClaim := { program := "ytcoloflmigcphaagreatdoor", sum := "4c84817c72e9a7c93164b5ab960072f5d1c4f108683673f4eb9c200a9a70fce3", func := "abaculus/abaculuslaw25.BayesSum", spec := "bayesSum", inPlace := ["internal/abi.NoEscape", "internal/bytealg.MakeNoZero", "math/bits.Add64", "math/bits.Sub64"], unfollowed := true, recurses := true, named := ["math/bits.divideError", "math/bits.overflowError", "math/bits.deBruijn64tab"], apart := false, laid := [("math/bits.deBruijn64tab", laid_math_bits_deBruijn64tab)] }
def BayesSumSaid : Prop := bayesSumRow.holds Tryz.pinned (OpenSpec.ofChange bayesSumSpec)

/-- ITS FALSE NEIGHBOUR: 'it returns false'. Refute it at one input. -/
def bayesSumWrong : ChangeSpec := { name := "bayesSum", fn := fun _ => fun
  | [d1, d2, d3, d4, d5] => { results := [.lit (.bool false)], args := [d1, d2, d3, d4, d5] }
  | _ => none }
def BayesSumWrongFalsely : Prop := bayesSumRow.holds Tryz.pinned (OpenSpec.ofChange bayesSumWrong)

/-- 'abaculuslaw25.BayesStays': WHATEVER THE INPUT: true; the input reads as it did. -/
def bayesStaysSpec : ChangeSpec := { name := "bayesStays", fn := fun _ => fun
  | [d1, d2, d3, d4, d5, d6] => { results := [.lit (.bool true)], args := [d1, d2, d3, d4, d5, d6] }
  | _ => none }
def bayesStaysRow : OpenClaim := { program := "ytcoloflmigcphaagreatdoor", sum := "4c84817c72e9a7c93164b5ab960072f5d1c4f108683673f4eb9c200a9a70fce3", func := "abaculus/abaculuslaw25.BayesStays", spec := "bayesStays", inPlace := ["internal/abi.NoEscape", "internal/bytealg.MakeNoZero", "math/bits.Add64", "math/bits.Sub64"], unfollowed := true, recurses := true, named := ["math/bits.divideError", "math/bits.overflowError", "math/bits.deBruijn64tab"], apart := false, laid := [("math/bits.deBruijn64tab", laid_math_bits_deBruijn64tab)] }
def BayesStaysSaid : Prop := bayesStaysRow.holds Tryz.pinned (OpenSpec.ofChange bayesStaysSpec)

/-- ITS FALSE NEIGHBOUR: 'it returns false'. Refute it at one input. -/
def bayesStaysWrong : ChangeSpec := { name := "bayesStays", fn := fun _ => fun
  | [d1, d2, d3, d4, d5, d6] => { results := [.lit (.bool false)], args := [d1, d2, d3, d4, d5, d6] }
  | _ => none }
def BayesStaysWrongFalsely : Prop := bayesStaysRow.holds Tryz.pinned (OpenSpec.ofChange bayesStaysWrong)

/-- 'abaculuslaw25.BayesTeaches': WHATEVER THE INPUT: true; the input reads as it did. -/
def bayesTeachesSpec : ChangeSpec := { name := "bayesTeaches", fn := fun _ => fun
  | [d1, d2, d3, d4, d5, d6, d7, d8, d9] => { results := [.lit (.bool true)], args := [d1, d2, d3, d4, d5, d6, d7, d8, d9] }
  | _ => none }
def bayesTeachesRow : OpenClaim := { program := "ytcoloflmigcphaagreatdoor", sum := "4c84817c72e9a7c93164b5ab960072f5d1c4f108683673f4eb9c200a9a70fce3", func := "abaculus/abaculuslaw25.BayesTeaches", spec := "bayesTeaches", inPlace := ["internal/abi.NoEscape", "internal/bytealg.MakeNoZero", "math/bits.Add64", "math/bits.Sub64"], unfollowed := true, recurses := true, named := ["math/bits.divideError", "math/bits.overflowError", "math/bits.deBruijn64tab"], apart := false, laid := [("math/bits.deBruijn64tab", laid_math_bits_deBruijn64tab)] }
def BayesTeachesSaid : Prop := bayesTeachesRow.holds Tryz.pinned (OpenSpec.ofChange bayesTeachesSpec)

/-- ITS FALSE NEIGHBOUR: 'it returns false'. Refute it at one input. -/
def bayesTeachesWrong : ChangeSpec := { name := "bayesTeaches", fn := fun _ => fun
  | [d1, d2, d3, d4, d5, d6, d7, d8, d9] => { results := [.lit (.bool false)], args := [d1, d2, d3, d4, d5, d6, d7, d8, d9] }
  | _ => none }
def BayesTeachesWrongFalsely : Prop := bayesTeachesRow.holds Tryz.pinned (OpenSpec.ofChange bayesTeachesWrong)

/-- 'abaculuslaw25.BayesFits': WHATEVER THE INPUT: true; the input reads as it did. -/
def bayesFitsSpec : ChangeSpec := { name := "bayesFits", fn := fun _ => fun
  | [d1, d2, d3, d4, d5, d6, d7, d8, d9, d10] => { results := [.lit (.bool true)], args := [d1, d2, d3, d4, d5, d6, d7, d8, d9, d10] }
  | _ => none }
def bayesFitsRow : OpenClaim := { program := "ytcoloflmigcphaagreatdoor", sum := "4c84817c72e9a7c93164b5ab960072f5d1c4f108683673f4eb9c200a9a70fce3", func := "abaculus/abaculuslaw25.BayesFits", spec := "bayesFits", inPlace := ["internal/abi.NoEscape", "internal/bytealg.MakeNoZero", "math/bits.Add64", "math/bits.Sub64"], unfollowed := true, recurses := true, named := ["math/bits.divideError", "math/bits.overflowError", "math/bits.deBruijn64tab"], apart := false, laid := [("math/bits.deBruijn64tab", laid_math_bits_deBruijn64tab)] }
def BayesFitsSaid : Prop := bayesFitsRow.holds Tryz.pinned (OpenSpec.ofChange bayesFitsSpec)

/-- ITS FALSE NEIGHBOUR: 'it returns false'. Refute it at one input. -/
def bayesFitsWrong : ChangeSpec := { name := "bayesFits", fn := fun _ => fun
  | [d1, d2, d3, d4, d5, d6, d7, d8, d9, d10] => { results := [.lit (.bool false)], args := [d1, d2, d3, d4, d5, d6, d7, d8, d9, d10] }
  | _ => none }
def BayesFitsWrongFalsely : Prop := bayesFitsRow.holds Tryz.pinned (OpenSpec.ofChange bayesFitsWrong)

/-- 'abaculuslaw25.BayesChances': WHATEVER THE INPUT: true; the input reads as it did. -/
def bayesChancesSpec : ChangeSpec := { name := "bayesChances", fn := fun _ => fun
  | [d1, d2, d3, d4, d5, d6, d7, d8, d9] => { results := [.lit (.bool true)], args := [d1, d2, d3, d4, d5, d6, d7, d8, d9] }
  | _ => none }
def bayesChancesRow : OpenClaim := { program := "ytcoloflmigcphaagreatdoor", sum := "4c84817c72e9a7c93164b5ab960072f5d1c4f108683673f4eb9c200a9a70fce3", func := "abaculus/abaculuslaw25.BayesChances", spec := "bayesChances", inPlace := ["internal/abi.NoEscape", "internal/bytealg.MakeNoZero", "math/bits.Add64", "math/bits.Sub64"], unfollowed := true, recurses := true, named := ["math/bits.divideError", "math/bits.overflowError", "math/bits.deBruijn64tab"], apart := false, laid := [("math/bits.deBruijn64tab", laid_math_bits_deBruijn64tab)] }
def BayesChancesSaid : Prop := bayesChancesRow.holds Tryz.pinned (OpenSpec.ofChange bayesChancesSpec)

/-- ITS FALSE NEIGHBOUR: 'it returns false'. Refute it at one input. -/
def bayesChancesWrong : ChangeSpec := { name := "bayesChances", fn := fun _ => fun
  | [d1, d2, d3, d4, d5, d6, d7, d8, d9] => { results := [.lit (.bool false)], args := [d1, d2, d3, d4, d5, d6, d7, d8, d9] }
  | _ => none }
def BayesChancesWrongFalsely : Prop := bayesChancesRow.holds Tryz.pinned (OpenSpec.ofChange bayesChancesWrong)

/-- 'abaculuslaw25.BayesLacks': WHATEVER THE INPUT: true; the input reads as it did. -/
def bayesLacksSpec : ChangeSpec := { name := "bayesLacks", fn := fun _ => fun
  | [d1, d2, d3, d4, d5] => { results := [.lit (.bool true)], args := [d1, d2, d3, d4, d5] }
  | _ => none }
def bayesLacksRow : OpenClaim := { program := "ytcoloflmigcphaagreatdoor", sum := "4c84817c72e9a7c93164b5ab960072f5d1c4f108683673f4eb9c200a9a70fce3", func := "abaculus/abaculuslaw25.BayesLacks", spec := "bayesLacks", inPlace := ["internal/abi.NoEscape", "internal/bytealg.MakeNoZero", "math/bits.Add64", "math/bits.Sub64"], unfollowed := true, recurses := true, named := ["math/bits.divideError", "math/bits.overflowError", "math/bits.deBruijn64tab"], apart := false, laid := [("math/bits.deBruijn64tab", laid_math_bits_deBruijn64tab)] }
def BayesLacksSaid : Prop := bayesLacksRow.holds Tryz.pinned (OpenSpec.ofChange bayesLacksSpec)

/-- ITS FALSE NEIGHBOUR: 'it returns false'. Refute it at one input. -/
def bayesLacksWrong : ChangeSpec := { name := "bayesLacks", fn := fun _ => fun
  | [d1, d2, d3, d4, d5] => { results := [.lit (.bool false)], args := [d1, d2, d3, d4, d5] }
  | _ => none }
def BayesLacksWrongFalsely : Prop := bayesLacksRow.holds Tryz.pinned (OpenSpec.ofChange bayesLacksWrong)

/-- 'abaculuslaw25.BayesKnown': WHATEVER THE INPUT: true; the input reads as it did. -/
def bayesKnownSpec : ChangeSpec := { name := "bayesKnown", fn := fun _ => fun
  | [] => { results := [.lit (.bool true)], args := [] }
  | _ => none }
def bayesKnownRow : OpenClaim := { program := "ytcoloflmigcphaagreatdoor", sum := "4c84817c72e9a7c93164b5ab960072f5d1c4f108683673f4eb9c200a9a70fce3", func := "abaculus/abaculuslaw25.BayesKnown", spec := "bayesKnown", inPlace := ["math/bits.Add64", "internal/abi.NoEscape", "internal/bytealg.MakeNoZero", "math/bits.Sub64"], unfollowed := true, recurses := true, named := ["math/bits.divideError", "math/bits.overflowError", "math/bits.deBruijn64tab"], apart := false, laid := [("math/bits.deBruijn64tab", laid_math_bits_deBruijn64tab)] }
def BayesKnownSaid : Prop := bayesKnownRow.holds Tryz.pinned (OpenSpec.ofChange bayesKnownSpec)

/-- ITS FALSE NEIGHBOUR: 'it returns false'. Refute it at one input. -/
def bayesKnownWrong : ChangeSpec := { name := "bayesKnown", fn := fun _ => fun
  | [] => { results := [.lit (.bool false)], args := [] }
  | _ => none }
def BayesKnownWrongFalsely : Prop := bayesKnownRow.holds Tryz.pinned (OpenSpec.ofChange bayesKnownWrong)

/-- 'abaculuslaw25.BayesOrder': WHATEVER THE INPUT: true; the input reads as it did. -/
def bayesOrderSpec : ChangeSpec := { name := "bayesOrder", fn := fun _ => fun
  | [d1, d2, d3, d4, d5, d6, d7, d8, d9] => { results := [.lit (.bool true)], args := [d1, d2, d3, d4, d5, d6, d7, d8, d9] }
  | _ => none }
def bayesOrderRow : OpenClaim := { program := "ytcoloflmigcphaagreatdoor", sum := "4c84817c72e9a7c93164b5ab960072f5d1c4f108683673f4eb9c200a9a70fce3", func := "abaculus/abaculuslaw25.BayesOrder", spec := "bayesOrder", inPlace := ["internal/abi.NoEscape", "internal/bytealg.MakeNoZero", "math/bits.Add64", "math/bits.Sub64"], unfollowed := true, recurses := true, named := ["math/bits.divideError", "math/bits.overflowError", "math/bits.deBruijn64tab"], apart := false, laid := [("math/bits.deBruijn64tab", laid_math_bits_deBruijn64tab)] }
def BayesOrderSaid : Prop := bayesOrderRow.holds Tryz.pinned (OpenSpec.ofChange bayesOrderSpec)

/-- ITS FALSE NEIGHBOUR: 'it returns false'. Refute it at one input. -/
def bayesOrderWrong : ChangeSpec := { name := "bayesOrder", fn := fun _ => fun
  | [d1, d2, d3, d4, d5, d6, d7, d8, d9] => { results := [.lit (.bool false)], args := [d1, d2, d3, d4, d5, d6, d7, d8, d9] }
  | _ => none }
def BayesOrderWrongFalsely : Prop := bayesOrderRow.holds Tryz.pinned (OpenSpec.ofChange bayesOrderWrong)

/- THE SECOND FORM. 'bulk': how many values and letters a reading holds, each counted each time it is reached (what is shared counts as often as it is met; a slice's spare places count too). A statement '..UptoSaid' is the law's where the arguments, and the package variables that the reading takes, are together of bulk at most 1048576: NARROWER than '..Said'. Prove '..Said' where nothing that the law and all that it calls make is longer than what came in: it says more and counts as full. Else prove '..UptoSaid'. A law counts once. -/
mutual
def uptoBulk {H : Type} : DataW H → Nat
  | .lit (.string bytes) => bytes.length + 1
  | .lit _ => 1
  | .nil => 1
  | .ptr d => uptoBulk d + 1
  | .slice elems spare => uptoBulkAll elems + uptoBulkAll spare + 1
  | .agg parts => uptoBulkAll parts + 1
  | .iface _ d => uptoBulk d + 1
  | .map entries => uptoBulkEntries entries + 1
  | .held _ => 1
def uptoBulkAll {H : Type} : List (DataW H) → Nat
  | [] => 0
  | d :: r => uptoBulk d + uptoBulkAll r
def uptoBulkEntries {H : Type} : List (Lit × DataW H) → Nat
  | [] => 0
  | x :: r => uptoBulkEntry x + uptoBulkEntries r
def uptoBulkEntry {H : Type} : Lit × DataW H → Nat
  | (.string bytes, d) => bytes.length + uptoBulk d + 1
  | (_, d) => uptoBulk d + 1
 end
def uptoSmall : (H : Type) → List (DataW H) → Bool := fun _ ds => decide (uptoBulkAll ds ≤ 1048576)
def OpenSpec.upto (s : _root_.Go.ChangeSpec) : _root_.Go.OpenSpec := { _root_.Go.OpenSpec.ofChange s with cond := some uptoSmall }

/-- 'abaculuslaw25.BayesChecks', WHERE WHAT IT READS IS OF BULK AT MOST 1048576: true; the input reads as it did. -/
def bayesChecksUptoRow : OpenClaim := { program := "ytcoloflmigcphaagreatdoor", sum := "4c84817c72e9a7c93164b5ab960072f5d1c4f108683673f4eb9c200a9a70fce3", func := "abaculus/abaculuslaw25.BayesChecks", spec := "bayesChecks", inPlace := ["internal/abi.NoEscape", "internal/bytealg.MakeNoZero", "math/bits.Add64", "math/bits.Sub64"], unfollowed := true, recurses := true, named := ["math/bits.divideError", "math/bits.overflowError", "math/bits.deBruijn64tab"], apart := false, laid := [("math/bits.deBruijn64tab", laid_math_bits_deBruijn64tab)], narrowed := true }
def BayesChecksUptoSaid : Prop := bayesChecksUptoRow.holds Tryz.pinned (OpenSpec.upto bayesChecksSpec)

/-- 'abaculuslaw25.BayesSum', WHERE WHAT IT READS IS OF BULK AT MOST 1048576: true; the input reads as it did. -/
def bayesSumUptoRow : OpenClaim := { program := "ytcoloflmigcphaagreatdoor", sum := "4c84817c72e9a7c93164b5ab960072f5d1c4f108683673f4eb9c200a9a70fce3", func := "abaculus/abaculuslaw25.BayesSum", spec := "bayesSum", inPlace := ["internal/abi.NoEscape", "internal/bytealg.MakeNoZero", "math/bits.Add64", "math/bits.Sub64"], unfollowed := true, recurses := true, named := ["math/bits.divideError", "math/bits.overflowError", "math/bits.deBruijn64tab"], apart := false, laid := [("math/bits.deBruijn64tab", laid_math_bits_deBruijn64tab)], narrowed := true }
def BayesSumUptoSaid : Prop := bayesSumUptoRow.holds Tryz.pinned (OpenSpec.upto bayesSumSpec)

/-- 'abaculuslaw25.BayesStays', WHERE WHAT IT READS IS OF BULK AT MOST 1048576: true; the input reads as it did. -/
def bayesStaysUptoRow : OpenClaim := { program := "ytcoloflmigcphaagreatdoor", sum := "4c84817c72e9a7c93164b5ab960072f5d1c4f108683673f4eb9c200a9a70fce3", func := "abaculus/abaculuslaw25.BayesStays", spec := "bayesStays", inPlace := ["internal/abi.NoEscape", "internal/bytealg.MakeNoZero", "math/bits.Add64", "math/bits.Sub64"], unfollowed := true, recurses := true, named := ["math/bits.divideError", "math/bits.overflowError", "math/bits.deBruijn64tab"], apart := false, laid := [("math/bits.deBruijn64tab", laid_math_bits_deBruijn64tab)], narrowed := true }
def BayesStaysUptoSaid : Prop := bayesStaysUptoRow.holds Tryz.pinned (OpenSpec.upto bayesStaysSpec)

/-- 'abaculuslaw25.BayesTeaches', WHERE WHAT IT READS IS OF BULK AT MOST 1048576: true; the input reads as it did. -/
def bayesTeachesUptoRow : OpenClaim := { program := "ytcoloflmigcphaagreatdoor", sum := "4c84817c72e9a7c93164b5ab960072f5d1c4f108683673f4eb9c200a9a70fce3", func := "abaculus/abaculuslaw25.BayesTeaches", spec := "bayesTeaches", inPlace := ["internal/abi.NoEscape", "internal/bytealg.MakeNoZero", "math/bits.Add64", "math/bits.Sub64"], unfollowed := true, recurses := true, named := ["math/bits.divideError", "math/bits.overflowError", "math/bits.deBruijn64tab"], apart := false, laid := [("math/bits.deBruijn64tab", laid_math_bits_deBruijn64tab)], narrowed := true }
def BayesTeachesUptoSaid : Prop := bayesTeachesUptoRow.holds Tryz.pinned (OpenSpec.upto bayesTeachesSpec)

/-- 'abaculuslaw25.BayesFits', WHERE WHAT IT READS IS OF BULK AT MOST 1048576: true; the input reads as it did. -/
def bayesFitsUptoRow : OpenClaim := { program := "ytcoloflmigcphaagreatdoor", sum := "4c84817c72e9a7c93164b5ab960072f5d1c4f108683673f4eb9c200a9a70fce3", func := "abaculus/abaculuslaw25.BayesFits", spec := "bayesFits", inPlace := ["internal/abi.NoEscape", "internal/bytealg.MakeNoZero", "math/bits.Add64", "math/bits.Sub64"], unfollowed := true, recurses := true, named := ["math/bits.divideError", "math/bits.overflowError", "math/bits.deBruijn64tab"], apart := false, laid := [("math/bits.deBruijn64tab", laid_math_bits_deBruijn64tab)], narrowed := true }
def BayesFitsUptoSaid : Prop := bayesFitsUptoRow.holds Tryz.pinned (OpenSpec.upto bayesFitsSpec)

/-- 'abaculuslaw25.BayesChances', WHERE WHAT IT READS IS OF BULK AT MOST 1048576: true; the input reads as it did. -/
def bayesChancesUptoRow : OpenClaim := { program := "ytcoloflmigcphaagreatdoor", sum := "4c84817c72e9a7c93164b5ab960072f5d1c4f108683673f4eb9c200a9a70fce3", func := "abaculus/abaculuslaw25.BayesChances", spec := "bayesChances", inPlace := ["internal/abi.NoEscape", "internal/bytealg.MakeNoZero", "math/bits.Add64", "math/bits.Sub64"], unfollowed := true, recurses := true, named := ["math/bits.divideError", "math/bits.overflowError", "math/bits.deBruijn64tab"], apart := false, laid := [("math/bits.deBruijn64tab", laid_math_bits_deBruijn64tab)], narrowed := true }
def BayesChancesUptoSaid : Prop := bayesChancesUptoRow.holds Tryz.pinned (OpenSpec.upto bayesChancesSpec)

/-- 'abaculuslaw25.BayesLacks', WHERE WHAT IT READS IS OF BULK AT MOST 1048576: true; the input reads as it did. -/
def bayesLacksUptoRow : OpenClaim := { program := "ytcoloflmigcphaagreatdoor", sum := "4c84817c72e9a7c93164b5ab960072f5d1c4f108683673f4eb9c200a9a70fce3", func := "abaculus/abaculuslaw25.BayesLacks", spec := "bayesLacks", inPlace := ["internal/abi.NoEscape", "internal/bytealg.MakeNoZero", "math/bits.Add64", "math/bits.Sub64"], unfollowed := true, recurses := true, named := ["math/bits.divideError", "math/bits.overflowError", "math/bits.deBruijn64tab"], apart := false, laid := [("math/bits.deBruijn64tab", laid_math_bits_deBruijn64tab)], narrowed := true }
def BayesLacksUptoSaid : Prop := bayesLacksUptoRow.holds Tryz.pinned (OpenSpec.upto bayesLacksSpec)

/-- 'abaculuslaw25.BayesKnown', WHERE WHAT IT READS IS OF BULK AT MOST 1048576: true; the input reads as it did. -/
def bayesKnownUptoRow : OpenClaim := { program := "ytcoloflmigcphaagreatdoor", sum := "4c84817c72e9a7c93164b5ab960072f5d1c4f108683673f4eb9c200a9a70fce3", func := "abaculus/abaculuslaw25.BayesKnown", spec := "bayesKnown", inPlace := ["math/bits.Add64", "internal/abi.NoEscape", "internal/bytealg.MakeNoZero", "math/bits.Sub64"], unfollowed := true, recurses := true, named := ["math/bits.divideError", "math/bits.overflowError", "math/bits.deBruijn64tab"], apart := false, laid := [("math/bits.deBruijn64tab", laid_math_bits_deBruijn64tab)], narrowed := true }
def BayesKnownUptoSaid : Prop := bayesKnownUptoRow.holds Tryz.pinned (OpenSpec.upto bayesKnownSpec)

/-- 'abaculuslaw25.BayesOrder', WHERE WHAT IT READS IS OF BULK AT MOST 1048576: true; the input reads as it did. -/
def bayesOrderUptoRow : OpenClaim := { program := "ytcoloflmigcphaagreatdoor", sum := "4c84817c72e9a7c93164b5ab960072f5d1c4f108683673f4eb9c200a9a70fce3", func := "abaculus/abaculuslaw25.BayesOrder", spec := "bayesOrder", inPlace := ["internal/abi.NoEscape", "internal/bytealg.MakeNoZero", "math/bits.Add64", "math/bits.Sub64"], unfollowed := true, recurses := true, named := ["math/bits.divideError", "math/bits.overflowError", "math/bits.deBruijn64tab"], apart := false, laid := [("math/bits.deBruijn64tab", laid_math_bits_deBruijn64tab)], narrowed := true }
def BayesOrderUptoSaid : Prop := bayesOrderUptoRow.holds Tryz.pinned (OpenSpec.upto bayesOrderSpec)

end Rows
end Go.Proofs.YtcoloflmigcphaaGreatDoor
