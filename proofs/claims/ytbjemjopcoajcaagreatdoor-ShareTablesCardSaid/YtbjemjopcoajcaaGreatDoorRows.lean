/-
  NARROWER THAN 'FOR EVERY INPUT', by the rows' own cells (each row's printed sentence says how): ShareMixed: laid · ShareTwins: laid · ShareTables: laid · ShareWide: laid · ShareFair: laid · ShareKnown: laid.
  DERIVED. THE GIVEN ROWS OF THIS SEAT. 6 by the template 'for every input the law returns true; each argument reads behind the call as it read before'; 0 by the template 'total and deterministic' (their statements: YtbjemjopcoajcaaGreatDoorTotals.lean).
  GIVEN WITH THE SEED: the statements are not yours to turn. If you find one false, say at which input.
  Laid BY PROGRAM, IN A SANDBOX (cutbox-rows.mjs): the forced cells as the released guide's own fill.sh prints them over the translation 3e80d86258fe45b2… (all of the seat's roots in one cut). By AI agents, Wed Nov 11 2026. No macro, syntax, notation, axiom, sorry.
-/
import Derived.Test.YtbjemjopcoajcaaGreatDoorChecked
import GoSem.Claim
import GoSem.ClaimJoined
import GoSem.ClaimMapViews
import Derived.JoinedTies
import Derived.KernelRfl
namespace Go.Proofs.YtbjemjopcoajcaaGreatDoor
/- THE CELL 'sum', in the pinned program and in every row, IS THE sha256 OF THE DUMP (.gsa) THAT YtbjemjopcoajcaaGreatDoorProg.lean LOADS. Nothing in Lean hashes anything: it is a label: what it is worth is what the hold of that sum in a sandbox is worth. -/
noncomputable def Tryz.pinned : Pinned := { name := "ytbjemjopcoajcaagreatdoor", sum := "3e80d86258fe45b2d730aa587c5eed6be5164146487c9adbb0f42e52349aaeac", checked := Tryz.checked }
namespace Rows
def none {H : Type} : Left H := { results := [], args := [] }

/- WHAT THE LISTED PACKAGE-LEVEL VARIABLES READ AS WHEN THE CALL BEGINS. Each datum BY PROGRAM (the guide's laid-datum.mjs) off the statement by which the dump's own 'gosem.cut.vars' lays the variable. In a bare row this is a premise. The card (YtbjemjopcoajcaaGreatDoorCards.lean) ties it to the program's text. -/
def laid_math_bits_deBruijn64tab {H : Type} : DataW H := .agg [.lit (.int .u8 0), .lit (.int .u8 1), .lit (.int .u8 56), .lit (.int .u8 2), .lit (.int .u8 57), .lit (.int .u8 49), .lit (.int .u8 28), .lit (.int .u8 3), .lit (.int .u8 61), .lit (.int .u8 58), .lit (.int .u8 42), .lit (.int .u8 50), .lit (.int .u8 38), .lit (.int .u8 29), .lit (.int .u8 17), .lit (.int .u8 4), .lit (.int .u8 62), .lit (.int .u8 47), .lit (.int .u8 59), .lit (.int .u8 36), .lit (.int .u8 45), .lit (.int .u8 43), .lit (.int .u8 51), .lit (.int .u8 22), .lit (.int .u8 53), .lit (.int .u8 39), .lit (.int .u8 33), .lit (.int .u8 30), .lit (.int .u8 24), .lit (.int .u8 18), .lit (.int .u8 12), .lit (.int .u8 5), .lit (.int .u8 63), .lit (.int .u8 55), .lit (.int .u8 48), .lit (.int .u8 27), .lit (.int .u8 60), .lit (.int .u8 41), .lit (.int .u8 37), .lit (.int .u8 16), .lit (.int .u8 46), .lit (.int .u8 35), .lit (.int .u8 44), .lit (.int .u8 21), .lit (.int .u8 52), .lit (.int .u8 32), .lit (.int .u8 23), .lit (.int .u8 11), .lit (.int .u8 54), .lit (.int .u8 26), .lit (.int .u8 40), .lit (.int .u8 15), .lit (.int .u8 34), .lit (.int .u8 20), .lit (.int .u8 31), .lit (.int .u8 10), .lit (.int .u8 25), .lit (.int .u8 14), .lit (.int .u8 19), .lit (.int .u8 9), .lit (.int .u8 13), .lit (.int .u8 8), .lit (.int .u8 7), .lit (.int .u8 6)]
def laid_abaculus_share_factorials {H : Type} : DataW H := .agg [.lit (.int .i64 1), .lit (.int .i64 1), .lit (.int .i64 2), .lit (.int .i64 6), .lit (.int .i64 24), .lit (.int .i64 120), .lit (.int .i64 720), .lit (.int .i64 5040), .lit (.int .i64 40320), .lit (.int .i64 362880), .lit (.int .i64 3628800)]

/-- 'abaculuslaw37.ShareMixed': WHATEVER THE INPUT: true; the input reads as it did. -/
def shareMixedSpec : ChangeSpec := { name := "shareMixed", fn := fun _ => fun
  | [d1, d2, d3, d4, d5] => { results := [.lit (.bool true)], args := [d1, d2, d3, d4, d5] }
  | _ => none }
def shareMixedRow : OpenClaim := { program := "ytbjemjopcoajcaagreatdoor", sum := "3e80d86258fe45b2d730aa587c5eed6be5164146487c9adbb0f42e52349aaeac", func := "abaculus/abaculuslaw37.ShareMixed", spec := "shareMixed", inPlace := ["internal/abi.NoEscape", "internal/bytealg.MakeNoZero", "math/bits.Add64", "math/bits.Sub64"], named := ["math/bits.divideError", "math/bits.overflowError", "math/bits.deBruijn64tab", "abaculus/share.factorials"], apart := false, laid := [("math/bits.deBruijn64tab", laid_math_bits_deBruijn64tab), ("abaculus/share.factorials", laid_abaculus_share_factorials)] }
def ShareMixedSaid : Prop := shareMixedRow.holds Tryz.pinned (OpenSpec.ofChange shareMixedSpec)

/-- ITS FALSE NEIGHBOUR: 'it returns false'. Refute it at one input. -/
def shareMixedWrong : ChangeSpec := { name := "shareMixed", fn := fun _ => fun
  | [d1, d2, d3, d4, d5] => { results := [.lit (.bool false)], args := [d1, d2, d3, d4, d5] }
  | _ => none }
def ShareMixedWrongFalsely : Prop := shareMixedRow.holds Tryz.pinned (OpenSpec.ofChange shareMixedWrong)

/-- 'abaculuslaw37.ShareTwins': WHATEVER THE INPUT: true; the input reads as it did. -/
def shareTwinsSpec : ChangeSpec := { name := "shareTwins", fn := fun _ => fun
  | [d1, d2, d3, d4] => { results := [.lit (.bool true)], args := [d1, d2, d3, d4] }
  | _ => none }
def shareTwinsRow : OpenClaim := { program := "ytbjemjopcoajcaagreatdoor", sum := "3e80d86258fe45b2d730aa587c5eed6be5164146487c9adbb0f42e52349aaeac", func := "abaculus/abaculuslaw37.ShareTwins", spec := "shareTwins", inPlace := ["internal/abi.NoEscape", "internal/bytealg.MakeNoZero", "math/bits.Add64", "math/bits.Sub64"], named := ["math/bits.divideError", "math/bits.overflowError", "math/bits.deBruijn64tab", "abaculus/share.factorials"], apart := false, laid := [("math/bits.deBruijn64tab", laid_math_bits_deBruijn64tab), ("abaculus/share.factorials", laid_abaculus_share_factorials)] }
def ShareTwinsSaid : Prop := shareTwinsRow.holds Tryz.pinned (OpenSpec.ofChange shareTwinsSpec)

/-- ITS FALSE NEIGHBOUR: 'it returns false'. Refute it at one input. -/
def shareTwinsWrong : ChangeSpec := { name := "shareTwins", fn := fun _ => fun
  | [d1, d2, d3, d4] => { results := [.lit (.bool false)], args := [d1, d2, d3, d4] }
  | _ => none }
def ShareTwinsWrongFalsely : Prop := shareTwinsRow.holds Tryz.pinned (OpenSpec.ofChange shareTwinsWrong)

/-- 'abaculuslaw37.ShareTables': WHATEVER THE INPUT: true; the input reads as it did. -/
def shareTablesSpec : ChangeSpec := { name := "shareTables", fn := fun _ => fun
  | [d1, d2, d3, d4, d5] => { results := [.lit (.bool true)], args := [d1, d2, d3, d4, d5] }
  | _ => none }
def shareTablesRow : OpenClaim := { program := "ytbjemjopcoajcaagreatdoor", sum := "3e80d86258fe45b2d730aa587c5eed6be5164146487c9adbb0f42e52349aaeac", func := "abaculus/abaculuslaw37.ShareTables", spec := "shareTables", inPlace := ["internal/abi.NoEscape", "internal/bytealg.MakeNoZero", "math/bits.Add64", "math/bits.Sub64"], recurses := true, named := ["math/bits.divideError", "math/bits.overflowError", "math/bits.deBruijn64tab", "abaculus/share.factorials"], apart := false, laid := [("math/bits.deBruijn64tab", laid_math_bits_deBruijn64tab), ("abaculus/share.factorials", laid_abaculus_share_factorials)] }
def ShareTablesSaid : Prop := shareTablesRow.holds Tryz.pinned (OpenSpec.ofChange shareTablesSpec)

/-- ITS FALSE NEIGHBOUR: 'it returns false'. Refute it at one input. -/
def shareTablesWrong : ChangeSpec := { name := "shareTables", fn := fun _ => fun
  | [d1, d2, d3, d4, d5] => { results := [.lit (.bool false)], args := [d1, d2, d3, d4, d5] }
  | _ => none }
def ShareTablesWrongFalsely : Prop := shareTablesRow.holds Tryz.pinned (OpenSpec.ofChange shareTablesWrong)

/-- 'abaculuslaw37.ShareWide': WHATEVER THE INPUT: true; the input reads as it did. -/
def shareWideSpec : ChangeSpec := { name := "shareWide", fn := fun _ => fun
  | [d1, d2] => { results := [.lit (.bool true)], args := [d1, d2] }
  | _ => none }
def shareWideRow : OpenClaim := { program := "ytbjemjopcoajcaagreatdoor", sum := "3e80d86258fe45b2d730aa587c5eed6be5164146487c9adbb0f42e52349aaeac", func := "abaculus/abaculuslaw37.ShareWide", spec := "shareWide", inPlace := ["internal/abi.NoEscape", "internal/bytealg.MakeNoZero", "math/bits.Add64", "math/bits.Sub64"], unfollowed := true, recurses := true, named := ["math/bits.divideError", "math/bits.overflowError", "math/bits.deBruijn64tab", "abaculus/share.factorials"], apart := false, laid := [("math/bits.deBruijn64tab", laid_math_bits_deBruijn64tab), ("abaculus/share.factorials", laid_abaculus_share_factorials)] }
def ShareWideSaid : Prop := shareWideRow.holds Tryz.pinned (OpenSpec.ofChange shareWideSpec)

/-- ITS FALSE NEIGHBOUR: 'it returns false'. Refute it at one input. -/
def shareWideWrong : ChangeSpec := { name := "shareWide", fn := fun _ => fun
  | [d1, d2] => { results := [.lit (.bool false)], args := [d1, d2] }
  | _ => none }
def ShareWideWrongFalsely : Prop := shareWideRow.holds Tryz.pinned (OpenSpec.ofChange shareWideWrong)

/-- 'abaculuslaw37.ShareFair': WHATEVER THE INPUT: true; the input reads as it did. -/
def shareFairSpec : ChangeSpec := { name := "shareFair", fn := fun _ => fun
  | [d1, d2, d3, d4, d5] => { results := [.lit (.bool true)], args := [d1, d2, d3, d4, d5] }
  | _ => none }
def shareFairRow : OpenClaim := { program := "ytbjemjopcoajcaagreatdoor", sum := "3e80d86258fe45b2d730aa587c5eed6be5164146487c9adbb0f42e52349aaeac", func := "abaculus/abaculuslaw37.ShareFair", spec := "shareFair", inPlace := ["internal/abi.NoEscape", "internal/bytealg.MakeNoZero", "math/bits.Add64", "math/bits.Sub64"], named := ["math/bits.divideError", "math/bits.overflowError", "math/bits.deBruijn64tab", "abaculus/share.factorials"], apart := false, laid := [("math/bits.deBruijn64tab", laid_math_bits_deBruijn64tab), ("abaculus/share.factorials", laid_abaculus_share_factorials)] }
def ShareFairSaid : Prop := shareFairRow.holds Tryz.pinned (OpenSpec.ofChange shareFairSpec)

/-- ITS FALSE NEIGHBOUR: 'it returns false'. Refute it at one input. -/
def shareFairWrong : ChangeSpec := { name := "shareFair", fn := fun _ => fun
  | [d1, d2, d3, d4, d5] => { results := [.lit (.bool false)], args := [d1, d2, d3, d4, d5] }
  | _ => none }
def ShareFairWrongFalsely : Prop := shareFairRow.holds Tryz.pinned (OpenSpec.ofChange shareFairWrong)

/-- 'abaculuslaw37.ShareKnown': WHATEVER THE INPUT: true; the input reads as it did. -/
def shareKnownSpec : ChangeSpec := { name := "shareKnown", fn := fun _ => fun
  | [] => { results := [.lit (.bool true)], args := [] }
  | _ => none }
def shareKnownRow : OpenClaim := { program := "ytbjemjopcoajcaagreatdoor", sum := "3e80d86258fe45b2d730aa587c5eed6be5164146487c9adbb0f42e52349aaeac", func := "abaculus/abaculuslaw37.ShareKnown", spec := "shareKnown", inPlace := ["math/bits.Add64", "internal/abi.NoEscape", "internal/bytealg.MakeNoZero", "math/bits.Sub64"], named := ["math/bits.divideError", "math/bits.overflowError", "math/bits.deBruijn64tab", "abaculus/share.factorials"], apart := false, laid := [("math/bits.deBruijn64tab", laid_math_bits_deBruijn64tab), ("abaculus/share.factorials", laid_abaculus_share_factorials)] }
def ShareKnownSaid : Prop := shareKnownRow.holds Tryz.pinned (OpenSpec.ofChange shareKnownSpec)

/-- ITS FALSE NEIGHBOUR: 'it returns false'. Refute it at one input. -/
def shareKnownWrong : ChangeSpec := { name := "shareKnown", fn := fun _ => fun
  | [] => { results := [.lit (.bool false)], args := [] }
  | _ => none }
def ShareKnownWrongFalsely : Prop := shareKnownRow.holds Tryz.pinned (OpenSpec.ofChange shareKnownWrong)

/- THE SECOND FORM. 'bulk': how many values and letters a reading holds, each counted each time it is reached (what is shared counts as often as it is met; a slice's spare places count too). A statement '..UptoSaid' is the law's where the arguments, and the package variables that the reading takes, are together of bulk at most 1048576: NARROWER than '..Said'. Prove '..Said' where nothing that the law and all that it calls make is longer than what came in: it says more and counts as full. Else prove '..UptoSaid'. A law counts once. -/
mutual
def uptoBulk {H : Type} : DataW H → Nat
  | .lit (.string bytes) => bytes.length + 1
  | .lit _ => 1
  | .nil => 1
  | .ptr d => uptoBulk d + 1
  | .slice elems spare => uptoBulkAll elems + uptoBulkAll spare + 1
  | .agg parts => uptoBulkAll parts + 1
  | .iface _ d => uptoBulk d + 1
  | .map entries => uptoBulkEntries entries + 1
  | .held _ => 1
def uptoBulkAll {H : Type} : List (DataW H) → Nat
  | [] => 0
  | d :: r => uptoBulk d + uptoBulkAll r
def uptoBulkEntries {H : Type} : List (Lit × DataW H) → Nat
  | [] => 0
  | x :: r => uptoBulkEntry x + uptoBulkEntries r
def uptoBulkEntry {H : Type} : Lit × DataW H → Nat
  | (.string bytes, d) => bytes.length + uptoBulk d + 1
  | (_, d) => uptoBulk d + 1
 end
def uptoSmall : (H : Type) → List (DataW H) → Bool := fun _ ds => decide (uptoBulkAll ds ≤ 1048576)
def OpenSpec.upto (s : _root_.Go.ChangeSpec) : _root_.Go.OpenSpec := { _root_.Go.OpenSpec.ofChange s with cond := some uptoSmall }

/-- 'abaculuslaw37.ShareMixed', WHERE WHAT IT READS IS OF BULK AT MOST 1048576: true; the input reads as it did. -/
def shareMixedUptoRow : OpenClaim := { program := "ytbjemjopcoajcaagreatdoor", sum := "3e80d86258fe45b2d730aa587c5eed6be5164146487c9adbb0f42e52349aaeac", func := "abaculus/abaculuslaw37.ShareMixed", spec := "shareMixed", inPlace := ["internal/abi.NoEscape", "internal/bytealg.MakeNoZero", "math/bits.Add64", "math/bits.Sub64"], named := ["math/bits.divideError", "math/bits.overflowError", "math/bits.deBruijn64tab", "abaculus/share.factorials"], apart := false, laid := [("math/bits.deBruijn64tab", laid_math_bits_deBruijn64tab), ("abaculus/share.factorials", laid_abaculus_share_factorials)], narrowed := true }
def ShareMixedUptoSaid : Prop := shareMixedUptoRow.holds Tryz.pinned (OpenSpec.upto shareMixedSpec)

/-- 'abaculuslaw37.ShareTwins', WHERE WHAT IT READS IS OF BULK AT MOST 1048576: true; the input reads as it did. -/
def shareTwinsUptoRow : OpenClaim := { program := "ytbjemjopcoajcaagreatdoor", sum := "3e80d86258fe45b2d730aa587c5eed6be5164146487c9adbb0f42e52349aaeac", func := "abaculus/abaculuslaw37.ShareTwins", spec := "shareTwins", inPlace := ["internal/abi.NoEscape", "internal/bytealg.MakeNoZero", "math/bits.Add64", "math/bits.Sub64"], named := ["math/bits.divideError", "math/bits.overflowError", "math/bits.deBruijn64tab", "abaculus/share.factorials"], apart := false, laid := [("math/bits.deBruijn64tab", laid_math_bits_deBruijn64tab), ("abaculus/share.factorials", laid_abaculus_share_factorials)], narrowed := true }
def ShareTwinsUptoSaid : Prop := shareTwinsUptoRow.holds Tryz.pinned (OpenSpec.upto shareTwinsSpec)

/-- 'abaculuslaw37.ShareTables', WHERE WHAT IT READS IS OF BULK AT MOST 1048576: true; the input reads as it did. -/
def shareTablesUptoRow : OpenClaim := { program := "ytbjemjopcoajcaagreatdoor", sum := "3e80d86258fe45b2d730aa587c5eed6be5164146487c9adbb0f42e52349aaeac", func := "abaculus/abaculuslaw37.ShareTables", spec := "shareTables", inPlace := ["internal/abi.NoEscape", "internal/bytealg.MakeNoZero", "math/bits.Add64", "math/bits.Sub64"], recurses := true, named := ["math/bits.divideError", "math/bits.overflowError", "math/bits.deBruijn64tab", "abaculus/share.factorials"], apart := false, laid := [("math/bits.deBruijn64tab", laid_math_bits_deBruijn64tab), ("abaculus/share.factorials", laid_abaculus_share_factorials)], narrowed := true }
def ShareTablesUptoSaid : Prop := shareTablesUptoRow.holds Tryz.pinned (OpenSpec.upto shareTablesSpec)

/-- 'abaculuslaw37.ShareWide', WHERE WHAT IT READS IS OF BULK AT MOST 1048576: true; the input reads as it did. -/
def shareWideUptoRow : OpenClaim := { program := "ytbjemjopcoajcaagreatdoor", sum := "3e80d86258fe45b2d730aa587c5eed6be5164146487c9adbb0f42e52349aaeac", func := "abaculus/abaculuslaw37.ShareWide", spec := "shareWide", inPlace := ["internal/abi.NoEscape", "internal/bytealg.MakeNoZero", "math/bits.Add64", "math/bits.Sub64"], unfollowed := true, recurses := true, named := ["math/bits.divideError", "math/bits.overflowError", "math/bits.deBruijn64tab", "abaculus/share.factorials"], apart := false, laid := [("math/bits.deBruijn64tab", laid_math_bits_deBruijn64tab), ("abaculus/share.factorials", laid_abaculus_share_factorials)], narrowed := true }
def ShareWideUptoSaid : Prop := shareWideUptoRow.holds Tryz.pinned (OpenSpec.upto shareWideSpec)

/-- 'abaculuslaw37.ShareFair', WHERE WHAT IT READS IS OF BULK AT MOST 1048576: true; the input reads as it did. -/
def shareFairUptoRow : OpenClaim := { program := "ytbjemjopcoajcaagreatdoor", sum := "3e80d86258fe45b2d730aa587c5eed6be5164146487c9adbb0f42e52349aaeac", func := "abaculus/abaculuslaw37.ShareFair", spec := "shareFair", inPlace := ["internal/abi.NoEscape", "internal/bytealg.MakeNoZero", "math/bits.Add64", "math/bits.Sub64"], named := ["math/bits.divideError", "math/bits.overflowError", "math/bits.deBruijn64tab", "abaculus/share.factorials"], apart := false, laid := [("math/bits.deBruijn64tab", laid_math_bits_deBruijn64tab), ("abaculus/share.factorials", laid_abaculus_share_factorials)], narrowed := true }
def ShareFairUptoSaid : Prop := shareFairUptoRow.holds Tryz.pinned (OpenSpec.upto shareFairSpec)

/-- 'abaculuslaw37.ShareKnown', WHERE WHAT IT READS IS OF BULK AT MOST 1048576: true; the input reads as it did. -/
def shareKnownUptoRow : OpenClaim := { program := "ytbjemjopcoajcaagreatdoor", sum := "3e80d86258fe45b2d730aa587c5eed6be5164146487c9adbb0f42e52349aaeac", func := "abaculus/abaculuslaw37.ShareKnown", spec := "shareKnown", inPlace := ["math/bits.Add64", "internal/abi.NoEscape", "internal/bytealg.MakeNoZero", "math/bits.Sub64"], named := ["math/bits.divideError", "math/bits.overflowError", "math/bits.deBruijn64tab", "abaculus/share.factorials"], apart := false, laid := [("math/bits.deBruijn64tab", laid_math_bits_deBruijn64tab), ("abaculus/share.factorials", laid_abaculus_share_factorials)], narrowed := true }
def ShareKnownUptoSaid : Prop := shareKnownUptoRow.holds Tryz.pinned (OpenSpec.upto shareKnownSpec)

end Rows
end Go.Proofs.YtbjemjopcoajcaaGreatDoor
