/-
  DERIVED. GIVEN WITH THE SEED: THE CARDS: each row of YtbjemjopcoajcaaGreatDoorRows.lean that lists a variable, with what it lists TIED to the program's text (the seventh form; the later family's looks); each row that meets fmt, with fmt's text TOLD by the authors' own Lean function (tested against real Go, not proved from fmt's source: count such statements apart). THE CARD IS WHAT COUNTS. Prove the row's statement (the work); the ties are given (YtbjemjopcoajcaaGreatDoorTie.lean); close each card by the builder's one call (the guide's Derived/Test/ToyasCard.lean, 'card_holds'). Laid BY PROGRAM, IN A SANDBOX (cutbox-door.mjs). By AI agents, Wed Nov 11 2026. No macro, syntax, notation, axiom, sorry.
-/
import Derived.Test.YtbjemjopcoajcaaGreatDoorRows
import GoSem.ClaimSeven
namespace Go.Proofs.YtbjemjopcoajcaaGreatDoor
namespace Rows

/-- THE TIED CARD OF 'abaculuslaw37.ShareMixed'. -/
def shareMixedCard : Claim7 := { stood := { row := shareMixedRow, standIns := [], harness := (true, "4019518b8bc368f5e6278fca1b0bd45c4849770e43bdf09bf969dac176cdf344"), looks := false }, kinds := [], alts := [], laidByText := true, laidKinds := [.data, .data], laidTests := true, laidLooks := .later }
def ShareMixedCardSaid : Prop := Claim7.holds Tryz.pinned (.plain (OpenSpec.ofChange shareMixedSpec)) shareMixedCard

/-- THE TIED CARD OF 'abaculuslaw37.ShareTwins'. -/
def shareTwinsCard : Claim7 := { stood := { row := shareTwinsRow, standIns := [], harness := (true, "4019518b8bc368f5e6278fca1b0bd45c4849770e43bdf09bf969dac176cdf344"), looks := false }, kinds := [], alts := [], laidByText := true, laidKinds := [.data, .data], laidTests := true, laidLooks := .later }
def ShareTwinsCardSaid : Prop := Claim7.holds Tryz.pinned (.plain (OpenSpec.ofChange shareTwinsSpec)) shareTwinsCard

/-- THE TIED CARD OF 'abaculuslaw37.ShareTables'. -/
def shareTablesCard : Claim7 := { stood := { row := shareTablesRow, standIns := [], harness := (true, "4019518b8bc368f5e6278fca1b0bd45c4849770e43bdf09bf969dac176cdf344"), looks := false }, kinds := [], alts := [], laidByText := true, laidKinds := [.data, .data], laidTests := true, laidLooks := .later }
def ShareTablesCardSaid : Prop := Claim7.holds Tryz.pinned (.plain (OpenSpec.ofChange shareTablesSpec)) shareTablesCard

/-- THE TIED CARD OF 'abaculuslaw37.ShareWide'. -/
def shareWideCard : Claim7 := { stood := { row := shareWideRow, standIns := [], harness := (true, "4019518b8bc368f5e6278fca1b0bd45c4849770e43bdf09bf969dac176cdf344"), looks := false }, kinds := [], alts := [], laidByText := true, laidKinds := [.data, .data], laidTests := true, laidLooks := .later }
def ShareWideCardSaid : Prop := Claim7.holds Tryz.pinned (.plain (OpenSpec.ofChange shareWideSpec)) shareWideCard

/-- THE TIED CARD OF 'abaculuslaw37.ShareFair'. -/
def shareFairCard : Claim7 := { stood := { row := shareFairRow, standIns := [], harness := (true, "4019518b8bc368f5e6278fca1b0bd45c4849770e43bdf09bf969dac176cdf344"), looks := false }, kinds := [], alts := [], laidByText := true, laidKinds := [.data, .data], laidTests := true, laidLooks := .later }
def ShareFairCardSaid : Prop := Claim7.holds Tryz.pinned (.plain (OpenSpec.ofChange shareFairSpec)) shareFairCard

/-- THE TIED CARD OF 'abaculuslaw37.ShareKnown'. -/
def shareKnownCard : Claim7 := { stood := { row := shareKnownRow, standIns := [], harness := (true, "4019518b8bc368f5e6278fca1b0bd45c4849770e43bdf09bf969dac176cdf344"), looks := false }, kinds := [], alts := [], laidByText := true, laidKinds := [.data, .data], laidTests := true, laidLooks := .later }
def ShareKnownCardSaid : Prop := Claim7.holds Tryz.pinned (.plain (OpenSpec.ofChange shareKnownSpec)) shareKnownCard

/-- THE SECOND FORM's CARD OF 'abaculuslaw37.ShareMixed'. -/
def shareMixedUptoCard : Claim7 := { stood := { row := shareMixedUptoRow, standIns := [], harness := (true, "4019518b8bc368f5e6278fca1b0bd45c4849770e43bdf09bf969dac176cdf344"), looks := false }, kinds := [], alts := [], laidByText := true, laidKinds := [.data, .data], laidTests := true, laidLooks := .later }
def ShareMixedUptoCardSaid : Prop := Claim7.holds Tryz.pinned (.plain (OpenSpec.upto shareMixedSpec)) shareMixedUptoCard

/-- THE SECOND FORM's CARD OF 'abaculuslaw37.ShareTwins'. -/
def shareTwinsUptoCard : Claim7 := { stood := { row := shareTwinsUptoRow, standIns := [], harness := (true, "4019518b8bc368f5e6278fca1b0bd45c4849770e43bdf09bf969dac176cdf344"), looks := false }, kinds := [], alts := [], laidByText := true, laidKinds := [.data, .data], laidTests := true, laidLooks := .later }
def ShareTwinsUptoCardSaid : Prop := Claim7.holds Tryz.pinned (.plain (OpenSpec.upto shareTwinsSpec)) shareTwinsUptoCard

/-- THE SECOND FORM's CARD OF 'abaculuslaw37.ShareTables'. -/
def shareTablesUptoCard : Claim7 := { stood := { row := shareTablesUptoRow, standIns := [], harness := (true, "4019518b8bc368f5e6278fca1b0bd45c4849770e43bdf09bf969dac176cdf344"), looks := false }, kinds := [], alts := [], laidByText := true, laidKinds := [.data, .data], laidTests := true, laidLooks := .later }
def ShareTablesUptoCardSaid : Prop := Claim7.holds Tryz.pinned (.plain (OpenSpec.upto shareTablesSpec)) shareTablesUptoCard

/-- THE SECOND FORM's CARD OF 'abaculuslaw37.ShareWide'. -/
def shareWideUptoCard : Claim7 := { stood := { row := shareWideUptoRow, standIns := [], harness := (true, "4019518b8bc368f5e6278fca1b0bd45c4849770e43bdf09bf969dac176cdf344"), looks := false }, kinds := [], alts := [], laidByText := true, laidKinds := [.data, .data], laidTests := true, laidLooks := .later }
def ShareWideUptoCardSaid : Prop := Claim7.holds Tryz.pinned (.plain (OpenSpec.upto shareWideSpec)) shareWideUptoCard

/-- THE SECOND FORM's CARD OF 'abaculuslaw37.ShareFair'. -/
def shareFairUptoCard : Claim7 := { stood := { row := shareFairUptoRow, standIns := [], harness := (true, "4019518b8bc368f5e6278fca1b0bd45c4849770e43bdf09bf969dac176cdf344"), looks := false }, kinds := [], alts := [], laidByText := true, laidKinds := [.data, .data], laidTests := true, laidLooks := .later }
def ShareFairUptoCardSaid : Prop := Claim7.holds Tryz.pinned (.plain (OpenSpec.upto shareFairSpec)) shareFairUptoCard

/-- THE SECOND FORM's CARD OF 'abaculuslaw37.ShareKnown'. -/
def shareKnownUptoCard : Claim7 := { stood := { row := shareKnownUptoRow, standIns := [], harness := (true, "4019518b8bc368f5e6278fca1b0bd45c4849770e43bdf09bf969dac176cdf344"), looks := false }, kinds := [], alts := [], laidByText := true, laidKinds := [.data, .data], laidTests := true, laidLooks := .later }
def ShareKnownUptoCardSaid : Prop := Claim7.holds Tryz.pinned (.plain (OpenSpec.upto shareKnownSpec)) shareKnownUptoCard
end Rows
end Go.Proofs.YtbjemjopcoajcaaGreatDoor
