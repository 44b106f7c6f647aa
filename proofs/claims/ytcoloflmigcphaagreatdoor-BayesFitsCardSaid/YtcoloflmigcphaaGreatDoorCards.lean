/-
  DERIVED. GIVEN WITH THE SEED: THE CARDS: each row of YtcoloflmigcphaaGreatDoorRows.lean that lists a variable, with what it lists TIED to the program's text (the seventh form; the later family's looks); each row that meets fmt, with fmt's text TOLD by the authors' own Lean function (tested against real Go, not proved from fmt's source: count such statements apart). THE CARD IS WHAT COUNTS. Prove the row's statement (the work); the ties are given (YtcoloflmigcphaaGreatDoorTie.lean); close each card by the builder's one call (the guide's Derived/Test/ToyasCard.lean, 'card_holds'). Laid BY PROGRAM, IN A SANDBOX (cutbox-door.mjs). By AI agents, Wed Nov 11 2026. No macro, syntax, notation, axiom, sorry.
-/
import Derived.Test.YtcoloflmigcphaaGreatDoorRows
import GoSem.ClaimSeven
namespace Go.Proofs.YtcoloflmigcphaaGreatDoor
namespace Rows

/-- THE TIED CARD OF 'abaculuslaw25.BayesChecks'. -/
def bayesChecksCard : Claim7 := { stood := { row := bayesChecksRow, standIns := [], harness := (true, "8306c960d6b63328681a2d2fdafaf1af494ffdf04dc0c685089a26337ca8f310"), looks := false }, kinds := [], alts := [], laidByText := true, laidKinds := [.data], laidTests := true, laidLooks := .later }
def BayesChecksCardSaid : Prop := Claim7.holds Tryz.pinned (.plain (OpenSpec.ofChange bayesChecksSpec)) bayesChecksCard

/-- THE TIED CARD OF 'abaculuslaw25.BayesSum'. -/
def bayesSumCard : Claim7 := { stood := { row := bayesSumRow, standIns := [], harness := (true, "8306c960d6b63328681a2d2fdafaf1af494ffdf04dc0c685089a26337ca8f310"), looks := false }, kinds := [], alts := [], laidByText := true, laidKinds := [.data], laidTests := true, laidLooks := .later }
def BayesSumCardSaid : Prop := Claim7.holds Tryz.pinned (.plain (OpenSpec.ofChange bayesSumSpec)) bayesSumCard

/-- THE TIED CARD OF 'abaculuslaw25.BayesStays'. -/
def bayesStaysCard : Claim7 := { stood := { row := bayesStaysRow, standIns := [], harness := (true, "8306c960d6b63328681a2d2fdafaf1af494ffdf04dc0c685089a26337ca8f310"), looks := false }, kinds := [], alts := [], laidByText := true, laidKinds := [.data], laidTests := true, laidLooks := .later }
def BayesStaysCardSaid : Prop := Claim7.holds Tryz.pinned (.plain (OpenSpec.ofChange bayesStaysSpec)) bayesStaysCard

/-- THE TIED CARD OF 'abaculuslaw25.BayesTeaches'. -/
def bayesTeachesCard : Claim7 := { stood := { row := bayesTeachesRow, standIns := [], harness := (true, "8306c960d6b63328681a2d2fdafaf1af494ffdf04dc0c685089a26337ca8f310"), looks := false }, kinds := [], alts := [], laidByText := true, laidKinds := [.data], laidTests := true, laidLooks := .later }
def BayesTeachesCardSaid : Prop := Claim7.holds Tryz.pinned (.plain (OpenSpec.ofChange bayesTeachesSpec)) bayesTeachesCard

/-- THE TIED CARD OF 'abaculuslaw25.BayesFits'. -/
def bayesFitsCard : Claim7 := { stood := { row := bayesFitsRow, standIns := [], harness := (true, "8306c960d6b63328681a2d2fdafaf1af494ffdf04dc0c685089a26337ca8f310"), looks := false }, kinds := [], alts := [], laidByText := true, laidKinds := [.data], laidTests := true, laidLooks := .later }
def BayesFitsCardSaid : Prop := Claim7.holds Tryz.pinned (.plain (OpenSpec.ofChange bayesFitsSpec)) bayesFitsCard

/-- THE TIED CARD OF 'abaculuslaw25.BayesChances'. -/
def bayesChancesCard : Claim7 := { stood := { row := bayesChancesRow, standIns := [], harness := (true, "8306c960d6b63328681a2d2fdafaf1af494ffdf04dc0c685089a26337ca8f310"), looks := false }, kinds := [], alts := [], laidByText := true, laidKinds := [.data], laidTests := true, laidLooks := .later }
def BayesChancesCardSaid : Prop := Claim7.holds Tryz.pinned (.plain (OpenSpec.ofChange bayesChancesSpec)) bayesChancesCard

/-- THE TIED CARD OF 'abaculuslaw25.BayesLacks'. -/
def bayesLacksCard : Claim7 := { stood := { row := bayesLacksRow, standIns := [], harness := (true, "8306c960d6b63328681a2d2fdafaf1af494ffdf04dc0c685089a26337ca8f310"), looks := false }, kinds := [], alts := [], laidByText := true, laidKinds := [.data], laidTests := true, laidLooks := .later }
def BayesLacksCardSaid : Prop := Claim7.holds Tryz.pinned (.plain (OpenSpec.ofChange bayesLacksSpec)) bayesLacksCard

/-- THE TIED CARD OF 'abaculuslaw25.BayesKnown'. -/
def bayesKnownCard : Claim7 := { stood := { row := bayesKnownRow, standIns := [], harness := (true, "8306c960d6b63328681a2d2fdafaf1af494ffdf04dc0c685089a26337ca8f310"), looks := false }, kinds := [], alts := [], laidByText := true, laidKinds := [.data], laidTests := true, laidLooks := .later }
def BayesKnownCardSaid : Prop := Claim7.holds Tryz.pinned (.plain (OpenSpec.ofChange bayesKnownSpec)) bayesKnownCard

/-- THE TIED CARD OF 'abaculuslaw25.BayesOrder'. -/
def bayesOrderCard : Claim7 := { stood := { row := bayesOrderRow, standIns := [], harness := (true, "8306c960d6b63328681a2d2fdafaf1af494ffdf04dc0c685089a26337ca8f310"), looks := false }, kinds := [], alts := [], laidByText := true, laidKinds := [.data], laidTests := true, laidLooks := .later }
def BayesOrderCardSaid : Prop := Claim7.holds Tryz.pinned (.plain (OpenSpec.ofChange bayesOrderSpec)) bayesOrderCard

/-- THE SECOND FORM's CARD OF 'abaculuslaw25.BayesChecks'. -/
def bayesChecksUptoCard : Claim7 := { stood := { row := bayesChecksUptoRow, standIns := [], harness := (true, "8306c960d6b63328681a2d2fdafaf1af494ffdf04dc0c685089a26337ca8f310"), looks := false }, kinds := [], alts := [], laidByText := true, laidKinds := [.data], laidTests := true, laidLooks := .later }
def BayesChecksUptoCardSaid : Prop := Claim7.holds Tryz.pinned (.plain (OpenSpec.upto bayesChecksSpec)) bayesChecksUptoCard

/-- THE SECOND FORM's CARD OF 'abaculuslaw25.BayesSum'. -/
def bayesSumUptoCard : Claim7 := { stood := { row := bayesSumUptoRow, standIns := [], harness := (true, "8306c960d6b63328681a2d2fdafaf1af494ffdf04dc0c685089a26337ca8f310"), looks := false }, kinds := [], alts := [], laidByText := true, laidKinds := [.data], laidTests := true, laidLooks := .later }
def BayesSumUptoCardSaid : Prop := Claim7.holds Tryz.pinned (.plain (OpenSpec.upto bayesSumSpec)) bayesSumUptoCard

/-- THE SECOND FORM's CARD OF 'abaculuslaw25.BayesStays'. -/
def bayesStaysUptoCard : Claim7 := { stood := { row := bayesStaysUptoRow, standIns := [], harness := (true, "8306c960d6b63328681a2d2fdafaf1af494ffdf04dc0c685089a26337ca8f310"), looks := false }, kinds := [], alts := [], laidByText := true, laidKinds := [.data], laidTests := true, laidLooks := .later }
def BayesStaysUptoCardSaid : Prop := Claim7.holds Tryz.pinned (.plain (OpenSpec.upto bayesStaysSpec)) bayesStaysUptoCard

/-- THE SECOND FORM's CARD OF 'abaculuslaw25.BayesTeaches'. -/
def bayesTeachesUptoCard : Claim7 := { stood := { row := bayesTeachesUptoRow, standIns := [], harness := (true, "8306c960d6b63328681a2d2fdafaf1af494ffdf04dc0c685089a26337ca8f310"), looks := false }, kinds := [], alts := [], laidByText := true, laidKinds := [.data], laidTests := true, laidLooks := .later }
def BayesTeachesUptoCardSaid : Prop := Claim7.holds Tryz.pinned (.plain (OpenSpec.upto bayesTeachesSpec)) bayesTeachesUptoCard

/-- THE SECOND FORM's CARD OF 'abaculuslaw25.BayesFits'. -/
def bayesFitsUptoCard : Claim7 := { stood := { row := bayesFitsUptoRow, standIns := [], harness := (true, "8306c960d6b63328681a2d2fdafaf1af494ffdf04dc0c685089a26337ca8f310"), looks := false }, kinds := [], alts := [], laidByText := true, laidKinds := [.data], laidTests := true, laidLooks := .later }
def BayesFitsUptoCardSaid : Prop := Claim7.holds Tryz.pinned (.plain (OpenSpec.upto bayesFitsSpec)) bayesFitsUptoCard

/-- THE SECOND FORM's CARD OF 'abaculuslaw25.BayesChances'. -/
def bayesChancesUptoCard : Claim7 := { stood := { row := bayesChancesUptoRow, standIns := [], harness := (true, "8306c960d6b63328681a2d2fdafaf1af494ffdf04dc0c685089a26337ca8f310"), looks := false }, kinds := [], alts := [], laidByText := true, laidKinds := [.data], laidTests := true, laidLooks := .later }
def BayesChancesUptoCardSaid : Prop := Claim7.holds Tryz.pinned (.plain (OpenSpec.upto bayesChancesSpec)) bayesChancesUptoCard

/-- THE SECOND FORM's CARD OF 'abaculuslaw25.BayesLacks'. -/
def bayesLacksUptoCard : Claim7 := { stood := { row := bayesLacksUptoRow, standIns := [], harness := (true, "8306c960d6b63328681a2d2fdafaf1af494ffdf04dc0c685089a26337ca8f310"), looks := false }, kinds := [], alts := [], laidByText := true, laidKinds := [.data], laidTests := true, laidLooks := .later }
def BayesLacksUptoCardSaid : Prop := Claim7.holds Tryz.pinned (.plain (OpenSpec.upto bayesLacksSpec)) bayesLacksUptoCard

/-- THE SECOND FORM's CARD OF 'abaculuslaw25.BayesKnown'. -/
def bayesKnownUptoCard : Claim7 := { stood := { row := bayesKnownUptoRow, standIns := [], harness := (true, "8306c960d6b63328681a2d2fdafaf1af494ffdf04dc0c685089a26337ca8f310"), looks := false }, kinds := [], alts := [], laidByText := true, laidKinds := [.data], laidTests := true, laidLooks := .later }
def BayesKnownUptoCardSaid : Prop := Claim7.holds Tryz.pinned (.plain (OpenSpec.upto bayesKnownSpec)) bayesKnownUptoCard

/-- THE SECOND FORM's CARD OF 'abaculuslaw25.BayesOrder'. -/
def bayesOrderUptoCard : Claim7 := { stood := { row := bayesOrderUptoRow, standIns := [], harness := (true, "8306c960d6b63328681a2d2fdafaf1af494ffdf04dc0c685089a26337ca8f310"), looks := false }, kinds := [], alts := [], laidByText := true, laidKinds := [.data], laidTests := true, laidLooks := .later }
def BayesOrderUptoCardSaid : Prop := Claim7.holds Tryz.pinned (.plain (OpenSpec.upto bayesOrderSpec)) bayesOrderUptoCard
end Rows
end Go.Proofs.YtcoloflmigcphaaGreatDoor
