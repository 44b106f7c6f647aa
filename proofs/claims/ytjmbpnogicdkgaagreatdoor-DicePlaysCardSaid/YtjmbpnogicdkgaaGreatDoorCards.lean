/-
  DERIVED. GIVEN WITH THE SEED: THE CARDS: each row of YtjmbpnogicdkgaaGreatDoorRows.lean that lists a variable, with what it lists TIED to the program's text (the seventh form; the later family's looks); each row that meets fmt, with fmt's text TOLD by the authors' own Lean function (tested against real Go, not proved from fmt's source: count such statements apart). THE CARD IS WHAT COUNTS. Prove the row's statement (the work); the ties are given (YtjmbpnogicdkgaaGreatDoorTie.lean); close each card by the builder's one call (the guide's Derived/Test/ToyasCard.lean, 'card_holds'). Laid BY PROGRAM, IN A SANDBOX (cutbox-door.mjs). By AI agents, Wed Nov 11 2026. No macro, syntax, notation, axiom, sorry.
-/
import Derived.Test.YtjmbpnogicdkgaaGreatDoorRows
import GoSem.ClaimSeven
namespace Go.Proofs.YtjmbpnogicdkgaaGreatDoor
namespace Rows

/-- THE TIED CARD OF 'abaculuslaw4.OctetOne'. -/
def octetOneCard : Claim7 := { stood := { row := octetOneRow, standIns := [], harness := (true, "495b677aa5be2e1a91ec796e989ded384abac5421d3164f23f036749cf8edaea"), looks := false }, kinds := [], alts := [], laidByText := true, laidKinds := [.data], laidTests := true, laidLooks := .later }
def OctetOneCardSaid : Prop := Claim7.holds Tryz.pinned (.plain (OpenSpec.ofChange octetOneSpec)) octetOneCard

/-- THE TIED CARD OF 'abaculuslaw4.OctetTakes'. -/
def octetTakesCard : Claim7 := { stood := { row := octetTakesRow, standIns := [], harness := (true, "495b677aa5be2e1a91ec796e989ded384abac5421d3164f23f036749cf8edaea"), looks := false }, kinds := [], alts := [], laidByText := true, laidKinds := [.data], laidTests := true, laidLooks := .later }
def OctetTakesCardSaid : Prop := Claim7.holds Tryz.pinned (.plain (OpenSpec.ofChange octetTakesSpec)) octetTakesCard

/-- THE TIED CARD OF 'abaculuslaw5.DicePicks'. -/
def dicePicksCard : Claim7 := { stood := { row := dicePicksRow, standIns := [], harness := (true, "495b677aa5be2e1a91ec796e989ded384abac5421d3164f23f036749cf8edaea"), looks := false }, kinds := [], alts := [], laidByText := true, laidKinds := [.data], laidTests := true, laidLooks := .later }
def DicePicksCardSaid : Prop := Claim7.holds Tryz.pinned (.plain (OpenSpec.ofChange dicePicksSpec)) dicePicksCard

/-- THE TIED CARD OF 'abaculuslaw4.OctetBack'. -/
def octetBackCard : Claim7 := { stood := { row := octetBackRow, standIns := [], harness := (true, "495b677aa5be2e1a91ec796e989ded384abac5421d3164f23f036749cf8edaea"), looks := false }, kinds := [], alts := [], laidByText := true, laidKinds := [.data], laidTests := true, laidLooks := .later }
def OctetBackCardSaid : Prop := Claim7.holds Tryz.pinned (.plain (OpenSpec.ofChange octetBackSpec)) octetBackCard

/-- THE TIED CARD OF 'abaculuslaw5.DicePlays'. -/
def dicePlaysCard : Claim7 := { stood := { row := dicePlaysRow, standIns := [], harness := (true, "495b677aa5be2e1a91ec796e989ded384abac5421d3164f23f036749cf8edaea"), looks := false }, kinds := [], alts := [], laidByText := true, laidKinds := [.data], laidTests := true, laidLooks := .later }
def DicePlaysCardSaid : Prop := Claim7.holds Tryz.pinned (.plain (OpenSpec.ofChange dicePlaysSpec)) dicePlaysCard

/-- THE SECOND FORM's CARD OF 'abaculuslaw4.OctetOne'. -/
def octetOneUptoCard : Claim7 := { stood := { row := octetOneUptoRow, standIns := [], harness := (true, "495b677aa5be2e1a91ec796e989ded384abac5421d3164f23f036749cf8edaea"), looks := false }, kinds := [], alts := [], laidByText := true, laidKinds := [.data], laidTests := true, laidLooks := .later }
def OctetOneUptoCardSaid : Prop := Claim7.holds Tryz.pinned (.plain (OpenSpec.upto octetOneSpec)) octetOneUptoCard

/-- THE SECOND FORM's CARD OF 'abaculuslaw4.OctetTakes'. -/
def octetTakesUptoCard : Claim7 := { stood := { row := octetTakesUptoRow, standIns := [], harness := (true, "495b677aa5be2e1a91ec796e989ded384abac5421d3164f23f036749cf8edaea"), looks := false }, kinds := [], alts := [], laidByText := true, laidKinds := [.data], laidTests := true, laidLooks := .later }
def OctetTakesUptoCardSaid : Prop := Claim7.holds Tryz.pinned (.plain (OpenSpec.upto octetTakesSpec)) octetTakesUptoCard

/-- THE SECOND FORM's CARD OF 'abaculuslaw5.DicePicks'. -/
def dicePicksUptoCard : Claim7 := { stood := { row := dicePicksUptoRow, standIns := [], harness := (true, "495b677aa5be2e1a91ec796e989ded384abac5421d3164f23f036749cf8edaea"), looks := false }, kinds := [], alts := [], laidByText := true, laidKinds := [.data], laidTests := true, laidLooks := .later }
def DicePicksUptoCardSaid : Prop := Claim7.holds Tryz.pinned (.plain (OpenSpec.upto dicePicksSpec)) dicePicksUptoCard

/-- THE SECOND FORM's CARD OF 'abaculuslaw4.OctetBack'. -/
def octetBackUptoCard : Claim7 := { stood := { row := octetBackUptoRow, standIns := [], harness := (true, "495b677aa5be2e1a91ec796e989ded384abac5421d3164f23f036749cf8edaea"), looks := false }, kinds := [], alts := [], laidByText := true, laidKinds := [.data], laidTests := true, laidLooks := .later }
def OctetBackUptoCardSaid : Prop := Claim7.holds Tryz.pinned (.plain (OpenSpec.upto octetBackSpec)) octetBackUptoCard

/-- THE SECOND FORM's CARD OF 'abaculuslaw5.DicePlays'. -/
def dicePlaysUptoCard : Claim7 := { stood := { row := dicePlaysUptoRow, standIns := [], harness := (true, "495b677aa5be2e1a91ec796e989ded384abac5421d3164f23f036749cf8edaea"), looks := false }, kinds := [], alts := [], laidByText := true, laidKinds := [.data], laidTests := true, laidLooks := .later }
def DicePlaysUptoCardSaid : Prop := Claim7.holds Tryz.pinned (.plain (OpenSpec.upto dicePlaysSpec)) dicePlaysUptoCard
end Rows
end Go.Proofs.YtjmbpnogicdkgaaGreatDoor
