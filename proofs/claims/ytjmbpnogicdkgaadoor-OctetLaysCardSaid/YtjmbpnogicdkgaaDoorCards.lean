/-
  DERIVED. GIVEN WITH THE SEED: THE CARDS: each row of YtjmbpnogicdkgaaDoorRows.lean that lists a variable, with what it lists TIED to the program's text (the seventh form; the later family's looks); each row that meets fmt, with fmt's text TOLD by the authors' own Lean function (tested against real Go, not proved from fmt's source: count such statements apart). THE CARD IS WHAT COUNTS. Prove the row's statement (the work); the ties are given (YtjmbpnogicdkgaaDoorTie.lean); close each card by the builder's one call (the guide's Derived/Test/ToyasCard.lean, 'card_holds'). Laid BY PROGRAM, IN A SANDBOX (cutbox-door.mjs). By AI agents, Wed Nov 11 2026. No macro, syntax, notation, axiom, sorry.
-/
import Derived.Test.YtjmbpnogicdkgaaDoorRows
import GoSem.ClaimSeven
namespace Go.Proofs.YtjmbpnogicdkgaaDoor
namespace Rows

/-- THE TIED CARD OF 'abaculuslaw4.OctetLays'. -/
def octetLaysCard : Claim7 := { stood := { row := octetLaysRow, standIns := [], harness := (true, "177e66add01bb3c45ad03e9d05336e4953bb88b148078ab68c62103e35663e50"), looks := false }, kinds := [], alts := [], laidByText := true, laidKinds := [.data], laidTests := true, laidLooks := .later }
def OctetLaysCardSaid : Prop := Claim7.holds Tryd.pinned (.plain (OpenSpec.ofChange octetLaysSpec)) octetLaysCard

/-- THE TIED CARD OF 'abaculuslaw5.DiceEven'. -/
def diceEvenCard : Claim7 := { stood := { row := diceEvenRow, standIns := [], harness := (true, "177e66add01bb3c45ad03e9d05336e4953bb88b148078ab68c62103e35663e50"), looks := false }, kinds := [], alts := [], laidByText := true, laidKinds := [.data], laidTests := true, laidLooks := .later }
def DiceEvenCardSaid : Prop := Claim7.holds Tryd.pinned (.plain (OpenSpec.ofChange diceEvenSpec)) diceEvenCard

/-- THE TIED CARD OF 'abaculuslaw5.DiceKnown'. -/
def diceKnownCard : Claim7 := { stood := { row := diceKnownRow, standIns := [], harness := (true, "177e66add01bb3c45ad03e9d05336e4953bb88b148078ab68c62103e35663e50"), looks := false }, kinds := [], alts := [], laidByText := true, laidKinds := [.data], laidTests := true, laidLooks := .later }
def DiceKnownCardSaid : Prop := Claim7.holds Tryd.pinned (.plain (OpenSpec.ofChange diceKnownSpec)) diceKnownCard

/-- THE SECOND FORM's CARD OF 'abaculuslaw4.OctetLays'. -/
def octetLaysUptoCard : Claim7 := { stood := { row := octetLaysUptoRow, standIns := [], harness := (true, "177e66add01bb3c45ad03e9d05336e4953bb88b148078ab68c62103e35663e50"), looks := false }, kinds := [], alts := [], laidByText := true, laidKinds := [.data], laidTests := true, laidLooks := .later }
def OctetLaysUptoCardSaid : Prop := Claim7.holds Tryd.pinned (.plain (OpenSpec.upto octetLaysSpec)) octetLaysUptoCard

/-- THE SECOND FORM's CARD OF 'abaculuslaw5.DiceEven'. -/
def diceEvenUptoCard : Claim7 := { stood := { row := diceEvenUptoRow, standIns := [], harness := (true, "177e66add01bb3c45ad03e9d05336e4953bb88b148078ab68c62103e35663e50"), looks := false }, kinds := [], alts := [], laidByText := true, laidKinds := [.data], laidTests := true, laidLooks := .later }
def DiceEvenUptoCardSaid : Prop := Claim7.holds Tryd.pinned (.plain (OpenSpec.upto diceEvenSpec)) diceEvenUptoCard

/-- THE SECOND FORM's CARD OF 'abaculuslaw5.DiceKnown'. -/
def diceKnownUptoCard : Claim7 := { stood := { row := diceKnownUptoRow, standIns := [], harness := (true, "177e66add01bb3c45ad03e9d05336e4953bb88b148078ab68c62103e35663e50"), looks := false }, kinds := [], alts := [], laidByText := true, laidKinds := [.data], laidTests := true, laidLooks := .later }
def DiceKnownUptoCardSaid : Prop := Claim7.holds Tryd.pinned (.plain (OpenSpec.upto diceKnownSpec)) diceKnownUptoCard
end Rows
end Go.Proofs.YtjmbpnogicdkgaaDoor
