/-
  DERIVED. GIVEN WITH THE SEED: THE CARDS: each row of YtecnjlcfoobepaaGreatDoorRows.lean that lists a variable, with what it lists TIED to the program's text (the seventh form; the later family's looks); each row that meets fmt, with fmt's text TOLD by the authors' own Lean function (tested against real Go, not proved from fmt's source: count such statements apart). THE CARD IS WHAT COUNTS. Prove the row's statement (the work); the ties are given (YtecnjlcfoobepaaGreatDoorTie.lean); close each card by the builder's one call (the guide's Derived/Test/ToyasCard.lean, 'card_holds'). Laid BY PROGRAM, IN A SANDBOX (cutbox-door.mjs). By AI agents, Wed Nov 11 2026. No macro, syntax, notation, axiom, sorry.
-/
import Derived.Test.YtecnjlcfoobepaaGreatDoorRows
import GoSem.ClaimSeven
namespace Go.Proofs.YtecnjlcfoobepaaGreatDoor
namespace Rows

/-- THE TIED CARD OF 'abaculuslaw24.LinkFars'. -/
def linkFarsCard : Claim7 := { stood := { row := linkFarsRow, standIns := [], harness := (true, "f277ac30e1e4e5334ae1f89d84c54bfa45b52d6cec5dcadeda60ecbacdc107a5"), looks := false }, kinds := [], alts := [], laidByText := true, laidKinds := [.data], laidTests := true, laidLooks := .later }
def LinkFarsCardSaid : Prop := Claim7.holds Tryz.pinned (.plain (OpenSpec.ofChange linkFarsSpec)) linkFarsCard

/-- THE TIED CARD OF 'abaculuslaw24.LinkBuilds'. -/
def linkBuildsCard : Claim7 := { stood := { row := linkBuildsRow, standIns := [], harness := (true, "f277ac30e1e4e5334ae1f89d84c54bfa45b52d6cec5dcadeda60ecbacdc107a5"), looks := false }, kinds := [], alts := [], laidByText := true, laidKinds := [.data], laidTests := true, laidLooks := .later }
def LinkBuildsCardSaid : Prop := Claim7.holds Tryz.pinned (.plain (OpenSpec.ofChange linkBuildsSpec)) linkBuildsCard

/-- THE TIED CARD OF 'abaculuslaw24.LinkRises'. -/
def linkRisesCard : Claim7 := { stood := { row := linkRisesRow, standIns := [], harness := (true, "f277ac30e1e4e5334ae1f89d84c54bfa45b52d6cec5dcadeda60ecbacdc107a5"), looks := false }, kinds := [], alts := [], laidByText := true, laidKinds := [.data], laidTests := true, laidLooks := .later }
def LinkRisesCardSaid : Prop := Claim7.holds Tryz.pinned (.plain (OpenSpec.ofChange linkRisesSpec)) linkRisesCard

/-- THE TIED CARD OF 'abaculuslaw24.LinkThree'. -/
def linkThreeCard : Claim7 := { stood := { row := linkThreeRow, standIns := [], harness := (true, "f277ac30e1e4e5334ae1f89d84c54bfa45b52d6cec5dcadeda60ecbacdc107a5"), looks := false }, kinds := [], alts := [], laidByText := true, laidKinds := [.data], laidTests := true, laidLooks := .later }
def LinkThreeCardSaid : Prop := Claim7.holds Tryz.pinned (.plain (OpenSpec.ofChange linkThreeSpec)) linkThreeCard

/-- THE TIED CARD OF 'abaculuslaw24.LinkSingle'. -/
def linkSingleCard : Claim7 := { stood := { row := linkSingleRow, standIns := [], harness := (true, "f277ac30e1e4e5334ae1f89d84c54bfa45b52d6cec5dcadeda60ecbacdc107a5"), looks := false }, kinds := [], alts := [], laidByText := true, laidKinds := [.data], laidTests := true, laidLooks := .later }
def LinkSingleCardSaid : Prop := Claim7.holds Tryz.pinned (.plain (OpenSpec.ofChange linkSingleSpec)) linkSingleCard

/-- THE TIED CARD OF 'abaculuslaw24.LinkUnits'. -/
def linkUnitsCard : Claim7 := { stood := { row := linkUnitsRow, standIns := [], harness := (true, "f277ac30e1e4e5334ae1f89d84c54bfa45b52d6cec5dcadeda60ecbacdc107a5"), looks := false }, kinds := [], alts := [], laidByText := true, laidKinds := [.data], laidTests := true, laidLooks := .later }
def LinkUnitsCardSaid : Prop := Claim7.holds Tryz.pinned (.plain (OpenSpec.ofChange linkUnitsSpec)) linkUnitsCard

/-- THE TIED CARD OF 'abaculuslaw24.LinkKnown'. -/
def linkKnownCard : Claim7 := { stood := { row := linkKnownRow, standIns := [], harness := (true, "f277ac30e1e4e5334ae1f89d84c54bfa45b52d6cec5dcadeda60ecbacdc107a5"), looks := false }, kinds := [], alts := [], laidByText := true, laidKinds := [.data], laidTests := true, laidLooks := .later }
def LinkKnownCardSaid : Prop := Claim7.holds Tryz.pinned (.plain (OpenSpec.ofChange linkKnownSpec)) linkKnownCard

/-- THE TIED CARD OF 'abaculuslaw24.LinkInto'. -/
def linkIntoCard : Claim7 := { stood := { row := linkIntoRow, standIns := [], harness := (true, "f277ac30e1e4e5334ae1f89d84c54bfa45b52d6cec5dcadeda60ecbacdc107a5"), looks := false }, kinds := [], alts := [], laidByText := true, laidKinds := [.data], laidTests := true, laidLooks := .later }
def LinkIntoCardSaid : Prop := Claim7.holds Tryz.pinned (.plain (OpenSpec.ofChange linkIntoSpec)) linkIntoCard

/-- THE TIED CARD OF 'abaculuslaw24.LinkComplete'. -/
def linkCompleteCard : Claim7 := { stood := { row := linkCompleteRow, standIns := [], harness := (true, "f277ac30e1e4e5334ae1f89d84c54bfa45b52d6cec5dcadeda60ecbacdc107a5"), looks := false }, kinds := [], alts := [], laidByText := true, laidKinds := [.data], laidTests := true, laidLooks := .later }
def LinkCompleteCardSaid : Prop := Claim7.holds Tryz.pinned (.plain (OpenSpec.ofChange linkCompleteSpec)) linkCompleteCard

/-- THE TIED CARD OF 'abaculuslaw24.LinkGroups'. -/
def linkGroupsCard : Claim7 := { stood := { row := linkGroupsRow, standIns := [], harness := (true, "f277ac30e1e4e5334ae1f89d84c54bfa45b52d6cec5dcadeda60ecbacdc107a5"), looks := false }, kinds := [], alts := [], laidByText := true, laidKinds := [.data], laidTests := true, laidLooks := .later }
def LinkGroupsCardSaid : Prop := Claim7.holds Tryz.pinned (.plain (OpenSpec.ofChange linkGroupsSpec)) linkGroupsCard

/-- THE SECOND FORM's CARD OF 'abaculuslaw24.LinkFars'. -/
def linkFarsUptoCard : Claim7 := { stood := { row := linkFarsUptoRow, standIns := [], harness := (true, "f277ac30e1e4e5334ae1f89d84c54bfa45b52d6cec5dcadeda60ecbacdc107a5"), looks := false }, kinds := [], alts := [], laidByText := true, laidKinds := [.data], laidTests := true, laidLooks := .later }
def LinkFarsUptoCardSaid : Prop := Claim7.holds Tryz.pinned (.plain (OpenSpec.upto linkFarsSpec)) linkFarsUptoCard

/-- THE SECOND FORM's CARD OF 'abaculuslaw24.LinkBuilds'. -/
def linkBuildsUptoCard : Claim7 := { stood := { row := linkBuildsUptoRow, standIns := [], harness := (true, "f277ac30e1e4e5334ae1f89d84c54bfa45b52d6cec5dcadeda60ecbacdc107a5"), looks := false }, kinds := [], alts := [], laidByText := true, laidKinds := [.data], laidTests := true, laidLooks := .later }
def LinkBuildsUptoCardSaid : Prop := Claim7.holds Tryz.pinned (.plain (OpenSpec.upto linkBuildsSpec)) linkBuildsUptoCard

/-- THE SECOND FORM's CARD OF 'abaculuslaw24.LinkRises'. -/
def linkRisesUptoCard : Claim7 := { stood := { row := linkRisesUptoRow, standIns := [], harness := (true, "f277ac30e1e4e5334ae1f89d84c54bfa45b52d6cec5dcadeda60ecbacdc107a5"), looks := false }, kinds := [], alts := [], laidByText := true, laidKinds := [.data], laidTests := true, laidLooks := .later }
def LinkRisesUptoCardSaid : Prop := Claim7.holds Tryz.pinned (.plain (OpenSpec.upto linkRisesSpec)) linkRisesUptoCard

/-- THE SECOND FORM's CARD OF 'abaculuslaw24.LinkThree'. -/
def linkThreeUptoCard : Claim7 := { stood := { row := linkThreeUptoRow, standIns := [], harness := (true, "f277ac30e1e4e5334ae1f89d84c54bfa45b52d6cec5dcadeda60ecbacdc107a5"), looks := false }, kinds := [], alts := [], laidByText := true, laidKinds := [.data], laidTests := true, laidLooks := .later }
def LinkThreeUptoCardSaid : Prop := Claim7.holds Tryz.pinned (.plain (OpenSpec.upto linkThreeSpec)) linkThreeUptoCard

/-- THE SECOND FORM's CARD OF 'abaculuslaw24.LinkSingle'. -/
def linkSingleUptoCard : Claim7 := { stood := { row := linkSingleUptoRow, standIns := [], harness := (true, "f277ac30e1e4e5334ae1f89d84c54bfa45b52d6cec5dcadeda60ecbacdc107a5"), looks := false }, kinds := [], alts := [], laidByText := true, laidKinds := [.data], laidTests := true, laidLooks := .later }
def LinkSingleUptoCardSaid : Prop := Claim7.holds Tryz.pinned (.plain (OpenSpec.upto linkSingleSpec)) linkSingleUptoCard

/-- THE SECOND FORM's CARD OF 'abaculuslaw24.LinkUnits'. -/
def linkUnitsUptoCard : Claim7 := { stood := { row := linkUnitsUptoRow, standIns := [], harness := (true, "f277ac30e1e4e5334ae1f89d84c54bfa45b52d6cec5dcadeda60ecbacdc107a5"), looks := false }, kinds := [], alts := [], laidByText := true, laidKinds := [.data], laidTests := true, laidLooks := .later }
def LinkUnitsUptoCardSaid : Prop := Claim7.holds Tryz.pinned (.plain (OpenSpec.upto linkUnitsSpec)) linkUnitsUptoCard

/-- THE SECOND FORM's CARD OF 'abaculuslaw24.LinkKnown'. -/
def linkKnownUptoCard : Claim7 := { stood := { row := linkKnownUptoRow, standIns := [], harness := (true, "f277ac30e1e4e5334ae1f89d84c54bfa45b52d6cec5dcadeda60ecbacdc107a5"), looks := false }, kinds := [], alts := [], laidByText := true, laidKinds := [.data], laidTests := true, laidLooks := .later }
def LinkKnownUptoCardSaid : Prop := Claim7.holds Tryz.pinned (.plain (OpenSpec.upto linkKnownSpec)) linkKnownUptoCard

/-- THE SECOND FORM's CARD OF 'abaculuslaw24.LinkInto'. -/
def linkIntoUptoCard : Claim7 := { stood := { row := linkIntoUptoRow, standIns := [], harness := (true, "f277ac30e1e4e5334ae1f89d84c54bfa45b52d6cec5dcadeda60ecbacdc107a5"), looks := false }, kinds := [], alts := [], laidByText := true, laidKinds := [.data], laidTests := true, laidLooks := .later }
def LinkIntoUptoCardSaid : Prop := Claim7.holds Tryz.pinned (.plain (OpenSpec.upto linkIntoSpec)) linkIntoUptoCard

/-- THE SECOND FORM's CARD OF 'abaculuslaw24.LinkComplete'. -/
def linkCompleteUptoCard : Claim7 := { stood := { row := linkCompleteUptoRow, standIns := [], harness := (true, "f277ac30e1e4e5334ae1f89d84c54bfa45b52d6cec5dcadeda60ecbacdc107a5"), looks := false }, kinds := [], alts := [], laidByText := true, laidKinds := [.data], laidTests := true, laidLooks := .later }
def LinkCompleteUptoCardSaid : Prop := Claim7.holds Tryz.pinned (.plain (OpenSpec.upto linkCompleteSpec)) linkCompleteUptoCard

/-- THE SECOND FORM's CARD OF 'abaculuslaw24.LinkGroups'. -/
def linkGroupsUptoCard : Claim7 := { stood := { row := linkGroupsUptoRow, standIns := [], harness := (true, "f277ac30e1e4e5334ae1f89d84c54bfa45b52d6cec5dcadeda60ecbacdc107a5"), looks := false }, kinds := [], alts := [], laidByText := true, laidKinds := [.data], laidTests := true, laidLooks := .later }
def LinkGroupsUptoCardSaid : Prop := Claim7.holds Tryz.pinned (.plain (OpenSpec.upto linkGroupsSpec)) linkGroupsUptoCard
end Rows
end Go.Proofs.YtecnjlcfoobepaaGreatDoor
