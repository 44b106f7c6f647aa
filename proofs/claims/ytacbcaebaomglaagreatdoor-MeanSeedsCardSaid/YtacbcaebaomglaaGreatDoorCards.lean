/-
  DERIVED. GIVEN WITH THE SEED: THE CARDS: each row of YtacbcaebaomglaaGreatDoorRows.lean that lists a variable, with what it lists TIED to the program's text (the seventh form; the later family's looks); each row that meets fmt, with fmt's text TOLD by the authors' own Lean function (tested against real Go, not proved from fmt's source: count such statements apart). THE CARD IS WHAT COUNTS. Prove the row's statement (the work); the ties are given (YtacbcaebaomglaaGreatDoorTie.lean); close each card by the builder's one call (the guide's Derived/Test/ToyasCard.lean, 'card_holds'). Laid BY PROGRAM, IN A SANDBOX (cutbox-door.mjs). By AI agents, Wed Nov 11 2026. No macro, syntax, notation, axiom, sorry.
-/
import Derived.Test.YtacbcaebaomglaaGreatDoorRows
import GoSem.ClaimSeven
namespace Go.Proofs.YtacbcaebaomglaaGreatDoor
namespace Rows

/-- THE TIED CARD OF 'abaculuslaw22.MeanFits'. -/
def meanFitsCard : Claim7 := { stood := { row := meanFitsRow, standIns := [], harness := (true, "91fb8be588efe211f105f7cea90896da9f05e2b41e31f469f6710fba4f4cd212"), looks := false }, kinds := [], alts := [], laidByText := true, laidKinds := [.data], laidTests := true, laidLooks := .later }
def MeanFitsCardSaid : Prop := Claim7.holds Tryz.pinned (.plain (OpenSpec.ofChange meanFitsSpec)) meanFitsCard

/-- THE TIED CARD OF 'abaculuslaw22.MeanUnits'. -/
def meanUnitsCard : Claim7 := { stood := { row := meanUnitsRow, standIns := [], harness := (true, "91fb8be588efe211f105f7cea90896da9f05e2b41e31f469f6710fba4f4cd212"), looks := false }, kinds := [], alts := [], laidByText := true, laidKinds := [.data], laidTests := true, laidLooks := .later }
def MeanUnitsCardSaid : Prop := Claim7.holds Tryz.pinned (.plain (OpenSpec.ofChange meanUnitsSpec)) meanUnitsCard

/-- THE TIED CARD OF 'abaculuslaw22.MeanSteps'. -/
def meanStepsCard : Claim7 := { stood := { row := meanStepsRow, standIns := [], harness := (true, "91fb8be588efe211f105f7cea90896da9f05e2b41e31f469f6710fba4f4cd212"), looks := false }, kinds := [], alts := [], laidByText := true, laidKinds := [.data], laidTests := true, laidLooks := .later }
def MeanStepsCardSaid : Prop := Claim7.holds Tryz.pinned (.plain (OpenSpec.ofChange meanStepsSpec)) meanStepsCard

/-- THE TIED CARD OF 'abaculuslaw22.MeanStays'. -/
def meanStaysCard : Claim7 := { stood := { row := meanStaysRow, standIns := [], harness := (true, "91fb8be588efe211f105f7cea90896da9f05e2b41e31f469f6710fba4f4cd212"), looks := false }, kinds := [], alts := [], laidByText := true, laidKinds := [.data], laidTests := true, laidLooks := .later }
def MeanStaysCardSaid : Prop := Claim7.holds Tryz.pinned (.plain (OpenSpec.ofChange meanStaysSpec)) meanStaysCard

/-- THE TIED CARD OF 'abaculuslaw22.MeanNearest'. -/
def meanNearestCard : Claim7 := { stood := { row := meanNearestRow, standIns := [], harness := (true, "91fb8be588efe211f105f7cea90896da9f05e2b41e31f469f6710fba4f4cd212"), looks := false }, kinds := [], alts := [], laidByText := true, laidKinds := [.data], laidTests := true, laidLooks := .later }
def MeanNearestCardSaid : Prop := Claim7.holds Tryz.pinned (.plain (OpenSpec.ofChange meanNearestSpec)) meanNearestCard

/-- THE TIED CARD OF 'abaculuslaw22.MeanGroups'. -/
def meanGroupsCard : Claim7 := { stood := { row := meanGroupsRow, standIns := [], harness := (true, "91fb8be588efe211f105f7cea90896da9f05e2b41e31f469f6710fba4f4cd212"), looks := false }, kinds := [], alts := [], laidByText := true, laidKinds := [.data], laidTests := true, laidLooks := .later }
def MeanGroupsCardSaid : Prop := Claim7.holds Tryz.pinned (.plain (OpenSpec.ofChange meanGroupsSpec)) meanGroupsCard

/-- THE TIED CARD OF 'abaculuslaw22.MeanOrder'. -/
def meanOrderCard : Claim7 := { stood := { row := meanOrderRow, standIns := [], harness := (true, "91fb8be588efe211f105f7cea90896da9f05e2b41e31f469f6710fba4f4cd212"), looks := false }, kinds := [], alts := [], laidByText := true, laidKinds := [.data], laidTests := true, laidLooks := .later }
def MeanOrderCardSaid : Prop := Claim7.holds Tryz.pinned (.plain (OpenSpec.ofChange meanOrderSpec)) meanOrderCard

/-- THE TIED CARD OF 'abaculuslaw22.MeanKnown'. -/
def meanKnownCard : Claim7 := { stood := { row := meanKnownRow, standIns := [], harness := (true, "91fb8be588efe211f105f7cea90896da9f05e2b41e31f469f6710fba4f4cd212"), looks := false }, kinds := [], alts := [], laidByText := true, laidKinds := [.data], laidTests := true, laidLooks := .later }
def MeanKnownCardSaid : Prop := Claim7.holds Tryz.pinned (.plain (OpenSpec.ofChange meanKnownSpec)) meanKnownCard

/-- THE TIED CARD OF 'abaculuslaw22.MeanFalls'. -/
def meanFallsCard : Claim7 := { stood := { row := meanFallsRow, standIns := [], harness := (true, "91fb8be588efe211f105f7cea90896da9f05e2b41e31f469f6710fba4f4cd212"), looks := false }, kinds := [], alts := [], laidByText := true, laidKinds := [.data], laidTests := true, laidLooks := .later }
def MeanFallsCardSaid : Prop := Claim7.holds Tryz.pinned (.plain (OpenSpec.ofChange meanFallsSpec)) meanFallsCard

/-- THE TIED CARD OF 'abaculuslaw22.MeanSeeds'. -/
def meanSeedsCard : Claim7 := { stood := { row := meanSeedsRow, standIns := [], harness := (true, "91fb8be588efe211f105f7cea90896da9f05e2b41e31f469f6710fba4f4cd212"), looks := false }, kinds := [], alts := [], laidByText := true, laidKinds := [.data], laidTests := true, laidLooks := .later }
def MeanSeedsCardSaid : Prop := Claim7.holds Tryz.pinned (.plain (OpenSpec.ofChange meanSeedsSpec)) meanSeedsCard

/-- THE SECOND FORM's CARD OF 'abaculuslaw22.MeanFits'. -/
def meanFitsUptoCard : Claim7 := { stood := { row := meanFitsUptoRow, standIns := [], harness := (true, "91fb8be588efe211f105f7cea90896da9f05e2b41e31f469f6710fba4f4cd212"), looks := false }, kinds := [], alts := [], laidByText := true, laidKinds := [.data], laidTests := true, laidLooks := .later }
def MeanFitsUptoCardSaid : Prop := Claim7.holds Tryz.pinned (.plain (OpenSpec.upto meanFitsSpec)) meanFitsUptoCard

/-- THE SECOND FORM's CARD OF 'abaculuslaw22.MeanUnits'. -/
def meanUnitsUptoCard : Claim7 := { stood := { row := meanUnitsUptoRow, standIns := [], harness := (true, "91fb8be588efe211f105f7cea90896da9f05e2b41e31f469f6710fba4f4cd212"), looks := false }, kinds := [], alts := [], laidByText := true, laidKinds := [.data], laidTests := true, laidLooks := .later }
def MeanUnitsUptoCardSaid : Prop := Claim7.holds Tryz.pinned (.plain (OpenSpec.upto meanUnitsSpec)) meanUnitsUptoCard

/-- THE SECOND FORM's CARD OF 'abaculuslaw22.MeanSteps'. -/
def meanStepsUptoCard : Claim7 := { stood := { row := meanStepsUptoRow, standIns := [], harness := (true, "91fb8be588efe211f105f7cea90896da9f05e2b41e31f469f6710fba4f4cd212"), looks := false }, kinds := [], alts := [], laidByText := true, laidKinds := [.data], laidTests := true, laidLooks := .later }
def MeanStepsUptoCardSaid : Prop := Claim7.holds Tryz.pinned (.plain (OpenSpec.upto meanStepsSpec)) meanStepsUptoCard

/-- THE SECOND FORM's CARD OF 'abaculuslaw22.MeanStays'. -/
def meanStaysUptoCard : Claim7 := { stood := { row := meanStaysUptoRow, standIns := [], harness := (true, "91fb8be588efe211f105f7cea90896da9f05e2b41e31f469f6710fba4f4cd212"), looks := false }, kinds := [], alts := [], laidByText := true, laidKinds := [.data], laidTests := true, laidLooks := .later }
def MeanStaysUptoCardSaid : Prop := Claim7.holds Tryz.pinned (.plain (OpenSpec.upto meanStaysSpec)) meanStaysUptoCard

/-- THE SECOND FORM's CARD OF 'abaculuslaw22.MeanNearest'. -/
def meanNearestUptoCard : Claim7 := { stood := { row := meanNearestUptoRow, standIns := [], harness := (true, "91fb8be588efe211f105f7cea90896da9f05e2b41e31f469f6710fba4f4cd212"), looks := false }, kinds := [], alts := [], laidByText := true, laidKinds := [.data], laidTests := true, laidLooks := .later }
def MeanNearestUptoCardSaid : Prop := Claim7.holds Tryz.pinned (.plain (OpenSpec.upto meanNearestSpec)) meanNearestUptoCard

/-- THE SECOND FORM's CARD OF 'abaculuslaw22.MeanGroups'. -/
def meanGroupsUptoCard : Claim7 := { stood := { row := meanGroupsUptoRow, standIns := [], harness := (true, "91fb8be588efe211f105f7cea90896da9f05e2b41e31f469f6710fba4f4cd212"), looks := false }, kinds := [], alts := [], laidByText := true, laidKinds := [.data], laidTests := true, laidLooks := .later }
def MeanGroupsUptoCardSaid : Prop := Claim7.holds Tryz.pinned (.plain (OpenSpec.upto meanGroupsSpec)) meanGroupsUptoCard

/-- THE SECOND FORM's CARD OF 'abaculuslaw22.MeanOrder'. -/
def meanOrderUptoCard : Claim7 := { stood := { row := meanOrderUptoRow, standIns := [], harness := (true, "91fb8be588efe211f105f7cea90896da9f05e2b41e31f469f6710fba4f4cd212"), looks := false }, kinds := [], alts := [], laidByText := true, laidKinds := [.data], laidTests := true, laidLooks := .later }
def MeanOrderUptoCardSaid : Prop := Claim7.holds Tryz.pinned (.plain (OpenSpec.upto meanOrderSpec)) meanOrderUptoCard

/-- THE SECOND FORM's CARD OF 'abaculuslaw22.MeanKnown'. -/
def meanKnownUptoCard : Claim7 := { stood := { row := meanKnownUptoRow, standIns := [], harness := (true, "91fb8be588efe211f105f7cea90896da9f05e2b41e31f469f6710fba4f4cd212"), looks := false }, kinds := [], alts := [], laidByText := true, laidKinds := [.data], laidTests := true, laidLooks := .later }
def MeanKnownUptoCardSaid : Prop := Claim7.holds Tryz.pinned (.plain (OpenSpec.upto meanKnownSpec)) meanKnownUptoCard

/-- THE SECOND FORM's CARD OF 'abaculuslaw22.MeanFalls'. -/
def meanFallsUptoCard : Claim7 := { stood := { row := meanFallsUptoRow, standIns := [], harness := (true, "91fb8be588efe211f105f7cea90896da9f05e2b41e31f469f6710fba4f4cd212"), looks := false }, kinds := [], alts := [], laidByText := true, laidKinds := [.data], laidTests := true, laidLooks := .later }
def MeanFallsUptoCardSaid : Prop := Claim7.holds Tryz.pinned (.plain (OpenSpec.upto meanFallsSpec)) meanFallsUptoCard

/-- THE SECOND FORM's CARD OF 'abaculuslaw22.MeanSeeds'. -/
def meanSeedsUptoCard : Claim7 := { stood := { row := meanSeedsUptoRow, standIns := [], harness := (true, "91fb8be588efe211f105f7cea90896da9f05e2b41e31f469f6710fba4f4cd212"), looks := false }, kinds := [], alts := [], laidByText := true, laidKinds := [.data], laidTests := true, laidLooks := .later }
def MeanSeedsUptoCardSaid : Prop := Claim7.holds Tryz.pinned (.plain (OpenSpec.upto meanSeedsSpec)) meanSeedsUptoCard
end Rows
end Go.Proofs.YtacbcaebaomglaaGreatDoor
