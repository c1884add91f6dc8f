/-
  DERIVED. GIVEN WITH THE SEED: THE CARDS: each row of YtgagjpjlnlandaaGreatDoorRows.lean that lists a variable, with what it lists TIED to the program's text (the seventh form; the later family's looks); each row that meets fmt, with fmt's text TOLD by the authors' own Lean function (tested against real Go, not proved from fmt's source: count such statements apart). THE CARD IS WHAT COUNTS. Prove the row's statement (the work); the ties are given (YtgagjpjlnlandaaGreatDoorTie.lean); close each card by the builder's one call (the guide's Derived/Test/ToyasCard.lean, 'card_holds'). Laid BY PROGRAM, IN A SANDBOX (cutbox-door.mjs). By AI agents, Wed Nov 11 2026. No macro, syntax, notation, axiom, sorry.
-/
import Derived.Test.YtgagjpjlnlandaaGreatDoorRows
import GoSem.ClaimSeven
namespace Go.Proofs.YtgagjpjlnlandaaGreatDoor
namespace Rows

/-- THE TIED CARD OF 'tranchelaw48.AttributionLinks'. -/
def attributionLinksCard : Claim7 := { stood := { row := attributionLinksRow, standIns := [], harness := (true, "6b39c9ca025a0a7a05e48fd46fa785832d50c713f2920c8219d0942b88224f57"), looks := true }, kinds := [], alts := [], laidByText := true, laidKinds := [.data, .data, .data, .data, .sentinel, .sentinel, .pinned], laidTests := true, laidLooks := .later }
def AttributionLinksCardSaid : Prop := Claim7.holds Tryz.pinned (.plain (OpenSpec.ofChange attributionLinksSpec)) attributionLinksCard

/-- THE TIED CARD OF 'tranchelaw48.AttributionPeriods'. -/
def attributionPeriodsCard : Claim7 := { stood := { row := attributionPeriodsRow, standIns := [], harness := (true, "6b39c9ca025a0a7a05e48fd46fa785832d50c713f2920c8219d0942b88224f57"), looks := true }, kinds := [], alts := [], laidByText := true, laidKinds := [.data, .data, .data, .data, .sentinel, .sentinel, .pinned], laidTests := true, laidLooks := .later }
def AttributionPeriodsCardSaid : Prop := Claim7.holds Tryz.pinned (.plain (OpenSpec.ofChange attributionPeriodsSpec)) attributionPeriodsCard

/-- THE TIED CARD OF 'tranchelaw08.DaycountModes'. -/
def daycountModesCard : Claim7 := { stood := { row := daycountModesRow, standIns := [], harness := (true, "6b39c9ca025a0a7a05e48fd46fa785832d50c713f2920c8219d0942b88224f57"), looks := true }, kinds := [], alts := [], laidByText := true, laidKinds := [.data, .data, .data, .data, .sentinel, .sentinel, .pinned], laidTests := true, laidLooks := .later }
def DaycountModesCardSaid : Prop := Claim7.holds Tryz.pinned (.plain (OpenSpec.ofChange daycountModesSpec)) daycountModesCard

/-- THE TIED CARD OF 'tranchelaw08.DaycountInterest'. -/
def daycountInterestCard : Claim7 := { stood := { row := daycountInterestRow, standIns := [], harness := (true, "6b39c9ca025a0a7a05e48fd46fa785832d50c713f2920c8219d0942b88224f57"), looks := true }, kinds := [], alts := [], laidByText := true, laidKinds := [.data, .data, .data, .data, .sentinel, .sentinel, .pinned], laidTests := true, laidLooks := .later }
def DaycountInterestCardSaid : Prop := Claim7.holds Tryz.pinned (.plain (OpenSpec.ofChange daycountInterestSpec)) daycountInterestCard

/-- THE TIED CARD OF 'tranchelaw45.FeeFees'. -/
def feeFeesCard : Claim7 := { stood := { row := feeFeesRow, standIns := [], harness := (true, "6b39c9ca025a0a7a05e48fd46fa785832d50c713f2920c8219d0942b88224f57"), looks := true }, kinds := [], alts := [], laidByText := true, laidKinds := [.data, .data, .data, .data, .sentinel, .sentinel, .pinned], laidTests := true, laidLooks := .later }
def FeeFeesCardSaid : Prop := Claim7.holds Tryz.pinned (.plain (OpenSpec.ofChange feeFeesSpec)) feeFeesCard

/-- THE TIED CARD OF 'tranchelaw45.FeeManagement'. -/
def feeManagementCard : Claim7 := { stood := { row := feeManagementRow, standIns := [], harness := (true, "6b39c9ca025a0a7a05e48fd46fa785832d50c713f2920c8219d0942b88224f57"), looks := true }, kinds := [], alts := [], laidByText := true, laidKinds := [.data, .data, .data, .data, .sentinel, .sentinel, .pinned], laidTests := true, laidLooks := .later }
def FeeManagementCardSaid : Prop := Claim7.holds Tryz.pinned (.plain (OpenSpec.ofChange feeManagementSpec)) feeManagementCard

/-- THE TIED CARD OF 'tranchelaw45.FeeMarks'. -/
def feeMarksCard : Claim7 := { stood := { row := feeMarksRow, standIns := [], harness := (true, "6b39c9ca025a0a7a05e48fd46fa785832d50c713f2920c8219d0942b88224f57"), looks := true }, kinds := [], alts := [], laidByText := true, laidKinds := [.data, .data, .data, .data, .sentinel, .sentinel, .pinned], laidTests := true, laidLooks := .later }
def FeeMarksCardSaid : Prop := Claim7.holds Tryz.pinned (.plain (OpenSpec.ofChange feeMarksSpec)) feeMarksCard

/-- THE TIED CARD OF 'tranchelaw45.FeeTotals'. -/
def feeTotalsCard : Claim7 := { stood := { row := feeTotalsRow, standIns := [], harness := (true, "6b39c9ca025a0a7a05e48fd46fa785832d50c713f2920c8219d0942b88224f57"), looks := true }, kinds := [], alts := [], laidByText := true, laidKinds := [.data, .data, .data, .data, .sentinel, .sentinel, .pinned], laidTests := true, laidLooks := .later }
def FeeTotalsCardSaid : Prop := Claim7.holds Tryz.pinned (.plain (OpenSpec.ofChange feeTotalsSpec)) feeTotalsCard

/-- THE TIED CARD OF 'tranchelaw45.FeeGreatest'. -/
def feeGreatestCard : Claim7 := { stood := { row := feeGreatestRow, standIns := [], harness := (true, "6b39c9ca025a0a7a05e48fd46fa785832d50c713f2920c8219d0942b88224f57"), looks := true }, kinds := [], alts := [], laidByText := true, laidKinds := [.data, .data, .data, .data, .sentinel, .sentinel, .pinned], laidTests := true, laidLooks := .later }
def FeeGreatestCardSaid : Prop := Claim7.holds Tryz.pinned (.plain (OpenSpec.ofChange feeGreatestSpec)) feeGreatestCard

/-- THE TIED CARD OF 'tranchelaw45.FeeRuns'. -/
def feeRunsCard : Claim7 := { stood := { row := feeRunsRow, standIns := [], harness := (true, "6b39c9ca025a0a7a05e48fd46fa785832d50c713f2920c8219d0942b88224f57"), looks := true }, kinds := [], alts := [], laidByText := true, laidKinds := [.data, .data, .data, .data, .sentinel, .sentinel, .pinned], laidTests := true, laidLooks := .later }
def FeeRunsCardSaid : Prop := Claim7.holds Tryz.pinned (.plain (OpenSpec.ofChange feeRunsSpec)) feeRunsCard

/-- THE TIED CARD OF 'tranchelaw45.FeeSteps'. -/
def feeStepsCard : Claim7 := { stood := { row := feeStepsRow, standIns := [], harness := (true, "6b39c9ca025a0a7a05e48fd46fa785832d50c713f2920c8219d0942b88224f57"), looks := true }, kinds := [], alts := [], laidByText := true, laidKinds := [.data, .data, .data, .data, .sentinel, .sentinel, .pinned], laidTests := true, laidLooks := .later }
def FeeStepsCardSaid : Prop := Claim7.holds Tryz.pinned (.plain (OpenSpec.ofChange feeStepsSpec)) feeStepsCard

/-- THE TIED CARD OF 'tranchelaw08.DaycountParts'. -/
def daycountPartsCard : Claim7 := { stood := { row := daycountPartsRow, standIns := [], harness := (true, "6b39c9ca025a0a7a05e48fd46fa785832d50c713f2920c8219d0942b88224f57"), looks := true }, kinds := [], alts := [], laidByText := true, laidKinds := [.data, .data, .data, .data, .sentinel, .sentinel, .pinned], laidTests := true, laidLooks := .later }
def DaycountPartsCardSaid : Prop := Claim7.holds Tryz.pinned (.plain (OpenSpec.ofChange daycountPartsSpec)) daycountPartsCard

/-- THE SECOND FORM's CARD OF 'tranchelaw48.AttributionLinks'. -/
def attributionLinksUptoCard : Claim7 := { stood := { row := attributionLinksUptoRow, standIns := [], harness := (true, "6b39c9ca025a0a7a05e48fd46fa785832d50c713f2920c8219d0942b88224f57"), looks := true }, kinds := [], alts := [], laidByText := true, laidKinds := [.data, .data, .data, .data, .sentinel, .sentinel, .pinned], laidTests := true, laidLooks := .later }
def AttributionLinksUptoCardSaid : Prop := Claim7.holds Tryz.pinned (.plain (OpenSpec.upto attributionLinksSpec)) attributionLinksUptoCard

/-- THE SECOND FORM's CARD OF 'tranchelaw48.AttributionPeriods'. -/
def attributionPeriodsUptoCard : Claim7 := { stood := { row := attributionPeriodsUptoRow, standIns := [], harness := (true, "6b39c9ca025a0a7a05e48fd46fa785832d50c713f2920c8219d0942b88224f57"), looks := true }, kinds := [], alts := [], laidByText := true, laidKinds := [.data, .data, .data, .data, .sentinel, .sentinel, .pinned], laidTests := true, laidLooks := .later }
def AttributionPeriodsUptoCardSaid : Prop := Claim7.holds Tryz.pinned (.plain (OpenSpec.upto attributionPeriodsSpec)) attributionPeriodsUptoCard

/-- THE SECOND FORM's CARD OF 'tranchelaw08.DaycountModes'. -/
def daycountModesUptoCard : Claim7 := { stood := { row := daycountModesUptoRow, standIns := [], harness := (true, "6b39c9ca025a0a7a05e48fd46fa785832d50c713f2920c8219d0942b88224f57"), looks := true }, kinds := [], alts := [], laidByText := true, laidKinds := [.data, .data, .data, .data, .sentinel, .sentinel, .pinned], laidTests := true, laidLooks := .later }
def DaycountModesUptoCardSaid : Prop := Claim7.holds Tryz.pinned (.plain (OpenSpec.upto daycountModesSpec)) daycountModesUptoCard

/-- THE SECOND FORM's CARD OF 'tranchelaw08.DaycountInterest'. -/
def daycountInterestUptoCard : Claim7 := { stood := { row := daycountInterestUptoRow, standIns := [], harness := (true, "6b39c9ca025a0a7a05e48fd46fa785832d50c713f2920c8219d0942b88224f57"), looks := true }, kinds := [], alts := [], laidByText := true, laidKinds := [.data, .data, .data, .data, .sentinel, .sentinel, .pinned], laidTests := true, laidLooks := .later }
def DaycountInterestUptoCardSaid : Prop := Claim7.holds Tryz.pinned (.plain (OpenSpec.upto daycountInterestSpec)) daycountInterestUptoCard

/-- THE SECOND FORM's CARD OF 'tranchelaw45.FeeFees'. -/
def feeFeesUptoCard : Claim7 := { stood := { row := feeFeesUptoRow, standIns := [], harness := (true, "6b39c9ca025a0a7a05e48fd46fa785832d50c713f2920c8219d0942b88224f57"), looks := true }, kinds := [], alts := [], laidByText := true, laidKinds := [.data, .data, .data, .data, .sentinel, .sentinel, .pinned], laidTests := true, laidLooks := .later }
def FeeFeesUptoCardSaid : Prop := Claim7.holds Tryz.pinned (.plain (OpenSpec.upto feeFeesSpec)) feeFeesUptoCard

/-- THE SECOND FORM's CARD OF 'tranchelaw45.FeeManagement'. -/
def feeManagementUptoCard : Claim7 := { stood := { row := feeManagementUptoRow, standIns := [], harness := (true, "6b39c9ca025a0a7a05e48fd46fa785832d50c713f2920c8219d0942b88224f57"), looks := true }, kinds := [], alts := [], laidByText := true, laidKinds := [.data, .data, .data, .data, .sentinel, .sentinel, .pinned], laidTests := true, laidLooks := .later }
def FeeManagementUptoCardSaid : Prop := Claim7.holds Tryz.pinned (.plain (OpenSpec.upto feeManagementSpec)) feeManagementUptoCard

/-- THE SECOND FORM's CARD OF 'tranchelaw45.FeeMarks'. -/
def feeMarksUptoCard : Claim7 := { stood := { row := feeMarksUptoRow, standIns := [], harness := (true, "6b39c9ca025a0a7a05e48fd46fa785832d50c713f2920c8219d0942b88224f57"), looks := true }, kinds := [], alts := [], laidByText := true, laidKinds := [.data, .data, .data, .data, .sentinel, .sentinel, .pinned], laidTests := true, laidLooks := .later }
def FeeMarksUptoCardSaid : Prop := Claim7.holds Tryz.pinned (.plain (OpenSpec.upto feeMarksSpec)) feeMarksUptoCard

/-- THE SECOND FORM's CARD OF 'tranchelaw45.FeeTotals'. -/
def feeTotalsUptoCard : Claim7 := { stood := { row := feeTotalsUptoRow, standIns := [], harness := (true, "6b39c9ca025a0a7a05e48fd46fa785832d50c713f2920c8219d0942b88224f57"), looks := true }, kinds := [], alts := [], laidByText := true, laidKinds := [.data, .data, .data, .data, .sentinel, .sentinel, .pinned], laidTests := true, laidLooks := .later }
def FeeTotalsUptoCardSaid : Prop := Claim7.holds Tryz.pinned (.plain (OpenSpec.upto feeTotalsSpec)) feeTotalsUptoCard

/-- THE SECOND FORM's CARD OF 'tranchelaw45.FeeGreatest'. -/
def feeGreatestUptoCard : Claim7 := { stood := { row := feeGreatestUptoRow, standIns := [], harness := (true, "6b39c9ca025a0a7a05e48fd46fa785832d50c713f2920c8219d0942b88224f57"), looks := true }, kinds := [], alts := [], laidByText := true, laidKinds := [.data, .data, .data, .data, .sentinel, .sentinel, .pinned], laidTests := true, laidLooks := .later }
def FeeGreatestUptoCardSaid : Prop := Claim7.holds Tryz.pinned (.plain (OpenSpec.upto feeGreatestSpec)) feeGreatestUptoCard

/-- THE SECOND FORM's CARD OF 'tranchelaw45.FeeRuns'. -/
def feeRunsUptoCard : Claim7 := { stood := { row := feeRunsUptoRow, standIns := [], harness := (true, "6b39c9ca025a0a7a05e48fd46fa785832d50c713f2920c8219d0942b88224f57"), looks := true }, kinds := [], alts := [], laidByText := true, laidKinds := [.data, .data, .data, .data, .sentinel, .sentinel, .pinned], laidTests := true, laidLooks := .later }
def FeeRunsUptoCardSaid : Prop := Claim7.holds Tryz.pinned (.plain (OpenSpec.upto feeRunsSpec)) feeRunsUptoCard

/-- THE SECOND FORM's CARD OF 'tranchelaw45.FeeSteps'. -/
def feeStepsUptoCard : Claim7 := { stood := { row := feeStepsUptoRow, standIns := [], harness := (true, "6b39c9ca025a0a7a05e48fd46fa785832d50c713f2920c8219d0942b88224f57"), looks := true }, kinds := [], alts := [], laidByText := true, laidKinds := [.data, .data, .data, .data, .sentinel, .sentinel, .pinned], laidTests := true, laidLooks := .later }
def FeeStepsUptoCardSaid : Prop := Claim7.holds Tryz.pinned (.plain (OpenSpec.upto feeStepsSpec)) feeStepsUptoCard

/-- THE SECOND FORM's CARD OF 'tranchelaw08.DaycountParts'. -/
def daycountPartsUptoCard : Claim7 := { stood := { row := daycountPartsUptoRow, standIns := [], harness := (true, "6b39c9ca025a0a7a05e48fd46fa785832d50c713f2920c8219d0942b88224f57"), looks := true }, kinds := [], alts := [], laidByText := true, laidKinds := [.data, .data, .data, .data, .sentinel, .sentinel, .pinned], laidTests := true, laidLooks := .later }
def DaycountPartsUptoCardSaid : Prop := Claim7.holds Tryz.pinned (.plain (OpenSpec.upto daycountPartsSpec)) daycountPartsUptoCard
end Rows
end Go.Proofs.YtgagjpjlnlandaaGreatDoor
