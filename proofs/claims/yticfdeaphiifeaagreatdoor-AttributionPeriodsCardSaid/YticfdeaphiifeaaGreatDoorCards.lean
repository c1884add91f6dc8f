/-
  DERIVED. GIVEN WITH THE SEED: THE CARDS: each row of YticfdeaphiifeaaGreatDoorRows.lean that lists a variable, with what it lists TIED to the program's text (the seventh form; the later family's looks); each row that meets fmt, with fmt's text TOLD by the authors' own Lean function (tested against real Go, not proved from fmt's source: count such statements apart). THE CARD IS WHAT COUNTS. Prove the row's statement (the work); the ties are given (YticfdeaphiifeaaGreatDoorTie.lean); close each card by the builder's one call (the guide's Derived/Test/ToyasCard.lean, 'card_holds'). Laid BY PROGRAM, IN A SANDBOX (cutbox-door.mjs). By AI agents, Wed Nov 11 2026. No macro, syntax, notation, axiom, sorry.
-/
import Derived.Test.YticfdeaphiifeaaGreatDoorRows
import GoSem.ClaimSeven
namespace Go.Proofs.YticfdeaphiifeaaGreatDoor
namespace Rows

/-- THE TIED CARD OF 'tranchelaw48.AttributionLinks'. -/
def attributionLinksCard : Claim7 := { stood := { row := attributionLinksRow, standIns := [], harness := (true, "93711db54c28b292e7fd99f52ae867e365aa7a88b037ff1265d4cc31c4522f13"), looks := true }, kinds := [], alts := [], laidByText := true, laidKinds := [.data, .data, .data, .data, .sentinel, .sentinel, .pinned], laidTests := true, laidLooks := .later }
def AttributionLinksCardSaid : Prop := Claim7.holds Tryz.pinned (.plain (OpenSpec.ofChange attributionLinksSpec)) attributionLinksCard

/-- THE TIED CARD OF 'tranchelaw48.AttributionPeriods'. -/
def attributionPeriodsCard : Claim7 := { stood := { row := attributionPeriodsRow, standIns := [], harness := (true, "93711db54c28b292e7fd99f52ae867e365aa7a88b037ff1265d4cc31c4522f13"), looks := true }, kinds := [], alts := [], laidByText := true, laidKinds := [.data, .data, .data, .data, .sentinel, .sentinel, .pinned], laidTests := true, laidLooks := .later }
def AttributionPeriodsCardSaid : Prop := Claim7.holds Tryz.pinned (.plain (OpenSpec.ofChange attributionPeriodsSpec)) attributionPeriodsCard

/-- THE TIED CARD OF 'tranchelaw45.FeeRuns'. -/
def feeRunsCard : Claim7 := { stood := { row := feeRunsRow, standIns := [], harness := (true, "93711db54c28b292e7fd99f52ae867e365aa7a88b037ff1265d4cc31c4522f13"), looks := true }, kinds := [], alts := [], laidByText := true, laidKinds := [.data, .data, .data, .data, .sentinel, .sentinel, .pinned], laidTests := true, laidLooks := .later }
def FeeRunsCardSaid : Prop := Claim7.holds Tryz.pinned (.plain (OpenSpec.ofChange feeRunsSpec)) feeRunsCard

/-- THE TIED CARD OF 'tranchelaw45.FeeSteps'. -/
def feeStepsCard : Claim7 := { stood := { row := feeStepsRow, standIns := [], harness := (true, "93711db54c28b292e7fd99f52ae867e365aa7a88b037ff1265d4cc31c4522f13"), looks := true }, kinds := [], alts := [], laidByText := true, laidKinds := [.data, .data, .data, .data, .sentinel, .sentinel, .pinned], laidTests := true, laidLooks := .later }
def FeeStepsCardSaid : Prop := Claim7.holds Tryz.pinned (.plain (OpenSpec.ofChange feeStepsSpec)) feeStepsCard

/-- THE SECOND FORM's CARD OF 'tranchelaw48.AttributionLinks'. -/
def attributionLinksUptoCard : Claim7 := { stood := { row := attributionLinksUptoRow, standIns := [], harness := (true, "93711db54c28b292e7fd99f52ae867e365aa7a88b037ff1265d4cc31c4522f13"), looks := true }, kinds := [], alts := [], laidByText := true, laidKinds := [.data, .data, .data, .data, .sentinel, .sentinel, .pinned], laidTests := true, laidLooks := .later }
def AttributionLinksUptoCardSaid : Prop := Claim7.holds Tryz.pinned (.plain (OpenSpec.upto attributionLinksSpec)) attributionLinksUptoCard

/-- THE SECOND FORM's CARD OF 'tranchelaw48.AttributionPeriods'. -/
def attributionPeriodsUptoCard : Claim7 := { stood := { row := attributionPeriodsUptoRow, standIns := [], harness := (true, "93711db54c28b292e7fd99f52ae867e365aa7a88b037ff1265d4cc31c4522f13"), looks := true }, kinds := [], alts := [], laidByText := true, laidKinds := [.data, .data, .data, .data, .sentinel, .sentinel, .pinned], laidTests := true, laidLooks := .later }
def AttributionPeriodsUptoCardSaid : Prop := Claim7.holds Tryz.pinned (.plain (OpenSpec.upto attributionPeriodsSpec)) attributionPeriodsUptoCard

/-- THE SECOND FORM's CARD OF 'tranchelaw45.FeeRuns'. -/
def feeRunsUptoCard : Claim7 := { stood := { row := feeRunsUptoRow, standIns := [], harness := (true, "93711db54c28b292e7fd99f52ae867e365aa7a88b037ff1265d4cc31c4522f13"), looks := true }, kinds := [], alts := [], laidByText := true, laidKinds := [.data, .data, .data, .data, .sentinel, .sentinel, .pinned], laidTests := true, laidLooks := .later }
def FeeRunsUptoCardSaid : Prop := Claim7.holds Tryz.pinned (.plain (OpenSpec.upto feeRunsSpec)) feeRunsUptoCard

/-- THE SECOND FORM's CARD OF 'tranchelaw45.FeeSteps'. -/
def feeStepsUptoCard : Claim7 := { stood := { row := feeStepsUptoRow, standIns := [], harness := (true, "93711db54c28b292e7fd99f52ae867e365aa7a88b037ff1265d4cc31c4522f13"), looks := true }, kinds := [], alts := [], laidByText := true, laidKinds := [.data, .data, .data, .data, .sentinel, .sentinel, .pinned], laidTests := true, laidLooks := .later }
def FeeStepsUptoCardSaid : Prop := Claim7.holds Tryz.pinned (.plain (OpenSpec.upto feeStepsSpec)) feeStepsUptoCard
end Rows
end Go.Proofs.YticfdeaphiifeaaGreatDoor
