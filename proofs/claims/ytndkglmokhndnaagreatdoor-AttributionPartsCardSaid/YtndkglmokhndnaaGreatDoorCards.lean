/-
  DERIVED. GIVEN WITH THE SEED: THE CARDS: each row of YtndkglmokhndnaaGreatDoorRows.lean that lists a variable, with what it lists TIED to the program's text (the seventh form; the later family's looks); each row that meets fmt, with fmt's text TOLD by the authors' own Lean function (tested against real Go, not proved from fmt's source: count such statements apart). THE CARD IS WHAT COUNTS. Prove the row's statement (the work); the ties are given (YtndkglmokhndnaaGreatDoorTie.lean); close each card by the builder's one call (the guide's Derived/Test/ToyasCard.lean, 'card_holds'). Laid BY PROGRAM, IN A SANDBOX (cutbox-door.mjs). By AI agents, Wed Nov 11 2026. No macro, syntax, notation, axiom, sorry.
-/
import Derived.Test.YtndkglmokhndnaaGreatDoorRows
import GoSem.ClaimSeven
namespace Go.Proofs.YtndkglmokhndnaaGreatDoor
namespace Rows

/-- THE TIED CARD OF 'tranchelaw44.UnitpriceDays'. -/
def unitpriceDaysCard : Claim7 := { stood := { row := unitpriceDaysRow, standIns := [], harness := (true, "e632d5d880a6fa6815b6ff7c17a10da68de6d04eb558c945043ea45335372939"), looks := true }, kinds := [], alts := [], laidByText := true, laidKinds := [.data, .data, .data, .data, .sentinel, .sentinel, .pinned], laidTests := true, laidLooks := .later }
def UnitpriceDaysCardSaid : Prop := Claim7.holds Tryz.pinned (.plain (OpenSpec.ofChange unitpriceDaysSpec)) unitpriceDaysCard

/-- THE TIED CARD OF 'tranchelaw48.AttributionSums'. -/
def attributionSumsCard : Claim7 := { stood := { row := attributionSumsRow, standIns := [], harness := (true, "e632d5d880a6fa6815b6ff7c17a10da68de6d04eb558c945043ea45335372939"), looks := true }, kinds := [], alts := [], laidByText := true, laidKinds := [.data, .data, .data, .data, .sentinel, .sentinel, .pinned], laidTests := true, laidLooks := .later }
def AttributionSumsCardSaid : Prop := Claim7.holds Tryz.pinned (.plain (OpenSpec.ofChange attributionSumsSpec)) attributionSumsCard

/-- THE TIED CARD OF 'tranchelaw48.AttributionOrder'. -/
def attributionOrderCard : Claim7 := { stood := { row := attributionOrderRow, standIns := [], harness := (true, "e632d5d880a6fa6815b6ff7c17a10da68de6d04eb558c945043ea45335372939"), looks := true }, kinds := [], alts := [], laidByText := true, laidKinds := [.data, .data, .data, .data, .sentinel, .sentinel, .pinned], laidTests := true, laidLooks := .later }
def AttributionOrderCardSaid : Prop := Claim7.holds Tryz.pinned (.plain (OpenSpec.ofChange attributionOrderSpec)) attributionOrderCard

/-- THE TIED CARD OF 'tranchelaw48.AttributionDrift'. -/
def attributionDriftCard : Claim7 := { stood := { row := attributionDriftRow, standIns := [], harness := (true, "e632d5d880a6fa6815b6ff7c17a10da68de6d04eb558c945043ea45335372939"), looks := true }, kinds := [], alts := [], laidByText := true, laidKinds := [.data, .data, .data, .data, .sentinel, .sentinel, .pinned], laidTests := true, laidLooks := .later }
def AttributionDriftCardSaid : Prop := Claim7.holds Tryz.pinned (.plain (OpenSpec.ofChange attributionDriftSpec)) attributionDriftCard

/-- THE TIED CARD OF 'tranchelaw48.AttributionParts'. -/
def attributionPartsCard : Claim7 := { stood := { row := attributionPartsRow, standIns := [], harness := (true, "e632d5d880a6fa6815b6ff7c17a10da68de6d04eb558c945043ea45335372939"), looks := true }, kinds := [], alts := [], laidByText := true, laidKinds := [.data, .data, .data, .data, .sentinel, .sentinel, .pinned], laidTests := true, laidLooks := .later }
def AttributionPartsCardSaid : Prop := Claim7.holds Tryz.pinned (.plain (OpenSpec.ofChange attributionPartsSpec)) attributionPartsCard

/-- THE TIED CARD OF 'tranchelaw48.AttributionMoney'. -/
def attributionMoneyCard : Claim7 := { stood := { row := attributionMoneyRow, standIns := [], harness := (true, "e632d5d880a6fa6815b6ff7c17a10da68de6d04eb558c945043ea45335372939"), looks := true }, kinds := [], alts := [], laidByText := true, laidKinds := [.data, .data, .data, .data, .sentinel, .sentinel, .pinned], laidTests := true, laidLooks := .later }
def AttributionMoneyCardSaid : Prop := Claim7.holds Tryz.pinned (.plain (OpenSpec.ofChange attributionMoneySpec)) attributionMoneyCard

/-- THE TIED CARD OF 'tranchelaw08.DaycountParts'. -/
def daycountPartsCard : Claim7 := { stood := { row := daycountPartsRow, standIns := [], harness := (true, "e632d5d880a6fa6815b6ff7c17a10da68de6d04eb558c945043ea45335372939"), looks := true }, kinds := [], alts := [], laidByText := true, laidKinds := [.data, .data, .data, .data, .sentinel, .sentinel, .pinned], laidTests := true, laidLooks := .later }
def DaycountPartsCardSaid : Prop := Claim7.holds Tryz.pinned (.plain (OpenSpec.ofChange daycountPartsSpec)) daycountPartsCard

/-- THE TIED CARD OF 'tranchelaw48.AttributionLinks'. -/
def attributionLinksCard : Claim7 := { stood := { row := attributionLinksRow, standIns := [], harness := (true, "e632d5d880a6fa6815b6ff7c17a10da68de6d04eb558c945043ea45335372939"), looks := true }, kinds := [], alts := [], laidByText := true, laidKinds := [.data, .data, .data, .data, .sentinel, .sentinel, .pinned], laidTests := true, laidLooks := .later }
def AttributionLinksCardSaid : Prop := Claim7.holds Tryz.pinned (.plain (OpenSpec.ofChange attributionLinksSpec)) attributionLinksCard

/-- THE TIED CARD OF 'tranchelaw48.AttributionAmounts'. -/
def attributionAmountsCard : Claim7 := { stood := { row := attributionAmountsRow, standIns := [], harness := (true, "e632d5d880a6fa6815b6ff7c17a10da68de6d04eb558c945043ea45335372939"), looks := true }, kinds := [], alts := [], laidByText := true, laidKinds := [.data, .data, .data, .data, .sentinel, .sentinel, .pinned], laidTests := true, laidLooks := .later }
def AttributionAmountsCardSaid : Prop := Claim7.holds Tryz.pinned (.plain (OpenSpec.ofChange attributionAmountsSpec)) attributionAmountsCard

/-- THE TIED CARD OF 'tranchelaw48.AttributionPeriods'. -/
def attributionPeriodsCard : Claim7 := { stood := { row := attributionPeriodsRow, standIns := [], harness := (true, "e632d5d880a6fa6815b6ff7c17a10da68de6d04eb558c945043ea45335372939"), looks := true }, kinds := [], alts := [], laidByText := true, laidKinds := [.data, .data, .data, .data, .sentinel, .sentinel, .pinned], laidTests := true, laidLooks := .later }
def AttributionPeriodsCardSaid : Prop := Claim7.holds Tryz.pinned (.plain (OpenSpec.ofChange attributionPeriodsSpec)) attributionPeriodsCard

/-- THE TIED CARD OF 'tranchelaw08.DaycountNames'. -/
def daycountNamesCard : Claim7 := { stood := { row := daycountNamesRow, standIns := [], harness := (true, "e632d5d880a6fa6815b6ff7c17a10da68de6d04eb558c945043ea45335372939"), looks := true }, kinds := [], alts := [], laidByText := true, laidKinds := [.data, .data, .data, .data, .sentinel, .sentinel, .pinned], laidTests := true, laidLooks := .later }
def DaycountNamesCardSaid : Prop := Claim7.holds Tryz.pinned (.plain (OpenSpec.ofChange daycountNamesSpec)) daycountNamesCard

/-- THE SECOND FORM's CARD OF 'tranchelaw44.UnitpriceDays'. -/
def unitpriceDaysUptoCard : Claim7 := { stood := { row := unitpriceDaysUptoRow, standIns := [], harness := (true, "e632d5d880a6fa6815b6ff7c17a10da68de6d04eb558c945043ea45335372939"), looks := true }, kinds := [], alts := [], laidByText := true, laidKinds := [.data, .data, .data, .data, .sentinel, .sentinel, .pinned], laidTests := true, laidLooks := .later }
def UnitpriceDaysUptoCardSaid : Prop := Claim7.holds Tryz.pinned (.plain (OpenSpec.upto unitpriceDaysSpec)) unitpriceDaysUptoCard

/-- THE SECOND FORM's CARD OF 'tranchelaw48.AttributionSums'. -/
def attributionSumsUptoCard : Claim7 := { stood := { row := attributionSumsUptoRow, standIns := [], harness := (true, "e632d5d880a6fa6815b6ff7c17a10da68de6d04eb558c945043ea45335372939"), looks := true }, kinds := [], alts := [], laidByText := true, laidKinds := [.data, .data, .data, .data, .sentinel, .sentinel, .pinned], laidTests := true, laidLooks := .later }
def AttributionSumsUptoCardSaid : Prop := Claim7.holds Tryz.pinned (.plain (OpenSpec.upto attributionSumsSpec)) attributionSumsUptoCard

/-- THE SECOND FORM's CARD OF 'tranchelaw48.AttributionOrder'. -/
def attributionOrderUptoCard : Claim7 := { stood := { row := attributionOrderUptoRow, standIns := [], harness := (true, "e632d5d880a6fa6815b6ff7c17a10da68de6d04eb558c945043ea45335372939"), looks := true }, kinds := [], alts := [], laidByText := true, laidKinds := [.data, .data, .data, .data, .sentinel, .sentinel, .pinned], laidTests := true, laidLooks := .later }
def AttributionOrderUptoCardSaid : Prop := Claim7.holds Tryz.pinned (.plain (OpenSpec.upto attributionOrderSpec)) attributionOrderUptoCard

/-- THE SECOND FORM's CARD OF 'tranchelaw48.AttributionDrift'. -/
def attributionDriftUptoCard : Claim7 := { stood := { row := attributionDriftUptoRow, standIns := [], harness := (true, "e632d5d880a6fa6815b6ff7c17a10da68de6d04eb558c945043ea45335372939"), looks := true }, kinds := [], alts := [], laidByText := true, laidKinds := [.data, .data, .data, .data, .sentinel, .sentinel, .pinned], laidTests := true, laidLooks := .later }
def AttributionDriftUptoCardSaid : Prop := Claim7.holds Tryz.pinned (.plain (OpenSpec.upto attributionDriftSpec)) attributionDriftUptoCard

/-- THE SECOND FORM's CARD OF 'tranchelaw48.AttributionParts'. -/
def attributionPartsUptoCard : Claim7 := { stood := { row := attributionPartsUptoRow, standIns := [], harness := (true, "e632d5d880a6fa6815b6ff7c17a10da68de6d04eb558c945043ea45335372939"), looks := true }, kinds := [], alts := [], laidByText := true, laidKinds := [.data, .data, .data, .data, .sentinel, .sentinel, .pinned], laidTests := true, laidLooks := .later }
def AttributionPartsUptoCardSaid : Prop := Claim7.holds Tryz.pinned (.plain (OpenSpec.upto attributionPartsSpec)) attributionPartsUptoCard

/-- THE SECOND FORM's CARD OF 'tranchelaw48.AttributionMoney'. -/
def attributionMoneyUptoCard : Claim7 := { stood := { row := attributionMoneyUptoRow, standIns := [], harness := (true, "e632d5d880a6fa6815b6ff7c17a10da68de6d04eb558c945043ea45335372939"), looks := true }, kinds := [], alts := [], laidByText := true, laidKinds := [.data, .data, .data, .data, .sentinel, .sentinel, .pinned], laidTests := true, laidLooks := .later }
def AttributionMoneyUptoCardSaid : Prop := Claim7.holds Tryz.pinned (.plain (OpenSpec.upto attributionMoneySpec)) attributionMoneyUptoCard

/-- THE SECOND FORM's CARD OF 'tranchelaw08.DaycountParts'. -/
def daycountPartsUptoCard : Claim7 := { stood := { row := daycountPartsUptoRow, standIns := [], harness := (true, "e632d5d880a6fa6815b6ff7c17a10da68de6d04eb558c945043ea45335372939"), looks := true }, kinds := [], alts := [], laidByText := true, laidKinds := [.data, .data, .data, .data, .sentinel, .sentinel, .pinned], laidTests := true, laidLooks := .later }
def DaycountPartsUptoCardSaid : Prop := Claim7.holds Tryz.pinned (.plain (OpenSpec.upto daycountPartsSpec)) daycountPartsUptoCard

/-- THE SECOND FORM's CARD OF 'tranchelaw48.AttributionLinks'. -/
def attributionLinksUptoCard : Claim7 := { stood := { row := attributionLinksUptoRow, standIns := [], harness := (true, "e632d5d880a6fa6815b6ff7c17a10da68de6d04eb558c945043ea45335372939"), looks := true }, kinds := [], alts := [], laidByText := true, laidKinds := [.data, .data, .data, .data, .sentinel, .sentinel, .pinned], laidTests := true, laidLooks := .later }
def AttributionLinksUptoCardSaid : Prop := Claim7.holds Tryz.pinned (.plain (OpenSpec.upto attributionLinksSpec)) attributionLinksUptoCard

/-- THE SECOND FORM's CARD OF 'tranchelaw48.AttributionAmounts'. -/
def attributionAmountsUptoCard : Claim7 := { stood := { row := attributionAmountsUptoRow, standIns := [], harness := (true, "e632d5d880a6fa6815b6ff7c17a10da68de6d04eb558c945043ea45335372939"), looks := true }, kinds := [], alts := [], laidByText := true, laidKinds := [.data, .data, .data, .data, .sentinel, .sentinel, .pinned], laidTests := true, laidLooks := .later }
def AttributionAmountsUptoCardSaid : Prop := Claim7.holds Tryz.pinned (.plain (OpenSpec.upto attributionAmountsSpec)) attributionAmountsUptoCard

/-- THE SECOND FORM's CARD OF 'tranchelaw48.AttributionPeriods'. -/
def attributionPeriodsUptoCard : Claim7 := { stood := { row := attributionPeriodsUptoRow, standIns := [], harness := (true, "e632d5d880a6fa6815b6ff7c17a10da68de6d04eb558c945043ea45335372939"), looks := true }, kinds := [], alts := [], laidByText := true, laidKinds := [.data, .data, .data, .data, .sentinel, .sentinel, .pinned], laidTests := true, laidLooks := .later }
def AttributionPeriodsUptoCardSaid : Prop := Claim7.holds Tryz.pinned (.plain (OpenSpec.upto attributionPeriodsSpec)) attributionPeriodsUptoCard

/-- THE SECOND FORM's CARD OF 'tranchelaw08.DaycountNames'. -/
def daycountNamesUptoCard : Claim7 := { stood := { row := daycountNamesUptoRow, standIns := [], harness := (true, "e632d5d880a6fa6815b6ff7c17a10da68de6d04eb558c945043ea45335372939"), looks := true }, kinds := [], alts := [], laidByText := true, laidKinds := [.data, .data, .data, .data, .sentinel, .sentinel, .pinned], laidTests := true, laidLooks := .later }
def DaycountNamesUptoCardSaid : Prop := Claim7.holds Tryz.pinned (.plain (OpenSpec.upto daycountNamesSpec)) daycountNamesUptoCard
end Rows
end Go.Proofs.YtndkglmokhndnaaGreatDoor
