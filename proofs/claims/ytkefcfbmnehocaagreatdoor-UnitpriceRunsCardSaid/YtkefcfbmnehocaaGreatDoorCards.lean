/-
  DERIVED. GIVEN WITH THE SEED: THE CARDS: each row of YtkefcfbmnehocaaGreatDoorRows.lean that lists a variable, with what it lists TIED to the program's text (the seventh form; the later family's looks); each row that meets fmt, with fmt's text TOLD by the authors' own Lean function (tested against real Go, not proved from fmt's source: count such statements apart). THE CARD IS WHAT COUNTS. Prove the row's statement (the work); the ties are given (YtkefcfbmnehocaaGreatDoorTie.lean); close each card by the builder's one call (the guide's Derived/Test/ToyasCard.lean, 'card_holds'). Laid BY PROGRAM, IN A SANDBOX (cutbox-door.mjs). By AI agents, Wed Nov 11 2026. No macro, syntax, notation, axiom, sorry.
-/
import Derived.Test.YtkefcfbmnehocaaGreatDoorRows
import GoSem.ClaimSeven
namespace Go.Proofs.YtkefcfbmnehocaaGreatDoor
namespace Rows

/-- THE TIED CARD OF 'tranchelaw01.IntegerDivides'. -/
def integerDividesCard : Claim7 := { stood := { row := integerDividesRow, standIns := [], harness := (true, "266b0b1deeb84fea9ae0ba03e27ed131db0b325c65673d5cc58f0340ab1f0e18"), looks := true }, kinds := [], alts := [], laidByText := true, laidKinds := [.data, .data, .data, .data, .sentinel, .sentinel, .pinned], laidTests := true, laidLooks := .later }
def IntegerDividesCardSaid : Prop := Claim7.holds Tryz.pinned (.plain (OpenSpec.ofChange integerDividesSpec)) integerDividesCard

/-- THE TIED CARD OF 'tranchelaw44.UnitpricePrices'. -/
def unitpricePricesCard : Claim7 := { stood := { row := unitpricePricesRow, standIns := [], harness := (true, "266b0b1deeb84fea9ae0ba03e27ed131db0b325c65673d5cc58f0340ab1f0e18"), looks := true }, kinds := [], alts := [], laidByText := true, laidKinds := [.data, .data, .data, .data, .sentinel, .sentinel, .pinned], laidTests := true, laidLooks := .later }
def UnitpricePricesCardSaid : Prop := Claim7.holds Tryz.pinned (.plain (OpenSpec.ofChange unitpricePricesSpec)) unitpricePricesCard

/-- THE TIED CARD OF 'tranchelaw44.UnitpriceRuns'. -/
def unitpriceRunsCard : Claim7 := { stood := { row := unitpriceRunsRow, standIns := [], harness := (true, "266b0b1deeb84fea9ae0ba03e27ed131db0b325c65673d5cc58f0340ab1f0e18"), looks := true }, kinds := [], alts := [], laidByText := true, laidKinds := [.data, .data, .data, .data, .sentinel, .sentinel, .pinned], laidTests := true, laidLooks := .later }
def UnitpriceRunsCardSaid : Prop := Claim7.holds Tryz.pinned (.plain (OpenSpec.ofChange unitpriceRunsSpec)) unitpriceRunsCard

/-- THE TIED CARD OF 'tranchelaw44.UnitpriceDays'. -/
def unitpriceDaysCard : Claim7 := { stood := { row := unitpriceDaysRow, standIns := [], harness := (true, "266b0b1deeb84fea9ae0ba03e27ed131db0b325c65673d5cc58f0340ab1f0e18"), looks := true }, kinds := [], alts := [], laidByText := true, laidKinds := [.data, .data, .data, .data, .sentinel, .sentinel, .pinned], laidTests := true, laidLooks := .later }
def UnitpriceDaysCardSaid : Prop := Claim7.holds Tryz.pinned (.plain (OpenSpec.ofChange unitpriceDaysSpec)) unitpriceDaysCard

/-- THE TIED CARD OF 'tranchelaw08.DaycountSums'. -/
def daycountSumsCard : Claim7 := { stood := { row := daycountSumsRow, standIns := [], harness := (true, "266b0b1deeb84fea9ae0ba03e27ed131db0b325c65673d5cc58f0340ab1f0e18"), looks := true }, kinds := [], alts := [], laidByText := true, laidKinds := [.data, .data, .data, .data, .sentinel, .sentinel, .pinned], laidTests := true, laidLooks := .later }
def DaycountSumsCardSaid : Prop := Claim7.holds Tryz.pinned (.plain (OpenSpec.ofChange daycountSumsSpec)) daycountSumsCard

/-- THE TIED CARD OF 'tranchelaw08.DaycountYears'. -/
def daycountYearsCard : Claim7 := { stood := { row := daycountYearsRow, standIns := [], harness := (true, "266b0b1deeb84fea9ae0ba03e27ed131db0b325c65673d5cc58f0340ab1f0e18"), looks := true }, kinds := [], alts := [], laidByText := true, laidKinds := [.data, .data, .data, .data, .sentinel, .sentinel, .pinned], laidTests := true, laidLooks := .later }
def DaycountYearsCardSaid : Prop := Claim7.holds Tryz.pinned (.plain (OpenSpec.ofChange daycountYearsSpec)) daycountYearsCard

/-- THE TIED CARD OF 'tranchelaw08.DaycountGrows'. -/
def daycountGrowsCard : Claim7 := { stood := { row := daycountGrowsRow, standIns := [], harness := (true, "266b0b1deeb84fea9ae0ba03e27ed131db0b325c65673d5cc58f0340ab1f0e18"), looks := true }, kinds := [], alts := [], laidByText := true, laidKinds := [.data, .data, .data, .data, .sentinel, .sentinel, .pinned], laidTests := true, laidLooks := .later }
def DaycountGrowsCardSaid : Prop := Claim7.holds Tryz.pinned (.plain (OpenSpec.ofChange daycountGrowsSpec)) daycountGrowsCard

/-- THE TIED CARD OF 'tranchelaw08.DaycountMonths'. -/
def daycountMonthsCard : Claim7 := { stood := { row := daycountMonthsRow, standIns := [], harness := (true, "266b0b1deeb84fea9ae0ba03e27ed131db0b325c65673d5cc58f0340ab1f0e18"), looks := true }, kinds := [], alts := [], laidByText := true, laidKinds := [.data, .data, .data, .data, .sentinel, .sentinel, .pinned], laidTests := true, laidLooks := .later }
def DaycountMonthsCardSaid : Prop := Claim7.holds Tryz.pinned (.plain (OpenSpec.ofChange daycountMonthsSpec)) daycountMonthsCard

/-- THE TIED CARD OF 'tranchelaw48.AttributionSums'. -/
def attributionSumsCard : Claim7 := { stood := { row := attributionSumsRow, standIns := [], harness := (true, "266b0b1deeb84fea9ae0ba03e27ed131db0b325c65673d5cc58f0340ab1f0e18"), looks := true }, kinds := [], alts := [], laidByText := true, laidKinds := [.data, .data, .data, .data, .sentinel, .sentinel, .pinned], laidTests := true, laidLooks := .later }
def AttributionSumsCardSaid : Prop := Claim7.holds Tryz.pinned (.plain (OpenSpec.ofChange attributionSumsSpec)) attributionSumsCard

/-- THE TIED CARD OF 'tranchelaw48.AttributionOrder'. -/
def attributionOrderCard : Claim7 := { stood := { row := attributionOrderRow, standIns := [], harness := (true, "266b0b1deeb84fea9ae0ba03e27ed131db0b325c65673d5cc58f0340ab1f0e18"), looks := true }, kinds := [], alts := [], laidByText := true, laidKinds := [.data, .data, .data, .data, .sentinel, .sentinel, .pinned], laidTests := true, laidLooks := .later }
def AttributionOrderCardSaid : Prop := Claim7.holds Tryz.pinned (.plain (OpenSpec.ofChange attributionOrderSpec)) attributionOrderCard

/-- THE TIED CARD OF 'tranchelaw48.AttributionDrift'. -/
def attributionDriftCard : Claim7 := { stood := { row := attributionDriftRow, standIns := [], harness := (true, "266b0b1deeb84fea9ae0ba03e27ed131db0b325c65673d5cc58f0340ab1f0e18"), looks := true }, kinds := [], alts := [], laidByText := true, laidKinds := [.data, .data, .data, .data, .sentinel, .sentinel, .pinned], laidTests := true, laidLooks := .later }
def AttributionDriftCardSaid : Prop := Claim7.holds Tryz.pinned (.plain (OpenSpec.ofChange attributionDriftSpec)) attributionDriftCard

/-- THE TIED CARD OF 'tranchelaw08.DaycountLast'. -/
def daycountLastCard : Claim7 := { stood := { row := daycountLastRow, standIns := [], harness := (true, "266b0b1deeb84fea9ae0ba03e27ed131db0b325c65673d5cc58f0340ab1f0e18"), looks := true }, kinds := [], alts := [], laidByText := true, laidKinds := [.data, .data, .data, .data, .sentinel, .sentinel, .pinned], laidTests := true, laidLooks := .later }
def DaycountLastCardSaid : Prop := Claim7.holds Tryz.pinned (.plain (OpenSpec.ofChange daycountLastSpec)) daycountLastCard

/-- THE SECOND FORM's CARD OF 'tranchelaw01.IntegerDivides'. -/
def integerDividesUptoCard : Claim7 := { stood := { row := integerDividesUptoRow, standIns := [], harness := (true, "266b0b1deeb84fea9ae0ba03e27ed131db0b325c65673d5cc58f0340ab1f0e18"), looks := true }, kinds := [], alts := [], laidByText := true, laidKinds := [.data, .data, .data, .data, .sentinel, .sentinel, .pinned], laidTests := true, laidLooks := .later }
def IntegerDividesUptoCardSaid : Prop := Claim7.holds Tryz.pinned (.plain (OpenSpec.upto integerDividesSpec)) integerDividesUptoCard

/-- THE SECOND FORM's CARD OF 'tranchelaw44.UnitpricePrices'. -/
def unitpricePricesUptoCard : Claim7 := { stood := { row := unitpricePricesUptoRow, standIns := [], harness := (true, "266b0b1deeb84fea9ae0ba03e27ed131db0b325c65673d5cc58f0340ab1f0e18"), looks := true }, kinds := [], alts := [], laidByText := true, laidKinds := [.data, .data, .data, .data, .sentinel, .sentinel, .pinned], laidTests := true, laidLooks := .later }
def UnitpricePricesUptoCardSaid : Prop := Claim7.holds Tryz.pinned (.plain (OpenSpec.upto unitpricePricesSpec)) unitpricePricesUptoCard

/-- THE SECOND FORM's CARD OF 'tranchelaw44.UnitpriceRuns'. -/
def unitpriceRunsUptoCard : Claim7 := { stood := { row := unitpriceRunsUptoRow, standIns := [], harness := (true, "266b0b1deeb84fea9ae0ba03e27ed131db0b325c65673d5cc58f0340ab1f0e18"), looks := true }, kinds := [], alts := [], laidByText := true, laidKinds := [.data, .data, .data, .data, .sentinel, .sentinel, .pinned], laidTests := true, laidLooks := .later }
def UnitpriceRunsUptoCardSaid : Prop := Claim7.holds Tryz.pinned (.plain (OpenSpec.upto unitpriceRunsSpec)) unitpriceRunsUptoCard

/-- THE SECOND FORM's CARD OF 'tranchelaw44.UnitpriceDays'. -/
def unitpriceDaysUptoCard : Claim7 := { stood := { row := unitpriceDaysUptoRow, standIns := [], harness := (true, "266b0b1deeb84fea9ae0ba03e27ed131db0b325c65673d5cc58f0340ab1f0e18"), looks := true }, kinds := [], alts := [], laidByText := true, laidKinds := [.data, .data, .data, .data, .sentinel, .sentinel, .pinned], laidTests := true, laidLooks := .later }
def UnitpriceDaysUptoCardSaid : Prop := Claim7.holds Tryz.pinned (.plain (OpenSpec.upto unitpriceDaysSpec)) unitpriceDaysUptoCard

/-- THE SECOND FORM's CARD OF 'tranchelaw08.DaycountSums'. -/
def daycountSumsUptoCard : Claim7 := { stood := { row := daycountSumsUptoRow, standIns := [], harness := (true, "266b0b1deeb84fea9ae0ba03e27ed131db0b325c65673d5cc58f0340ab1f0e18"), looks := true }, kinds := [], alts := [], laidByText := true, laidKinds := [.data, .data, .data, .data, .sentinel, .sentinel, .pinned], laidTests := true, laidLooks := .later }
def DaycountSumsUptoCardSaid : Prop := Claim7.holds Tryz.pinned (.plain (OpenSpec.upto daycountSumsSpec)) daycountSumsUptoCard

/-- THE SECOND FORM's CARD OF 'tranchelaw08.DaycountYears'. -/
def daycountYearsUptoCard : Claim7 := { stood := { row := daycountYearsUptoRow, standIns := [], harness := (true, "266b0b1deeb84fea9ae0ba03e27ed131db0b325c65673d5cc58f0340ab1f0e18"), looks := true }, kinds := [], alts := [], laidByText := true, laidKinds := [.data, .data, .data, .data, .sentinel, .sentinel, .pinned], laidTests := true, laidLooks := .later }
def DaycountYearsUptoCardSaid : Prop := Claim7.holds Tryz.pinned (.plain (OpenSpec.upto daycountYearsSpec)) daycountYearsUptoCard

/-- THE SECOND FORM's CARD OF 'tranchelaw08.DaycountGrows'. -/
def daycountGrowsUptoCard : Claim7 := { stood := { row := daycountGrowsUptoRow, standIns := [], harness := (true, "266b0b1deeb84fea9ae0ba03e27ed131db0b325c65673d5cc58f0340ab1f0e18"), looks := true }, kinds := [], alts := [], laidByText := true, laidKinds := [.data, .data, .data, .data, .sentinel, .sentinel, .pinned], laidTests := true, laidLooks := .later }
def DaycountGrowsUptoCardSaid : Prop := Claim7.holds Tryz.pinned (.plain (OpenSpec.upto daycountGrowsSpec)) daycountGrowsUptoCard

/-- THE SECOND FORM's CARD OF 'tranchelaw08.DaycountMonths'. -/
def daycountMonthsUptoCard : Claim7 := { stood := { row := daycountMonthsUptoRow, standIns := [], harness := (true, "266b0b1deeb84fea9ae0ba03e27ed131db0b325c65673d5cc58f0340ab1f0e18"), looks := true }, kinds := [], alts := [], laidByText := true, laidKinds := [.data, .data, .data, .data, .sentinel, .sentinel, .pinned], laidTests := true, laidLooks := .later }
def DaycountMonthsUptoCardSaid : Prop := Claim7.holds Tryz.pinned (.plain (OpenSpec.upto daycountMonthsSpec)) daycountMonthsUptoCard

/-- THE SECOND FORM's CARD OF 'tranchelaw48.AttributionSums'. -/
def attributionSumsUptoCard : Claim7 := { stood := { row := attributionSumsUptoRow, standIns := [], harness := (true, "266b0b1deeb84fea9ae0ba03e27ed131db0b325c65673d5cc58f0340ab1f0e18"), looks := true }, kinds := [], alts := [], laidByText := true, laidKinds := [.data, .data, .data, .data, .sentinel, .sentinel, .pinned], laidTests := true, laidLooks := .later }
def AttributionSumsUptoCardSaid : Prop := Claim7.holds Tryz.pinned (.plain (OpenSpec.upto attributionSumsSpec)) attributionSumsUptoCard

/-- THE SECOND FORM's CARD OF 'tranchelaw48.AttributionOrder'. -/
def attributionOrderUptoCard : Claim7 := { stood := { row := attributionOrderUptoRow, standIns := [], harness := (true, "266b0b1deeb84fea9ae0ba03e27ed131db0b325c65673d5cc58f0340ab1f0e18"), looks := true }, kinds := [], alts := [], laidByText := true, laidKinds := [.data, .data, .data, .data, .sentinel, .sentinel, .pinned], laidTests := true, laidLooks := .later }
def AttributionOrderUptoCardSaid : Prop := Claim7.holds Tryz.pinned (.plain (OpenSpec.upto attributionOrderSpec)) attributionOrderUptoCard

/-- THE SECOND FORM's CARD OF 'tranchelaw48.AttributionDrift'. -/
def attributionDriftUptoCard : Claim7 := { stood := { row := attributionDriftUptoRow, standIns := [], harness := (true, "266b0b1deeb84fea9ae0ba03e27ed131db0b325c65673d5cc58f0340ab1f0e18"), looks := true }, kinds := [], alts := [], laidByText := true, laidKinds := [.data, .data, .data, .data, .sentinel, .sentinel, .pinned], laidTests := true, laidLooks := .later }
def AttributionDriftUptoCardSaid : Prop := Claim7.holds Tryz.pinned (.plain (OpenSpec.upto attributionDriftSpec)) attributionDriftUptoCard

/-- THE SECOND FORM's CARD OF 'tranchelaw08.DaycountLast'. -/
def daycountLastUptoCard : Claim7 := { stood := { row := daycountLastUptoRow, standIns := [], harness := (true, "266b0b1deeb84fea9ae0ba03e27ed131db0b325c65673d5cc58f0340ab1f0e18"), looks := true }, kinds := [], alts := [], laidByText := true, laidKinds := [.data, .data, .data, .data, .sentinel, .sentinel, .pinned], laidTests := true, laidLooks := .later }
def DaycountLastUptoCardSaid : Prop := Claim7.holds Tryz.pinned (.plain (OpenSpec.upto daycountLastSpec)) daycountLastUptoCard
end Rows
end Go.Proofs.YtkefcfbmnehocaaGreatDoor
