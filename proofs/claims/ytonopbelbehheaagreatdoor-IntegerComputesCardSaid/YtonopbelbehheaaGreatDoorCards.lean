/-
  DERIVED. GIVEN WITH THE SEED: THE CARDS: each row of YtonopbelbehheaaGreatDoorRows.lean that lists a variable, with what it lists TIED to the program's text (the seventh form; the later family's looks); each row that meets fmt, with fmt's text TOLD by the authors' own Lean function (tested against real Go, not proved from fmt's source: count such statements apart). THE CARD IS WHAT COUNTS. Prove the row's statement (the work); the ties are given (YtonopbelbehheaaGreatDoorTie.lean); close each card by the builder's one call (the guide's Derived/Test/ToyasCard.lean, 'card_holds'). Laid BY PROGRAM, IN A SANDBOX (cutbox-door.mjs). By AI agents, Wed Nov 11 2026. No macro, syntax, notation, axiom, sorry.
-/
import Derived.Test.YtonopbelbehheaaGreatDoorRows
import GoSem.ClaimSeven
namespace Go.Proofs.YtonopbelbehheaaGreatDoor
namespace Rows

/-- THE TIED CARD OF 'tranchelaw01.IntegerDivides'. -/
def integerDividesCard : Claim7 := { stood := { row := integerDividesRow, standIns := [], harness := (true, "0a290c7495d245cad30e0300f5b9a0a575c30bcdbd72dfd7766cd839972a5abe"), looks := true }, kinds := [], alts := [], laidByText := true, laidKinds := [.data, .data, .data, .data, .sentinel, .sentinel, .pinned], laidTests := true, laidLooks := .later }
def IntegerDividesCardSaid : Prop := Claim7.holds Tryz.pinned (.plain (OpenSpec.ofChange integerDividesSpec)) integerDividesCard

/-- THE TIED CARD OF 'tranchelaw01.IntegerComputes'. -/
def integerComputesCard : Claim7 := { stood := { row := integerComputesRow, standIns := [], harness := (true, "0a290c7495d245cad30e0300f5b9a0a575c30bcdbd72dfd7766cd839972a5abe"), looks := true }, kinds := [], alts := [], laidByText := true, laidKinds := [.data, .data, .data, .data, .sentinel, .sentinel, .pinned], laidTests := true, laidLooks := .later }
def IntegerComputesCardSaid : Prop := Claim7.holds Tryz.pinned (.plain (OpenSpec.ofChange integerComputesSpec)) integerComputesCard

/-- THE TIED CARD OF 'tranchelaw44.UnitpriceAll'. -/
def unitpriceAllCard : Claim7 := { stood := { row := unitpriceAllRow, standIns := [], harness := (true, "0a290c7495d245cad30e0300f5b9a0a575c30bcdbd72dfd7766cd839972a5abe"), looks := true }, kinds := [], alts := [], laidByText := true, laidKinds := [.data, .data, .data, .data, .sentinel, .sentinel, .pinned], laidTests := true, laidLooks := .later }
def UnitpriceAllCardSaid : Prop := Claim7.holds Tryz.pinned (.plain (OpenSpec.ofChange unitpriceAllSpec)) unitpriceAllCard

/-- THE TIED CARD OF 'tranchelaw44.UnitpricePrices'. -/
def unitpricePricesCard : Claim7 := { stood := { row := unitpricePricesRow, standIns := [], harness := (true, "0a290c7495d245cad30e0300f5b9a0a575c30bcdbd72dfd7766cd839972a5abe"), looks := true }, kinds := [], alts := [], laidByText := true, laidKinds := [.data, .data, .data, .data, .sentinel, .sentinel, .pinned], laidTests := true, laidLooks := .later }
def UnitpricePricesCardSaid : Prop := Claim7.holds Tryz.pinned (.plain (OpenSpec.ofChange unitpricePricesSpec)) unitpricePricesCard

/-- THE TIED CARD OF 'tranchelaw44.UnitpriceBack'. -/
def unitpriceBackCard : Claim7 := { stood := { row := unitpriceBackRow, standIns := [], harness := (true, "0a290c7495d245cad30e0300f5b9a0a575c30bcdbd72dfd7766cd839972a5abe"), looks := true }, kinds := [], alts := [], laidByText := true, laidKinds := [.data, .data, .data, .data, .sentinel, .sentinel, .pinned], laidTests := true, laidLooks := .later }
def UnitpriceBackCardSaid : Prop := Claim7.holds Tryz.pinned (.plain (OpenSpec.ofChange unitpriceBackSpec)) unitpriceBackCard

/-- THE TIED CARD OF 'tranchelaw44.UnitpriceFair'. -/
def unitpriceFairCard : Claim7 := { stood := { row := unitpriceFairRow, standIns := [], harness := (true, "0a290c7495d245cad30e0300f5b9a0a575c30bcdbd72dfd7766cd839972a5abe"), looks := true }, kinds := [], alts := [], laidByText := true, laidKinds := [.data, .data, .data, .data, .sentinel, .sentinel, .pinned], laidTests := true, laidLooks := .later }
def UnitpriceFairCardSaid : Prop := Claim7.holds Tryz.pinned (.plain (OpenSpec.ofChange unitpriceFairSpec)) unitpriceFairCard

/-- THE TIED CARD OF 'tranchelaw44.UnitpriceRuns'. -/
def unitpriceRunsCard : Claim7 := { stood := { row := unitpriceRunsRow, standIns := [], harness := (true, "0a290c7495d245cad30e0300f5b9a0a575c30bcdbd72dfd7766cd839972a5abe"), looks := true }, kinds := [], alts := [], laidByText := true, laidKinds := [.data, .data, .data, .data, .sentinel, .sentinel, .pinned], laidTests := true, laidLooks := .later }
def UnitpriceRunsCardSaid : Prop := Claim7.holds Tryz.pinned (.plain (OpenSpec.ofChange unitpriceRunsSpec)) unitpriceRunsCard

/-- THE TIED CARD OF 'tranchelaw44.UnitpriceDays'. -/
def unitpriceDaysCard : Claim7 := { stood := { row := unitpriceDaysRow, standIns := [], harness := (true, "0a290c7495d245cad30e0300f5b9a0a575c30bcdbd72dfd7766cd839972a5abe"), looks := true }, kinds := [], alts := [], laidByText := true, laidKinds := [.data, .data, .data, .data, .sentinel, .sentinel, .pinned], laidTests := true, laidLooks := .later }
def UnitpriceDaysCardSaid : Prop := Claim7.holds Tryz.pinned (.plain (OpenSpec.ofChange unitpriceDaysSpec)) unitpriceDaysCard

/-- THE TIED CARD OF 'tranchelaw48.AttributionSums'. -/
def attributionSumsCard : Claim7 := { stood := { row := attributionSumsRow, standIns := [], harness := (true, "0a290c7495d245cad30e0300f5b9a0a575c30bcdbd72dfd7766cd839972a5abe"), looks := true }, kinds := [], alts := [], laidByText := true, laidKinds := [.data, .data, .data, .data, .sentinel, .sentinel, .pinned], laidTests := true, laidLooks := .later }
def AttributionSumsCardSaid : Prop := Claim7.holds Tryz.pinned (.plain (OpenSpec.ofChange attributionSumsSpec)) attributionSumsCard

/-- THE TIED CARD OF 'tranchelaw48.AttributionOrder'. -/
def attributionOrderCard : Claim7 := { stood := { row := attributionOrderRow, standIns := [], harness := (true, "0a290c7495d245cad30e0300f5b9a0a575c30bcdbd72dfd7766cd839972a5abe"), looks := true }, kinds := [], alts := [], laidByText := true, laidKinds := [.data, .data, .data, .data, .sentinel, .sentinel, .pinned], laidTests := true, laidLooks := .later }
def AttributionOrderCardSaid : Prop := Claim7.holds Tryz.pinned (.plain (OpenSpec.ofChange attributionOrderSpec)) attributionOrderCard

/-- THE TIED CARD OF 'tranchelaw48.AttributionDrift'. -/
def attributionDriftCard : Claim7 := { stood := { row := attributionDriftRow, standIns := [], harness := (true, "0a290c7495d245cad30e0300f5b9a0a575c30bcdbd72dfd7766cd839972a5abe"), looks := true }, kinds := [], alts := [], laidByText := true, laidKinds := [.data, .data, .data, .data, .sentinel, .sentinel, .pinned], laidTests := true, laidLooks := .later }
def AttributionDriftCardSaid : Prop := Claim7.holds Tryz.pinned (.plain (OpenSpec.ofChange attributionDriftSpec)) attributionDriftCard

/-- THE TIED CARD OF 'tranchelaw48.AttributionParts'. -/
def attributionPartsCard : Claim7 := { stood := { row := attributionPartsRow, standIns := [], harness := (true, "0a290c7495d245cad30e0300f5b9a0a575c30bcdbd72dfd7766cd839972a5abe"), looks := true }, kinds := [], alts := [], laidByText := true, laidKinds := [.data, .data, .data, .data, .sentinel, .sentinel, .pinned], laidTests := true, laidLooks := .later }
def AttributionPartsCardSaid : Prop := Claim7.holds Tryz.pinned (.plain (OpenSpec.ofChange attributionPartsSpec)) attributionPartsCard

/-- THE SECOND FORM's CARD OF 'tranchelaw01.IntegerDivides'. -/
def integerDividesUptoCard : Claim7 := { stood := { row := integerDividesUptoRow, standIns := [], harness := (true, "0a290c7495d245cad30e0300f5b9a0a575c30bcdbd72dfd7766cd839972a5abe"), looks := true }, kinds := [], alts := [], laidByText := true, laidKinds := [.data, .data, .data, .data, .sentinel, .sentinel, .pinned], laidTests := true, laidLooks := .later }
def IntegerDividesUptoCardSaid : Prop := Claim7.holds Tryz.pinned (.plain (OpenSpec.upto integerDividesSpec)) integerDividesUptoCard

/-- THE SECOND FORM's CARD OF 'tranchelaw01.IntegerComputes'. -/
def integerComputesUptoCard : Claim7 := { stood := { row := integerComputesUptoRow, standIns := [], harness := (true, "0a290c7495d245cad30e0300f5b9a0a575c30bcdbd72dfd7766cd839972a5abe"), looks := true }, kinds := [], alts := [], laidByText := true, laidKinds := [.data, .data, .data, .data, .sentinel, .sentinel, .pinned], laidTests := true, laidLooks := .later }
def IntegerComputesUptoCardSaid : Prop := Claim7.holds Tryz.pinned (.plain (OpenSpec.upto integerComputesSpec)) integerComputesUptoCard

/-- THE SECOND FORM's CARD OF 'tranchelaw44.UnitpriceAll'. -/
def unitpriceAllUptoCard : Claim7 := { stood := { row := unitpriceAllUptoRow, standIns := [], harness := (true, "0a290c7495d245cad30e0300f5b9a0a575c30bcdbd72dfd7766cd839972a5abe"), looks := true }, kinds := [], alts := [], laidByText := true, laidKinds := [.data, .data, .data, .data, .sentinel, .sentinel, .pinned], laidTests := true, laidLooks := .later }
def UnitpriceAllUptoCardSaid : Prop := Claim7.holds Tryz.pinned (.plain (OpenSpec.upto unitpriceAllSpec)) unitpriceAllUptoCard

/-- THE SECOND FORM's CARD OF 'tranchelaw44.UnitpricePrices'. -/
def unitpricePricesUptoCard : Claim7 := { stood := { row := unitpricePricesUptoRow, standIns := [], harness := (true, "0a290c7495d245cad30e0300f5b9a0a575c30bcdbd72dfd7766cd839972a5abe"), looks := true }, kinds := [], alts := [], laidByText := true, laidKinds := [.data, .data, .data, .data, .sentinel, .sentinel, .pinned], laidTests := true, laidLooks := .later }
def UnitpricePricesUptoCardSaid : Prop := Claim7.holds Tryz.pinned (.plain (OpenSpec.upto unitpricePricesSpec)) unitpricePricesUptoCard

/-- THE SECOND FORM's CARD OF 'tranchelaw44.UnitpriceBack'. -/
def unitpriceBackUptoCard : Claim7 := { stood := { row := unitpriceBackUptoRow, standIns := [], harness := (true, "0a290c7495d245cad30e0300f5b9a0a575c30bcdbd72dfd7766cd839972a5abe"), looks := true }, kinds := [], alts := [], laidByText := true, laidKinds := [.data, .data, .data, .data, .sentinel, .sentinel, .pinned], laidTests := true, laidLooks := .later }
def UnitpriceBackUptoCardSaid : Prop := Claim7.holds Tryz.pinned (.plain (OpenSpec.upto unitpriceBackSpec)) unitpriceBackUptoCard

/-- THE SECOND FORM's CARD OF 'tranchelaw44.UnitpriceFair'. -/
def unitpriceFairUptoCard : Claim7 := { stood := { row := unitpriceFairUptoRow, standIns := [], harness := (true, "0a290c7495d245cad30e0300f5b9a0a575c30bcdbd72dfd7766cd839972a5abe"), looks := true }, kinds := [], alts := [], laidByText := true, laidKinds := [.data, .data, .data, .data, .sentinel, .sentinel, .pinned], laidTests := true, laidLooks := .later }
def UnitpriceFairUptoCardSaid : Prop := Claim7.holds Tryz.pinned (.plain (OpenSpec.upto unitpriceFairSpec)) unitpriceFairUptoCard

/-- THE SECOND FORM's CARD OF 'tranchelaw44.UnitpriceRuns'. -/
def unitpriceRunsUptoCard : Claim7 := { stood := { row := unitpriceRunsUptoRow, standIns := [], harness := (true, "0a290c7495d245cad30e0300f5b9a0a575c30bcdbd72dfd7766cd839972a5abe"), looks := true }, kinds := [], alts := [], laidByText := true, laidKinds := [.data, .data, .data, .data, .sentinel, .sentinel, .pinned], laidTests := true, laidLooks := .later }
def UnitpriceRunsUptoCardSaid : Prop := Claim7.holds Tryz.pinned (.plain (OpenSpec.upto unitpriceRunsSpec)) unitpriceRunsUptoCard

/-- THE SECOND FORM's CARD OF 'tranchelaw44.UnitpriceDays'. -/
def unitpriceDaysUptoCard : Claim7 := { stood := { row := unitpriceDaysUptoRow, standIns := [], harness := (true, "0a290c7495d245cad30e0300f5b9a0a575c30bcdbd72dfd7766cd839972a5abe"), looks := true }, kinds := [], alts := [], laidByText := true, laidKinds := [.data, .data, .data, .data, .sentinel, .sentinel, .pinned], laidTests := true, laidLooks := .later }
def UnitpriceDaysUptoCardSaid : Prop := Claim7.holds Tryz.pinned (.plain (OpenSpec.upto unitpriceDaysSpec)) unitpriceDaysUptoCard

/-- THE SECOND FORM's CARD OF 'tranchelaw48.AttributionSums'. -/
def attributionSumsUptoCard : Claim7 := { stood := { row := attributionSumsUptoRow, standIns := [], harness := (true, "0a290c7495d245cad30e0300f5b9a0a575c30bcdbd72dfd7766cd839972a5abe"), looks := true }, kinds := [], alts := [], laidByText := true, laidKinds := [.data, .data, .data, .data, .sentinel, .sentinel, .pinned], laidTests := true, laidLooks := .later }
def AttributionSumsUptoCardSaid : Prop := Claim7.holds Tryz.pinned (.plain (OpenSpec.upto attributionSumsSpec)) attributionSumsUptoCard

/-- THE SECOND FORM's CARD OF 'tranchelaw48.AttributionOrder'. -/
def attributionOrderUptoCard : Claim7 := { stood := { row := attributionOrderUptoRow, standIns := [], harness := (true, "0a290c7495d245cad30e0300f5b9a0a575c30bcdbd72dfd7766cd839972a5abe"), looks := true }, kinds := [], alts := [], laidByText := true, laidKinds := [.data, .data, .data, .data, .sentinel, .sentinel, .pinned], laidTests := true, laidLooks := .later }
def AttributionOrderUptoCardSaid : Prop := Claim7.holds Tryz.pinned (.plain (OpenSpec.upto attributionOrderSpec)) attributionOrderUptoCard

/-- THE SECOND FORM's CARD OF 'tranchelaw48.AttributionDrift'. -/
def attributionDriftUptoCard : Claim7 := { stood := { row := attributionDriftUptoRow, standIns := [], harness := (true, "0a290c7495d245cad30e0300f5b9a0a575c30bcdbd72dfd7766cd839972a5abe"), looks := true }, kinds := [], alts := [], laidByText := true, laidKinds := [.data, .data, .data, .data, .sentinel, .sentinel, .pinned], laidTests := true, laidLooks := .later }
def AttributionDriftUptoCardSaid : Prop := Claim7.holds Tryz.pinned (.plain (OpenSpec.upto attributionDriftSpec)) attributionDriftUptoCard

/-- THE SECOND FORM's CARD OF 'tranchelaw48.AttributionParts'. -/
def attributionPartsUptoCard : Claim7 := { stood := { row := attributionPartsUptoRow, standIns := [], harness := (true, "0a290c7495d245cad30e0300f5b9a0a575c30bcdbd72dfd7766cd839972a5abe"), looks := true }, kinds := [], alts := [], laidByText := true, laidKinds := [.data, .data, .data, .data, .sentinel, .sentinel, .pinned], laidTests := true, laidLooks := .later }
def AttributionPartsUptoCardSaid : Prop := Claim7.holds Tryz.pinned (.plain (OpenSpec.upto attributionPartsSpec)) attributionPartsUptoCard
end Rows
end Go.Proofs.YtonopbelbehheaaGreatDoor
