/-
  DERIVED. GIVEN WITH THE SEED: THE CARDS: each row of YtpoppdkkidhfbaaGreatDoorRows.lean that lists a variable, with what it lists TIED to the program's text (the seventh form; the later family's looks); each row that meets fmt, with fmt's text TOLD by the authors' own Lean function (tested against real Go, not proved from fmt's source: count such statements apart). THE CARD IS WHAT COUNTS. Prove the row's statement (the work); the ties are given (YtpoppdkkidhfbaaGreatDoorTie.lean); close each card by the builder's one call (the guide's Derived/Test/ToyasCard.lean, 'card_holds'). Laid BY PROGRAM, IN A SANDBOX (cutbox-door.mjs). By AI agents, Wed Nov 11 2026. No macro, syntax, notation, axiom, sorry.
-/
import Derived.Test.YtpoppdkkidhfbaaGreatDoorRows
import GoSem.ClaimSeven
namespace Go.Proofs.YtpoppdkkidhfbaaGreatDoor
namespace Rows

/-- THE TIED CARD OF 'tranchelaw01.IntegerDivides'. -/
def integerDividesCard : Claim7 := { stood := { row := integerDividesRow, standIns := [], harness := (true, "d2993db2a31a02c6132e5137e795fe1e066dcae35a808a2959e52d78b3ddd8a2"), looks := true }, kinds := [], alts := [], laidByText := true, laidKinds := [.data, .data, .data, .data, .sentinel, .sentinel, .pinned], laidTests := true, laidLooks := .later }
def IntegerDividesCardSaid : Prop := Claim7.holds Tryz.pinned (.plain (OpenSpec.ofChange integerDividesSpec)) integerDividesCard

/-- THE TIED CARD OF 'tranchelaw01.IntegerMakes'. -/
def integerMakesCard : Claim7 := { stood := { row := integerMakesRow, standIns := [], harness := (true, "d2993db2a31a02c6132e5137e795fe1e066dcae35a808a2959e52d78b3ddd8a2"), looks := true }, kinds := [], alts := [], laidByText := true, laidKinds := [.data, .data, .data, .data, .sentinel, .sentinel, .pinned], laidTests := true, laidLooks := .later }
def IntegerMakesCardSaid : Prop := Claim7.holds Tryz.pinned (.plain (OpenSpec.ofChange integerMakesSpec)) integerMakesCard

/-- THE TIED CARD OF 'tranchelaw01.IntegerComputes'. -/
def integerComputesCard : Claim7 := { stood := { row := integerComputesRow, standIns := [], harness := (true, "d2993db2a31a02c6132e5137e795fe1e066dcae35a808a2959e52d78b3ddd8a2"), looks := true }, kinds := [], alts := [], laidByText := true, laidKinds := [.data, .data, .data, .data, .sentinel, .sentinel, .pinned], laidTests := true, laidLooks := .later }
def IntegerComputesCardSaid : Prop := Claim7.holds Tryz.pinned (.plain (OpenSpec.ofChange integerComputesSpec)) integerComputesCard

/-- THE TIED CARD OF 'tranchelaw44.UnitpriceAll'. -/
def unitpriceAllCard : Claim7 := { stood := { row := unitpriceAllRow, standIns := [], harness := (true, "d2993db2a31a02c6132e5137e795fe1e066dcae35a808a2959e52d78b3ddd8a2"), looks := true }, kinds := [], alts := [], laidByText := true, laidKinds := [.data, .data, .data, .data, .sentinel, .sentinel, .pinned], laidTests := true, laidLooks := .later }
def UnitpriceAllCardSaid : Prop := Claim7.holds Tryz.pinned (.plain (OpenSpec.ofChange unitpriceAllSpec)) unitpriceAllCard

/-- THE TIED CARD OF 'tranchelaw44.UnitpricePrices'. -/
def unitpricePricesCard : Claim7 := { stood := { row := unitpricePricesRow, standIns := [], harness := (true, "d2993db2a31a02c6132e5137e795fe1e066dcae35a808a2959e52d78b3ddd8a2"), looks := true }, kinds := [], alts := [], laidByText := true, laidKinds := [.data, .data, .data, .data, .sentinel, .sentinel, .pinned], laidTests := true, laidLooks := .later }
def UnitpricePricesCardSaid : Prop := Claim7.holds Tryz.pinned (.plain (OpenSpec.ofChange unitpricePricesSpec)) unitpricePricesCard

/-- THE TIED CARD OF 'tranchelaw44.UnitpriceBack'. -/
def unitpriceBackCard : Claim7 := { stood := { row := unitpriceBackRow, standIns := [], harness := (true, "d2993db2a31a02c6132e5137e795fe1e066dcae35a808a2959e52d78b3ddd8a2"), looks := true }, kinds := [], alts := [], laidByText := true, laidKinds := [.data, .data, .data, .data, .sentinel, .sentinel, .pinned], laidTests := true, laidLooks := .later }
def UnitpriceBackCardSaid : Prop := Claim7.holds Tryz.pinned (.plain (OpenSpec.ofChange unitpriceBackSpec)) unitpriceBackCard

/-- THE TIED CARD OF 'tranchelaw44.UnitpriceFair'. -/
def unitpriceFairCard : Claim7 := { stood := { row := unitpriceFairRow, standIns := [], harness := (true, "d2993db2a31a02c6132e5137e795fe1e066dcae35a808a2959e52d78b3ddd8a2"), looks := true }, kinds := [], alts := [], laidByText := true, laidKinds := [.data, .data, .data, .data, .sentinel, .sentinel, .pinned], laidTests := true, laidLooks := .later }
def UnitpriceFairCardSaid : Prop := Claim7.holds Tryz.pinned (.plain (OpenSpec.ofChange unitpriceFairSpec)) unitpriceFairCard

/-- THE TIED CARD OF 'tranchelaw44.UnitpriceRuns'. -/
def unitpriceRunsCard : Claim7 := { stood := { row := unitpriceRunsRow, standIns := [], harness := (true, "d2993db2a31a02c6132e5137e795fe1e066dcae35a808a2959e52d78b3ddd8a2"), looks := true }, kinds := [], alts := [], laidByText := true, laidKinds := [.data, .data, .data, .data, .sentinel, .sentinel, .pinned], laidTests := true, laidLooks := .later }
def UnitpriceRunsCardSaid : Prop := Claim7.holds Tryz.pinned (.plain (OpenSpec.ofChange unitpriceRunsSpec)) unitpriceRunsCard

/-- THE TIED CARD OF 'tranchelaw44.UnitpriceDays'. -/
def unitpriceDaysCard : Claim7 := { stood := { row := unitpriceDaysRow, standIns := [], harness := (true, "d2993db2a31a02c6132e5137e795fe1e066dcae35a808a2959e52d78b3ddd8a2"), looks := true }, kinds := [], alts := [], laidByText := true, laidKinds := [.data, .data, .data, .data, .sentinel, .sentinel, .pinned], laidTests := true, laidLooks := .later }
def UnitpriceDaysCardSaid : Prop := Claim7.holds Tryz.pinned (.plain (OpenSpec.ofChange unitpriceDaysSpec)) unitpriceDaysCard

/-- THE SECOND FORM's CARD OF 'tranchelaw01.IntegerDivides'. -/
def integerDividesUptoCard : Claim7 := { stood := { row := integerDividesUptoRow, standIns := [], harness := (true, "d2993db2a31a02c6132e5137e795fe1e066dcae35a808a2959e52d78b3ddd8a2"), looks := true }, kinds := [], alts := [], laidByText := true, laidKinds := [.data, .data, .data, .data, .sentinel, .sentinel, .pinned], laidTests := true, laidLooks := .later }
def IntegerDividesUptoCardSaid : Prop := Claim7.holds Tryz.pinned (.plain (OpenSpec.upto integerDividesSpec)) integerDividesUptoCard

/-- THE SECOND FORM's CARD OF 'tranchelaw01.IntegerMakes'. -/
def integerMakesUptoCard : Claim7 := { stood := { row := integerMakesUptoRow, standIns := [], harness := (true, "d2993db2a31a02c6132e5137e795fe1e066dcae35a808a2959e52d78b3ddd8a2"), looks := true }, kinds := [], alts := [], laidByText := true, laidKinds := [.data, .data, .data, .data, .sentinel, .sentinel, .pinned], laidTests := true, laidLooks := .later }
def IntegerMakesUptoCardSaid : Prop := Claim7.holds Tryz.pinned (.plain (OpenSpec.upto integerMakesSpec)) integerMakesUptoCard

/-- THE SECOND FORM's CARD OF 'tranchelaw01.IntegerComputes'. -/
def integerComputesUptoCard : Claim7 := { stood := { row := integerComputesUptoRow, standIns := [], harness := (true, "d2993db2a31a02c6132e5137e795fe1e066dcae35a808a2959e52d78b3ddd8a2"), looks := true }, kinds := [], alts := [], laidByText := true, laidKinds := [.data, .data, .data, .data, .sentinel, .sentinel, .pinned], laidTests := true, laidLooks := .later }
def IntegerComputesUptoCardSaid : Prop := Claim7.holds Tryz.pinned (.plain (OpenSpec.upto integerComputesSpec)) integerComputesUptoCard

/-- THE SECOND FORM's CARD OF 'tranchelaw44.UnitpriceAll'. -/
def unitpriceAllUptoCard : Claim7 := { stood := { row := unitpriceAllUptoRow, standIns := [], harness := (true, "d2993db2a31a02c6132e5137e795fe1e066dcae35a808a2959e52d78b3ddd8a2"), looks := true }, kinds := [], alts := [], laidByText := true, laidKinds := [.data, .data, .data, .data, .sentinel, .sentinel, .pinned], laidTests := true, laidLooks := .later }
def UnitpriceAllUptoCardSaid : Prop := Claim7.holds Tryz.pinned (.plain (OpenSpec.upto unitpriceAllSpec)) unitpriceAllUptoCard

/-- THE SECOND FORM's CARD OF 'tranchelaw44.UnitpricePrices'. -/
def unitpricePricesUptoCard : Claim7 := { stood := { row := unitpricePricesUptoRow, standIns := [], harness := (true, "d2993db2a31a02c6132e5137e795fe1e066dcae35a808a2959e52d78b3ddd8a2"), looks := true }, kinds := [], alts := [], laidByText := true, laidKinds := [.data, .data, .data, .data, .sentinel, .sentinel, .pinned], laidTests := true, laidLooks := .later }
def UnitpricePricesUptoCardSaid : Prop := Claim7.holds Tryz.pinned (.plain (OpenSpec.upto unitpricePricesSpec)) unitpricePricesUptoCard

/-- THE SECOND FORM's CARD OF 'tranchelaw44.UnitpriceBack'. -/
def unitpriceBackUptoCard : Claim7 := { stood := { row := unitpriceBackUptoRow, standIns := [], harness := (true, "d2993db2a31a02c6132e5137e795fe1e066dcae35a808a2959e52d78b3ddd8a2"), looks := true }, kinds := [], alts := [], laidByText := true, laidKinds := [.data, .data, .data, .data, .sentinel, .sentinel, .pinned], laidTests := true, laidLooks := .later }
def UnitpriceBackUptoCardSaid : Prop := Claim7.holds Tryz.pinned (.plain (OpenSpec.upto unitpriceBackSpec)) unitpriceBackUptoCard

/-- THE SECOND FORM's CARD OF 'tranchelaw44.UnitpriceFair'. -/
def unitpriceFairUptoCard : Claim7 := { stood := { row := unitpriceFairUptoRow, standIns := [], harness := (true, "d2993db2a31a02c6132e5137e795fe1e066dcae35a808a2959e52d78b3ddd8a2"), looks := true }, kinds := [], alts := [], laidByText := true, laidKinds := [.data, .data, .data, .data, .sentinel, .sentinel, .pinned], laidTests := true, laidLooks := .later }
def UnitpriceFairUptoCardSaid : Prop := Claim7.holds Tryz.pinned (.plain (OpenSpec.upto unitpriceFairSpec)) unitpriceFairUptoCard

/-- THE SECOND FORM's CARD OF 'tranchelaw44.UnitpriceRuns'. -/
def unitpriceRunsUptoCard : Claim7 := { stood := { row := unitpriceRunsUptoRow, standIns := [], harness := (true, "d2993db2a31a02c6132e5137e795fe1e066dcae35a808a2959e52d78b3ddd8a2"), looks := true }, kinds := [], alts := [], laidByText := true, laidKinds := [.data, .data, .data, .data, .sentinel, .sentinel, .pinned], laidTests := true, laidLooks := .later }
def UnitpriceRunsUptoCardSaid : Prop := Claim7.holds Tryz.pinned (.plain (OpenSpec.upto unitpriceRunsSpec)) unitpriceRunsUptoCard

/-- THE SECOND FORM's CARD OF 'tranchelaw44.UnitpriceDays'. -/
def unitpriceDaysUptoCard : Claim7 := { stood := { row := unitpriceDaysUptoRow, standIns := [], harness := (true, "d2993db2a31a02c6132e5137e795fe1e066dcae35a808a2959e52d78b3ddd8a2"), looks := true }, kinds := [], alts := [], laidByText := true, laidKinds := [.data, .data, .data, .data, .sentinel, .sentinel, .pinned], laidTests := true, laidLooks := .later }
def UnitpriceDaysUptoCardSaid : Prop := Claim7.holds Tryz.pinned (.plain (OpenSpec.upto unitpriceDaysSpec)) unitpriceDaysUptoCard
end Rows
end Go.Proofs.YtpoppdkkidhfbaaGreatDoor
