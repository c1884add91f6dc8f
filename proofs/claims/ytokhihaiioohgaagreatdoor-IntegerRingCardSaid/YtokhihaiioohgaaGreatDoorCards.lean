/-
  DERIVED. GIVEN WITH THE SEED: THE CARDS: each row of YtokhihaiioohgaaGreatDoorRows.lean that lists a variable, with what it lists TIED to the program's text (the seventh form; the later family's looks); each row that meets fmt, with fmt's text TOLD by the authors' own Lean function (tested against real Go, not proved from fmt's source: count such statements apart). THE CARD IS WHAT COUNTS. Prove the row's statement (the work); the ties are given (YtokhihaiioohgaaGreatDoorTie.lean); close each card by the builder's one call (the guide's Derived/Test/ToyasCard.lean, 'card_holds'). Laid BY PROGRAM, IN A SANDBOX (cutbox-door.mjs). By AI agents, Wed Nov 11 2026. No macro, syntax, notation, axiom, sorry.
-/
import Derived.Test.YtokhihaiioohgaaGreatDoorRows
import GoSem.ClaimSeven
namespace Go.Proofs.YtokhihaiioohgaaGreatDoor
namespace Rows

/-- THE TIED CARD OF 'tranchelaw01.IntegerDivides'. -/
def integerDividesCard : Claim7 := { stood := { row := integerDividesRow, standIns := [], harness := (true, "9db249ecc3661b921de0d4a30661b8bc27611c5d0a3036394de66ff3b4671558"), looks := true }, kinds := [], alts := [], laidByText := true, laidKinds := [.data, .data, .data, .data, .sentinel, .sentinel, .pinned], laidTests := true, laidLooks := .later }
def IntegerDividesCardSaid : Prop := Claim7.holds Tryz.pinned (.plain (OpenSpec.ofChange integerDividesSpec)) integerDividesCard

/-- THE TIED CARD OF 'tranchelaw01.IntegerMakes'. -/
def integerMakesCard : Claim7 := { stood := { row := integerMakesRow, standIns := [], harness := (true, "9db249ecc3661b921de0d4a30661b8bc27611c5d0a3036394de66ff3b4671558"), looks := true }, kinds := [], alts := [], laidByText := true, laidKinds := [.data, .data, .data, .data, .sentinel, .sentinel, .pinned], laidTests := true, laidLooks := .later }
def IntegerMakesCardSaid : Prop := Claim7.holds Tryz.pinned (.plain (OpenSpec.ofChange integerMakesSpec)) integerMakesCard

/-- THE TIED CARD OF 'tranchelaw01.IntegerRing'. -/
def integerRingCard : Claim7 := { stood := { row := integerRingRow, standIns := [], harness := (true, "9db249ecc3661b921de0d4a30661b8bc27611c5d0a3036394de66ff3b4671558"), looks := true }, kinds := [], alts := [], laidByText := true, laidKinds := [.data, .data, .data, .data, .sentinel, .sentinel, .pinned], laidTests := true, laidLooks := .later }
def IntegerRingCardSaid : Prop := Claim7.holds Tryz.pinned (.plain (OpenSpec.ofChange integerRingSpec)) integerRingCard

/-- THE TIED CARD OF 'tranchelaw01.IntegerComputes'. -/
def integerComputesCard : Claim7 := { stood := { row := integerComputesRow, standIns := [], harness := (true, "9db249ecc3661b921de0d4a30661b8bc27611c5d0a3036394de66ff3b4671558"), looks := true }, kinds := [], alts := [], laidByText := true, laidKinds := [.data, .data, .data, .data, .sentinel, .sentinel, .pinned], laidTests := true, laidLooks := .later }
def IntegerComputesCardSaid : Prop := Claim7.holds Tryz.pinned (.plain (OpenSpec.ofChange integerComputesSpec)) integerComputesCard

/-- THE TIED CARD OF 'tranchelaw01.IntegerQuotients'. -/
def integerQuotientsCard : Claim7 := { stood := { row := integerQuotientsRow, standIns := [], harness := (true, "9db249ecc3661b921de0d4a30661b8bc27611c5d0a3036394de66ff3b4671558"), looks := true }, kinds := [], alts := [], laidByText := true, laidKinds := [.data, .data, .data, .data, .sentinel, .sentinel, .pinned], laidTests := true, laidLooks := .later }
def IntegerQuotientsCardSaid : Prop := Claim7.holds Tryz.pinned (.plain (OpenSpec.ofChange integerQuotientsSpec)) integerQuotientsCard

/-- THE TIED CARD OF 'tranchelaw01.IntegerMachine'. -/
def integerMachineCard : Claim7 := { stood := { row := integerMachineRow, standIns := [], harness := (true, "9db249ecc3661b921de0d4a30661b8bc27611c5d0a3036394de66ff3b4671558"), looks := true }, kinds := [], alts := [], laidByText := true, laidKinds := [.data, .data, .data, .data, .sentinel, .sentinel, .pinned], laidTests := true, laidLooks := .later }
def IntegerMachineCardSaid : Prop := Claim7.holds Tryz.pinned (.plain (OpenSpec.ofChange integerMachineSpec)) integerMachineCard

/-- THE SECOND FORM's CARD OF 'tranchelaw01.IntegerDivides'. -/
def integerDividesUptoCard : Claim7 := { stood := { row := integerDividesUptoRow, standIns := [], harness := (true, "9db249ecc3661b921de0d4a30661b8bc27611c5d0a3036394de66ff3b4671558"), looks := true }, kinds := [], alts := [], laidByText := true, laidKinds := [.data, .data, .data, .data, .sentinel, .sentinel, .pinned], laidTests := true, laidLooks := .later }
def IntegerDividesUptoCardSaid : Prop := Claim7.holds Tryz.pinned (.plain (OpenSpec.upto integerDividesSpec)) integerDividesUptoCard

/-- THE SECOND FORM's CARD OF 'tranchelaw01.IntegerMakes'. -/
def integerMakesUptoCard : Claim7 := { stood := { row := integerMakesUptoRow, standIns := [], harness := (true, "9db249ecc3661b921de0d4a30661b8bc27611c5d0a3036394de66ff3b4671558"), looks := true }, kinds := [], alts := [], laidByText := true, laidKinds := [.data, .data, .data, .data, .sentinel, .sentinel, .pinned], laidTests := true, laidLooks := .later }
def IntegerMakesUptoCardSaid : Prop := Claim7.holds Tryz.pinned (.plain (OpenSpec.upto integerMakesSpec)) integerMakesUptoCard

/-- THE SECOND FORM's CARD OF 'tranchelaw01.IntegerRing'. -/
def integerRingUptoCard : Claim7 := { stood := { row := integerRingUptoRow, standIns := [], harness := (true, "9db249ecc3661b921de0d4a30661b8bc27611c5d0a3036394de66ff3b4671558"), looks := true }, kinds := [], alts := [], laidByText := true, laidKinds := [.data, .data, .data, .data, .sentinel, .sentinel, .pinned], laidTests := true, laidLooks := .later }
def IntegerRingUptoCardSaid : Prop := Claim7.holds Tryz.pinned (.plain (OpenSpec.upto integerRingSpec)) integerRingUptoCard

/-- THE SECOND FORM's CARD OF 'tranchelaw01.IntegerComputes'. -/
def integerComputesUptoCard : Claim7 := { stood := { row := integerComputesUptoRow, standIns := [], harness := (true, "9db249ecc3661b921de0d4a30661b8bc27611c5d0a3036394de66ff3b4671558"), looks := true }, kinds := [], alts := [], laidByText := true, laidKinds := [.data, .data, .data, .data, .sentinel, .sentinel, .pinned], laidTests := true, laidLooks := .later }
def IntegerComputesUptoCardSaid : Prop := Claim7.holds Tryz.pinned (.plain (OpenSpec.upto integerComputesSpec)) integerComputesUptoCard

/-- THE SECOND FORM's CARD OF 'tranchelaw01.IntegerQuotients'. -/
def integerQuotientsUptoCard : Claim7 := { stood := { row := integerQuotientsUptoRow, standIns := [], harness := (true, "9db249ecc3661b921de0d4a30661b8bc27611c5d0a3036394de66ff3b4671558"), looks := true }, kinds := [], alts := [], laidByText := true, laidKinds := [.data, .data, .data, .data, .sentinel, .sentinel, .pinned], laidTests := true, laidLooks := .later }
def IntegerQuotientsUptoCardSaid : Prop := Claim7.holds Tryz.pinned (.plain (OpenSpec.upto integerQuotientsSpec)) integerQuotientsUptoCard

/-- THE SECOND FORM's CARD OF 'tranchelaw01.IntegerMachine'. -/
def integerMachineUptoCard : Claim7 := { stood := { row := integerMachineUptoRow, standIns := [], harness := (true, "9db249ecc3661b921de0d4a30661b8bc27611c5d0a3036394de66ff3b4671558"), looks := true }, kinds := [], alts := [], laidByText := true, laidKinds := [.data, .data, .data, .data, .sentinel, .sentinel, .pinned], laidTests := true, laidLooks := .later }
def IntegerMachineUptoCardSaid : Prop := Claim7.holds Tryz.pinned (.plain (OpenSpec.upto integerMachineSpec)) integerMachineUptoCard
end Rows
end Go.Proofs.YtokhihaiioohgaaGreatDoor
