/-
  DERIVED. GIVEN WITH THE SEED: THE CARDS: each row of YtahpbnmbphobgaaGreatDoorRows.lean that lists a variable, with what it lists TIED to the program's text (the seventh form; the later family's looks); each row that meets fmt, with fmt's text TOLD by the authors' own Lean function (tested against real Go, not proved from fmt's source: count such statements apart). THE CARD IS WHAT COUNTS. Prove the row's statement (the work); the ties are given (YtahpbnmbphobgaaGreatDoorTie.lean); close each card by the builder's one call (the guide's Derived/Test/ToyasCard.lean, 'card_holds'). Laid BY PROGRAM, IN A SANDBOX (cutbox-door.mjs). By AI agents, Wed Nov 11 2026. No macro, syntax, notation, axiom, sorry.
-/
import Derived.Test.YtahpbnmbphobgaaGreatDoorRows
import GoSem.ClaimSeven
namespace Go.Proofs.YtahpbnmbphobgaaGreatDoor
namespace Rows

/-- THE TIED CARD OF 'tranchetop.TopOnePeriod'. -/
def topOnePeriodCard : Claim7 := { stood := { row := topOnePeriodRow, standIns := [], harness := (true, "ae4ec2162a62edd73e845ffabe274a9d8ecf4f9c29d87d9a611509c1958726d4"), looks := true }, kinds := [], alts := [], laidByText := true, laidKinds := [.data, .data, .data, .data, .sentinel, .sentinel, .pinned], laidTests := true, laidLooks := .later }
def TopOnePeriodCardSaid : Prop := Claim7.holds Tryz.pinned (.plain (OpenSpec.ofChange topOnePeriodSpec)) topOnePeriodCard

/-- THE SECOND FORM's CARD OF 'tranchetop.TopOnePeriod'. -/
def topOnePeriodUptoCard : Claim7 := { stood := { row := topOnePeriodUptoRow, standIns := [], harness := (true, "ae4ec2162a62edd73e845ffabe274a9d8ecf4f9c29d87d9a611509c1958726d4"), looks := true }, kinds := [], alts := [], laidByText := true, laidKinds := [.data, .data, .data, .data, .sentinel, .sentinel, .pinned], laidTests := true, laidLooks := .later }
def TopOnePeriodUptoCardSaid : Prop := Claim7.holds Tryz.pinned (.plain (OpenSpec.upto topOnePeriodSpec)) topOnePeriodUptoCard
end Rows
end Go.Proofs.YtahpbnmbphobgaaGreatDoor
