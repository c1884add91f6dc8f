/-
  DERIVED. GIVEN WITH THE SEED: THE CARDS: each row of YtbkhnggmcheelaaGreatDoorRows.lean that lists a variable, with what it lists TIED to the program's text (the seventh form; the later family's looks); each row that meets fmt, with fmt's text TOLD by the authors' own Lean function (tested against real Go, not proved from fmt's source: count such statements apart). THE CARD IS WHAT COUNTS. Prove the row's statement (the work); the ties are given (YtbkhnggmcheelaaGreatDoorTie.lean); close each card by the builder's one call (the guide's Derived/Test/ToyasCard.lean, 'card_holds'). Laid BY PROGRAM, IN A SANDBOX (cutbox-door.mjs). By AI agents, Wed Nov 11 2026. No macro, syntax, notation, axiom, sorry.
-/
import Derived.Test.YtbkhnggmcheelaaGreatDoorRows
import GoSem.ClaimSeven
namespace Go.Proofs.YtbkhnggmcheelaaGreatDoor
namespace Rows

/-- THE TIED CARD OF 'tranchetop.TopSpunTogether'. -/
def topSpunTogetherCard : Claim7 := { stood := { row := topSpunTogetherRow, standIns := [], harness := (true, "5c209dc8f3c8ccb1593b7f1a46db48134f1acaf2341f47758cc60c178bf57db9"), looks := true }, kinds := [], alts := [], laidByText := true, laidKinds := [.data, .data, .data, .data, .sentinel, .sentinel, .pinned], laidTests := true, laidLooks := .later }
def TopSpunTogetherCardSaid : Prop := Claim7.holds Tryz.pinned (.plain (OpenSpec.ofChange topSpunTogetherSpec)) topSpunTogetherCard

/-- THE SECOND FORM's CARD OF 'tranchetop.TopSpunTogether'. -/
def topSpunTogetherUptoCard : Claim7 := { stood := { row := topSpunTogetherUptoRow, standIns := [], harness := (true, "5c209dc8f3c8ccb1593b7f1a46db48134f1acaf2341f47758cc60c178bf57db9"), looks := true }, kinds := [], alts := [], laidByText := true, laidKinds := [.data, .data, .data, .data, .sentinel, .sentinel, .pinned], laidTests := true, laidLooks := .later }
def TopSpunTogetherUptoCardSaid : Prop := Claim7.holds Tryz.pinned (.plain (OpenSpec.upto topSpunTogetherSpec)) topSpunTogetherUptoCard
end Rows
end Go.Proofs.YtbkhnggmcheelaaGreatDoor
