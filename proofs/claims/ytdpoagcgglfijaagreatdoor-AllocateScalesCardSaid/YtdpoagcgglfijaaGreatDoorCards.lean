/-
  DERIVED. GIVEN WITH THE SEED: THE CARDS: each row of YtdpoagcgglfijaaGreatDoorRows.lean that lists a variable, with what it lists TIED to the program's text (the seventh form; the later family's looks); each row that meets fmt, with fmt's text TOLD by the authors' own Lean function (tested against real Go, not proved from fmt's source: count such statements apart). THE CARD IS WHAT COUNTS. Prove the row's statement (the work); the ties are given (YtdpoagcgglfijaaGreatDoorTie.lean); close each card by the builder's one call (the guide's Derived/Test/ToyasCard.lean, 'card_holds'). Laid BY PROGRAM, IN A SANDBOX (cutbox-door.mjs). By AI agents, Wed Nov 11 2026. No macro, syntax, notation, axiom, sorry.
-/
import Derived.Test.YtdpoagcgglfijaaGreatDoorRows
import GoSem.ClaimSeven
namespace Go.Proofs.YtdpoagcgglfijaaGreatDoor
namespace Rows

/-- THE TIED CARD OF 'tranchelaw04.AllocateOrder'. -/
def allocateOrderCard : Claim7 := { stood := { row := allocateOrderRow, standIns := [], harness := (true, "24fd9e06de3923eb1ea0409c3abd441430f936ccec4597e824d8ba2009247301"), looks := true }, kinds := [], alts := [], laidByText := true, laidKinds := [.data, .data, .data, .data, .sentinel, .sentinel, .pinned], laidTests := true, laidLooks := .later }
def AllocateOrderCardSaid : Prop := Claim7.holds Tryz.pinned (.plain (OpenSpec.ofChange allocateOrderSpec)) allocateOrderCard

/-- THE TIED CARD OF 'tranchelaw04.AllocateParts'. -/
def allocatePartsCard : Claim7 := { stood := { row := allocatePartsRow, standIns := [], harness := (true, "24fd9e06de3923eb1ea0409c3abd441430f936ccec4597e824d8ba2009247301"), looks := true }, kinds := [], alts := [], laidByText := true, laidKinds := [.data, .data, .data, .data, .sentinel, .sentinel, .pinned], laidTests := true, laidLooks := .later }
def AllocatePartsCardSaid : Prop := Claim7.holds Tryz.pinned (.plain (OpenSpec.ofChange allocatePartsSpec)) allocatePartsCard

/-- THE TIED CARD OF 'tranchelaw04.AllocateBegins'. -/
def allocateBeginsCard : Claim7 := { stood := { row := allocateBeginsRow, standIns := [], harness := (true, "24fd9e06de3923eb1ea0409c3abd441430f936ccec4597e824d8ba2009247301"), looks := true }, kinds := [], alts := [], laidByText := true, laidKinds := [.data, .data, .data, .data, .sentinel, .sentinel, .pinned], laidTests := true, laidLooks := .later }
def AllocateBeginsCardSaid : Prop := Claim7.holds Tryz.pinned (.plain (OpenSpec.ofChange allocateBeginsSpec)) allocateBeginsCard

/-- THE TIED CARD OF 'tranchelaw04.AllocateNearest'. -/
def allocateNearestCard : Claim7 := { stood := { row := allocateNearestRow, standIns := [], harness := (true, "24fd9e06de3923eb1ea0409c3abd441430f936ccec4597e824d8ba2009247301"), looks := true }, kinds := [], alts := [], laidByText := true, laidKinds := [.data, .data, .data, .data, .sentinel, .sentinel, .pinned], laidTests := true, laidLooks := .later }
def AllocateNearestCardSaid : Prop := Claim7.holds Tryz.pinned (.plain (OpenSpec.ofChange allocateNearestSpec)) allocateNearestCard

/-- THE TIED CARD OF 'tranchelaw04.AllocateScales'. -/
def allocateScalesCard : Claim7 := { stood := { row := allocateScalesRow, standIns := [], harness := (true, "24fd9e06de3923eb1ea0409c3abd441430f936ccec4597e824d8ba2009247301"), looks := true }, kinds := [], alts := [], laidByText := true, laidKinds := [.data, .data, .data, .data, .sentinel, .sentinel, .pinned], laidTests := true, laidLooks := .later }
def AllocateScalesCardSaid : Prop := Claim7.holds Tryz.pinned (.plain (OpenSpec.ofChange allocateScalesSpec)) allocateScalesCard

/-- THE TIED CARD OF 'tranchelaw04.AllocateSums'. -/
def allocateSumsCard : Claim7 := { stood := { row := allocateSumsRow, standIns := [], harness := (true, "24fd9e06de3923eb1ea0409c3abd441430f936ccec4597e824d8ba2009247301"), looks := true }, kinds := [], alts := [], laidByText := true, laidKinds := [.data, .data, .data, .data, .sentinel, .sentinel, .pinned], laidTests := true, laidLooks := .later }
def AllocateSumsCardSaid : Prop := Claim7.holds Tryz.pinned (.plain (OpenSpec.ofChange allocateSumsSpec)) allocateSumsCard

/-- THE SECOND FORM's CARD OF 'tranchelaw04.AllocateOrder'. -/
def allocateOrderUptoCard : Claim7 := { stood := { row := allocateOrderUptoRow, standIns := [], harness := (true, "24fd9e06de3923eb1ea0409c3abd441430f936ccec4597e824d8ba2009247301"), looks := true }, kinds := [], alts := [], laidByText := true, laidKinds := [.data, .data, .data, .data, .sentinel, .sentinel, .pinned], laidTests := true, laidLooks := .later }
def AllocateOrderUptoCardSaid : Prop := Claim7.holds Tryz.pinned (.plain (OpenSpec.upto allocateOrderSpec)) allocateOrderUptoCard

/-- THE SECOND FORM's CARD OF 'tranchelaw04.AllocateParts'. -/
def allocatePartsUptoCard : Claim7 := { stood := { row := allocatePartsUptoRow, standIns := [], harness := (true, "24fd9e06de3923eb1ea0409c3abd441430f936ccec4597e824d8ba2009247301"), looks := true }, kinds := [], alts := [], laidByText := true, laidKinds := [.data, .data, .data, .data, .sentinel, .sentinel, .pinned], laidTests := true, laidLooks := .later }
def AllocatePartsUptoCardSaid : Prop := Claim7.holds Tryz.pinned (.plain (OpenSpec.upto allocatePartsSpec)) allocatePartsUptoCard

/-- THE SECOND FORM's CARD OF 'tranchelaw04.AllocateBegins'. -/
def allocateBeginsUptoCard : Claim7 := { stood := { row := allocateBeginsUptoRow, standIns := [], harness := (true, "24fd9e06de3923eb1ea0409c3abd441430f936ccec4597e824d8ba2009247301"), looks := true }, kinds := [], alts := [], laidByText := true, laidKinds := [.data, .data, .data, .data, .sentinel, .sentinel, .pinned], laidTests := true, laidLooks := .later }
def AllocateBeginsUptoCardSaid : Prop := Claim7.holds Tryz.pinned (.plain (OpenSpec.upto allocateBeginsSpec)) allocateBeginsUptoCard

/-- THE SECOND FORM's CARD OF 'tranchelaw04.AllocateNearest'. -/
def allocateNearestUptoCard : Claim7 := { stood := { row := allocateNearestUptoRow, standIns := [], harness := (true, "24fd9e06de3923eb1ea0409c3abd441430f936ccec4597e824d8ba2009247301"), looks := true }, kinds := [], alts := [], laidByText := true, laidKinds := [.data, .data, .data, .data, .sentinel, .sentinel, .pinned], laidTests := true, laidLooks := .later }
def AllocateNearestUptoCardSaid : Prop := Claim7.holds Tryz.pinned (.plain (OpenSpec.upto allocateNearestSpec)) allocateNearestUptoCard

/-- THE SECOND FORM's CARD OF 'tranchelaw04.AllocateScales'. -/
def allocateScalesUptoCard : Claim7 := { stood := { row := allocateScalesUptoRow, standIns := [], harness := (true, "24fd9e06de3923eb1ea0409c3abd441430f936ccec4597e824d8ba2009247301"), looks := true }, kinds := [], alts := [], laidByText := true, laidKinds := [.data, .data, .data, .data, .sentinel, .sentinel, .pinned], laidTests := true, laidLooks := .later }
def AllocateScalesUptoCardSaid : Prop := Claim7.holds Tryz.pinned (.plain (OpenSpec.upto allocateScalesSpec)) allocateScalesUptoCard

/-- THE SECOND FORM's CARD OF 'tranchelaw04.AllocateSums'. -/
def allocateSumsUptoCard : Claim7 := { stood := { row := allocateSumsUptoRow, standIns := [], harness := (true, "24fd9e06de3923eb1ea0409c3abd441430f936ccec4597e824d8ba2009247301"), looks := true }, kinds := [], alts := [], laidByText := true, laidKinds := [.data, .data, .data, .data, .sentinel, .sentinel, .pinned], laidTests := true, laidLooks := .later }
def AllocateSumsUptoCardSaid : Prop := Claim7.holds Tryz.pinned (.plain (OpenSpec.upto allocateSumsSpec)) allocateSumsUptoCard
end Rows
end Go.Proofs.YtdpoagcgglfijaaGreatDoor
