/-
  DERIVED. GIVEN WITH THE SEED: THE CARDS: each row of YtpipkeplhkccoaaGreatDoorRows.lean that lists a variable, with what it lists TIED to the program's text (the seventh form; the later family's looks); each row that meets fmt, with fmt's text TOLD by the authors' own Lean function (tested against real Go, not proved from fmt's source: count such statements apart). THE CARD IS WHAT COUNTS. Prove the row's statement (the work); the ties are given (YtpipkeplhkccoaaGreatDoorTie.lean); close each card by the builder's one call (the guide's Derived/Test/ToyasCard.lean, 'card_holds'). Laid BY PROGRAM, IN A SANDBOX (cutbox-door.mjs). By AI agents, Wed Nov 11 2026. No macro, syntax, notation, axiom, sorry.
-/
import Derived.Test.YtpipkeplhkccoaaGreatDoorRows
import GoSem.ClaimSeven
namespace Go.Proofs.YtpipkeplhkccoaaGreatDoor
namespace Rows

/-- THE TIED CARD OF 'tranchelaw44.UnitpriceHeld'. -/
def unitpriceHeldCard : Claim7 := { stood := { row := unitpriceHeldRow, standIns := [], harness := (true, "d51de33f455ed72d3513624023f88839b3b57da897d6d177654f516ef60a7787"), looks := true }, kinds := [], alts := [], laidByText := true, laidKinds := [.data, .data, .data, .data, .sentinel, .sentinel, .pinned], laidTests := true, laidLooks := .later }
def UnitpriceHeldCardSaid : Prop := Claim7.holds Tryz.pinned (.plain (OpenSpec.ofChange unitpriceHeldSpec)) unitpriceHeldCard

/-- THE TIED CARD OF 'tranchelaw04.AllocateSplit'. -/
def allocateSplitCard : Claim7 := { stood := { row := allocateSplitRow, standIns := [], harness := (true, "d51de33f455ed72d3513624023f88839b3b57da897d6d177654f516ef60a7787"), looks := true }, kinds := [], alts := [], laidByText := true, laidKinds := [.data, .data, .data, .data, .sentinel, .sentinel, .pinned], laidTests := true, laidLooks := .later }
def AllocateSplitCardSaid : Prop := Claim7.holds Tryz.pinned (.plain (OpenSpec.ofChange allocateSplitSpec)) allocateSplitCard

/-- THE TIED CARD OF 'tranchelaw04.AllocateShares'. -/
def allocateSharesCard : Claim7 := { stood := { row := allocateSharesRow, standIns := [], harness := (true, "d51de33f455ed72d3513624023f88839b3b57da897d6d177654f516ef60a7787"), looks := true }, kinds := [], alts := [], laidByText := true, laidKinds := [.data, .data, .data, .data, .sentinel, .sentinel, .pinned], laidTests := true, laidLooks := .later }
def AllocateSharesCardSaid : Prop := Claim7.holds Tryz.pinned (.plain (OpenSpec.ofChange allocateSharesSpec)) allocateSharesCard

/-- THE TIED CARD OF 'tranchelaw04.AllocateChecks'. -/
def allocateChecksCard : Claim7 := { stood := { row := allocateChecksRow, standIns := [], harness := (true, "d51de33f455ed72d3513624023f88839b3b57da897d6d177654f516ef60a7787"), looks := true }, kinds := [], alts := [], laidByText := true, laidKinds := [.data, .data, .data, .data, .sentinel, .sentinel, .pinned], laidTests := true, laidLooks := .later }
def AllocateChecksCardSaid : Prop := Claim7.holds Tryz.pinned (.plain (OpenSpec.ofChange allocateChecksSpec)) allocateChecksCard

/-- THE SECOND FORM's CARD OF 'tranchelaw44.UnitpriceHeld'. -/
def unitpriceHeldUptoCard : Claim7 := { stood := { row := unitpriceHeldUptoRow, standIns := [], harness := (true, "d51de33f455ed72d3513624023f88839b3b57da897d6d177654f516ef60a7787"), looks := true }, kinds := [], alts := [], laidByText := true, laidKinds := [.data, .data, .data, .data, .sentinel, .sentinel, .pinned], laidTests := true, laidLooks := .later }
def UnitpriceHeldUptoCardSaid : Prop := Claim7.holds Tryz.pinned (.plain (OpenSpec.upto unitpriceHeldSpec)) unitpriceHeldUptoCard

/-- THE SECOND FORM's CARD OF 'tranchelaw04.AllocateSplit'. -/
def allocateSplitUptoCard : Claim7 := { stood := { row := allocateSplitUptoRow, standIns := [], harness := (true, "d51de33f455ed72d3513624023f88839b3b57da897d6d177654f516ef60a7787"), looks := true }, kinds := [], alts := [], laidByText := true, laidKinds := [.data, .data, .data, .data, .sentinel, .sentinel, .pinned], laidTests := true, laidLooks := .later }
def AllocateSplitUptoCardSaid : Prop := Claim7.holds Tryz.pinned (.plain (OpenSpec.upto allocateSplitSpec)) allocateSplitUptoCard

/-- THE SECOND FORM's CARD OF 'tranchelaw04.AllocateShares'. -/
def allocateSharesUptoCard : Claim7 := { stood := { row := allocateSharesUptoRow, standIns := [], harness := (true, "d51de33f455ed72d3513624023f88839b3b57da897d6d177654f516ef60a7787"), looks := true }, kinds := [], alts := [], laidByText := true, laidKinds := [.data, .data, .data, .data, .sentinel, .sentinel, .pinned], laidTests := true, laidLooks := .later }
def AllocateSharesUptoCardSaid : Prop := Claim7.holds Tryz.pinned (.plain (OpenSpec.upto allocateSharesSpec)) allocateSharesUptoCard

/-- THE SECOND FORM's CARD OF 'tranchelaw04.AllocateChecks'. -/
def allocateChecksUptoCard : Claim7 := { stood := { row := allocateChecksUptoRow, standIns := [], harness := (true, "d51de33f455ed72d3513624023f88839b3b57da897d6d177654f516ef60a7787"), looks := true }, kinds := [], alts := [], laidByText := true, laidKinds := [.data, .data, .data, .data, .sentinel, .sentinel, .pinned], laidTests := true, laidLooks := .later }
def AllocateChecksUptoCardSaid : Prop := Claim7.holds Tryz.pinned (.plain (OpenSpec.upto allocateChecksSpec)) allocateChecksUptoCard
end Rows
end Go.Proofs.YtpipkeplhkccoaaGreatDoor
