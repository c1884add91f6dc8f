/-
  DERIVED. GIVEN WITH THE SEED: THE CARDS: each row of YtgoiaaondifjeaaDoorRows.lean that lists a variable, with what it lists TIED to the program's text (the seventh form; the later family's looks); each row that meets fmt, with fmt's text TOLD by the authors' own Lean function (tested against real Go, not proved from fmt's source: count such statements apart). THE CARD IS WHAT COUNTS. Prove the row's statement (the work); the ties are given (YtgoiaaondifjeaaDoorTie.lean); close each card by the builder's one call (the guide's Derived/Test/ToyasCard.lean, 'card_holds'). Laid BY PROGRAM, IN A SANDBOX (cutbox-door.mjs). By AI agents, Wed Nov 11 2026. No macro, syntax, notation, axiom, sorry.
-/
import Derived.Test.YtgoiaaondifjeaaDoorRows
import GoSem.ClaimSeven
namespace Go.Proofs.YtgoiaaondifjeaaDoor
namespace Rows

/-- THE TIED CARD OF 'tranchelaw01.IntegerPowers'. -/
def integerPowersCard : Claim7 := { stood := { row := integerPowersRow, standIns := [], harness := (true, "18a7ec883d78af0df954983f164e73eb8913e480ee0953e75d1b79470d9a2e4c"), looks := true }, kinds := [], alts := [], laidByText := true, laidKinds := [.data, .data, .data, .data, .sentinel, .sentinel, .pinned], laidTests := true, laidLooks := .later }
def IntegerPowersCardSaid : Prop := Claim7.holds Tryd.pinned (.plain (OpenSpec.ofChange integerPowersSpec)) integerPowersCard

/-- THE TIED CARD OF 'tranchelaw01.IntegerReads'. -/
def integerReadsCard : Claim7 := { stood := { row := integerReadsRow, standIns := [], harness := (true, "18a7ec883d78af0df954983f164e73eb8913e480ee0953e75d1b79470d9a2e4c"), looks := true }, kinds := [], alts := [], laidByText := true, laidKinds := [.data, .data, .data, .data, .sentinel, .sentinel, .pinned], laidTests := true, laidLooks := .later }
def IntegerReadsCardSaid : Prop := Claim7.holds Tryd.pinned (.plain (OpenSpec.ofChange integerReadsSpec)) integerReadsCard

/-- THE TIED CARD OF 'tranchelaw01.IntegerTexts'. -/
def integerTextsCard : Claim7 := { stood := { row := integerTextsRow, standIns := [], harness := (true, "18a7ec883d78af0df954983f164e73eb8913e480ee0953e75d1b79470d9a2e4c"), looks := true }, kinds := [], alts := [], laidByText := true, laidKinds := [.data, .data, .data, .data, .sentinel, .sentinel, .pinned], laidTests := true, laidLooks := .later }
def IntegerTextsCardSaid : Prop := Claim7.holds Tryd.pinned (.plain (OpenSpec.ofChange integerTextsSpec)) integerTextsCard

/-- THE TIED CARD OF 'tranchelaw01.IntegerOrder'. -/
def integerOrderCard : Claim7 := { stood := { row := integerOrderRow, standIns := [], harness := (true, "18a7ec883d78af0df954983f164e73eb8913e480ee0953e75d1b79470d9a2e4c"), looks := true }, kinds := [], alts := [], laidByText := true, laidKinds := [.data, .data, .data, .data, .sentinel, .sentinel, .pinned], laidTests := true, laidLooks := .later }
def IntegerOrderCardSaid : Prop := Claim7.holds Tryd.pinned (.plain (OpenSpec.ofChange integerOrderSpec)) integerOrderCard

/-- THE TIED CARD OF 'tranchelaw01.IntegerDivisors'. -/
def integerDivisorsCard : Claim7 := { stood := { row := integerDivisorsRow, standIns := [], harness := (true, "18a7ec883d78af0df954983f164e73eb8913e480ee0953e75d1b79470d9a2e4c"), looks := true }, kinds := [], alts := [], laidByText := true, laidKinds := [.data, .data, .data, .data, .sentinel, .sentinel, .pinned], laidTests := true, laidLooks := .later }
def IntegerDivisorsCardSaid : Prop := Claim7.holds Tryd.pinned (.plain (OpenSpec.ofChange integerDivisorsSpec)) integerDivisorsCard

/-- THE SECOND FORM's CARD OF 'tranchelaw01.IntegerPowers'. -/
def integerPowersUptoCard : Claim7 := { stood := { row := integerPowersUptoRow, standIns := [], harness := (true, "18a7ec883d78af0df954983f164e73eb8913e480ee0953e75d1b79470d9a2e4c"), looks := true }, kinds := [], alts := [], laidByText := true, laidKinds := [.data, .data, .data, .data, .sentinel, .sentinel, .pinned], laidTests := true, laidLooks := .later }
def IntegerPowersUptoCardSaid : Prop := Claim7.holds Tryd.pinned (.plain (OpenSpec.upto integerPowersSpec)) integerPowersUptoCard

/-- THE SECOND FORM's CARD OF 'tranchelaw01.IntegerReads'. -/
def integerReadsUptoCard : Claim7 := { stood := { row := integerReadsUptoRow, standIns := [], harness := (true, "18a7ec883d78af0df954983f164e73eb8913e480ee0953e75d1b79470d9a2e4c"), looks := true }, kinds := [], alts := [], laidByText := true, laidKinds := [.data, .data, .data, .data, .sentinel, .sentinel, .pinned], laidTests := true, laidLooks := .later }
def IntegerReadsUptoCardSaid : Prop := Claim7.holds Tryd.pinned (.plain (OpenSpec.upto integerReadsSpec)) integerReadsUptoCard

/-- THE SECOND FORM's CARD OF 'tranchelaw01.IntegerTexts'. -/
def integerTextsUptoCard : Claim7 := { stood := { row := integerTextsUptoRow, standIns := [], harness := (true, "18a7ec883d78af0df954983f164e73eb8913e480ee0953e75d1b79470d9a2e4c"), looks := true }, kinds := [], alts := [], laidByText := true, laidKinds := [.data, .data, .data, .data, .sentinel, .sentinel, .pinned], laidTests := true, laidLooks := .later }
def IntegerTextsUptoCardSaid : Prop := Claim7.holds Tryd.pinned (.plain (OpenSpec.upto integerTextsSpec)) integerTextsUptoCard

/-- THE SECOND FORM's CARD OF 'tranchelaw01.IntegerOrder'. -/
def integerOrderUptoCard : Claim7 := { stood := { row := integerOrderUptoRow, standIns := [], harness := (true, "18a7ec883d78af0df954983f164e73eb8913e480ee0953e75d1b79470d9a2e4c"), looks := true }, kinds := [], alts := [], laidByText := true, laidKinds := [.data, .data, .data, .data, .sentinel, .sentinel, .pinned], laidTests := true, laidLooks := .later }
def IntegerOrderUptoCardSaid : Prop := Claim7.holds Tryd.pinned (.plain (OpenSpec.upto integerOrderSpec)) integerOrderUptoCard

/-- THE SECOND FORM's CARD OF 'tranchelaw01.IntegerDivisors'. -/
def integerDivisorsUptoCard : Claim7 := { stood := { row := integerDivisorsUptoRow, standIns := [], harness := (true, "18a7ec883d78af0df954983f164e73eb8913e480ee0953e75d1b79470d9a2e4c"), looks := true }, kinds := [], alts := [], laidByText := true, laidKinds := [.data, .data, .data, .data, .sentinel, .sentinel, .pinned], laidTests := true, laidLooks := .later }
def IntegerDivisorsUptoCardSaid : Prop := Claim7.holds Tryd.pinned (.plain (OpenSpec.upto integerDivisorsSpec)) integerDivisorsUptoCard
end Rows
end Go.Proofs.YtgoiaaondifjeaaDoor
