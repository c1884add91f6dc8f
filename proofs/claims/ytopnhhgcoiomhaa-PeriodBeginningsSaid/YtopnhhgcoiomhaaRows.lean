/-
  No cell of these rows narrows 'for every input' (looked for: loops, veiled, ifaces, maps, wideKeys, modest, calm, conditions, laid).
  DERIVED. THE GIVEN ROWS OF THIS SEAT. 7 by the template 'for every input the law returns true; each argument reads behind the call as it read before'; 0 by the template 'total and deterministic' (their statements: YtopnhhgcoiomhaaTotals.lean).
  GIVEN WITH THE SEED: the statements are not yours to turn. If you find one false, say at which input.
  Laid BY PROGRAM, IN A SANDBOX (cutbox-rows.mjs): the forced cells as the released guide's own fill.sh prints them over the translation 2cb9673ad392f151… (all of the seat's roots in one cut). By AI agents, Wed Nov 11 2026. No macro, syntax, notation, axiom, sorry.
-/
import Derived.Test.YtopnhhgcoiomhaaChecked
import GoSem.Claim
import GoSem.ClaimJoined
import GoSem.ClaimMapViews
import Derived.JoinedTies
import Derived.KernelRfl
namespace Go.Proofs.Ytopnhhgcoiomhaa
/- THE CELL 'sum', in the pinned program and in every row, IS THE sha256 OF THE DUMP (.gsa) THAT YtopnhhgcoiomhaaProg.lean LOADS. Nothing in Lean hashes anything: it is a label: what it is worth is what the hold of that sum in a sandbox is worth. -/
noncomputable def Try.pinned : Pinned := { name := "ytopnhhgcoiomhaa", sum := "2cb9673ad392f15155f33d3bd132e8339bf71c2491f6252c320a70dac2f72975", checked := Try.checked }
namespace Rows
def none {H : Type} : Left H := { results := [], args := [] }

/-- 'tranchelaw49.PeriodOrder': WHATEVER THE INPUT: true; the input reads as it did. -/
def periodOrderSpec : ChangeSpec := { name := "periodOrder", fn := fun _ => fun
  | [d1, d2, d3] => { results := [.lit (.bool true)], args := [d1, d2, d3] }
  | _ => none }
def periodOrderRow : OpenClaim := { program := "ytopnhhgcoiomhaa", sum := "2cb9673ad392f15155f33d3bd132e8339bf71c2491f6252c320a70dac2f72975", func := "tranche/tranchelaw49.PeriodOrder", spec := "periodOrder", unfollowed := true, recurses := true, apart := false }
def PeriodOrderSaid : Prop := periodOrderRow.holds Try.pinned (OpenSpec.ofChange periodOrderSpec)

/-- ITS FALSE NEIGHBOUR: 'it returns false'. Refute it at one input. -/
def periodOrderWrong : ChangeSpec := { name := "periodOrder", fn := fun _ => fun
  | [d1, d2, d3] => { results := [.lit (.bool false)], args := [d1, d2, d3] }
  | _ => none }
def PeriodOrderWrongFalsely : Prop := periodOrderRow.holds Try.pinned (OpenSpec.ofChange periodOrderWrong)

/-- 'tranchelaw49.PeriodPosts': WHATEVER THE INPUT: true; the input reads as it did. -/
def periodPostsSpec : ChangeSpec := { name := "periodPosts", fn := fun _ => fun
  | [d1, d2, d3] => { results := [.lit (.bool true)], args := [d1, d2, d3] }
  | _ => none }
def periodPostsRow : OpenClaim := { program := "ytopnhhgcoiomhaa", sum := "2cb9673ad392f15155f33d3bd132e8339bf71c2491f6252c320a70dac2f72975", func := "tranche/tranchelaw49.PeriodPosts", spec := "periodPosts", unfollowed := true, recurses := true, apart := false }
def PeriodPostsSaid : Prop := periodPostsRow.holds Try.pinned (OpenSpec.ofChange periodPostsSpec)

/-- ITS FALSE NEIGHBOUR: 'it returns false'. Refute it at one input. -/
def periodPostsWrong : ChangeSpec := { name := "periodPosts", fn := fun _ => fun
  | [d1, d2, d3] => { results := [.lit (.bool false)], args := [d1, d2, d3] }
  | _ => none }
def PeriodPostsWrongFalsely : Prop := periodPostsRow.holds Try.pinned (OpenSpec.ofChange periodPostsWrong)

/-- 'tranchelaw49.PeriodAdds': WHATEVER THE INPUT: true; the input reads as it did. -/
def periodAddsSpec : ChangeSpec := { name := "periodAdds", fn := fun _ => fun
  | [d1, d2, d3, d4] => { results := [.lit (.bool true)], args := [d1, d2, d3, d4] }
  | _ => none }
def periodAddsRow : OpenClaim := { program := "ytopnhhgcoiomhaa", sum := "2cb9673ad392f15155f33d3bd132e8339bf71c2491f6252c320a70dac2f72975", func := "tranche/tranchelaw49.PeriodAdds", spec := "periodAdds", unfollowed := true, recurses := true, apart := false }
def PeriodAddsSaid : Prop := periodAddsRow.holds Try.pinned (OpenSpec.ofChange periodAddsSpec)

/-- ITS FALSE NEIGHBOUR: 'it returns false'. Refute it at one input. -/
def periodAddsWrong : ChangeSpec := { name := "periodAdds", fn := fun _ => fun
  | [d1, d2, d3, d4] => { results := [.lit (.bool false)], args := [d1, d2, d3, d4] }
  | _ => none }
def PeriodAddsWrongFalsely : Prop := periodAddsRow.holds Try.pinned (OpenSpec.ofChange periodAddsWrong)

/-- 'tranchelaw49.PeriodBeginnings': WHATEVER THE INPUT: true; the input reads as it did. -/
def periodBeginningsSpec : ChangeSpec := { name := "periodBeginnings", fn := fun _ => fun
  | [d1, d2, d3] => { results := [.lit (.bool true)], args := [d1, d2, d3] }
  | _ => none }
def periodBeginningsRow : OpenClaim := { program := "ytopnhhgcoiomhaa", sum := "2cb9673ad392f15155f33d3bd132e8339bf71c2491f6252c320a70dac2f72975", func := "tranche/tranchelaw49.PeriodBeginnings", spec := "periodBeginnings", unfollowed := true, recurses := true, apart := false }
def PeriodBeginningsSaid : Prop := periodBeginningsRow.holds Try.pinned (OpenSpec.ofChange periodBeginningsSpec)

/-- ITS FALSE NEIGHBOUR: 'it returns false'. Refute it at one input. -/
def periodBeginningsWrong : ChangeSpec := { name := "periodBeginnings", fn := fun _ => fun
  | [d1, d2, d3] => { results := [.lit (.bool false)], args := [d1, d2, d3] }
  | _ => none }
def PeriodBeginningsWrongFalsely : Prop := periodBeginningsRow.holds Try.pinned (OpenSpec.ofChange periodBeginningsWrong)

/-- 'tranchelaw49.PeriodDays': WHATEVER THE INPUT: true; the input reads as it did. -/
def periodDaysSpec : ChangeSpec := { name := "periodDays", fn := fun _ => fun
  | [d1, d2, d3] => { results := [.lit (.bool true)], args := [d1, d2, d3] }
  | _ => none }
def periodDaysRow : OpenClaim := { program := "ytopnhhgcoiomhaa", sum := "2cb9673ad392f15155f33d3bd132e8339bf71c2491f6252c320a70dac2f72975", func := "tranche/tranchelaw49.PeriodDays", spec := "periodDays", unfollowed := true, recurses := true, apart := false }
def PeriodDaysSaid : Prop := periodDaysRow.holds Try.pinned (OpenSpec.ofChange periodDaysSpec)

/-- ITS FALSE NEIGHBOUR: 'it returns false'. Refute it at one input. -/
def periodDaysWrong : ChangeSpec := { name := "periodDays", fn := fun _ => fun
  | [d1, d2, d3] => { results := [.lit (.bool false)], args := [d1, d2, d3] }
  | _ => none }
def PeriodDaysWrongFalsely : Prop := periodDaysRow.holds Try.pinned (OpenSpec.ofChange periodDaysWrong)

/-- 'tranchelaw49.PeriodParts': WHATEVER THE INPUT: true; the input reads as it did. -/
def periodPartsSpec : ChangeSpec := { name := "periodParts", fn := fun _ => fun
  | [d1, d2] => { results := [.lit (.bool true)], args := [d1, d2] }
  | _ => none }
def periodPartsRow : OpenClaim := { program := "ytopnhhgcoiomhaa", sum := "2cb9673ad392f15155f33d3bd132e8339bf71c2491f6252c320a70dac2f72975", func := "tranche/tranchelaw49.PeriodParts", spec := "periodParts", unfollowed := true, recurses := true, apart := false }
def PeriodPartsSaid : Prop := periodPartsRow.holds Try.pinned (OpenSpec.ofChange periodPartsSpec)

/-- ITS FALSE NEIGHBOUR: 'it returns false'. Refute it at one input. -/
def periodPartsWrong : ChangeSpec := { name := "periodParts", fn := fun _ => fun
  | [d1, d2] => { results := [.lit (.bool false)], args := [d1, d2] }
  | _ => none }
def PeriodPartsWrongFalsely : Prop := periodPartsRow.holds Try.pinned (OpenSpec.ofChange periodPartsWrong)

/-- 'tranchelaw49.PeriodChecks': WHATEVER THE INPUT: true; the input reads as it did. -/
def periodChecksSpec : ChangeSpec := { name := "periodChecks", fn := fun _ => fun
  | [d1, d2] => { results := [.lit (.bool true)], args := [d1, d2] }
  | _ => none }
def periodChecksRow : OpenClaim := { program := "ytopnhhgcoiomhaa", sum := "2cb9673ad392f15155f33d3bd132e8339bf71c2491f6252c320a70dac2f72975", func := "tranche/tranchelaw49.PeriodChecks", spec := "periodChecks", unfollowed := true, recurses := true, apart := false }
def PeriodChecksSaid : Prop := periodChecksRow.holds Try.pinned (OpenSpec.ofChange periodChecksSpec)

/-- ITS FALSE NEIGHBOUR: 'it returns false'. Refute it at one input. -/
def periodChecksWrong : ChangeSpec := { name := "periodChecks", fn := fun _ => fun
  | [d1, d2] => { results := [.lit (.bool false)], args := [d1, d2] }
  | _ => none }
def PeriodChecksWrongFalsely : Prop := periodChecksRow.holds Try.pinned (OpenSpec.ofChange periodChecksWrong)

/- THE SECOND FORM. 'bulk': how many values and letters a reading holds, each counted each time it is reached (what is shared counts as often as it is met; a slice's spare places count too). A statement '..UptoSaid' is the law's where the arguments, and the package variables that the reading takes, are together of bulk at most 1048576: NARROWER than '..Said'. Prove '..Said' where nothing that the law and all that it calls make is longer than what came in: it says more and counts as full. Else prove '..UptoSaid'. A law counts once. -/
mutual
def uptoBulk {H : Type} : DataW H → Nat
  | .lit (.string bytes) => bytes.length + 1
  | .lit _ => 1
  | .nil => 1
  | .ptr d => uptoBulk d + 1
  | .slice elems spare => uptoBulkAll elems + uptoBulkAll spare + 1
  | .agg parts => uptoBulkAll parts + 1
  | .iface _ d => uptoBulk d + 1
  | .map entries => uptoBulkEntries entries + 1
  | .held _ => 1
def uptoBulkAll {H : Type} : List (DataW H) → Nat
  | [] => 0
  | d :: r => uptoBulk d + uptoBulkAll r
def uptoBulkEntries {H : Type} : List (Lit × DataW H) → Nat
  | [] => 0
  | x :: r => uptoBulkEntry x + uptoBulkEntries r
def uptoBulkEntry {H : Type} : Lit × DataW H → Nat
  | (.string bytes, d) => bytes.length + uptoBulk d + 1
  | (_, d) => uptoBulk d + 1
 end
def uptoSmall : (H : Type) → List (DataW H) → Bool := fun _ ds => decide (uptoBulkAll ds ≤ 1048576)
def OpenSpec.upto (s : _root_.Go.ChangeSpec) : _root_.Go.OpenSpec := { _root_.Go.OpenSpec.ofChange s with cond := some uptoSmall }

/-- 'tranchelaw49.PeriodOrder', WHERE WHAT IT READS IS OF BULK AT MOST 1048576: true; the input reads as it did. -/
def periodOrderUptoRow : OpenClaim := { program := "ytopnhhgcoiomhaa", sum := "2cb9673ad392f15155f33d3bd132e8339bf71c2491f6252c320a70dac2f72975", func := "tranche/tranchelaw49.PeriodOrder", spec := "periodOrder", unfollowed := true, recurses := true, apart := false, narrowed := true }
def PeriodOrderUptoSaid : Prop := periodOrderUptoRow.holds Try.pinned (OpenSpec.upto periodOrderSpec)

/-- 'tranchelaw49.PeriodPosts', WHERE WHAT IT READS IS OF BULK AT MOST 1048576: true; the input reads as it did. -/
def periodPostsUptoRow : OpenClaim := { program := "ytopnhhgcoiomhaa", sum := "2cb9673ad392f15155f33d3bd132e8339bf71c2491f6252c320a70dac2f72975", func := "tranche/tranchelaw49.PeriodPosts", spec := "periodPosts", unfollowed := true, recurses := true, apart := false, narrowed := true }
def PeriodPostsUptoSaid : Prop := periodPostsUptoRow.holds Try.pinned (OpenSpec.upto periodPostsSpec)

/-- 'tranchelaw49.PeriodAdds', WHERE WHAT IT READS IS OF BULK AT MOST 1048576: true; the input reads as it did. -/
def periodAddsUptoRow : OpenClaim := { program := "ytopnhhgcoiomhaa", sum := "2cb9673ad392f15155f33d3bd132e8339bf71c2491f6252c320a70dac2f72975", func := "tranche/tranchelaw49.PeriodAdds", spec := "periodAdds", unfollowed := true, recurses := true, apart := false, narrowed := true }
def PeriodAddsUptoSaid : Prop := periodAddsUptoRow.holds Try.pinned (OpenSpec.upto periodAddsSpec)

/-- 'tranchelaw49.PeriodBeginnings', WHERE WHAT IT READS IS OF BULK AT MOST 1048576: true; the input reads as it did. -/
def periodBeginningsUptoRow : OpenClaim := { program := "ytopnhhgcoiomhaa", sum := "2cb9673ad392f15155f33d3bd132e8339bf71c2491f6252c320a70dac2f72975", func := "tranche/tranchelaw49.PeriodBeginnings", spec := "periodBeginnings", unfollowed := true, recurses := true, apart := false, narrowed := true }
def PeriodBeginningsUptoSaid : Prop := periodBeginningsUptoRow.holds Try.pinned (OpenSpec.upto periodBeginningsSpec)

/-- 'tranchelaw49.PeriodDays', WHERE WHAT IT READS IS OF BULK AT MOST 1048576: true; the input reads as it did. -/
def periodDaysUptoRow : OpenClaim := { program := "ytopnhhgcoiomhaa", sum := "2cb9673ad392f15155f33d3bd132e8339bf71c2491f6252c320a70dac2f72975", func := "tranche/tranchelaw49.PeriodDays", spec := "periodDays", unfollowed := true, recurses := true, apart := false, narrowed := true }
def PeriodDaysUptoSaid : Prop := periodDaysUptoRow.holds Try.pinned (OpenSpec.upto periodDaysSpec)

/-- 'tranchelaw49.PeriodParts', WHERE WHAT IT READS IS OF BULK AT MOST 1048576: true; the input reads as it did. -/
def periodPartsUptoRow : OpenClaim := { program := "ytopnhhgcoiomhaa", sum := "2cb9673ad392f15155f33d3bd132e8339bf71c2491f6252c320a70dac2f72975", func := "tranche/tranchelaw49.PeriodParts", spec := "periodParts", unfollowed := true, recurses := true, apart := false, narrowed := true }
def PeriodPartsUptoSaid : Prop := periodPartsUptoRow.holds Try.pinned (OpenSpec.upto periodPartsSpec)

/-- 'tranchelaw49.PeriodChecks', WHERE WHAT IT READS IS OF BULK AT MOST 1048576: true; the input reads as it did. -/
def periodChecksUptoRow : OpenClaim := { program := "ytopnhhgcoiomhaa", sum := "2cb9673ad392f15155f33d3bd132e8339bf71c2491f6252c320a70dac2f72975", func := "tranche/tranchelaw49.PeriodChecks", spec := "periodChecks", unfollowed := true, recurses := true, apart := false, narrowed := true }
def PeriodChecksUptoSaid : Prop := periodChecksUptoRow.holds Try.pinned (OpenSpec.upto periodChecksSpec)

end Rows
end Go.Proofs.Ytopnhhgcoiomhaa
