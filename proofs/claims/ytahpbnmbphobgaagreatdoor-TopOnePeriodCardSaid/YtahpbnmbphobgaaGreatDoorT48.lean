/- The anchor of the layers around lots: it answers true. Condition: the library's table and error lie as the program's text lays them. -/
import Derived.Test.YtahpbnmbphobgaaGreatDoorEvX
import Derived.Test.YtahpbnmbphobgaaGreatDoorEvc
namespace Go.Proofs.YtahpbnmbphobgaaGreatDoor
open Go.RowKit Go.Shelf Dec QQ Go.Proofs.Q.Ev
set_option linter.unusedVariables false
set_option linter.unusedSectionVars false

theorem mixed : Tryz.prog.follows .mixedOrders = true := by kernel_rfl
abbrev noSym : Sym := ⟨fun _ => .s ⟨#[]⟩, fun _ => 0, fun _ => 0, fun _ => (#[], 0, (0, 0))⟩
noncomputable def orc48 : CallF := orOrc (tblOrc (orTbl arith texts)) (brOrc (cxOf Tryz.prog) noOrc 1000 64 [170])
def isT : Res → Bool
  | some (.lit (.bool true), _) => true
  | _ => false
theorem isT_eq {x : Res} (h : isT x = true) : ∃ H' hi, x = some (.lit (.bool true), H', hi) := by
  unfold isT at h
  split at h
  · exact ⟨_, _, rfl⟩
  · cases h
set_option maxRecDepth 1000000 in
theorem run48 : isT (callV (cxOf Tryz.prog) orc48 1000 60 (.func 6 []) [] .leaf 1000) = true := by decide +kernel
theorem orc48_ok : @CallOKs noSym (cxOf Tryz.prog) Gl orc48 :=
  @orOrc_ok noSym _ _ _ _ (@tblOrc_ok noSym _ _ _ (@orTbl_ok noSym _ _ _ _ (@arith_ok noSym mixed) (@texts_ok noSym))) (@brOrc_ok noSym _ _ _ _ (@cxOf_ok noSym _ mixed) (@noOrc_ok noSym _ _) _ _)
theorem top48R : Ret 6 #[] (.bool true) := by
  intro w hg
  obtain ⟨H', hi, e⟩ := isT_eq run48
  exact @closed_call noSym (cxOf Tryz.prog) Gl orc48 (@cxOf_ok noSym _ mixed) orc48_ok 6 [] (.bool true) 1000 60 1000 hi H' (by decide +kernel) e w (fun w' hb => hg.below hb)
end Go.Proofs.YtahpbnmbphobgaaGreatDoor
