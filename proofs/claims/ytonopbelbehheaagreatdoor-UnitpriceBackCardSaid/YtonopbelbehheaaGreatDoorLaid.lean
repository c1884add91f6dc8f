/- Integer: what a row's listed variables give: the table of powers, the library's error. No condition. -/
import Derived.Test.YtonopbelbehheaaGreatDoorCards
import Derived.Test.YtonopbelbehheaaGreatDoorTie
import Derived.Test.YtonopbelbehheaaGreatDoorAwake
import Derived.ProofKit
import Derived.OpenShut
import Derived.Deep.DeepHandedRow
import Derived.Lib.LaidTab
import Derived.Lib.LaidU8
import Derived.LaidLaws
import Derived.Lay
namespace Go.Proofs.YtonopbelbehheaaGreatDoor
open Go.ChangeShapes Go.WideShapes Go.ChangeAt Go.RowKit Go.Deep

theorem own : ownKnob Tryz.prog.godebug = none := by kernel_rfl
theorem gPow : Tryz.prog.globalNamed "internal/strconv.uint64pow10" = some 2 := by kernel_rfl
theorem gPowT : (Tryz.prog.globals[2]?).map (·.type) = some 224 := by kernel_rfl
theorem gErr : Tryz.prog.globalNamed "strconv.ErrRange" = some 1 := by kernel_rfl
theorem gErrT : (Tryz.prog.globals[1]?).map (·.type) = some 145 := by kernel_rfl
theorem gl_of {W : World} {l : List (String × DataW Unit)} (h : laidMetH Tryz.prog l W) (hh : (l.all fun x => x.2.handleName?.isNone) = true)
    (h1 : (l.filter fun x => x.1 == "internal/strconv.uint64pow10") = [("internal/strconv.uint64pow10", Lib.tabData .u64 Lib.pow10Tab)]) (h2 : (l.filter fun x => x.1 == "strconv.ErrRange") = [("strconv.ErrRange", Rows.laid_strconv_ErrRange)]) : Gl W := by
  rw [MakeChecks.laidMetH_plain _ _ _ hh] at h
  refine ⟨?_, ?_⟩
  · have := laidMet.filter (fun x => x.1 == "internal/strconv.uint64pow10") h
    rw [h1] at this
    exact Lib.tabIs_of_head (rest := []) (n := 20) (e := 94) gPow gPowT (by kernel_rfl) (by kernel_rfl) (by kernel_rfl) (by kernel_rfl) this
  · have := laidMet.filter (fun x => x.1 == "strconv.ErrRange") h
    rw [h2] at this
    obtain ⟨ps, ⟨g, t, cs, fuel, p, q, hg, ht, hv, hd, _, _⟩, _⟩ := this
    obtain rfl := Option.some.inj (gErr.symm.trans hg)
    obtain rfl := Option.some.inj (gErrT.symm.trans ht)
    obtain ⟨_, u, v, hcs, _, _⟩ := iface_of_trod Tryz.underlying145 hd
    refine ⟨u, v, ?_⟩
    rw [hv]
    obtain ⟨l⟩ := cs
    simp at hcs
    rw [hcs]
end Go.Proofs.YtonopbelbehheaaGreatDoor
