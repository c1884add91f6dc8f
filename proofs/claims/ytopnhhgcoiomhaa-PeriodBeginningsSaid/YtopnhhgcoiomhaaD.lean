/- Period: period.check; for every input. -/
import Derived.Test.YtopnhhgcoiomhaaB
import Derived.Test.YtopnhhgcoiomhaaRows
import Derived.WalkKit
import Derived.ProofKit
import Derived.OpenShut
import Derived.WalkLawsBesides
import Derived.Deep.QuietTactic
import Derived.Deep.LoopGhost
import Derived.Deep.RegionWith
import Derived.BigQuiet
import Derived.Lib.Hide
namespace Go.Proofs.Ytopnhhgcoiomhaa
open Go.RowKit
/-- the first open day, as the code counts: the closings up to the first that does not count -/
def opn (l : List (Int × Int)) (kn : Int) : Int := ((l.takeWhile (fun x => decide (x.2 < kn))).getLast?.map (fun x => x.1 + 1)).getD (-25567)
/-- the error that functions have in common -/
def ck (l : List (Int × Int)) (kn d : Int) : Int := if chk l ≠ 0 then 1 else if kn < 0 then 2 else if d < -25567 ∨ 84005 < d then 13 else 0

set_option maxHeartbeats 1000000 in
theorem check_any (A : Option Addr) (c : Nat) (l : List (Int × Int)) (kn d : Int) (w : World) (hc : Cl w w.heap.size A l) (hm : l.length ≤ 9223372036854775807) :
    Calls Try.prog 30 #[.slice A l.length c, .int .i64 kn, .int .i64 d] w fun e w' => e = .returned (.int .i64 (ck l kn d)) ∧ Below w.heap.size w w' := by
  have hr : ∃ r, chk l = r := ⟨_, rfl⟩
  obtain ⟨r, hr⟩ := hr
  have hC := Check_any A c l w hc hm
  rw [hr] at hC
  have HC := Lib.hid hC
  have HR := Lib.hid hr
  clear hC hr hc
  by_cases h0 : r = 0
  · subst h0
    go_enter Try.func30, Try.ntmps30
    go_wp2_with (go_at_call 16; refine HC.out.mono ?_; rintro e w' ⟨rfl, hb⟩)
    all_goals
      go_ret
      refine ⟨ret_int ?_, by assumption⟩
      unfold ck
      rw [HR.out, if_neg (by simp)]
      first | (rw [if_pos (by omega)]) | (rw [if_neg (by omega), if_pos (by omega)]) | (rw [if_neg (by omega), if_neg (by omega)])
  · have h0b : (r != 0) = true := by simp [h0]
    go_enter Try.func30, Try.ntmps30
    go_wp2_with (go_at_call 16; refine HC.out.mono ?_; rintro e w' ⟨rfl, hb⟩)
    go_ret
    refine ⟨ret_int ?_, hb⟩
    unfold ck
    rw [HR.out, if_pos h0]
end Go.Proofs.Ytopnhhgcoiomhaa
