/- Dates, the reference: Leap, Length, Check, Parts, Of. No condition but that days and months are such. Parts of years, the reference: valid, check, Days. No condition. Parts of years, the reference: ratio and Fraction. No condition. -/
import Derived.Test.YtahpbnmbphobgaaGreatDoorDg
import Derived.Test.YtahpbnmbphobgaaGreatDoorDd
import Derived.Test.YtahpbnmbphobgaaGreatDoorRfg
import Derived.Test.YtahpbnmbphobgaaGreatDoorFq
import Derived.Test.YtahpbnmbphobgaaGreatDoorDh
namespace Go.Proofs.YtahpbnmbphobgaaGreatDoor
open Go.RowKit Go.Shelf Dec

theorem rdcheck_any (D : Int) : Ret 16 #[.int .i64 D] (.int .i64 (if notDay D = true then 13 else 0)) := by
  intro w hg
  have hs := St.refl hg
  unfold notDay
  obtain ⟨t1, q1⟩ : ∃ t, decide (D < -25567) = t := ⟨_, rfl⟩
  obtain ⟨t2, q2⟩ : ∃ t, decide (84005 < D) = t := ⟨_, rfl⟩
  rw [q1, q2]
  cases t1 <;> cases t2
  · rw [if_neg (by decide)]
    go_enter Tryz.func16, Tryz.ntmps16
    go_wp2_with fail
    go_ret
    exact ⟨rfl, hs.2⟩
  all_goals
    rw [if_pos (by decide)]
    go_enter Tryz.func16, Tryz.ntmps16
    go_wp2_with fail
    go_ret
    exact ⟨rfl, hs.2⟩
end Go.Proofs.YtahpbnmbphobgaaGreatDoor
namespace Go.Proofs.YtahpbnmbphobgaaGreatDoor
open Go.RowKit Go.Shelf Dec QQ

end Go.Proofs.YtahpbnmbphobgaaGreatDoor
namespace Go.Proofs.YtahpbnmbphobgaaGreatDoor
open Go.RowKit Go.Shelf Dec QQ

theorem rofR {n : Int} (h0 : -9223372036854775808 ≤ n) (h1 : n ≤ 9223372036854775807) : Ret 47 #[.int .i64 n] (.string (canS n)) := fun w _ => rof_any n w h0 h1
/-- the next step of the sum over calendar years -/
theorem next_year {k m : Nat} (hk : k < m) (hm : m < 109573) : 1900 ≤ yN k ∧ yN k ≤ 2199 ∧
    ((2199 < yN k + 1 ∧ m ≤ beginN (yN k + 1)) ∨ (yN k + 1 ≤ 2199 ∧ k < beginN (yN k + 1) ∧ beginN (yN k + 1) ≤ 109573)) := by
  have hd := date_spec (n := k) (by omega)
  have hin := hd.in_year
  have h0 := hd.y0
  have h1 := hd.y1
  refine ⟨h0, h1, ?_⟩
  by_cases h : yN k + 1 ≤ 2199
  · exact .inr ⟨h, hin.2, by have := begin_mono (y := yN k + 1) (z := 2200) (by omega) (by omega); rwa [begin_end] at this⟩
  · have e : yN k + 1 = 2200 := by omega
    refine .inl ⟨by omega, ?_⟩
    rw [e, begin_end]
    omega
end Go.Proofs.YtahpbnmbphobgaaGreatDoor
