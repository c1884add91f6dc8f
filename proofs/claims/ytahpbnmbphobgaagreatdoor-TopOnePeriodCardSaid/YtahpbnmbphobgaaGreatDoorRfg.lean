/- Fractions, the reference: contracts of Raw, Canonical, New. Conditions: strings of up to eighty thousand bytes. Fractions, the reference: contracts of Add, Sub, Neg, Mul, Quo, Floor, Of, Check. Conditions: strings of up to thirty thousand bytes. Reference fractions: comparison, sign, ratio; digits; long numbers. Conditions: numbers of bounded length. -/
import Derived.Test.YtahpbnmbphobgaaGreatDoorRt
import Derived.Test.YtahpbnmbphobgaaGreatDoorFc
import Derived.Test.YtahpbnmbphobgaaGreatDoorFq
import Derived.Test.YtahpbnmbphobgaaGreatDoorOwn
namespace Go.Proofs.YtahpbnmbphobgaaGreatDoor
open Go.RowKit Go.Shelf Dec
open QQ

theorem rchkR {a : ByteArray} (h : a.size ≤ 1000000) : Ret 17 #[.string a] (.int .i64 (chk a)) := fun w _ => rcheck_any a w (by omega)
theorem rcmpR {a b : ByteArray} (ha : a.size ≤ 1000000) (hb : b.size ≤ 1000000) : Ret 45 #[.string a, .string b] (.int .i64 (cmpI (valS a) (valS b))) := fun w _ => rcompare_any a b w (by omega) (by omega)
/-- what Raw returns -/
def rawR (n d : ByteArray) : ByteArray × ByteArray := if valS d = 0 then (n, ⟨#[49]⟩) else if valS d < 0 then (canS (-(valS n)), canS (-(valS d))) else (n, d)
theorem raw_rat (n d : ByteArray) : rat (valS (rawR n d).1) (valS (rawR n d).2) = ratV n d ∧ 0 < valS (rawR n d).2 := by
  unfold rawR ratV
  by_cases h : valS d = 0
  · rw [if_pos h, h, rat_zero]
    have e : valS (⟨#[49]⟩ : ByteArray) = 1 := by decide +kernel
    show rat (valS n) (valS ⟨#[49]⟩) = _ ∧ 0 < valS ⟨#[49]⟩
    rw [e, rat_one]
    exact ⟨rfl, by decide⟩
  · rw [if_neg h]
    by_cases h2 : valS d < 0
    · rw [if_pos h2]
      show rat (valS (canS (-(valS n)))) (valS (canS (-(valS d)))) = _ ∧ 0 < valS (canS (-(valS d)))
      rw [valS_canS, valS_canS, rat_neg _ _ h]
      exact ⟨rfl, by omega⟩
    · rw [if_neg h2]
      exact ⟨rfl, by show 0 < valS d; omega⟩
theorem raw_size {n d : ByteArray} {k : Nat} (h1 : n.size ≤ k) (h2 : d.size ≤ k) (hk : 1 ≤ k) : (rawR n d).1.size ≤ k + 1 ∧ (rawR n d).2.size ≤ k + 1 := by
  unfold rawR
  split
  · exact ⟨by show n.size ≤ _; omega, by show (1 : Nat) ≤ _; omega⟩
  · split
    · exact ⟨((Fit.val h1).neg).size, ((Fit.val h2).neg).size⟩
    · exact ⟨by show n.size ≤ _; omega, by show d.size ≤ _; omega⟩
theorem den_one (q : Rat) : (cmpI (q.den : Int) 1 == 0) = decide (q.den = 1) := by rw [cmpI_eq, decide_eq_decide]; omega
end Go.Proofs.YtahpbnmbphobgaaGreatDoor
namespace Go.Proofs.YtahpbnmbphobgaaGreatDoor
open Go.RowKit Go.Shelf Dec QQ

theorem rAddR {a b : ByteArray} (ha : a.size ≤ 900000) (hb : b.size ≤ 900000) : Ret 20 #[.string a, .string b] (.string (canS (valS a + valS b))) := fun w _ => rAdd_any a b w ha hb
end Go.Proofs.YtahpbnmbphobgaaGreatDoor
namespace Go.Proofs.YtahpbnmbphobgaaGreatDoor
open Go.RowKit Go.Shelf Dec QQ

set_option maxRecDepth 100000 in
set_option maxHeartbeats 4000000 in
theorem rsignR {a : ByteArray} (h : a.size ≤ 1000000) : Ret 19 #[.string a] (.int .i64 (cmpI (valS a) 0)) := by
  intro w hg
  have hs := St.refl hg
  have K1 := rcmpR (a := a) (b := ⟨#[]⟩) h (by decide)
  rw [show valS ⟨#[]⟩ = 0 from by decide] at K1
  generalize cmpI (valS a) 0 = c at *
  go_enter Tryz.func19, Tryz.ntmps19
  go_wp2_with fail
  refine K1.step hs ?_
  intro w1 hs _
  go_wp2_with fail
  go_ret
  exact ⟨rfl, hs.2⟩
end Go.Proofs.YtahpbnmbphobgaaGreatDoor
