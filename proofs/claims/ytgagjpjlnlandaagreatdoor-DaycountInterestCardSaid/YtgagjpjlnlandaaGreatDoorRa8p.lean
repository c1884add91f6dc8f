/- Parts of years: the search of the reference's Add: the plain law. No condition. -/
import Derived.Test.YtgagjpjlnlandaaGreatDoorAd1
namespace Go.Proofs.YtgagjpjlnlandaaGreatDoor
open Go.RowKit Go.Shelf Dec QQ

/-- what the search knows: the day lies from low to high -/
def Srch (c : Int) (q : Rat) (n lo hi : Nat) : Prop := lo + 1 ≤ addN c q n ∧ addN c q n ≤ hi + 1 ∧ hi < 109573 - n
theorem srch_start {c : Int} {q : Rat} {n : Nat} (hn : n < 109573) (hq : ¬ q < 0) : Srch c q n 0 (109572 - n) := by
  obtain ⟨h1, h2⟩ := addN_pos (c := c) hn hq
  exact ⟨by omega, by omega, by omega⟩
theorem srch_end {c : Int} {q : Rat} {n lo hi : Nat} (h : Srch c q n lo hi) (hl : ¬ lo < hi) : addN c q n = lo + 1 := by
  obtain ⟨h1, h2, h3⟩ := h
  omega
theorem srch_mid {c : Int} {q : Rat} {n lo hi mi : Nat} (hn : n < 109573) (h : Srch c q n lo hi) (h1 : lo < mi) (h2 : mi ≤ hi) :
    (partQ c n (n + mi) ≤ q → Srch c q n mi hi) ∧ (¬ partQ c n (n + mi) ≤ q → Srch c q n lo (mi - 1)) := by
  obtain ⟨a1, a2, a3⟩ := h
  constructor
  · intro hle
    refine ⟨?_, a2, a3⟩
    refine Decidable.byContradiction fun hc => ?_
    have := of_decide_eq_true (addN_up (c := c) (q := q) (n := n) (i := mi) hn (by omega) (by omega))
    exact Rat.not_lt.2 hle this
  · intro hgt
    refine ⟨a1, ?_, by omega⟩
    refine Decidable.byContradiction fun hc => ?_
    have hb : mi < srch (fun i => decide (q < partQ c n (n + i))) (109573 - n) := by unfold addN at hc; omega
    have := srch_below hb
    exact hgt (Rat.not_lt.1 (of_decide_eq_false this))
end Go.Proofs.YtgagjpjlnlandaaGreatDoor
