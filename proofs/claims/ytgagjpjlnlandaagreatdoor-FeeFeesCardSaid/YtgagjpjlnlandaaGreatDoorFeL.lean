/- Fees: the plain laws of the management fee and of the mark. No condition. -/
import Derived.Test.YtgagjpjlnlandaaGreatDoorFeP
namespace Go.Proofs.YtgagjpjlnlandaaGreatDoor
open Go.RowKit Go.Shelf Dec QQ

theorem frac_nonneg (c A B : Int) : 0 ≤ (fracR c A B).1 := by
  by_cases h : (fracR c A B).2 = 0
  · obtain ⟨c1, c5, ⟨n, hA⟩, ⟨m, hB⟩, l1, e1⟩ := fracR_ok h
    rw [e1, hA.num, hB.num]
    have := part_mono (c := c) (a := n) (b := n) (d := m) hA.2 hB.2 (by have := hA.1; have := hB.1; omega)
    rwa [part_self] at this
  · unfold fracR at h ⊢
    split
    · exact Rat.le_refl
    · split
      · exact Rat.le_refl
      · split
        · exact Rat.le_refl
        · rename_i h1 h2 h3
          rw [if_neg h1, if_neg h2, if_neg h3] at h
          exact absurd rfl h
theorem mul_nn {a b : Rat} (h1 : 0 ≤ a) (h2 : 0 ≤ b) : 0 ≤ a * b := Rat.mul_nonneg h1 h2
theorem cast_nn {z : Int} (h : 0 ≤ z) : (0 : Rat) ≤ (z : Rat) := Rat.intCast_nonneg.2 h
theorem mg_nonneg {v : Int} {m : Rat} (c A B : Int) (hm : 0 ≤ m) : 0 ≤ mgI v m c A B := by
  unfold mgI
  split
  · exact Int.le_refl _
  · exact rnd_nonneg 1 (mul_nn (cast_nn (by omega)) (mul_nn hm (frac_nonneg c A B)))
/-- the exact fee -/
def mgQ (v : Int) (m : Rat) (c A B : Int) : Rat := if v < 0 then 0 else (v : Rat) * m * (fracR c A B).1
theorem mg_near (v : Int) (m : Rat) (c A B : Int) : (mgI v m c A B : Rat) - mgQ v m c A B ≤ 1 / 2 ∧ -((mgI v m c A B : Rat) - mgQ v m c A B) ≤ 1 / 2 := by
  unfold mgI mgQ
  by_cases h : v < 0
  · rw [if_pos h, if_pos (by omega)]
    show ((0 : Rat) - 0 ≤ 1 / 2) ∧ _
    grind
  · rw [if_neg h]
    by_cases h0 : v ≤ 0
    · obtain rfl : v = 0 := by omega
      rw [if_pos h0]
      have e : ((0 : Int) : Rat) = 0 := rfl
      rw [e, Rat.zero_mul, Rat.zero_mul]
      grind
    · rw [if_neg h0]
      have := rnd_near ((v : Rat) * (m * (fracR c A B).1))
      have e : (v : Rat) * m * (fracR c A B).1 = (v : Rat) * (m * (fracR c A B).1) := by grind
      rw [e]
      grind
theorem int_gap {x y z : Int} (h1 : ((x + y : Int) : Rat) - (z : Rat) ≤ 3 / 2) (h2 : (z : Rat) - ((x + y : Int) : Rat) ≤ 3 / 2) : x + y - z ≤ 1 ∧ z - (x + y) ≤ 1 := by
  have e2 : ((2 : Int) : Rat) = 2 := rfl
  constructor
  · apply Int.le_of_lt_add_one
    rw [← Rat.intCast_lt_intCast, Rat.intCast_sub]
    show _ < ((2 : Int) : Rat)
    grind
  · apply Int.le_of_lt_add_one
    rw [← Rat.intCast_lt_intCast, Rat.intCast_sub]
    show _ < ((2 : Int) : Rat)
    grind
theorem mg_sum {v : Int} {m : Rat} {c A B C : Int} (hc : c ≠ 3) (h1 : (fracR c A B).2 = 0) (h2 : (fracR c B C).2 = 0) :
    ((mgI v m c A B + mgI v m c B C : Int) : Rat) - (mgI v m c A C : Rat) ≤ 1 ∧ -(((mgI v m c A B + mgI v m c B C : Int) : Rat) - (mgI v m c A C : Rat)) ≤ 1 := by
  obtain ⟨_, hs⟩ := sums_law h1 h2
  have hs := hs hc
  have n1 := mg_near v m c A B
  have n2 := mg_near v m c B C
  have n3 := mg_near v m c A C
  have e : mgQ v m c A C = mgQ v m c A B + mgQ v m c B C := by
    unfold mgQ
    split
    · grind
    · rw [← hs]; grind
  have ec : ((mgI v m c A B + mgI v m c B C : Int) : Rat) = (mgI v m c A B : Rat) + (mgI v m c B C : Rat) := Rat.intCast_add _ _
  obtain ⟨g1, g2⟩ := int_gap (x := mgI v m c A B) (y := mgI v m c B C) (z := mgI v m c A C) (by rw [ec]; grind) (by rw [ec]; grind)
  have l1 := Rat.intCast_le_intCast.2 g1
  have l2 := Rat.intCast_le_intCast.2 g2
  rw [Rat.intCast_sub] at l1 l2
  have e1 : ((1 : Int) : Rat) = 1 := rfl
  grind
theorem pf_nonneg {v : Int} {p : Rat} (u : Int) (mk : Rat) (hp : 0 ≤ p) : 0 ≤ pfI v p u mk := by
  unfold pfI
  split
  · rename_i h; exact rnd_nonneg 1 (mul_nn hp (Rat.le_of_lt h))
  · exact Int.le_refl _
theorem pf_mark (v : Int) (p : Rat) (u : Int) (mk : Rat) : mk ≤ pfM v p u mk ∧ rat (v - pfI v p u mk) u ≤ pfM v p u mk ∧ (pfM v p u mk = rat (v - pfI v p u mk) u ∨ pfM v p u mk = mk) := by
  unfold pfM
  split
  · rename_i h; exact ⟨Rat.le_of_lt h, Rat.le_refl, .inl rfl⟩
  · rename_i h; exact ⟨Rat.le_refl, Rat.not_lt.1 h, .inr rfl⟩
theorem rat_mul_le {z u : Int} {q : Rat} (hu : 0 < u) : rat z u ≤ q ↔ (z : Rat) ≤ q * (u : Rat) := by
  rw [rat_of (by omega)]
  have : (0 : Rat) < (u : Rat) := Rat.intCast_pos.2 hu
  rw [← Rat.not_lt, ← Rat.not_lt, Rat.lt_div_iff this]
/-- no gain, no fee, the same mark -/
theorem pf_none {v : Int} {p : Rat} {u : Int} {mk : Rat} (hu : 0 < u) (h : rat v u ≤ mk) : pfI v p u mk = 0 ∧ pfM v p u mk = mk := by
  have h1 := (rat_mul_le hu).1 h
  have e : pfI v p u mk = 0 := if_neg (by grind)
  refine ⟨e, ?_⟩
  unfold pfM
  rw [e, Int.sub_zero]
  exact if_neg (Rat.not_lt.2 h)
theorem pf_again {v : Int} {p : Rat} {u : Int} {mk : Rat} (hu : 0 < u) : pfI (v - pfI v p u mk) p u (pfM v p u mk) = 0 ∧ pfM (v - pfI v p u mk) p u (pfM v p u mk) = pfM v p u mk :=
  pf_none hu (pf_mark v p u mk).2.1
theorem pf_low {v : Int} {p : Rat} {u : Int} {mk : Rat} (hu : 0 < u) (h : ¬ 0 < (v : Rat) - mk * (u : Rat)) : pfI v p u mk = 0 ∧ pfM v p u mk = mk :=
  pf_none hu ((rat_mul_le hu).2 (by grind))
theorem pf_near {v : Int} {p : Rat} {u : Int} {mk : Rat} (h : 0 < (v : Rat) - mk * (u : Rat)) :
    (pfI v p u mk : Rat) - p * ((v : Rat) - mk * (u : Rat)) ≤ 1 / 2 ∧ -((pfI v p u mk : Rat) - p * ((v : Rat) - mk * (u : Rat))) ≤ 1 / 2 := by
  unfold pfI
  rw [if_pos h]
  have := rnd_near (p * ((v : Rat) - mk * (u : Rat)))
  grind
theorem rate_zero {n d : ByteArray} (h : rateE n d = 0) : chkF n d = 0 ∧ 0 ≤ ratV n d ∧ ratV n d ≤ 1 := by
  unfold rateE at h
  split at h
  · cases h
  · rename_i h1
    split at h
    · cases h
    · rename_i h2
      refine ⟨Decidable.of_not_not h1, ?_, ?_⟩
      · exact Rat.not_lt.1 fun h => h2 (.inl h)
      · exact Rat.not_lt.1 fun h => h2 (.inr h)
theorem term_zero {T : TermS} (h : termE T = 0) : rateE T.mn T.md = 0 ∧ rateE T.pn T.pd = 0 ∧ 1 ≤ T.cnt ∧ T.cnt ≤ 5 := by
  unfold termE at h
  by_cases h1 : rateE T.mn T.md = 0
  · rw [if_neg (by simpa using h1)] at h
    by_cases h2 : rateE T.pn T.pd = 0
    · rw [if_neg (by simpa using h2)] at h
      split at h
      · cases h
      · exact ⟨h1, h2, by omega, by omega⟩
    · rw [if_pos h2] at h; exact absurd h h2
  · rw [if_pos h1] at h; exact absurd h h1
theorem cnt_zero {u kn kd : ByteArray} (h : cntE u kn kd = 0) : chk u = 0 ∧ chkF kn kd = 0 ∧ 0 < valS u ∧ 0 ≤ ratV kn kd := by
  unfold cntE at h
  by_cases h1 : chk u ≠ 0 ∨ chkF kn kd ≠ 0
  · rw [if_pos h1] at h; cases h
  · rw [if_neg h1] at h
    split at h
    · cases h
    · rename_i h2
      refine ⟨Decidable.of_not_not fun h => h1 (.inl h), Decidable.of_not_not fun h => h1 (.inr h), ?_, Rat.not_lt.1 fun h => h2 (.inr h)⟩
      have : ¬ valS u ≤ 0 := fun h => h2 (.inl h)
      omega
theorem man_zero {T : TermS} {v : ByteArray} {A B : Int} (h : manE T v A B = 0) : termE T = 0 ∧ chk v = 0 ∧ (∃ n, IsDay A n) ∧ (∃ n, IsDay B n) ∧ A ≤ B ∧ (fracR T.cnt A B).2 = 0 := by
  unfold manE at h
  by_cases h1 : termE T ≠ 0 ∨ chk v ≠ 0
  · rw [if_pos h1] at h; cases h
  · rw [if_neg h1] at h
    have ht : termE T = 0 := Decidable.of_not_not fun h => h1 (.inl h)
    obtain ⟨_, _, c1, c5⟩ := term_zero ht
    rcases day_cases A with hA | hA
    · rw [hA.1] at h; simp at h
    · rcases day_cases B with hB | hB
      · rw [hB.1] at h; simp at h
      · rw [hA.1, hB.1, if_neg (by decide)] at h
        split at h
        · cases h
        · obtain ⟨n, hn⟩ := hA.2
          obtain ⟨m, hm⟩ := hB.2
          exact ⟨ht, Decidable.of_not_not fun h => h1 (.inr h), ⟨n, hn⟩, ⟨m, hm⟩, by omega, by rw [fracR_in c1 c5 hn hm (by omega)]⟩
theorem man_in {T : TermS} {v : ByteArray} {A B : Int} (h1 : termE T = 0) (h2 : chk v = 0) (hA : ∃ n, IsDay A n) (hB : ∃ n, IsDay B n) (hl : A ≤ B) : manE T v A B = 0 := by
  obtain ⟨n, hn⟩ := hA
  obtain ⟨m, hm⟩ := hB
  unfold manE
  rw [if_neg (by rw [h1, h2]; simp), hn.not, hm.not, if_neg (by decide), if_neg (by omega)]
theorem pf_zero {T : TermS} {v u kn kd : ByteArray} (h : pfE T v u kn kd = 0) : termE T = 0 ∧ chk v = 0 ∧ cntE u kn kd = 0 := by
  unfold pfE at h
  split at h
  · cases h
  · rename_i h1
    exact ⟨Decidable.of_not_not fun h => h1 (.inl h), Decidable.of_not_not fun h => h1 (.inr h), h⟩
theorem pf_in {T : TermS} {v u kn kd : ByteArray} (h1 : termE T = 0) (h2 : chk v = 0) (h3 : cntE u kn kd = 0) : pfE T v u kn kd = 0 := by
  unfold pfE
  rw [if_neg (by rw [h1, h2]; simp), h3]
end Go.Proofs.YtgagjpjlnlandaaGreatDoor
