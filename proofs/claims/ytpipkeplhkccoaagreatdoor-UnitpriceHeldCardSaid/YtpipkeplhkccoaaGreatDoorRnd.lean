/- Rounding: the plain law. No condition. -/
import Derived.Test.YtpipkeplhkccoaaGreatDoorFq
namespace QQ
/-- what a number is over its floor -/
def fpart (q : Rat) : Rat := q - (q.floor : Rat)
theorem fpart_nonneg (q : Rat) : 0 ≤ fpart q := by
  have := Rat.floor_le q
  unfold fpart
  grind
theorem fpart_lt (q : Rat) : fpart q < 1 := by
  have := Rat.lt_floor_add_one q
  rw [Rat.intCast_add] at this
  unfold fpart
  have h1 : ((1 : Int) : Rat) = 1 := rfl
  grind
theorem floor_add_fpart (q : Rat) : (q.floor : Rat) + fpart q = q := by unfold fpart; grind
def evB (a : Int) : Bool := decide (a % 2 = 0)
/-- which way a mode goes, from the comparison of the rest with the half, the sign and the parity -/
def upB (m c : Int) (neg ev : Bool) : Bool :=
  if m = 1 then decide (0 < c) || ((c == 0) && !ev) else if m = 2 then decide (0 < c) || ((c == 0) && !neg) else if m = 3 then neg else if m = 4 then !neg else decide (m = 6)
def rndQ (m : Int) (q : Rat) : Int := if fpart q = 0 then q.floor else if upB m (cmpQ (fpart q) (1 / 2)) (decide (q < 0)) (evB q.floor) = true then q.floor + 1 else q.floor
def rndE (m : Int) : Int := if m < 1 ∨ 6 < m then 7 else 0
theorem rnd_cases (m : Int) (q : Rat) : rndQ m q = q.floor ∨ (fpart q ≠ 0 ∧ rndQ m q = q.floor + 1) := by
  unfold rndQ
  split
  · exact .inl rfl
  · rename_i h
    split
    · exact .inr ⟨h, rfl⟩
    · exact .inl rfl
theorem rnd_int {m : Int} {q : Rat} (h : fpart q = 0) : rndQ m q = q.floor := if_pos h
theorem fpart_int (z : Int) : fpart (z : Rat) = 0 := by
  unfold fpart
  rw [Rat.floor_intCast]
  grind
theorem rnd_of_int (m z : Int) : rndQ m (z : Rat) = z := by rw [rnd_int (fpart_int z), Rat.floor_intCast]
theorem rnd_zero (m : Int) : rndQ m 0 = 0 := rnd_of_int m 0
theorem rnd_floor (q : Rat) : rndQ 5 q = q.floor := by
  unfold rndQ
  split
  · rfl
  · exact if_neg (by unfold upB; simp)
theorem rnd_ceil {q : Rat} (h : fpart q ≠ 0) : rndQ 6 q = q.floor + 1 := by
  unfold rndQ
  rw [if_neg h]
  exact if_pos (by unfold upB; simp)
theorem rnd_low (m : Int) (q : Rat) : rndQ 5 q ≤ rndQ m q := by
  rw [rnd_floor]
  rcases rnd_cases m q with h | h
  · omega
  · omega
theorem rnd_high (m : Int) (q : Rat) : rndQ m q ≤ rndQ 6 q := by
  rcases rnd_cases m q with h | ⟨h0, h⟩
  · have := rnd_low 6 q
    rw [rnd_floor] at this
    omega
  · rw [rnd_ceil h0]; omega
theorem rnd_gap (q : Rat) : rndQ 6 q - rndQ 5 q ≤ 1 := by
  rw [rnd_floor]
  rcases rnd_cases 6 q with h | ⟨_, h⟩ <;> omega
theorem floor_neg {q : Rat} (h : fpart q ≠ 0) : (-q).floor = -q.floor - 1 := by
  have h1 := fpart_nonneg q
  have h2 := fpart_lt q
  have h3 := floor_add_fpart q
  apply Int.le_antisymm
  · have : (-q).floor < -q.floor := by
      rw [Rat.floor_lt_iff, Rat.intCast_neg]
      grind
    omega
  · rw [Rat.le_floor_iff, Rat.intCast_sub, Rat.intCast_neg]
    have h4 : ((1 : Int) : Rat) = 1 := rfl
    grind
theorem fpart_neg {q : Rat} (h : fpart q ≠ 0) : fpart (-q) = 1 - fpart q := by
  unfold fpart at *
  rw [floor_neg h, Rat.intCast_sub, Rat.intCast_neg]
  have h4 : ((1 : Int) : Rat) = 1 := rfl
  grind
theorem evB_neg (a : Int) : evB (-a - 1) = !evB a := by
  unfold evB
  rw [← decide_not, decide_eq_decide]
  omega
theorem cmpQ_flip (r : Rat) : cmpQ (1 - r) (1 / 2) = -cmpQ r (1 / 2) := by
  have e : (1 - r < 1 / 2) ↔ 1 / 2 < r := by constructor <;> intro h <;> grind
  have e2 : (1 - r = 1 / 2) ↔ r = 1 / 2 := by constructor <;> intro h <;> grind
  unfold cmpQ
  simp only [e, e2]
  by_cases h1 : r < 1 / 2
  · rw [if_neg (by grind), if_neg (by grind), if_pos h1]; rfl
  · rw [if_neg h1]
    by_cases h2 : r = 1 / 2
    · rw [if_pos h2, if_neg (by rw [h2]; grind)]; rfl
    · rw [if_neg h2, if_pos (by grind)]
theorem cmpQ_three (p q : Rat) : cmpQ p q = -1 ∨ cmpQ p q = 0 ∨ cmpQ p q = 1 := by
  unfold cmpQ
  split
  · simp
  · split <;> simp
theorem upB_neg {m c : Int} {neg ev : Bool} (h1 : 1 ≤ m) (h4 : m ≤ 4) (hc : c = -1 ∨ c = 0 ∨ c = 1) : upB m (-c) (!neg) (!ev) = !upB m c neg ev := by
  obtain rfl | rfl | rfl | rfl : m = 1 ∨ m = 2 ∨ m = 3 ∨ m = 4 := by omega
  all_goals
    rcases hc with rfl | rfl | rfl <;> cases neg <;> cases ev <;> decide
theorem rnd_neg {m : Int} {q : Rat} (h1 : 1 ≤ m) (h4 : m ≤ 4) : rndQ m (-q) = -rndQ m q := by
  by_cases h : fpart q = 0
  · have e : q = (q.floor : Rat) := by
      have := floor_add_fpart q
      rw [h, Rat.add_zero] at this
      exact this.symm
    rw [e, ← Rat.intCast_neg, rnd_of_int, rnd_of_int]
  · have h0 : fpart (-q) ≠ 0 := by
      rw [fpart_neg h]
      have := fpart_lt q
      grind
    have hq : decide (-q < 0) = !decide (q < 0) := by
      rw [← decide_not, decide_eq_decide]
      have hz : q ≠ 0 := by rintro rfl; exact h (fpart_int 0)
      constructor
      · intro h; grind
      · intro h; grind
    unfold rndQ
    rw [if_neg h0, if_neg h, fpart_neg h, floor_neg h, cmpQ_flip, hq, evB_neg, upB_neg h1 h4 (cmpQ_three _ _)]
    cases upB m (cmpQ (fpart q) (1 / 2)) (decide (q < 0)) (evB q.floor)
    · simp
    · simp; omega
/-- half even: the difference is at most a half -/
theorem rnd_near (q : Rat) : (rndQ 1 q : Rat) - q ≤ 1 / 2 ∧ q - (rndQ 1 q : Rat) ≤ 1 / 2 := by
  have h1 := fpart_nonneg q
  have h2 := fpart_lt q
  have h3 := floor_add_fpart q
  unfold rndQ
  by_cases h : fpart q = 0
  · rw [if_pos h]
    grind
  · rw [if_neg h]
    by_cases hu : upB 1 (cmpQ (fpart q) (1 / 2)) (decide (q < 0)) (evB q.floor) = true
    · rw [if_pos hu, Rat.intCast_add]
      have h5 : ((1 : Int) : Rat) = 1 := rfl
      have h6 : ¬ fpart q < 1 / 2 := by
        intro hlt
        unfold upB cmpQ at hu
        simp [hlt] at hu
      grind
    · rw [if_neg hu]
      have h6 : ¬ 1 / 2 < fpart q := by
        intro hlt
        have e1 : ¬ fpart q < 1 / 2 := by grind
        have e2 : ¬ fpart q = 1 / 2 := by grind
        unfold upB cmpQ at hu
        simp [e1, e2] at hu
      grind
theorem rnd_nonneg {q : Rat} (m : Int) (h : 0 ≤ q) : 0 ≤ rndQ m q := by
  have h1 : 0 ≤ q.floor := Rat.le_floor_iff.2 h
  rcases rnd_cases m q with e | ⟨_, e⟩ <;> omega
/-- the rest of the division is what the number is over its floor -/
theorem fpart_rat (q : Rat) : fpart q = rat (q.num.fmod (q.den : Int)) (q.den : Int) := by
  have hd : (q.den : Int) ≠ 0 := by have := q.den_nz; omega
  have h0 := rat_num_den q
  have h1 : q.num.fdiv (q.den : Int) = q.floor := by rw [floor_rat hd, rat_num_den]
  rw [Int.fmod_def, h1]
  rw [rat_of hd] at h0 ⊢
  rw [Rat.intCast_sub, Rat.intCast_mul]
  have := intCast_ne hd
  unfold fpart
  conv => lhs; lhs; rw [← h0]
  grind
theorem fpart_zero (q : Rat) : q.num.fmod (q.den : Int) = 0 ↔ fpart q = 0 := by
  have hd : (q.den : Int) ≠ 0 := by have := q.den_nz; omega
  have h1 := intCast_ne hd
  rw [fpart_rat, rat_of hd]
  constructor
  · intro h; rw [h]; show (0 : Rat) / _ = 0; rw [Rat.div_def, Rat.zero_mul]
  · intro h
    have : ((q.num.fmod (q.den : Int) : Int) : Rat) = 0 := by grind
    exact Rat.intCast_inj.1 this
theorem half_rat (q : Rat) : (if q.num.fmod (q.den : Int) + q.num.fmod (q.den : Int) < (q.den : Int) then -1 else if q.num.fmod (q.den : Int) + q.num.fmod (q.den : Int) = (q.den : Int) then 0 else 1 : Int) = cmpQ (fpart q) (1 / 2) := by
  have hd : 0 < (q.den : Int) := by have := q.den_nz; omega
  have := cmp_cross (a := q.num.fmod (q.den : Int)) (b := q.den) (c := 1) (d := 2) hd (by decide)
  rw [← fpart_rat, show rat 1 2 = 1 / 2 from rfl, Int.one_mul] at this
  rw [← this, show q.num.fmod (q.den : Int) * 2 = q.num.fmod (q.den : Int) + q.num.fmod (q.den : Int) by omega]
theorem num_neg (q : Rat) : q.num < 0 ↔ q < 0 := by
  have := num_sub_neg q 0
  rwa [show q - 0 = q by grind] at this
end QQ
namespace Go.Proofs.YtpipkeplhkccoaaGreatDoor
open Go.RowKit Go.Shelf Dec QQ

theorem rnd_fit {k : Nat} {q : Rat} (m : Int) (h : FitQ k q) : Fit (k + 1) (rndQ m q) := by
  have h0 : q.floor.natAbs < 10 ^ k := by
    have h1 : q.floor = q.num.fdiv (q.den : Int) := by
      rw [floor_rat (by have := q.den_nz; omega), rat_num_den]
    rw [h1]
    exact fit_fdiv h.1 (by omega)
  have h1 : 0 < 10 ^ k := Nat.pow_pos (by decide)
  show (rndQ m q).natAbs < 10 ^ (k + 1)
  rw [Nat.pow_succ]
  rcases rnd_cases m q with e | ⟨_, e⟩ <;> omega
end Go.Proofs.YtpipkeplhkccoaaGreatDoor
