/- Rounding: the plain law. No condition. -/
import Derived.Test.YticfdeaphiifeaaGreatDoorFq
namespace QQ
def fpart (q : Rat) : Rat := q - (q.floor : Rat)
def evB (a : Int) : Bool := decide (a % 2 = 0)
def upB (m c : Int) (neg ev : Bool) : Bool :=
 if m = 1 then decide (0 < c) || ((c == 0) && !ev) else if m = 2 then decide (0 < c) || ((c == 0) && !neg) else if m = 3 then neg else if m = 4 then !neg else decide (m = 6)
def rndQ (m : Int) (q : Rat) : Int := if fpart q = 0 then q.floor else if upB m (cmpQ (fpart q) (1 / 2)) (decide (q < 0)) (evB q.floor) = true then q.floor + 1 else q.floor
def rndE (m : Int) : Int := if m < 1 ∨ 6 < m then 7 else 0
theorem rnd_cases (m : Int) (q : Rat) : rndQ m q = q.floor ∨ (fpart q ≠ 0 ∧ rndQ m q = q.floor + 1) := by
 unfold rndQ
 split
 ·exact .inl rfl
 ·rename_i h
  split
  ·exact .inr ⟨h, rfl⟩
  ·exact .inl rfl
theorem rnd_int {m : Int} {q : Rat} (h : fpart q = 0) : rndQ m q = q.floor := if_pos h
theorem fpart_int (z : Int) : fpart (z : Rat) = 0 := by
 unfold fpart
 rw [Rat.floor_intCast]
 grind
theorem rnd_of_int (m z : Int) : rndQ m (z : Rat) = z := by rw [rnd_int (fpart_int z), Rat.floor_intCast]
theorem rnd_zero (m : Int) : rndQ m 0 = 0 := rnd_of_int m 0
theorem fpart_rat (q : Rat) : fpart q = rat (q.num.fmod (q.den : Int)) (q.den : Int) := by
 have hd : (q.den : Int) ≠ 0 := by have := q.den_nz; omega
 have h0 := rat_num_den q
 have h1 : q.num.fdiv (q.den : Int) = q.floor := by rw [floor_rat hd, rat_num_den]
 rw [Int.fmod_def, h1]
 rw [rat_of hd] at h0 ⊢
 rw [Rat.intCast_sub, Rat.intCast_mul]
 have := intCast_ne hd
 unfold fpart
 conv => lhs; lhs; rw [← h0]
 grind
theorem fpart_zero (q : Rat) : q.num.fmod (q.den : Int) = 0 ↔ fpart q = 0 := by
 have hd : (q.den : Int) ≠ 0 := by have := q.den_nz; omega
 have h1 := intCast_ne hd
 rw [fpart_rat, rat_of hd]
 constructor
 ·intro h; rw [h]; show (0 : Rat) / _ = 0; rw [Rat.div_def, Rat.zero_mul]
 ·intro h
  have : ((q.num.fmod (q.den : Int) : Int) : Rat) = 0 := by grind
  exact Rat.intCast_inj.1 this
theorem half_rat (q : Rat) : (if q.num.fmod (q.den : Int) + q.num.fmod (q.den : Int) < (q.den : Int) then -1 else if q.num.fmod (q.den : Int) + q.num.fmod (q.den : Int) = (q.den : Int) then 0 else 1 : Int) = cmpQ (fpart q) (1 / 2) := by
 have hd : 0 < (q.den : Int) := by have := q.den_nz; omega
 have := cmp_cross (a := q.num.fmod (q.den : Int)) (b := q.den) (c := 1) (d := 2) hd (by decide)
 rw [← fpart_rat, show rat 1 2 = 1 / 2 from rfl, Int.one_mul] at this
 rw [← this, show q.num.fmod (q.den : Int) * 2 = q.num.fmod (q.den : Int) + q.num.fmod (q.den : Int) by omega]
theorem num_neg (q : Rat) : q.num < 0 ↔ q < 0 := by
 have := num_sub_neg q 0
 rwa [show q - 0 = q by grind] at this
end QQ
namespace Go.Proofs.YticfdeaphiifeaaGreatDoor
open Go.RowKit Go.Shelf Dec QQ
theorem rnd_fit {k : Nat} {q : Rat} (m : Int) (h : FitQ k q) : Fit (k + 1) (rndQ m q) := by
 have h0 : q.floor.natAbs < 10 ^ k := by
  have h1 : q.floor = q.num.fdiv (q.den : Int) := by
   rw [floor_rat (by have := q.den_nz; omega), rat_num_den]
  rw [h1]
  exact fit_fdiv h.1 (by omega)
 have h1 : 0 < 10 ^ k := Nat.pow_pos (by decide)
 show (rndQ m q).natAbs < 10 ^ (k + 1)
 rw [Nat.pow_succ]
 rcases rnd_cases m q with e | ⟨_, e⟩ <;> omega
end Go.Proofs.YticfdeaphiifeaaGreatDoor
