/- Allocation: plain laws of the statements: order, moving a unit, beginnings. No condition. -/
import Derived.Test.YtdpoagcgglfijaaGreatDoorWQ
import Derived.Test.YtdpoagcgglfijaaGreatDoorSQ
namespace Go.Proofs.YtdpoagcgglfijaaGreatDoor
open Go.RowKit Go.Shelf Dec QQ SP

theorem splL_absI {T : Int} {ws : List Int} (h : WOk ws) {i : Nat} (hi : i < ws.length) : absI (at0 (splL T ws) i) = at0 (posL (absI T) ws) i := by
  have hn := posL_nn h (absI_nn T) hi
  rw [splL_abs]
  generalize posL (absI T) ws = l at *
  split
  · rw [at0_neg]
    generalize at0 l i = x at *
    unfold absI
    split <;> omega
  · generalize at0 l i = x at *
    unfold absI
    split <;> omega
theorem splL_order {T : Int} {ws : List Int} (h : WOk ws) {i k : Nat} (hi : i < ws.length) (hk : k < ws.length) :
    (at0 ws k < at0 ws i → absI (at0 (splL T ws) k) ≤ absI (at0 (splL T ws) i)) ∧ (at0 ws i = at0 ws k → i < k → absI (at0 (splL T ws) k) ≤ absI (at0 (splL T ws) i) ∧ absI (at0 (splL T ws) i) - absI (at0 (splL T ws) k) ≤ 1) := by
  rw [splL_absI h hi, splL_absI h hk]
  exact posL_order h (absI_nn T) hi hk
/-- what AllocateOrder asks of two parts -/
theorem order4 {T : Int} {ws : List Int} (h : WOk ws) {i k : Nat} (hi : i < ws.length) (hk : k < ws.length) :
    ¬ (0 < cmpI (at0 ws i) (at0 ws k) ∧ cmpI (absI (at0 (splL T ws) i)) (absI (at0 (splL T ws) k)) < 0) ∧
    (cmpI (at0 ws i) (at0 ws k) = 0 → i < k → ¬ cmpI (absI (at0 (splL T ws) i)) (absI (at0 (splL T ws) k)) < 0 ∧ ¬ 0 < cmpI (absI (at0 (splL T ws) i) - absI (at0 (splL T ws) k)) 1) := by
  obtain ⟨h1, h2⟩ := splL_order (T := T) h hi hk
  generalize at0 ws i = a at *
  generalize at0 ws k = b at *
  generalize absI (at0 (splL T ws) i) = x at *
  generalize absI (at0 (splL T ws) k) = y at *
  have c1 := cmp_sign a b
  have c2 := cmp_sign x y
  have c3 := cmp_sign (x - y) 1
  constructor
  · rintro ⟨h3, h4⟩
    have := h1 (by omega)
    omega
  · intro h3 h4
    have := h2 (by omega) h4
    omega
where
  cmp_sign (a b : Int) : (0 < cmpI a b ↔ b < a) ∧ (cmpI a b = 0 ↔ a = b) ∧ (cmpI a b < 0 ↔ a < b) := by
    unfold cmpI
    split
    · omega
    · split <;> omega
/-- the sum of the squares of the differences to the ideal parts, a unit moved or not -/
def sqQ (x y m : Rat) : Rat := (x - m) * (x - m) + (y + m) * (y + m)
theorem sq_moved {x y : Rat} (h : x - y ≤ 1) : sqQ x y 0 ≤ sqQ x y 1 := by
  unfold sqQ
  have e : (x - 1) * (x - 1) + (y + 1) * (y + 1) = (x - 0) * (x - 0) + (y + 0) * (y + 0) + 2 * (1 - (x - y)) := by grind
  rw [e]
  have h2 : (0 : Rat) ≤ 1 - (x - y) := by grind
  grind
/-- the ideal part, and how far a part lies beside it -/
theorem diff_rat {T S w p : Int} (h : 0 < S) : ((p : Int) : Rat) - rat (T * w) S = rat (S * p - T * w) S := by
  have e := far_diff (a := T * w) (S := S) (p := p) h
  have e2 : ((p : Int) : Rat) - rat (T * w) S = -(rat (T * w) S - ((p : Int) : Rat)) := by grind
  rw [e2, e, ← rat_negn]
  congr 1
  omega
theorem nearest4 {T : Int} {ws : List Int} (h : WOk ws) {i k : Nat} (hi : i < ws.length) (hk : k < ws.length) :
    (((at0 (splL T ws) i : Int) : Rat) - rat (T * at0 ws i) ws.sum) - (((at0 (splL T ws) k : Int) : Rat) - rat (T * at0 ws k) ws.sum) ≤ 1 := by
  have hm := splL_move T h hi hk
  rw [diff_rat h.pos, diff_rat h.pos]
  have hs := rat_sub (a := ws.sum * at0 (splL T ws) i - T * at0 ws i) (b := ws.sum) (c := ws.sum * at0 (splL T ws) k - T * at0 ws k) (d := ws.sum) (by have := h.pos; omega) (by have := h.pos; omega)
  generalize ws.sum * at0 (splL T ws) i - T * at0 ws i = a at *
  generalize ws.sum * at0 (splL T ws) k - T * at0 ws k = b at *
  have hp := h.pos
  generalize ws.sum = S at *
  rw [rat_of (by omega), rat_of (by omega)]
  have hS : (0 : Rat) < (S : Rat) := by have := Rat.intCast_lt_intCast.2 hp; exact this
  have h1 : ((a - b : Int) : Rat) ≤ (S : Rat) := Rat.intCast_le_intCast.2 hm
  have h2 : (a : Rat) / (S : Rat) - (b : Rat) / (S : Rat) = ((a - b : Int) : Rat) / (S : Rat) := by
    rw [Rat.intCast_sub]
    have hne := intCast_ne (d := S) (by omega)
    grind
  rw [h2]
  refine Rat.not_lt.1 (fun hlt => ?_)
  have := (Rat.lt_div_iff hS).1 hlt
  rw [Rat.one_mul] at this
  exact absurd h1 (Rat.not_le.2 this)
/-- Running's beginnings -/
theorem begins4 (T : Int) {ws : List Int} {n k : Nat} (hk : k ≤ n) : ((runL T ws n).take k).sum = (T * (ws.take k).sum).fdiv ws.sum := by
  rw [runL_take T ws hk, runL_sum]
  rfl
end Go.Proofs.YtdpoagcgglfijaaGreatDoor
