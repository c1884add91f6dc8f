/- Dividing an integer by fractions: weights out of fractions with a common denominator. Plain facts. No condition. -/
import Derived.Test.YtpipkeplhkccoaaGreatDoorSQ
import Derived.Test.YtpipkeplhkccoaaGreatDoorFa
namespace SP
open QQ
def frW (qs : List Rat) (C : Int) : List Int := qs.map fun q => q.num * (C / (q.den : Int))
theorem frW_len (qs : List Rat) (C : Int) : (frW qs C).length = qs.length := by simp [frW]
theorem den_ne (q : Rat) : (q.den : Int) ≠ 0 := by have := q.den_nz; omega
theorem frW_mul {q : Rat} {C : Int} (h : (q.den : Int) ∣ C) : ((q.num * (C / (q.den : Int)) : Int) : Rat) = q * (C : Rat) := by
  obtain ⟨m, rfl⟩ := h
  have hd := den_ne q
  rw [Int.mul_ediv_cancel_left _ hd, Rat.intCast_mul, Rat.intCast_mul]
  have e := rat_num_den q
  rw [rat_of hd] at e
  have hr := intCast_ne hd
  have e2 : q * ((q.den : Int) : Rat) = (q.num : Rat) := by
    conv => lhs; lhs; rw [← e]
    exact Rat.div_mul_cancel hr
  rw [← Rat.mul_assoc, e2]
def sumR : List Rat → Rat
  | [] => 0
  | q :: qs => q + sumR qs
theorem frW_sum {C : Int} : ∀ {qs : List Rat}, (∀ q ∈ qs, (q.den : Int) ∣ C) → (((frW qs C).sum : Int) : Rat) = sumR qs * (C : Rat)
  | [], _ => by
    show ((0 : Int) : Rat) = 0 * (C : Rat)
    have : ((0 : Int) : Rat) = 0 := rfl
    grind
  | q :: qs, h => by
    have h1 := frW_mul (h q (by simp))
    have h2 := frW_sum (qs := qs) (fun x hx => h x (by simp [hx]))
    show (((q.num * (C / (q.den : Int))) + (frW qs C).sum : Int) : Rat) = (q + sumR qs) * (C : Rat)
    rw [Rat.intCast_add, h1, h2]
    grind
/-- the weights add up to the common denominator -/
theorem frW_total {C : Int} {qs : List Rat} (h : ∀ q ∈ qs, (q.den : Int) ∣ C) (h1 : sumR qs = 1) : (frW qs C).sum = C := by
  have := frW_sum h
  rw [h1, Rat.one_mul] at this
  exact Rat.intCast_inj.1 this
theorem frW_ok {C : Int} {qs : List Rat} (hC : 0 < C) (h : ∀ q ∈ qs, (q.den : Int) ∣ C) (h1 : sumR qs = 1) (h0 : ∀ q ∈ qs, 0 ≤ q) : WOk (frW qs C) := by
  refine ⟨fun w hw => ?_, by rw [frW_total h h1]; exact hC⟩
  obtain ⟨q, hq, rfl⟩ := List.mem_map.1 hw
  exact Int.mul_nonneg (Rat.num_nonneg.2 (h0 q hq)) (Int.ediv_nonneg (by omega) (by omega))
theorem frW_same {C A : Int} {qs : List Rat} (h : ∀ q ∈ qs, (q.den : Int) ∣ C) (h2 : ∀ q ∈ qs, (q.den : Int) ∣ A) : scl A (frW qs C) = scl C (frW qs A) := by
  unfold scl frW
  rw [List.map_map, List.map_map]
  apply List.map_congr_left
  intro q hq
  show q.num * (C / (q.den : Int)) * A = q.num * (A / (q.den : Int)) * C
  apply Rat.intCast_inj.1
  rw [Rat.intCast_mul, frW_mul (h q hq), Rat.intCast_mul (q.num * (A / (q.den : Int))) C, frW_mul (h2 q hq)]
  grind
/-- any common denominators lead to the same parts -/
theorem frW_split (T : Int) {C A : Int} {qs : List Rat} (hC : 0 < C) (hA : 0 < A) (h : ∀ q ∈ qs, (q.den : Int) ∣ C) (h2 : ∀ q ∈ qs, (q.den : Int) ∣ A) (h1 : sumR qs = 1) : splL T (frW qs C) = splL T (frW qs A) :=
  splL_prop T hA hC (by rw [frW_total h2 h1]; exact hA) (by rw [frW_total h h1]; exact hC) (frW_same h h2)
/-- fractions in the proportions of weights lead to their parts -/
theorem frW_of (T : Int) {C : Int} {ws : List Int} (hw : WOk ws) (hC : 0 < C) (h : ∀ q ∈ ws.map (fun w => rat w ws.sum), (q.den : Int) ∣ C) : sumR (ws.map fun w => rat w ws.sum) = 1 ∧ splL T (frW (ws.map fun w => rat w ws.sum) C) = splL T ws := by
  have hS := hw.pos
  have hr := intCast_ne (d := ws.sum) (by omega)
  have key : ∀ w : Int, rat w ws.sum * (ws.sum : Rat) = (w : Rat) := fun w => by
    rw [rat_of (by omega)]
    exact Rat.div_mul_cancel hr
  have hsum : ∀ l : List Int, sumR (l.map fun w => rat w ws.sum) * (ws.sum : Rat) = (l.sum : Rat) := by
    intro l
    induction l with
    | nil =>
      show (0 : Rat) * _ = ((0 : Int) : Rat)
      have : ((0 : Int) : Rat) = 0 := rfl
      grind
    | cons w l ih =>
      show (rat w ws.sum + sumR (l.map fun w => rat w ws.sum)) * (ws.sum : Rat) = _
      rw [List.sum_cons, Rat.intCast_add, ← ih, ← key w]
      grind
  have h1 : sumR (ws.map fun w => rat w ws.sum) = 1 := by
    have := hsum ws
    have h2 : (sumR (ws.map fun w => rat w ws.sum) - 1) * (ws.sum : Rat) = 0 := by grind
    rcases Rat.mul_eq_zero.1 h2 with h3 | h3
    · grind
    · exact absurd h3 hr
  refine ⟨h1, splL_prop T hS hC hS (by rw [frW_total h h1]; exact hC) ?_⟩
  unfold scl frW
  rw [List.map_map, List.map_map]
  apply List.map_congr_left
  intro w hw
  show (rat w ws.sum).num * (C / ((rat w ws.sum).den : Int)) * ws.sum = w * C
  apply Rat.intCast_inj.1
  rw [Rat.intCast_mul, frW_mul (h _ (List.mem_map.2 ⟨w, hw, rfl⟩)), Rat.intCast_mul w C, ← key w]
  grind
/-! common denominators -/
def dn (qs : List Rat) (k : Nat) : Int := ((qs.getD k 0).den : Int)
theorem dn_pos (qs : List Rat) (k : Nat) : 0 < dn qs k := by
  unfold dn
  have := (qs.getD k 0).den_pos
  omega
def lcmTo (qs : List Rat) : Nat → Int
  | 0 => 1
  | k + 1 => lcmTo qs k * (dn qs k / (Int.gcd (lcmTo qs k) (dn qs k) : Int))
def prdTo (qs : List Rat) : Nat → Int
  | 0 => 1
  | k + 1 => prdTo qs k * dn qs k
theorem prd_pos (qs : List Rat) : ∀ k, 0 < prdTo qs k
  | 0 => (by decide : (0 : Int) < 1)
  | k + 1 => Int.mul_pos (prd_pos qs k) (dn_pos qs k)
theorem prd_dvd (qs : List Rat) : ∀ k i, i < k → dn qs i ∣ prdTo qs k
  | k + 1, i, h => by
    by_cases e : i = k
    · subst e; exact Int.dvd_mul_left _ _
    · exact Int.dvd_trans (prd_dvd qs k i (by omega)) (Int.dvd_mul_right _ _)
theorem lcm_step {C d : Int} (hC : 0 < C) (hd : 0 < d) : 0 < C * (d / (Int.gcd C d : Int)) ∧ C ∣ C * (d / (Int.gcd C d : Int)) ∧ d ∣ C * (d / (Int.gcd C d : Int)) ∧ C * (d / (Int.gcd C d : Int)) ≤ C * d := by
  have h1 : (Int.gcd C d : Int) ∣ C := Int.gcd_dvd_left _ _
  have h2 : (Int.gcd C d : Int) ∣ d := Int.gcd_dvd_right _ _
  have h3 : 0 < (Int.gcd C d : Int) := by
    have : 0 < Int.gcd C d := Int.gcd_pos_of_ne_zero_left _ (by omega)
    omega
  generalize (Int.gcd C d : Int) = g at *
  obtain ⟨c', hc⟩ := h1
  obtain ⟨d', hd'⟩ := h2
  have hd1 : 0 < d' := by
    rcases lt_ge 0 d' with h | h
    · exact h
    · have := Int.mul_nonpos_of_nonneg_of_nonpos (a := g) (b := d') (by omega) h
      omega
  have e : d / g = d' := by rw [hd', Int.mul_ediv_cancel_left _ (by omega)]
  rw [e]
  refine ⟨Int.mul_pos hC hd1, Int.dvd_mul_right _ _, ⟨c', ?_⟩, Int.mul_le_mul_of_nonneg_left ?_ (by omega)⟩
  · rw [hc, hd', Int.mul_right_comm, Int.mul_assoc g d' c', Int.mul_comm d' c', ← Int.mul_assoc g c' d', Int.mul_right_comm]
  · rw [hd']
    have := Int.mul_le_mul_of_nonneg_right (a := 1) (b := g) (c := d') (by omega) (by omega)
    omega
theorem lcm_pos (qs : List Rat) : ∀ k, 0 < lcmTo qs k
  | 0 => (by decide : (0 : Int) < 1)
  | k + 1 => (lcm_step (lcm_pos qs k) (dn_pos qs k)).1
theorem lcm_dvd (qs : List Rat) : ∀ k i, i < k → dn qs i ∣ lcmTo qs k
  | k + 1, i, h => by
    have hs := lcm_step (lcm_pos qs k) (dn_pos qs k)
    by_cases e : i = k
    · subst e; exact hs.2.2.1
    · exact Int.dvd_trans (lcm_dvd qs k i (by omega)) hs.2.1
theorem lcm_le (qs : List Rat) : ∀ k, lcmTo qs k ≤ prdTo qs k
  | 0 => Int.le_refl _
  | k + 1 => by
    have hs := (lcm_step (lcm_pos qs k) (dn_pos qs k)).2.2.2
    have := Int.mul_le_mul_of_nonneg_right (lcm_le qs k) (Int.le_of_lt (dn_pos qs k))
    show lcmTo qs k * _ ≤ prdTo qs k * dn qs k
    omega
theorem all_dvd {qs : List Rat} {C : Int} (h : ∀ i, i < qs.length → dn qs i ∣ C) : ∀ q ∈ qs, (q.den : Int) ∣ C := by
  intro q hq
  obtain ⟨i, hi, rfl⟩ := List.mem_iff_getElem.1 hq
  have := h i hi
  unfold dn at this
  rwa [List.getD_eq_getElem?_getD, List.getElem?_eq_getElem hi] at this
end SP
