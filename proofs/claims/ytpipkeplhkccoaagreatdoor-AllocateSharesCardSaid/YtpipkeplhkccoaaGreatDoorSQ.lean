/- Dividing an integer by weights: moving a unit; weights in the same proportions. Plain facts. No condition. -/
import Derived.Test.YtpipkeplhkccoaaGreatDoorSP
namespace SP
theorem posL_err {T : Int} {ws : List Int} {i : Nat} (hi : i < ws.length) : ws.sum * at0 (posL T ws) i - T * at0 ws i = ws.sum * bon T ws i - at0 (rL T ws) i := by
  rw [posL_at hi, rL_at hi, Int.mul_add]
  have := fdm (T * at0 ws i) ws.sum
  omega
/-- a unit moved from place i to place k brings nothing nearer -/
theorem posL_move (T : Int) {ws : List Int} (h : WOk ws) {i k : Nat} (hi : i < ws.length) (hk : k < ws.length) :
    (ws.sum * at0 (posL T ws) i - T * at0 ws i) - (ws.sum * at0 (posL T ws) k - T * at0 ws k) ≤ ws.sum := by
  rw [posL_err hi, posL_err hk]
  have b1 := rest_bounds T h _ (List.mem_of_getElem? (at0_lt (l := rL T ws) (i := i) (by rw [rL_len]; exact hi)))
  have b2 := rest_bounds T h _ (List.mem_of_getElem? (at0_lt (l := rL T ws) (i := k) (by rw [rL_len]; exact hk)))
  have key : bon T ws i = 1 → bon T ws k = 0 → at0 (rL T ws) k ≤ at0 (rL T ws) i := by
    intro e1 e2
    unfold bon at e1 e2
    split at e1
    · rename_i h1
      split at e2
      · cases e2
      · rename_i h2
        have := (rk_beats (r := rL T ws) (by rw [rL_len]; exact hi) (by rw [rL_len]; exact hk)).1 (by omega)
        rw [beats_iff] at this
        omega
    · cases e1
  rcases bon_cases T ws i with e1 | e1 <;> rcases bon_cases T ws k with e2 | e2
  · rw [e1, e2]; omega
  · rw [e1, e2]; omega
  · have := key e1 e2
    rw [e1, e2]; omega
  · rw [e1, e2]; omega
theorem splL_move (T : Int) {ws : List Int} (h : WOk ws) {i k : Nat} (hi : i < ws.length) (hk : k < ws.length) :
    (ws.sum * at0 (splL T ws) i - T * at0 ws i) - (ws.sum * at0 (splL T ws) k - T * at0 ws k) ≤ ws.sum := by
  unfold splL
  split
  · have := posL_move (-T) h hk hi
    rw [at0_neg, at0_neg, Int.mul_neg, Int.mul_neg]
    rw [Int.neg_mul, Int.neg_mul] at this
    omega
  · exact posL_move T h hi hk
/-! weights, all multiplied by a number -/
def scl (k : Int) (ws : List Int) : List Int := ws.map fun w => w * k
theorem scl_len (k : Int) (ws : List Int) : (scl k ws).length = ws.length := by simp [scl]
theorem scl_sum (k : Int) (ws : List Int) : (scl k ws).sum = ws.sum * k := by
  unfold scl
  induction ws with
  | nil => simp
  | cons w ws ih => rw [List.map_cons, List.sum_cons, List.sum_cons, ih, Int.add_mul]
theorem scl_at (k : Int) (ws : List Int) (i : Nat) : at0 (scl k ws) i = at0 ws i * k := by
  by_cases h : i < ws.length
  · exact at0_some (by rw [scl, List.getElem?_map, at0_lt h]; rfl)
  · unfold at0
    rw [List.getD_eq_getElem?_getD, List.getElem?_eq_none (by rw [scl_len]; omega), List.getD_eq_getElem?_getD, List.getElem?_eq_none (by omega)]
    simp
theorem fdiv_scl {a S k : Int} (hS : 0 < S) (hk : 0 < k) : (a * k).fdiv (S * k) = a.fdiv S := by
  have h1 := Int.fdiv_eq_ediv_of_nonneg a (b := S) (by omega)
  have h2 := Int.fdiv_eq_ediv_of_nonneg (a * k) (b := S * k) (Int.le_of_lt (Int.mul_pos hS hk))
  rw [h2, h1, Int.mul_ediv_mul_of_pos_left _ _ hk]
theorem fmod_scl {a S k : Int} (hS : 0 < S) (hk : 0 < k) : (a * k).fmod (S * k) = a.fmod S * k := by
  have e1 := fdm (a * k) (S * k)
  have e2 := fdm a S
  rw [fdiv_scl hS hk] at e1
  have e3 : S * k * a.fdiv S = S * a.fdiv S * k := by rw [Int.mul_assoc, Int.mul_comm k, ← Int.mul_assoc]
  have e4 : (S * a.fdiv S + a.fmod S) * k = a * k := by rw [e2]
  rw [Int.add_mul] at e4
  omega
theorem qL_scl (T : Int) {ws : List Int} {k : Int} (hw : 0 < ws.sum) (hk : 0 < k) : qL T (scl k ws) = qL T ws := by
  unfold qL
  rw [scl_sum]
  unfold scl
  rw [List.map_map]
  apply List.map_congr_left
  intro w _
  show (T * (w * k)).fdiv (ws.sum * k) = _
  rw [← Int.mul_assoc, fdiv_scl hw hk]
theorem rL_scl (T : Int) {ws : List Int} {k : Int} (hw : 0 < ws.sum) (hk : 0 < k) : rL T (scl k ws) = scl k (rL T ws) := by
  unfold rL
  rw [scl_sum]
  unfold scl
  rw [List.map_map, List.map_map]
  apply List.map_congr_left
  intro w _
  show (T * (w * k)).fmod (ws.sum * k) = (T * w).fmod ws.sum * k
  rw [← Int.mul_assoc, fmod_scl hw hk]
theorem beats_scl {r : List Int} {k : Int} (hk : 0 < k) (a b : Nat) : beats (scl k r) a b = beats r a b := by
  have h : (beats (scl k r) a b = true) ↔ (beats r a b = true) := by
    rw [beats_iff, beats_iff, scl_at, scl_at]
    have e1 : at0 r b * k < at0 r a * k ↔ at0 r b < at0 r a := ⟨fun h => Int.lt_of_mul_lt_mul_right h (by omega), fun h => Int.mul_lt_mul_of_pos_right h hk⟩
    have e2 : at0 r a * k = at0 r b * k ↔ at0 r a = at0 r b := ⟨fun h => Int.eq_of_mul_eq_mul_right (by omega) h, fun h => by rw [h]⟩
    rw [e1, e2]
  cases h1 : beats (scl k r) a b <;> cases h2 : beats r a b <;> simp_all
theorem rk_scl {r : List Int} {k : Int} (hk : 0 < k) (i : Nat) : rk (scl k r) i = rk r i := by
  unfold rk
  rw [scl_len]
  congr 1
  funext a
  exact beats_scl hk a i
theorem posL_scl (T : Int) {ws : List Int} {k : Int} (hw : 0 < ws.sum) (hk : 0 < k) : posL T (scl k ws) = posL T ws := by
  unfold posL
  rw [scl_len, qL_scl T hw hk]
  apply List.map_congr_left
  intro i _
  have e : bon T (scl k ws) i = bon T ws i := by
    unfold bon mis
    rw [rL_scl T hw hk, rk_scl hk, qL_scl T hw hk]
  rw [e]
theorem splL_scl (T : Int) {ws : List Int} {k : Int} (hw : 0 < ws.sum) (hk : 0 < k) : splL T (scl k ws) = splL T ws := by
  unfold splL
  rw [posL_scl _ hw hk, posL_scl _ hw hk]
/-- weights in the same proportions lead to the same parts -/
theorem splL_prop (T : Int) {ws vs : List Int} {a b : Int} (ha : 0 < a) (hb : 0 < b) (hw : 0 < ws.sum) (hv : 0 < vs.sum) (h : scl a vs = scl b ws) : splL T vs = splL T ws := by
  rw [← splL_scl T hv ha, h, splL_scl T hw hb]
theorem scl_ok {ws : List Int} {k : Int} (h : WOk ws) (hk : 0 < k) : WOk (scl k ws) := by
  refine ⟨fun w hw => ?_, by rw [scl_sum]; exact Int.mul_pos h.pos hk⟩
  obtain ⟨v, hv, rfl⟩ := List.mem_map.1 hw
  exact Int.mul_nonneg (h.nn v hv) (by omega)
/-- the opposite of the total -/
theorem splL_neg (T : Int) {ws : List Int} (h : WOk ws) : splL (-T) ws = (splL T ws).map (fun x => -x) := by
  rcases Int.lt_trichotomy T 0 with h1 | h1 | h1
  · unfold splL
    rw [if_neg (by omega), if_pos h1, List.map_map]
    have : ((fun x : Int => -x) ∘ fun x => -x) = id := by funext x; simp
    rw [this, List.map_id]
  · subst h1
    have hz : ∀ x ∈ posL 0 ws, x = 0 := by
      intro x hx
      unfold posL at hx
      obtain ⟨i, hi, rfl⟩ := List.mem_map.1 hx
      rw [List.mem_range] at hi
      have h2 := bon_zero 0 h (i := i) (by rw [rL_at hi, Int.zero_mul, Int.zero_fmod])
      rw [h2, qL_at hi, Int.zero_mul, Int.zero_fdiv]
      rfl
    show splL (-0) ws = _
    unfold splL
    rw [if_neg (by omega), if_neg (by omega)]
    show posL 0 ws = _
    rw [List.map_congr_left (g := id) (fun x hx => by rw [hz x hx]; rfl), List.map_id]
  · unfold splL
    rw [if_pos (by omega), if_neg (by omega), Int.neg_neg]
end SP
