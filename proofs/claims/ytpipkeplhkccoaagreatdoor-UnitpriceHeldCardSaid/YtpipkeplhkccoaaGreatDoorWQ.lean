/- Allocation: the plain law: shares, fair divisions. No condition. -/
import Derived.Test.YtpipkeplhkccoaaGreatDoorWP
import Derived.Test.YtpipkeplhkccoaaGreatDoorRnd
namespace Go.Proofs.YtpipkeplhkccoaaGreatDoor
open Go.RowKit Go.Shelf Dec QQ SP

theorem rnd_mono {p q : Rat} (h : p ≤ q) : rndQ 1 p ≤ rndQ 1 q := by
  rcases lt_ge (rndQ 1 q) (rndQ 1 p) with hlt | hle
  · have h1 := (rnd_near p).1
    have h2 := (rnd_near q).2
    have h3 : ((rndQ 1 q + 1 : Int) : Rat) ≤ ((rndQ 1 p : Int) : Rat) := Rat.intCast_le_intCast.2 (by omega)
    rw [Rat.intCast_add] at h3
    have h4 : ((1 : Int) : Rat) = 1 := rfl
    have : p = q := by grind
    rw [this]
    exact Int.le_refl _
  · exact hle
/-- the part of T that belongs to p of a -/
def shQ (T p a : Int) : Int := rndQ 1 (rat (T * p) a)
def shE (t p a : ByteArray) : Int := if chk t ≠ 0 ∨ chk p ≠ 0 ∨ chk a ≠ 0 then 1 else if valS a = 0 then 10 else if valS a < 0 ∨ valS p < 0 ∨ valS a < valS p then 2 else 0
def shS (t p a : ByteArray) : ByteArray := if shE t p a = 0 then canS (shQ (valS t) (valS p) (valS a)) else ⟨#[]⟩
def shR (t p a : ByteArray) : ByteArray := if shE t p a = 0 then canS (valS t - shQ (valS t) (valS p) (valS a)) else ⟨#[]⟩
theorem shE_zero {t p a : ByteArray} : shE t p a = 0 ↔ chk t = 0 ∧ chk p = 0 ∧ chk a = 0 ∧ 0 < valS a ∧ 0 ≤ valS p ∧ valS p ≤ valS a := by
  unfold shE
  constructor
  · intro h
    split at h
    · cases h
    · rename_i h1
      split at h
      · cases h
      · split at h
        · cases h
        · rw [not_or, not_or, Decidable.not_not, Decidable.not_not, Decidable.not_not] at h1
          exact ⟨h1.1, h1.2.1, h1.2.2, by omega, by omega, by omega⟩
  · intro ⟨h1, h2, h3, h4, h5, h6⟩
    rw [if_neg (by rw [not_or, not_or, Decidable.not_not, Decidable.not_not, Decidable.not_not]; exact ⟨h1, h2, h3⟩), if_neg (by omega), if_neg (by omega)]
theorem shQ_zero (T a : Int) : shQ T 0 a = 0 := by
  unfold shQ
  rw [Int.mul_zero, rat_eq_zero.2 rfl, rnd_zero]
theorem rat_same (T : Int) {a : Int} (h : 0 < a) : rat (T * a) a = (T : Rat) := by
  rw [rat_of (by omega), Rat.intCast_mul]
  have := intCast_ne (d := a) (by omega)
  grind
theorem shQ_all (T : Int) {a : Int} (h : 0 < a) : shQ T a a = T := by
  unfold shQ
  rw [rat_same T h, rnd_of_int]
theorem rat_monoW {x y a : Int} (h : 0 < a) (hxy : x ≤ y) : rat x a ≤ rat y a := by
  have h1 := cmp_cross (a := x) (b := a) (c := y) (d := a) h h
  rcases Rat.le_total (a := rat x a) (b := rat y a) with h2 | h2
  · exact h2
  · by_cases e : rat x a = rat y a
    · rw [e]; exact Rat.le_refl
    · have hlt : ¬ rat x a < rat y a := fun hh => by
        have := Rat.not_le.2 hh
        exact this h2
      unfold cmpQ at h1
      rw [if_neg hlt, if_neg e] at h1
      have hm : x * a ≤ y * a := Int.mul_le_mul_of_nonneg_right hxy (by omega)
      split at h1
      · cases h1
      · split at h1
        · cases h1
        · omega
theorem shQ_neg (T p a : Int) : shQ (-T) p a = -shQ T p a := by
  unfold shQ
  rw [Int.neg_mul, rat_negn, rnd_neg (by decide) (by decide)]
theorem shQ_nn {T p a : Int} (h : 0 < a) (hp : 0 ≤ p) (hT : 0 ≤ T) : 0 ≤ shQ T p a := by
  have h1 := rnd_mono (rat_monoW h (Int.mul_nonneg hT hp))
  rw [rat_eq_zero.2 rfl, rnd_zero] at h1
  exact h1
theorem shQ_mono {T p q a : Int} (h : 0 < a) (hT : 0 ≤ T) (hpq : p ≤ q) : shQ T p a ≤ shQ T q a := rnd_mono (rat_monoW h (Int.mul_le_mul_of_nonneg_left hpq hT))
def absI (z : Int) : Int := if z < 0 then -z else z
/-- the greater part has the share that is not nearer to 0 -/
theorem shQ_abs {T p q a : Int} (h : 0 < a) (hp : 0 ≤ p) (hpq : p ≤ q) : absI (shQ T p a) ≤ absI (shQ T q a) := by
  have go : ∀ {T : Int}, 0 ≤ T → absI (shQ T p a) ≤ absI (shQ T q a) := by
    intro T hT
    have h1 := shQ_nn h hp hT
    have h2 := shQ_mono h hT hpq
    unfold absI
    rw [if_neg (by omega), if_neg (by omega)]
    exact h2
  have ng : ∀ z : Int, absI (-z) = absI z := by
    intro z
    unfold absI
    split <;> split <;> omega
  rcases lt_ge T 0 with hT | hT
  · have := go (T := -T) (by omega)
    rw [shQ_neg, shQ_neg, ng, ng] at this
    exact this
  · exact go hT
/-- the part lies by one or more beside the ideal one -/
def farI (T S w p : Int) : Bool := decide (S ≤ T * w - S * p) || decide (S ≤ S * p - T * w)
/-- why parts are no fair division -/
def alC (t : ByteArray) (ws ps : List ByteArray) : Int := if alE t ws ≠ 0 then alE t ws else if ps.length ≠ ws.length then 9 else if ps.any (fun p => chk p != 0) = true then 1 else if canS (iv ps).sum ≠ t then 14 else if (List.range ws.length).any (fun i => farI (valS t) (iv ws).sum (at0 (iv ws) i) (at0 (iv ps) i)) = true then 2 else 0
theorem far_diff {a S p : Int} (h : 0 < S) : rat a S - (p : Rat) = rat (a - S * p) S := by
  have := rat_sub (a := a) (b := S) (c := p) (d := 1) (by omega) (by decide)
  rw [rat_one, Int.mul_one, Int.mul_one, Int.mul_comm p S] at this
  exact this.symm
theorem far_cmp {a S : Int} (h : 0 < S) : decide (0 ≤ cmpQ (rat a S) 1) = decide (S ≤ a) := by
  have h1 := cmp_cross (a := a) (b := S) (c := 1) (d := 1) h (by decide)
  rw [rat_one] at h1
  have h2 : ((1 : Int) : Rat) = 1 := rfl
  rw [h2, Int.mul_one, Int.one_mul] at h1
  rw [← h1]
  split
  · rename_i h3; rw [decide_eq_decide]; omega
  · split
    · rename_i h4; rw [decide_eq_decide]; omega
    · rw [decide_eq_decide]; omega
theorem near_far {T S w p : Int} (h : -S < S * p - T * w ∧ S * p - T * w < S) : farI T S w p = false := by
  unfold farI
  rw [Bool.or_eq_false_iff, decide_eq_false_iff_not, decide_eq_false_iff_not]
  omega
theorem iv_can (l : List Int) : iv (l.map canS) = l := by
  unfold iv
  rw [List.map_map]
  rw [show (valS ∘ canS) = id from funext fun z => valS_canS z, List.map_id]
theorem chk_eq {t : ByteArray} (h : chk t = 0) : canS (valS t) = t := (chk_zero.1 h).symm
/-- what adds up, and lies beside the ideal parts by less than 1, is a fair division -/
theorem alC_ok {t : ByteArray} {ws : List ByteArray} {l : List Int} (h : alE t ws = 0) (hl : l.length = ws.length) (hs : l.sum = valS t) (hn : ∀ i, i < ws.length → -(iv ws).sum < (iv ws).sum * at0 l i - valS t * at0 (iv ws) i ∧ (iv ws).sum * at0 l i - valS t * at0 (iv ws) i < (iv ws).sum) : alC t ws (l.map canS) = 0 := by
  have ho := alE_zero.1 h
  unfold alC
  rw [if_neg (by simpa using h), if_neg (by rw [List.length_map]; simpa using hl), if_neg, if_neg, if_neg]
  · rw [Bool.not_eq_true, List.any_eq_false]
    intro i hi
    rw [List.mem_range] at hi
    rw [iv_can, near_far (hn i hi)]
    decide
  · rw [iv_can, hs, Decidable.not_not]; exact chk_eq ho.ct
  · rw [Bool.not_eq_true, List.any_eq_false]
    intro p hp
    obtain ⟨z, _, rfl⟩ := List.mem_map.1 hp
    rw [chk_can]
    decide
theorem alC_split {t : ByteArray} {ws : List ByteArray} (h : alE t ws = 0) : alC t ws ((alS t ws).map canS) = 0 := by
  have ho := (alE_zero.1 h).ok
  unfold alS
  rw [if_pos h]
  refine alC_ok h (by rw [splL_len, iv_len]) (splL_sum _ ho) (fun i hi => splL_near _ ho (by rw [iv_len]; exact hi))
theorem alC_run {t : ByteArray} {ws : List ByteArray} (h : alE t ws = 0) : alC t ws ((alR t ws).map canS) = 0 := by
  have ho := (alE_zero.1 h).ok
  unfold alR
  rw [if_pos h]
  refine alC_ok h (runL_len _ _ _) ?_ (fun i hi => ?_)
  · rw [runL_sum, ← iv_len, runQ_all _ ho]
  · have := runL_near (valS t) ho (i := i) (by rw [iv_len]; exact hi)
    rw [iv_len] at this
    exact this
/-! the absolute total -/
theorem absI_nn (z : Int) : 0 ≤ absI z := by unfold absI; split <;> omega
theorem splL_abs (T : Int) (ws : List Int) : splL T ws = if T < 0 then (posL (absI T) ws).map (fun x => -x) else posL (absI T) ws := by
  unfold splL absI
  split
  · rfl
  · rfl
theorem absQ (T : Int) {w S : Int} (hS : 0 < S) (hw : 0 ≤ w) : (if rat (T * w) S < 0 then -rat (T * w) S else rat (T * w) S) = rat (absI T * w) S := by
  have h0 : rat 0 S = 0 := rat_eq_zero.2 rfl
  unfold absI
  by_cases hT : T < 0
  · rw [if_pos hT, Int.neg_mul, rat_negn]
    have h1 : rat (T * w) S ≤ rat 0 S := rat_monoW hS (Int.mul_nonpos_of_nonpos_of_nonneg (by omega) hw)
    rw [h0] at h1
    split
    · rfl
    · rename_i h2
      have h3 := Rat.not_lt.1 h2
      have : rat (T * w) S = 0 := Rat.le_antisymm h1 h3
      rw [this]
      rfl
  · rw [if_neg hT]
    have h1 : rat 0 S ≤ rat (T * w) S := rat_monoW hS (Int.mul_nonneg (by omega) hw)
    rw [h0] at h1
    rw [if_neg (Rat.not_lt.2 h1)]
theorem rest_rat {a S : Int} (h : 0 < S) : rat a S - ((a.fdiv S : Int) : Rat) = rat (a.fmod S) S := by
  rw [far_diff h]
  congr 1
  have := fdm a S
  omega
end Go.Proofs.YtpipkeplhkccoaaGreatDoor
