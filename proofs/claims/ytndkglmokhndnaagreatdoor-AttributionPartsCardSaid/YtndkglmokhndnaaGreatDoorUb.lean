/- Unit prices: what the functions' results know of each other. No program in sight; no condition. Unit prices: dealing is fair. No program in sight; no condition. -/
import Derived.Test.YtndkglmokhndnaaGreatDoorUa
namespace Go.Proofs.YtndkglmokhndnaaGreatDoor
open Go.RowKit Go.Shelf Dec QQ

theorem chk_zero {s : ByteArray} : chk s = 0 ↔ s = canS (valS s) := by
  unfold chk
  split
  · rename_i h; exact ⟨fun _ => h, fun _ => rfl⟩
  · rename_i h; exact ⟨fun e => by omega, fun e => absurd e h⟩
theorem ucheck_zero {l : List ByteArray} : ucheck l = 0 ↔ ∀ s ∈ l, s = canS (valS s) ∧ 0 ≤ valS s := by
  unfold ucheck
  constructor
  · intro h
    split at h
    · omega
    · split at h
      · omega
      · rename_i h1 h2
        simp at h1 h2
        intro s hs
        exact ⟨chk_zero.1 (h1 s hs), h2 s hs⟩
  · intro h
    rw [if_neg, if_neg]
    · simp; intro s hs; exact (h s hs).2
    · simp; intro s hs; exact chk_zero.2 (h s hs).1
theorem ucheck_cases (l : List ByteArray) : ucheck l = 0 ∨ ucheck l = 1 ∨ ucheck l = 2 := by
  unfold ucheck
  split
  · simp
  · split <;> simp
theorem isNil_can (z : Int) : isNil (canS z) = decide (z = 0) := nil_eq z
theorem nil_val {s : ByteArray} (h : isNil s = true) : valS s = 0 := by rw [isNil_iff.1 h]; rfl
theorem val_nil {s : ByteArray} (h : s = canS (valS s)) (h0 : valS s = 0) : isNil s = true := by rw [h, isNil_can]; simpa using h0
theorem val_ne {s : ByteArray} (h : s = canS (valS s)) (h0 : isNil s = false) : valS s ≠ 0 := fun e => by rw [val_nil h e] at h0; cases h0
theorem cmpI_pos {x y : Int} : decide (cmpI x y > 0) = decide (y < x) := by
  unfold cmpI
  split
  · simp; omega
  · split
    · simp; omega
    · simp; omega
theorem divR_ok {x y : Int} (h : y ≠ 0) : divR x y = (canS (x.fdiv y), canS (x.fmod y), 0) := by unfold divR; rw [if_neg h]
theorem divR_zero (x : Int) : divR x 0 = (nil, nil, 10) := by unfold divR; rw [if_pos rfl]; rfl
theorem issue_err {v u p : ByteArray} (h : (IssueR v u p).2 ≠ 0) : (IssueR v u p).1 = nil := by
  unfold IssueR at *
  split
  · rfl
  · rename_i hc
    rw [if_neg hc] at h
    unfold issueR at *
    split
    · rename_i hh; rw [if_pos hh] at h; exact absurd rfl h
    · rename_i hh
      rw [if_neg hh] at h
      by_cases hv : valS v = 0
      · rw [hv, divR_zero]
      · rw [divR_ok hv] at h; exact absurd rfl h
theorem cancel_err {v u p : ByteArray} (h : (CancelR v u p).2 ≠ 0) : (CancelR v u p).1 = nil := by
  unfold CancelR at *
  split
  · rfl
  · rename_i hc
    rw [if_neg hc] at h
    unfold cancelR at *
    split
    · rfl
    · rename_i h1
      rw [if_neg h1] at h
      split
      · rfl
      · rename_i hh
        rw [if_neg hh] at h
        by_cases hv : valS u = 0
        · rw [hv, divR_zero]
        · rw [divR_ok hv] at h; exact absurd rfl h
/-- the check, passed -/
theorem IssueR_ok {v u p : ByteArray} (h : ucheck [v, u, p] = 0) : IssueR v u p = issueR v u p := by unfold IssueR; rw [h]; rfl
theorem CancelR_ok {v u p : ByteArray} (h : ucheck [v, u, p] = 0) : CancelR v u p = cancelR v u p := by unfold CancelR; rw [h]; rfl
theorem IssueR_check {v u p : ByteArray} (h : (IssueR v u p).2 = 0) : ucheck [v, u, p] = 0 := by
  unfold IssueR at h
  split at h
  · exact h
  · rename_i hc; simpa using hc
theorem CancelR_check {v u p : ByteArray} (h : (CancelR v u p).2 = 0) : ucheck [v, u, p] = 0 := by
  unfold CancelR at h
  split at h
  · exact h
  · rename_i hc; simpa using hc
theorem cancel_all {v u : ByteArray} (hv : v = canS (valS v)) (hu : u = canS (valS u)) : cancelR v u u = if isNil u then (nil, 0) else (v, 0) := by
  unfold cancelR
  rw [if_neg (by rw [cmpI_pos]; simp)]
  split
  · rfl
  · rename_i hn
    have hne := val_ne hu (by simpa using hn)
    rw [divR_ok hne]
    have : (valS v * valS u).fdiv (valS u) = valS v := Int.mul_fdiv_cancel _ hne
    rw [this, ← hv]
/-- UnitpriceAll -/
theorem all_law {v u : ByteArray} (h : (CancelR v u u).2 = 0) :
    (DealR u v nil u).err = 0 ∧ (DealR u v nil u).units = nil ∧ (isNil u = true → (CancelR v u u).1 = nil ∧ (DealR u v nil u).value = v) ∧ (isNil u = false → (CancelR v u u).1 = v ∧ (DealR u v nil u).value = nil) := by
  have hc := CancelR_check h
  have hz := ucheck_zero.1 hc
  have hv := hz v (by simp)
  have hu := hz u (by simp)
  rw [CancelR_ok hc]
  have hc2 : ucheck [u, v, nil, u] = 0 := by
    refine ucheck_zero.2 ?_
    intro s hs
    simp at hs
    rcases hs with rfl | rfl | rfl | rfl
    · exact hu
    · exact hv
    · exact ⟨by decide +kernel, by decide⟩
    · exact hu
  have hi : issueR v u nil = (nil, 0) := by unfold issueR; rw [if_pos]; rw [show isNil nil = true from isNil_iff.2 rfl]; rfl
  have hd : DealR u v nil u = dealR u v nil u := by unfold DealR; rw [hc2]; rfl
  have e := cancel_all hv.1 hu.1
  rw [hd]
  unfold dealR
  rw [hi, e]
  have n0 : valS nil = 0 := rfl
  cases hn : isNil u with
  | true =>
    have h0 := nil_val hn
    refine ⟨rfl, ?_, fun _ => ⟨rfl, ?_⟩, (fun h => nomatch h)⟩
    · show canS (valS u + valS nil - valS u) = nil
      rw [h0]; decide +kernel
    · show canS (valS v + valS nil - valS nil) = v
      rw [show valS v + valS nil - valS nil = valS v by omega]
      exact hv.1.symm
  | false =>
    refine ⟨rfl, ?_, (fun h => nomatch h), fun _ => ⟨rfl, ?_⟩⟩
    · show canS (valS u + valS nil - valS u) = nil
      rw [show valS u + valS nil - valS u = 0 by omega]; decide +kernel
    · show canS (valS v + valS nil - valS v) = nil
      rw [show valS v + valS nil - valS v = 0 by omega]; decide +kernel
/-- UnitpriceBack -/
theorem back_nobody {v u p : ByteArray} (h : (IssueR v u p).2 = 0) (hu : isNil u = true) : (IssueR v u p).1 = p := by
  rw [IssueR_ok (IssueR_check h)]
  unfold issueR
  rw [hu, if_pos (by simp)]
theorem can_val {z : Int} : canS z = canS (valS (canS z)) := by rw [valS_canS]
theorem back_law {v u p : ByteArray} (h : (IssueR v u p).2 = 0) (hn : ¬ (isNil u = true ∧ isNil v = false)) :
    (CancelR (canS (valS v + valS p)) (canS (valS u + valS (IssueR v u p).1)) (IssueR v u p).1).2 = 0 ∧ valS (CancelR (canS (valS v + valS p)) (canS (valS u + valS (IssueR v u p).1)) (IssueR v u p).1).1 ≤ valS p := by
  have hc := IssueR_check h
  have hz := ucheck_zero.1 hc
  have hv := hz v (by simp)
  have hu := hz u (by simp)
  have hp := hz p (by simp)
  rw [IssueR_ok hc] at h ⊢
  -- the units issued: a value that is not negative, canonical, and that costs no more than the amount
  obtain ⟨i, hi, ci, pi, key⟩ : ∃ i, (issueR v u p).1 = i ∧ i = canS (valS i) ∧ 0 ≤ valS i ∧ (valS v + valS p) * valS i ≤ valS p * (valS u + valS i) := by
    refine ⟨_, rfl, ?_⟩
    unfold issueR at h ⊢
    by_cases hh : (isNil p || isNil u) = true
    · rw [if_pos hh]
      refine ⟨hp.1, hp.2, ?_⟩
      simp at hh
      rcases hh with hh | hh
      · rw [nil_val hh]; simp
      · have : isNil v = true := by
          cases e : isNil v with
          | true => rfl
          | false => exact absurd ⟨hh, e⟩ hn
        rw [nil_val hh, nil_val this]
        simp
    · rw [if_neg hh] at h ⊢
      have hne : valS v ≠ 0 := by
        intro e
        rw [e, divR_zero] at h
        cases h
      rw [divR_ok hne]
      show canS _ = canS (valS (canS _)) ∧ 0 ≤ valS (canS _) ∧ _
      simp only [valS_canS]
      have hpos : 0 < valS v := by have := hv.2; omega
      rw [Int.fdiv_eq_ediv_of_nonneg _ hv.2]
      have h0 : 0 ≤ valS p * valS u := Int.mul_nonneg hp.2 hu.2
      have h1 : 0 ≤ valS p * valS u / valS v := Int.ediv_nonneg h0 hv.2
      have h2 : valS p * valS u / valS v * valS v ≤ valS p * valS u := Int.ediv_mul_le _ hne
      refine ⟨trivial, h1, ?_⟩
      generalize valS p * valS u / valS v = q at *
      generalize valS v = V at *
      generalize valS u = U at *
      generalize valS p = P at *
      have e1 : (V + P) * q = q * V + P * q := by grind
      have e2 : P * (U + q) = P * U + P * q := by grind
      rw [e1, e2]
      omega
  rw [hi]
  have hc2 : ucheck [canS (valS v + valS p), canS (valS u + valS i), i] = 0 := ucheck_zero.2 (by
    intro s hs
    simp at hs
    rcases hs with rfl | rfl | rfl
    · exact ⟨can_val, by rw [valS_canS]; have := hv.2; have := hp.2; omega⟩
    · exact ⟨can_val, by rw [valS_canS]; have := hu.2; omega⟩
    · exact ⟨ci, pi⟩)
  rw [CancelR_ok hc2]
  unfold cancelR
  rw [if_neg (by rw [cmpI_pos, valS_canS]; simp; have := hu.2; omega)]
  by_cases hn2 : isNil i = true
  · rw [hn2]
    exact ⟨rfl, hp.2⟩
  · rw [if_neg hn2]
    have hne := val_ne ci (by simpa using hn2)
    have hne2 : valS (canS (valS u + valS i)) ≠ 0 := by rw [valS_canS]; have := hu.2; omega
    rw [divR_ok hne2]
    refine ⟨rfl, ?_⟩
    show valS (canS _) ≤ _
    rw [valS_canS, valS_canS, valS_canS]
    have hpos : 0 < valS u + valS i := by have := hu.2; omega
    rw [Int.fdiv_eq_ediv_of_nonneg _ (by omega)]
    have := Int.ediv_le_ediv hpos key
    rwa [Int.mul_ediv_cancel _ (by omega)] at this
end Go.Proofs.YtndkglmokhndnaaGreatDoor
namespace Go.Proofs.YtndkglmokhndnaaGreatDoor
open Go.RowKit Go.Shelf Dec QQ

theorem deal_err {u v p b : ByteArray} (h : (DealR u v p b).err ≠ 0) : DealR u v p b = ⟨nil, nil, nil, nil, (DealR u v p b).err⟩ := by
  unfold DealR at *
  split
  · rfl
  · rename_i hc
    rw [if_neg hc] at h
    unfold dealR at *
    split
    · rfl
    · rename_i h1
      rw [if_neg h1] at h
      split
      · rfl
      · rename_i h2
        rw [if_neg h2] at h
        exact absurd rfl h
theorem DealR_check {u v p b : ByteArray} (h : (DealR u v p b).err = 0) : ucheck [u, v, p, b] = 0 := by
  unfold DealR at h
  split at h
  · exact h
  · rename_i hc; simpa using hc
/-- a day that passed: its parts -/
theorem DealR_ok {u v p b : ByteArray} (h : (DealR u v p b).err = 0) :
    (issueR v u p).2 = 0 ∧ (cancelR v u b).2 = 0 ∧ DealR u v p b = ⟨(issueR v u p).1, (cancelR v u b).1, canS (valS u + valS (issueR v u p).1 - valS b), canS (valS v + valS p - valS (cancelR v u b).1), 0⟩ := by
  have hc := DealR_check h
  have e : DealR u v p b = dealR u v p b := by unfold DealR; rw [hc]; rfl
  rw [e] at h ⊢
  unfold dealR at *
  split at h
  · rename_i h1; simp at h1; exact absurd h h1
  · rename_i h1
    split at h
    · rename_i h2; simp at h2; exact absurd h h2
    · rename_i h2
      rw [if_neg h1, if_neg h2]
      exact ⟨by simpa using h1, by simpa using h2, rfl⟩
theorem price_err {v u : ByteArray} (hc : ucheck [v, u] = 0) (h : (PriceR v u).2 ≠ 0) : isNil u = true := by
  unfold PriceR at h
  rw [hc] at h
  cases hn : isNil u with
  | true => rfl
  | false => rw [hn] at h; exact absurd rfl h
theorem price_ok {v u : ByteArray} (hc : ucheck [v, u] = 0) (h : (PriceR v u).2 = 0) : isNil u = false ∧ (PriceR v u).1 = rat (valS v) (valS u) := by
  unfold PriceR at *
  rw [hc] at *
  cases hn : isNil u with
  | true => rw [hn] at h; cases h
  | false => exact ⟨rfl, rfl⟩
/-- what issuing leaves: less than a unit's price -/
theorem issue_rest {v u p : ByteArray} (hv : 0 ≤ valS v) (_hu : 0 ≤ valS u) (_hp : p = canS (valS p) ∧ 0 ≤ valS p) (hn : isNil u = false) (h : (issueR v u p).2 = 0) :
    0 ≤ valS p * valS u - valS v * valS (issueR v u p).1 ∧ (valS p * valS u - valS v * valS (issueR v u p).1 < valS v ∨ valS p * valS u - valS v * valS (issueR v u p).1 = 0) := by
  unfold issueR at *
  rw [hn] at h ⊢
  by_cases hh : isNil p = true
  · have h0 := nil_val hh
    rw [if_pos (by rw [hh]; rfl), h0]
    simp
  · have hf : ¬ ((isNil p || false) = true) := by simpa using hh
    rw [if_neg hf] at h ⊢
    have hne : valS v ≠ 0 := by
      intro e
      rw [e, divR_zero] at h
      cases h
    rw [divR_ok hne]
    show 0 ≤ _ - valS v * valS (canS _) ∧ (_ - valS v * valS (canS _) < _ ∨ _)
    rw [valS_canS, Int.fdiv_eq_ediv_of_nonneg _ hv]
    have h1 := Int.mul_ediv_add_emod (valS p * valS u) (valS v)
    have h2 := Int.emod_nonneg (valS p * valS u) hne
    have h3 := Int.emod_lt_of_pos (valS p * valS u) (show 0 < valS v by omega)
    omega
theorem cancel_rest {v u b : ByteArray} (_hv : 0 ≤ valS v) (hu : u = canS (valS u) ∧ 0 ≤ valS u) (_hb : b = canS (valS b) ∧ 0 ≤ valS b) (hn : isNil u = false) (h : (cancelR v u b).2 = 0) :
    0 ≤ valS v * valS b - valS u * valS (cancelR v u b).1 ∧ valS v * valS b - valS u * valS (cancelR v u b).1 < valS u := by
  have hne := val_ne hu.1 hn
  have hpos : 0 < valS u := by have := hu.2; omega
  unfold cancelR at *
  by_cases h1 : decide (cmpI (valS b) (valS u) > 0) = true
  · rw [h1] at h; cases h
  · rw [if_neg h1] at h ⊢
    by_cases hh : isNil b = true
    · have h0 := nil_val hh
      rw [if_pos hh, h0, show valS nil = 0 from rfl]
      simp
      exact hpos
    · rw [if_neg hh] at h ⊢
      rw [divR_ok hne]
      show 0 ≤ _ - valS u * valS (canS _) ∧ _ - valS u * valS (canS _) < _
      rw [valS_canS, Int.fdiv_eq_ediv_of_nonneg _ hu.2]
      have h1 := Int.mul_ediv_add_emod (valS v * valS b) (valS u)
      have h2 := Int.emod_nonneg (valS v * valS b) hne
      have h3 := Int.emod_lt_of_pos (valS v * valS b) hpos
      omega
theorem fair_int {V U P B I O : Int} (hU : 0 < U) : ((V + P - O : Int) : Rat) - rat V U * ((U + I - B : Int) : Rat) = rat (P * U - V * I + (V * B - U * O)) U ∧ rat V U + 1 = rat (V + U) U := by
  have h := intCast_ne (show U ≠ 0 by omega)
  rw [rat_of (by omega), rat_of (by omega), rat_of (by omega)]
  constructor
  · simp only [Rat.intCast_add, Rat.intCast_sub, Rat.intCast_mul]
    grind
  · simp only [Rat.intCast_add]
    grind
theorem rat_lt {x y U : Int} (hU : 0 < U) (h : x < y) : rat x U < rat y U := by
  have h1 : (0 : Rat) < (U : Rat) := Rat.intCast_pos.2 hU
  rw [rat_of (by omega), rat_of (by omega), Rat.div_lt_iff h1, Rat.div_mul_cancel (by grind)]
  exact Rat.intCast_lt_intCast.2 h
theorem rat_nonneg {x U : Int} (hU : 0 < U) (h : 0 ≤ x) : 0 ≤ rat x U := by
  have h1 : (0 : Rat) < (U : Rat) := Rat.intCast_pos.2 hU
  rw [rat_of (by omega), ← Rat.not_lt, Rat.div_lt_iff h1, Rat.zero_mul, Rat.not_lt]
  exact Rat.intCast_nonneg.2 h
/-- UnitpriceFair -/
theorem fair_law {u v p b : ByteArray} (h : (DealR u v p b).err = 0) (hp : (PriceR v u).2 = 0) :
    0 ≤ ((valS (DealR u v p b).value : Int) : Rat) - (PriceR v u).1 * ((valS (DealR u v p b).units : Int) : Rat) ∧
    ((valS (DealR u v p b).value : Int) : Rat) - (PriceR v u).1 * ((valS (DealR u v p b).units : Int) : Rat) < (PriceR v u).1 + 1 := by
  have hz := ucheck_zero.1 (DealR_check h)
  have hu := hz u (by simp)
  have hv := hz v (by simp)
  have hpp := hz p (by simp)
  have hb := hz b (by simp)
  have hc2 : ucheck [v, u] = 0 := ucheck_zero.2 (by intro s hs; simp at hs; rcases hs with rfl | rfl <;> assumption)
  obtain ⟨hn, e2⟩ := price_ok hc2 hp
  obtain ⟨h1, h2, e⟩ := DealR_ok h
  have hne := val_ne hu.1 hn
  have hpos : 0 < valS u := by have := hu.2; omega
  rw [e, e2]
  show 0 ≤ ((valS (canS _) : Int) : Rat) - _ * ((valS (canS _) : Int) : Rat) ∧ ((valS (canS _) : Int) : Rat) - _ * ((valS (canS _) : Int) : Rat) < _
  rw [valS_canS, valS_canS]
  obtain ⟨f1, f2⟩ := fair_int (V := valS v) (U := valS u) (P := valS p) (B := valS b) (I := valS (issueR v u p).1) (O := valS (cancelR v u b).1) hpos
  rw [f1, f2]
  have i1 := issue_rest hv.2 hu.2 hpp hn h1
  have i2 := cancel_rest hv.2 hu hb hn h2
  have hv2 := hv.2
  exact ⟨rat_nonneg hpos (by omega), rat_lt hpos (by omega)⟩
theorem price_check {u v p b : ByteArray} (h : (DealR u v p b).err = 0) : ucheck [v, u] = 0 := by
  have hz := ucheck_zero.1 (DealR_check h)
  exact ucheck_zero.2 (by intro s hs; simp at hs; rcases hs with rfl | rfl <;> exact hz _ (by simp))
end Go.Proofs.YtndkglmokhndnaaGreatDoor
