/- Unit prices: what the functions' results know of each other. No program in sight; no condition. Unit prices: dealing is fair. No program in sight; no condition. Unit prices: the walks of UnitpriceAll and UnitpriceBack: for every input they return true. Condition: the library's table and error lie as the program's text lays them. Unit prices: the walk of UnitpriceFair: for every input it returns true. Condition: the library's table and error lie as the program's text lays them. -/
import Derived.Test.YtonopbelbehheaaGreatDoorUa
import Derived.Test.YtonopbelbehheaaGreatDoorFd
namespace Go.Proofs.YtonopbelbehheaaGreatDoor
open Go.RowKit Go.Shelf Dec QQ

theorem chk_zero {s : ByteArray} : chk s = 0 ↔ s = canS (valS s) := by
  unfold chk
  split
  · rename_i h; exact ⟨fun _ => h, fun _ => rfl⟩
  · rename_i h; exact ⟨fun e => by omega, fun e => absurd e h⟩
theorem ucheck_zero {l : List ByteArray} : ucheck l = 0 ↔ ∀ s ∈ l, s = canS (valS s) ∧ 0 ≤ valS s := by
  unfold ucheck
  constructor
  · intro h
    split at h
    · omega
    · split at h
      · omega
      · rename_i h1 h2
        simp at h1 h2
        intro s hs
        exact ⟨chk_zero.1 (h1 s hs), h2 s hs⟩
  · intro h
    rw [if_neg, if_neg]
    · simp; intro s hs; exact (h s hs).2
    · simp; intro s hs; exact chk_zero.2 (h s hs).1
theorem ucheck_cases (l : List ByteArray) : ucheck l = 0 ∨ ucheck l = 1 ∨ ucheck l = 2 := by
  unfold ucheck
  split
  · simp
  · split <;> simp
theorem isNil_can (z : Int) : isNil (canS z) = decide (z = 0) := nil_eq z
theorem nil_val {s : ByteArray} (h : isNil s = true) : valS s = 0 := by rw [isNil_iff.1 h]; rfl
theorem val_nil {s : ByteArray} (h : s = canS (valS s)) (h0 : valS s = 0) : isNil s = true := by rw [h, isNil_can]; simpa using h0
theorem val_ne {s : ByteArray} (h : s = canS (valS s)) (h0 : isNil s = false) : valS s ≠ 0 := fun e => by rw [val_nil h e] at h0; cases h0
theorem cmpI_pos {x y : Int} : decide (cmpI x y > 0) = decide (y < x) := by
  unfold cmpI
  split
  · simp; omega
  · split
    · simp; omega
    · simp; omega
theorem divR_ok {x y : Int} (h : y ≠ 0) : divR x y = (canS (x.fdiv y), canS (x.fmod y), 0) := by unfold divR; rw [if_neg h]
theorem divR_zero (x : Int) : divR x 0 = (nil, nil, 10) := by unfold divR; rw [if_pos rfl]; rfl
theorem issue_err {v u p : ByteArray} (h : (IssueR v u p).2 ≠ 0) : (IssueR v u p).1 = nil := by
  unfold IssueR at *
  split
  · rfl
  · rename_i hc
    rw [if_neg hc] at h
    unfold issueR at *
    split
    · rename_i hh; rw [if_pos hh] at h; exact absurd rfl h
    · rename_i hh
      rw [if_neg hh] at h
      by_cases hv : valS v = 0
      · rw [hv, divR_zero]
      · rw [divR_ok hv] at h; exact absurd rfl h
theorem cancel_err {v u p : ByteArray} (h : (CancelR v u p).2 ≠ 0) : (CancelR v u p).1 = nil := by
  unfold CancelR at *
  split
  · rfl
  · rename_i hc
    rw [if_neg hc] at h
    unfold cancelR at *
    split
    · rfl
    · rename_i h1
      rw [if_neg h1] at h
      split
      · rfl
      · rename_i hh
        rw [if_neg hh] at h
        by_cases hv : valS u = 0
        · rw [hv, divR_zero]
        · rw [divR_ok hv] at h; exact absurd rfl h
/-- the check, passed -/
theorem IssueR_ok {v u p : ByteArray} (h : ucheck [v, u, p] = 0) : IssueR v u p = issueR v u p := by unfold IssueR; rw [h]; rfl
theorem CancelR_ok {v u p : ByteArray} (h : ucheck [v, u, p] = 0) : CancelR v u p = cancelR v u p := by unfold CancelR; rw [h]; rfl
theorem IssueR_check {v u p : ByteArray} (h : (IssueR v u p).2 = 0) : ucheck [v, u, p] = 0 := by
  unfold IssueR at h
  split at h
  · exact h
  · rename_i hc; simpa using hc
theorem CancelR_check {v u p : ByteArray} (h : (CancelR v u p).2 = 0) : ucheck [v, u, p] = 0 := by
  unfold CancelR at h
  split at h
  · exact h
  · rename_i hc; simpa using hc
theorem cancel_all {v u : ByteArray} (hv : v = canS (valS v)) (hu : u = canS (valS u)) : cancelR v u u = if isNil u then (nil, 0) else (v, 0) := by
  unfold cancelR
  rw [if_neg (by rw [cmpI_pos]; simp)]
  split
  · rfl
  · rename_i hn
    have hne := val_ne hu (by simpa using hn)
    rw [divR_ok hne]
    have : (valS v * valS u).fdiv (valS u) = valS v := Int.mul_fdiv_cancel _ hne
    rw [this, ← hv]
/-- UnitpriceAll -/
theorem all_law {v u : ByteArray} (h : (CancelR v u u).2 = 0) :
    (DealR u v nil u).err = 0 ∧ (DealR u v nil u).units = nil ∧ (isNil u = true → (CancelR v u u).1 = nil ∧ (DealR u v nil u).value = v) ∧ (isNil u = false → (CancelR v u u).1 = v ∧ (DealR u v nil u).value = nil) := by
  have hc := CancelR_check h
  have hz := ucheck_zero.1 hc
  have hv := hz v (by simp)
  have hu := hz u (by simp)
  rw [CancelR_ok hc]
  have hc2 : ucheck [u, v, nil, u] = 0 := by
    refine ucheck_zero.2 ?_
    intro s hs
    simp at hs
    rcases hs with rfl | rfl | rfl | rfl
    · exact hu
    · exact hv
    · exact ⟨by decide +kernel, by decide⟩
    · exact hu
  have hi : issueR v u nil = (nil, 0) := by unfold issueR; rw [if_pos]; rw [show isNil nil = true from isNil_iff.2 rfl]; rfl
  have hd : DealR u v nil u = dealR u v nil u := by unfold DealR; rw [hc2]; rfl
  have e := cancel_all hv.1 hu.1
  rw [hd]
  unfold dealR
  rw [hi, e]
  have n0 : valS nil = 0 := rfl
  cases hn : isNil u with
  | true =>
    have h0 := nil_val hn
    refine ⟨rfl, ?_, fun _ => ⟨rfl, ?_⟩, (fun h => nomatch h)⟩
    · show canS (valS u + valS nil - valS u) = nil
      rw [h0]; decide +kernel
    · show canS (valS v + valS nil - valS nil) = v
      rw [show valS v + valS nil - valS nil = valS v by omega]
      exact hv.1.symm
  | false =>
    refine ⟨rfl, ?_, (fun h => nomatch h), fun _ => ⟨rfl, ?_⟩⟩
    · show canS (valS u + valS nil - valS u) = nil
      rw [show valS u + valS nil - valS u = 0 by omega]; decide +kernel
    · show canS (valS v + valS nil - valS v) = nil
      rw [show valS v + valS nil - valS v = 0 by omega]; decide +kernel
/-- UnitpriceBack -/
theorem back_nobody {v u p : ByteArray} (h : (IssueR v u p).2 = 0) (hu : isNil u = true) : (IssueR v u p).1 = p := by
  rw [IssueR_ok (IssueR_check h)]
  unfold issueR
  rw [hu, if_pos (by simp)]
theorem can_val {z : Int} : canS z = canS (valS (canS z)) := by rw [valS_canS]
theorem back_law {v u p : ByteArray} (h : (IssueR v u p).2 = 0) (hn : ¬ (isNil u = true ∧ isNil v = false)) :
    (CancelR (canS (valS v + valS p)) (canS (valS u + valS (IssueR v u p).1)) (IssueR v u p).1).2 = 0 ∧ valS (CancelR (canS (valS v + valS p)) (canS (valS u + valS (IssueR v u p).1)) (IssueR v u p).1).1 ≤ valS p := by
  have hc := IssueR_check h
  have hz := ucheck_zero.1 hc
  have hv := hz v (by simp)
  have hu := hz u (by simp)
  have hp := hz p (by simp)
  rw [IssueR_ok hc] at h ⊢
  -- the units issued: a value that is not negative, canonical, and that costs no more than the amount
  obtain ⟨i, hi, ci, pi, key⟩ : ∃ i, (issueR v u p).1 = i ∧ i = canS (valS i) ∧ 0 ≤ valS i ∧ (valS v + valS p) * valS i ≤ valS p * (valS u + valS i) := by
    refine ⟨_, rfl, ?_⟩
    unfold issueR at h ⊢
    by_cases hh : (isNil p || isNil u) = true
    · rw [if_pos hh]
      refine ⟨hp.1, hp.2, ?_⟩
      simp at hh
      rcases hh with hh | hh
      · rw [nil_val hh]; simp
      · have : isNil v = true := by
          cases e : isNil v with
          | true => rfl
          | false => exact absurd ⟨hh, e⟩ hn
        rw [nil_val hh, nil_val this]
        simp
    · rw [if_neg hh] at h ⊢
      have hne : valS v ≠ 0 := by
        intro e
        rw [e, divR_zero] at h
        cases h
      rw [divR_ok hne]
      show canS _ = canS (valS (canS _)) ∧ 0 ≤ valS (canS _) ∧ _
      simp only [valS_canS]
      have hpos : 0 < valS v := by have := hv.2; omega
      rw [Int.fdiv_eq_ediv_of_nonneg _ hv.2]
      have h0 : 0 ≤ valS p * valS u := Int.mul_nonneg hp.2 hu.2
      have h1 : 0 ≤ valS p * valS u / valS v := Int.ediv_nonneg h0 hv.2
      have h2 : valS p * valS u / valS v * valS v ≤ valS p * valS u := Int.ediv_mul_le _ hne
      refine ⟨trivial, h1, ?_⟩
      generalize valS p * valS u / valS v = q at *
      generalize valS v = V at *
      generalize valS u = U at *
      generalize valS p = P at *
      have e1 : (V + P) * q = q * V + P * q := by grind
      have e2 : P * (U + q) = P * U + P * q := by grind
      rw [e1, e2]
      omega
  rw [hi]
  have hc2 : ucheck [canS (valS v + valS p), canS (valS u + valS i), i] = 0 := ucheck_zero.2 (by
    intro s hs
    simp at hs
    rcases hs with rfl | rfl | rfl
    · exact ⟨can_val, by rw [valS_canS]; have := hv.2; have := hp.2; omega⟩
    · exact ⟨can_val, by rw [valS_canS]; have := hu.2; omega⟩
    · exact ⟨ci, pi⟩)
  rw [CancelR_ok hc2]
  unfold cancelR
  rw [if_neg (by rw [cmpI_pos, valS_canS]; simp; have := hu.2; omega)]
  by_cases hn2 : isNil i = true
  · rw [hn2]
    exact ⟨rfl, hp.2⟩
  · rw [if_neg hn2]
    have hne := val_ne ci (by simpa using hn2)
    have hne2 : valS (canS (valS u + valS i)) ≠ 0 := by rw [valS_canS]; have := hu.2; omega
    rw [divR_ok hne2]
    refine ⟨rfl, ?_⟩
    show valS (canS _) ≤ _
    rw [valS_canS, valS_canS, valS_canS]
    have hpos : 0 < valS u + valS i := by have := hu.2; omega
    rw [Int.fdiv_eq_ediv_of_nonneg _ (by omega)]
    have := Int.ediv_le_ediv hpos key
    rwa [Int.mul_ediv_cancel _ (by omega)] at this
end Go.Proofs.YtonopbelbehheaaGreatDoor
namespace Go.Proofs.YtonopbelbehheaaGreatDoor
open Go.RowKit Go.Shelf Dec QQ

theorem deal_err {u v p b : ByteArray} (h : (DealR u v p b).err ≠ 0) : DealR u v p b = ⟨nil, nil, nil, nil, (DealR u v p b).err⟩ := by
  unfold DealR at *
  split
  · rfl
  · rename_i hc
    rw [if_neg hc] at h
    unfold dealR at *
    split
    · rfl
    · rename_i h1
      rw [if_neg h1] at h
      split
      · rfl
      · rename_i h2
        rw [if_neg h2] at h
        exact absurd rfl h
theorem DealR_check {u v p b : ByteArray} (h : (DealR u v p b).err = 0) : ucheck [u, v, p, b] = 0 := by
  unfold DealR at h
  split at h
  · exact h
  · rename_i hc; simpa using hc
/-- a day that passed: its parts -/
theorem DealR_ok {u v p b : ByteArray} (h : (DealR u v p b).err = 0) :
    (issueR v u p).2 = 0 ∧ (cancelR v u b).2 = 0 ∧ DealR u v p b = ⟨(issueR v u p).1, (cancelR v u b).1, canS (valS u + valS (issueR v u p).1 - valS b), canS (valS v + valS p - valS (cancelR v u b).1), 0⟩ := by
  have hc := DealR_check h
  have e : DealR u v p b = dealR u v p b := by unfold DealR; rw [hc]; rfl
  rw [e] at h ⊢
  unfold dealR at *
  split at h
  · rename_i h1; simp at h1; exact absurd h h1
  · rename_i h1
    split at h
    · rename_i h2; simp at h2; exact absurd h h2
    · rename_i h2
      rw [if_neg h1, if_neg h2]
      exact ⟨by simpa using h1, by simpa using h2, rfl⟩
theorem price_err {v u : ByteArray} (hc : ucheck [v, u] = 0) (h : (PriceR v u).2 ≠ 0) : isNil u = true := by
  unfold PriceR at h
  rw [hc] at h
  cases hn : isNil u with
  | true => rfl
  | false => rw [hn] at h; exact absurd rfl h
theorem price_ok {v u : ByteArray} (hc : ucheck [v, u] = 0) (h : (PriceR v u).2 = 0) : isNil u = false ∧ (PriceR v u).1 = rat (valS v) (valS u) := by
  unfold PriceR at *
  rw [hc] at *
  cases hn : isNil u with
  | true => rw [hn] at h; cases h
  | false => exact ⟨rfl, rfl⟩
/-- what issuing leaves: less than a unit's price -/
theorem issue_rest {v u p : ByteArray} (hv : 0 ≤ valS v) (hn : isNil u = false) (h : (issueR v u p).2 = 0) :
    0 ≤ valS p * valS u - valS v * valS (issueR v u p).1 ∧ (valS p * valS u - valS v * valS (issueR v u p).1 < valS v ∨ valS p * valS u - valS v * valS (issueR v u p).1 = 0) := by
  unfold issueR at *
  rw [hn] at h ⊢
  by_cases hh : isNil p = true
  · have h0 := nil_val hh
    rw [if_pos (by rw [hh]; rfl), h0]
    simp
  · have hf : ¬ ((isNil p || false) = true) := by simpa using hh
    rw [if_neg hf] at h ⊢
    have hne : valS v ≠ 0 := by
      intro e
      rw [e, divR_zero] at h
      cases h
    rw [divR_ok hne]
    show 0 ≤ _ - valS v * valS (canS _) ∧ (_ - valS v * valS (canS _) < _ ∨ _)
    rw [valS_canS, Int.fdiv_eq_ediv_of_nonneg _ hv]
    have h1 := Int.mul_ediv_add_emod (valS p * valS u) (valS v)
    have h2 := Int.emod_nonneg (valS p * valS u) hne
    have h3 := Int.emod_lt_of_pos (valS p * valS u) (show 0 < valS v by omega)
    omega
theorem cancel_rest {v u b : ByteArray} (hu : u = canS (valS u) ∧ 0 ≤ valS u) (hn : isNil u = false) (h : (cancelR v u b).2 = 0) :
    0 ≤ valS v * valS b - valS u * valS (cancelR v u b).1 ∧ valS v * valS b - valS u * valS (cancelR v u b).1 < valS u := by
  have hne := val_ne hu.1 hn
  have hpos : 0 < valS u := by have := hu.2; omega
  unfold cancelR at *
  by_cases h1 : decide (cmpI (valS b) (valS u) > 0) = true
  · rw [h1] at h; cases h
  · rw [if_neg h1] at h ⊢
    by_cases hh : isNil b = true
    · have h0 := nil_val hh
      rw [if_pos hh, h0, show valS nil = 0 from rfl]
      simp
      exact hpos
    · rw [if_neg hh] at h ⊢
      rw [divR_ok hne]
      show 0 ≤ _ - valS u * valS (canS _) ∧ _ - valS u * valS (canS _) < _
      rw [valS_canS, Int.fdiv_eq_ediv_of_nonneg _ hu.2]
      have h1 := Int.mul_ediv_add_emod (valS v * valS b) (valS u)
      have h2 := Int.emod_nonneg (valS v * valS b) hne
      have h3 := Int.emod_lt_of_pos (valS v * valS b) hpos
      omega
theorem fair_int {V U P B I O : Int} (hU : 0 < U) : ((V + P - O : Int) : Rat) - rat V U * ((U + I - B : Int) : Rat) = rat (P * U - V * I + (V * B - U * O)) U ∧ rat V U + 1 = rat (V + U) U := by
  have h := intCast_ne (show U ≠ 0 by omega)
  rw [rat_of (by omega), rat_of (by omega), rat_of (by omega)]
  constructor
  · simp only [Rat.intCast_add, Rat.intCast_sub, Rat.intCast_mul]
    grind
  · simp only [Rat.intCast_add]
    grind
theorem rat_lt {x y U : Int} (hU : 0 < U) (h : x < y) : rat x U < rat y U := by
  have h1 : (0 : Rat) < (U : Rat) := Rat.intCast_pos.2 hU
  rw [rat_of (by omega), rat_of (by omega), Rat.div_lt_iff h1, Rat.div_mul_cancel (by grind)]
  exact Rat.intCast_lt_intCast.2 h
theorem rat_nonneg {x U : Int} (hU : 0 < U) (h : 0 ≤ x) : 0 ≤ rat x U := by
  have h1 : (0 : Rat) < (U : Rat) := Rat.intCast_pos.2 hU
  rw [rat_of (by omega), ← Rat.not_lt, Rat.div_lt_iff h1, Rat.zero_mul, Rat.not_lt]
  exact Rat.intCast_nonneg.2 h
/-- UnitpriceFair -/
theorem fair_law {u v p b : ByteArray} (h : (DealR u v p b).err = 0) (hp : (PriceR v u).2 = 0) :
    0 ≤ ((valS (DealR u v p b).value : Int) : Rat) - (PriceR v u).1 * ((valS (DealR u v p b).units : Int) : Rat) ∧
    ((valS (DealR u v p b).value : Int) : Rat) - (PriceR v u).1 * ((valS (DealR u v p b).units : Int) : Rat) < (PriceR v u).1 + 1 := by
  have hz := ucheck_zero.1 (DealR_check h)
  have hu := hz u (by simp)
  have hv := hz v (by simp)
  have hc2 : ucheck [v, u] = 0 := ucheck_zero.2 (by intro s hs; simp at hs; rcases hs with rfl | rfl <;> assumption)
  obtain ⟨hn, e2⟩ := price_ok hc2 hp
  obtain ⟨h1, h2, e⟩ := DealR_ok h
  have hne := val_ne hu.1 hn
  have hpos : 0 < valS u := by have := hu.2; omega
  rw [e, e2]
  show 0 ≤ ((valS (canS _) : Int) : Rat) - _ * ((valS (canS _) : Int) : Rat) ∧ ((valS (canS _) : Int) : Rat) - _ * ((valS (canS _) : Int) : Rat) < _
  rw [valS_canS, valS_canS]
  obtain ⟨f1, f2⟩ := fair_int (V := valS v) (U := valS u) (P := valS p) (B := valS b) (I := valS (issueR v u p).1) (O := valS (cancelR v u b).1) hpos
  rw [f1, f2]
  have i1 := issue_rest hv.2 hn h1
  have i2 := cancel_rest hu hn h2
  have hv2 := hv.2
  exact ⟨rat_nonneg hpos (by omega), rat_lt hpos (by omega)⟩
theorem price_check {u v p b : ByteArray} (h : (DealR u v p b).err = 0) : ucheck [v, u] = 0 := by
  have hz := ucheck_zero.1 (DealR_check h)
  exact ucheck_zero.2 (by intro s hs; simp at hs; rcases hs with rfl | rfl <;> exact hz _ (by simp))
end Go.Proofs.YtonopbelbehheaaGreatDoor
namespace Go.Proofs.YtonopbelbehheaaGreatDoor
open Go.RowKit Go.Shelf Dec QQ

set_option maxRecDepth 100000 in
set_option maxHeartbeats 4000000 in
theorem all_any (v u : ByteArray) (w : World) (hv : v.size ≤ 9223372036854775807) (hu : u.size ≤ 9223372036854775807) (hg : Gl w) :
    Calls Tryz.prog 5 #[.string v, .string u] w fun e w' => e = .returned (.bool true) ∧ Below w.heap.size w w' := by
  have hs := St.refl hg
  have KG := great44_any (A := some ⟨w.heap.size, 0, none⟩) (c := 2) (n := 2) (l := [v, u]) rfl (by omega) (by intro s hs; simp at hs; rcases hs with rfl | rfl <;> assumption)
  have R1 := Row.of (Bx.new w #[.string v, .string u] 22)
  have HR := Lib.hid R1
  clear R1
  obtain ⟨t, ht⟩ : ∃ t, (([v, u] : List ByteArray).any fun s => decide (20 < s.size)) = t := ⟨_, rfl⟩
  rw [ht] at KG
  cases t with
  | true =>
    clear ht
    go_enter Tryz.func5, Tryz.ntmps5
    go_wp2_with fail
    refine KG.step (hs.alloc _) HR.out ?_
    intro w1 hs _
    go_wp2_with fail
    refine awake44.step hs ?_
    intro wa hs _
    go_wp2_with fail
    go_ret
    exact ⟨rfl, hs.2⟩
  | false =>
    have hz : v.size ≤ 20 ∧ u.size ≤ 20 := by simpa using ht
    clear ht
    obtain ⟨zv, zu⟩ := hz
    have K1 := Cancel_any (v := v) (u := u) (p := u) (by omega) (by omega) (by omega)
    have K2 := Deal_any (u := u) (v := v) (p := nil) (b := u) 0 (by omega) (by omega) (by decide) (by omega)
    have he := cancel_err (v := v) (u := u) (p := u)
    have hl := all_law (v := v) (u := u)
    unfold DealtR.val dealV at K2
    generalize (DealR u v nil u).issued = d1 at *
    generalize (DealR u v nil u).paid = d2 at *
    generalize (DealR u v nil u).units = d3 at *
    generalize (DealR u v nil u).value = d4 at *
    generalize (DealR u v nil u).err = d5 at *
    generalize (CancelR v u u).1 = c1 at *
    generalize (CancelR v u u).2 = c2 at *
    by_cases hc : c2 = 0
    · obtain ⟨h5, h3, ha, hb⟩ := hl hc
      clear he hl
      subst hc h5 h3
      unfold isNil at ha hb
      obtain ⟨t2, q2⟩ : ∃ t, (u.toList == []) = t := ⟨_, rfl⟩
      rw [q2] at ha hb
      cases t2 with
      | true =>
        obtain ⟨e1, e2⟩ := ha rfl
        clear ha hb
        subst e1 e2
        have q3 : (d4.toList == d4.toList) = true := by simp
        unfold nil at K1 K2
        go_enter Tryz.func5, Tryz.ntmps5
        go_wp2_with fail
        refine KG.step (hs.alloc _) HR.out ?_
        intro w1 hs _
        go_wp2_with fail
        refine K1.step hs ?_
        intro w2 hs _
        go_wp2_with fail
        refine K2.step hs ?_
        intro w3 hs _
        go_wp2_with fail
        refine awake44.step (hs.alloc _) ?_
        intro wa hs _
        go_wp2_with fail
        go_ret
        exact ⟨rfl, hs.2⟩
      | false =>
        obtain ⟨e1, e2⟩ := hb rfl
        clear ha hb
        subst e1 e2
        have q3 : (c1.toList == c1.toList) = true := by simp
        unfold nil at K2
        go_enter Tryz.func5, Tryz.ntmps5
        go_wp2_with fail
        refine KG.step (hs.alloc _) HR.out ?_
        intro w1 hs _
        go_wp2_with fail
        refine K1.step hs ?_
        intro w2 hs _
        go_wp2_with fail
        refine K2.step hs ?_
        intro w3 hs _
        go_wp2_with fail
        refine awake44.step (hs.alloc _) ?_
        intro wa hs _
        go_wp2_with fail
        go_ret
        exact ⟨rfl, hs.2⟩
    · have q1 : (c2 != 0) = true := by simpa using hc
      have e1 := he hc
      clear he hl hc
      subst e1
      unfold nil at K1
      go_enter Tryz.func5, Tryz.ntmps5
      go_wp2_with fail
      refine KG.step (hs.alloc _) HR.out ?_
      intro w1 hs _
      go_wp2_with fail
      refine K1.step hs ?_
      intro w2 hs _
      go_wp2_with fail
      refine awake44.step hs ?_
      intro wa hs _
      go_wp2_with fail
      go_ret
      exact ⟨rfl, hs.2⟩
set_option maxRecDepth 100000 in
set_option maxHeartbeats 4000000 in
theorem back_any (v u p : ByteArray) (w : World) (hv : v.size ≤ 9223372036854775807) (hu : u.size ≤ 9223372036854775807) (hp : p.size ≤ 9223372036854775807) (hg : Gl w) :
    Calls Tryz.prog 7 #[.string v, .string u, .string p] w fun e w' => e = .returned (.bool true) ∧ Below w.heap.size w w' := by
  have hs := St.refl hg
  have KG := great44_any (A := some ⟨w.heap.size, 0, none⟩) (c := 3) (n := 3) (l := [v, u, p]) rfl (by omega) (by intro s hs; simp at hs; rcases hs with rfl | rfl | rfl <;> assumption)
  have R1 := Row.of (Bx.new w #[.string v, .string u, .string p] 22)
  have HR := Lib.hid R1
  clear R1
  obtain ⟨t, ht⟩ : ∃ t, (([v, u, p] : List ByteArray).any fun s => decide (20 < s.size)) = t := ⟨_, rfl⟩
  rw [ht] at KG
  cases t with
  | true =>
    clear ht
    go_enter Tryz.func7, Tryz.ntmps7
    go_wp2_with fail
    refine KG.step (hs.alloc _) HR.out ?_
    intro w1 hs _
    go_wp2_with fail
    refine awake44.step hs ?_
    intro wa hs _
    go_wp2_with fail
    go_ret
    exact ⟨rfl, hs.2⟩
  | false =>
    have hz : v.size ≤ 20 ∧ u.size ≤ 20 ∧ p.size ≤ 20 := by simpa using ht
    clear ht
    obtain ⟨zv, zu, zp⟩ := hz
    have K1 := Issue_any (v := v) (u := u) (p := p) (by omega) (by omega) (by omega)
    have he := issue_err (v := v) (u := u) (p := p)
    have hn := back_nobody (v := v) (u := u) (p := p)
    have hl := back_law (v := v) (u := u) (p := p)
    have si : (IssueR v u p).1.size ≤ 50 := by
      unfold IssueR
      split
      · exact Nat.zero_le _
      · exact Nat.le_trans (issue_size v u p) (by omega)
    have f1 : Fit 60 (valS v + valS p) := ((Fit.val zv).add (Fit.val zp)).mono (by omega)
    have f2 : Fit 60 (valS u + valS (IssueR v u p).1) := ((Fit.val (k := 50) (by omega)).add (Fit.val si)).mono (by omega)
    have K2 := AddR (Vs.arg (s := v) (by omega)) (Vs.arg (s := p) (by omega))
    have K3 := AddR (Vs.arg (s := u) (by omega)) (Vs.arg (s := (IssueR v u p).1) (by omega))
    have K4 := Cancel_any (v := canS (valS v + valS p)) (u := canS (valS u + valS (IssueR v u p).1)) (p := (IssueR v u p).1) (Nat.le_trans f1.size (by omega)) (Nat.le_trans f2.size (by omega)) (by omega)
    have s4 : (CancelR (canS (valS v + valS p)) (canS (valS u + valS (IssueR v u p).1)) (IssueR v u p).1).1.size ≤ 500 := by
      unfold CancelR
      split
      · exact Nat.zero_le _
      · have := cancel_size (canS (valS v + valS p)) (canS (valS u + valS (IssueR v u p).1)) (IssueR v u p).1
        have := f1.size
        omega
    have K5 := CmpR (Vs.arg (s := (CancelR (canS (valS v + valS p)) (canS (valS u + valS (IssueR v u p).1)) (IssueR v u p).1).1) (by omega)) (Vs.arg (s := p) (by omega))
    generalize (CancelR (canS (valS v + valS p)) (canS (valS u + valS (IssueR v u p).1)) (IssueR v u p).1).1 = c1 at *
    generalize (CancelR (canS (valS v + valS p)) (canS (valS u + valS (IssueR v u p).1)) (IssueR v u p).1).2 = c2 at *
    clear f1 f2 s4 si
    generalize canS (valS v + valS p) = a1 at *
    generalize canS (valS u + valS (IssueR v u p).1) = a2 at *
    generalize (IssueR v u p).1 = i1 at *
    generalize (IssueR v u p).2 = i2 at *
    by_cases hc : i2 = 0
    · subst hc
      have hn := hn rfl
      have hl := hl rfl
      clear he
      unfold isNil at hn hl
      obtain ⟨t2, q2⟩ : ∃ t, (u.toList == []) = t := ⟨_, rfl⟩
      obtain ⟨t3, q3⟩ : ∃ t, (v.toList == []) = t := ⟨_, rfl⟩
      rw [q2] at hn hl
      rw [q3] at hl
      have q3n : (v.toList != []) = !t3 := by rw [← q3]; rfl
      by_cases hb : t2 = true ∧ t3 = false
      · obtain ⟨rfl, rfl⟩ := hb
        have e1 := hn rfl
        clear hn hl
        subst e1
        have q4 : (i1.toList == i1.toList) = true := by simp
        go_enter Tryz.func7, Tryz.ntmps7
        go_wp2_with fail
        refine KG.step (hs.alloc _) HR.out ?_
        intro w1 hs _
        go_wp2_with fail
        refine K1.step hs ?_
        intro w2 hs _
        go_wp2_with fail
        refine awake44.step hs ?_
        intro wa hs _
        go_wp2_with fail
        go_ret
        exact ⟨rfl, hs.2⟩
      · obtain ⟨e1, e2⟩ := hl hb
        clear hn hl
        subst e1
        have q5 : decide (cmpI (valS c1) (valS p) ≤ 0) = true := by
          have := cmpI_pos (x := valS c1) (y := valS p)
          rw [decide_eq_false (show ¬ valS p < valS c1 by omega)] at this
          simpa using this
        generalize cmpI (valS c1) (valS p) = cc at *
        clear e2
        cases t2 <;> cases t3
        case true.false => exact absurd ⟨rfl, rfl⟩ hb
        all_goals
          clear hb
          go_enter Tryz.func7, Tryz.ntmps7
          go_wp2_with fail
          refine KG.step (hs.alloc _) HR.out ?_
          intro w1 hs _
          go_wp2_with fail
          refine K1.step hs ?_
          intro w2 hs _
          go_wp2_with fail
          refine K2.step hs ?_
          intro w3 hs _
          go_wp2_with fail
          refine K3.step hs ?_
          intro w4 hs _
          go_wp2_with fail
          refine K4.step hs ?_
          intro w5 hs _
          go_wp2_with fail
          refine K5.step hs ?_
          intro w6 hs _
          go_wp2_with fail
          refine awake44.step hs ?_
          intro wa hs _
          go_wp2_with fail
          go_ret
          exact ⟨rfl, hs.2⟩
    · have q1 : (i2 != 0) = true := by simpa using hc
      have e1 := he hc
      clear he hl hc hn
      subst e1
      unfold nil at K1
      go_enter Tryz.func7, Tryz.ntmps7
      go_wp2_with fail
      refine KG.step (hs.alloc _) HR.out ?_
      intro w1 hs _
      go_wp2_with fail
      refine K1.step hs ?_
      intro w2 hs _
      go_wp2_with fail
      refine awake44.step hs ?_
      intro wa hs _
      go_wp2_with fail
      go_ret
      exact ⟨rfl, hs.2⟩
end Go.Proofs.YtonopbelbehheaaGreatDoor
namespace Go.Proofs.YtonopbelbehheaaGreatDoor
open Go.RowKit Go.Shelf Dec QQ

theorem Vq.zero : Vq nil nil 0 := ⟨rfl, by decide, by decide⟩
theorem cmpQ_ge {x y : Rat} : decide (0 ≤ cmpQ x y) = decide (y ≤ x) := by
  have h : cmpQ x y < 0 ↔ x < y := cmpQ_neg
  have h2 : ¬ x < y ↔ y ≤ x := Rat.not_lt
  rw [decide_eq_decide]
  constructor
  · intro h3; exact h2.1 (fun h4 => by have := h.2 h4; omega)
  · intro h3
    rcases Int.lt_or_le (cmpQ x y) 0 with h4 | h4
    · exact absurd (h.1 h4) (h2.2 h3)
    · exact h4
theorem cmpQ_lt {x y : Rat} : decide (cmpQ x y < 0) = decide (x < y) := decide_eq_decide.2 cmpQ_neg
theorem Fit.sub2 {k m : Nat} {y z : Int} (h : Fit k y) (h2 : Fit m z) : Fit (k + m + 1) (y - z) := Fit.sub (h.mono (by omega)) (h2.mono (by omega))
theorem Fit.add2 {k m : Nat} {y z : Int} (h : Fit k y) (h2 : Fit m z) : Fit (k + m + 1) (y + z) := Fit.add (h.mono (by omega)) (h2.mono (by omega))
theorem deal_size (u v p b : ByteArray) : (DealR u v p b).units.size ≤ 2 * u.size + p.size + b.size + 10 ∧ (DealR u v p b).value.size ≤ 2 * v.size + p.size + b.size + 10 := by
  unfold DealR
  split
  · exact ⟨Nat.zero_le _, Nat.zero_le _⟩
  · unfold dealR
    split
    · exact ⟨Nat.zero_le _, Nat.zero_le _⟩
    · split
      · exact ⟨Nat.zero_le _, Nat.zero_le _⟩
      · have h1 := issue_size v u p
        have h2 := cancel_size v u b
        refine ⟨Nat.le_trans (Fit.size (((Fit.val (Nat.le_refl _)).add2 (Fit.val h1)).sub2 (Fit.val (Nat.le_refl _)))) (by omega), Nat.le_trans (Fit.size (((Fit.val (Nat.le_refl _)).add2 (Fit.val (Nat.le_refl _))).sub2 (Fit.val h2))) (by omega)⟩
theorem price_fit {v u : ByteArray} {k : Nat} (h1 : v.size ≤ k) (h2 : u.size ≤ k) (hk : 1 ≤ k) : FitQ k (PriceR v u).1 := by
  have h0 : FitQ k 0 := FitQ.mono (k := 1) ⟨by decide, by decide⟩ hk
  unfold PriceR
  split
  · exact h0
  · split
    · exact h0
    · have := FitQ.rat (Fit.val h1) (Fit.val h2) hk
      rwa [Nat.max_self] at this

set_option maxRecDepth 100000 in
set_option maxHeartbeats 4000000 in
theorem fair_any (u : ByteArray) (day : Int) (v p b : ByteArray) (w : World) (hu : u.size ≤ 9223372036854775807) (hv : v.size ≤ 9223372036854775807) (hp : p.size ≤ 9223372036854775807) (hb : b.size ≤ 9223372036854775807) (hg : Gl w) :
    Calls Tryz.prog 8 #[.string u, dealV day v p b] w fun e w' => e = .returned (.bool true) ∧ Below w.heap.size w w' := by
  have hs := St.refl hg
  have KG := great44_any (A := some ⟨w.heap.size + 1, 0, none⟩) (c := 4) (n := 4) (l := [u, v, p, b]) rfl (by omega) (by intro s hs; simp at hs; rcases hs with rfl | rfl | rfl | rfl <;> assumption)
  have R1 := Row.of (Bx.new1 w (.cells #[.int .i64 day, .string v, .string p, .string b] 41) #[.string u, .string v, .string p, .string b] 22)
  have HR := Lib.hid R1
  clear R1
  obtain ⟨t, ht⟩ : ∃ t, (([u, v, p, b] : List ByteArray).any fun s => decide (20 < s.size)) = t := ⟨_, rfl⟩
  rw [ht] at KG
  cases t with
  | true =>
    clear ht
    unfold dealV
    go_enter Tryz.func8, Tryz.ntmps8
    go_wp2_with fail
    refine KG.step ((hs.alloc _).alloc _) HR.out ?_
    intro w1 hs _
    go_wp2_with fail
    refine awake44.step hs ?_
    intro wa hs _
    go_wp2_with fail
    go_ret
    exact ⟨rfl, hs.2⟩
  | false =>
    have hz : u.size ≤ 20 ∧ v.size ≤ 20 ∧ p.size ≤ 20 ∧ b.size ≤ 20 := by simpa using ht
    clear ht
    obtain ⟨zu, zv, zp, zb⟩ := hz
    have K1 := Deal_any (u := u) (v := v) (p := p) (b := b) day (by omega) (by omega) (by omega) (by omega)
    have K2 := Price_any (v := v) (u := u) (by omega) (by omega)
    have he := deal_err (u := u) (v := v) (p := p) (b := b)
    have hpe := price_err (v := v) (u := u)
    have hc := price_check (u := u) (v := v) (p := p) (b := b)
    have hl := fair_law (u := u) (v := v) (p := p) (b := b)
    obtain ⟨z3, z4⟩ := deal_size u v p b
    have fp := price_fit (v := v) (u := u) (k := 20) zv zu (by omega)
    unfold dealV at K1 ⊢
    unfold DealtR.val at K1
    generalize PriceR v u = pr at *
    obtain ⟨q, qe⟩ := pr
    generalize DealR u v p b = dr at *
    obtain ⟨d1, d2, d3, d4, d5⟩ := dr
    simp only at *
    by_cases h5 : d5 = 0
    · subst h5
      have hc := hc rfl
      clear he
      by_cases hq : qe = 0
      · subst hq
        obtain ⟨l1, l2⟩ := hl rfl rfl
        clear hl hpe hc
        have f3 : Fit 100 (valS d3) := Fit.val (by omega)
        have f4 : Fit 100 (valS d4) := Fit.val (by omega)
        have q3 : FitQ 100 ((valS d3 : Int) : Rat) := FitQ.int f3 (by omega)
        have q4 : FitQ 100 ((valS d4 : Int) : Rat) := FitQ.int f4 (by omega)
        have qm := fp.mul q3
        have qr := q4.sub qm
        have q1 : FitQ 1 (1 : Rat) := ⟨by decide, by decide⟩
        have qa := fp.add q1
        have z : FitQ 1 (0 : Rat) := ⟨by decide, by decide⟩
        have KO1 := OfF (a := d4) (Vs.arg (by omega)) (by omega)
        have KO2 := OfF (a := d3) (Vs.arg (by omega)) (by omega)
        have KM := MulF (Vq.fr fp (by omega)) (Vq.fr q3 (by omega))
        have KS := SubF (Vq.fr q4 (by omega)) (Vq.fr qm (by omega))
        have KC1 := CmpF (Vq.fr qr (by omega)) Vq.zero (qr.sub z) (by omega)
        have KO3 := OfF (a := ⟨#[49]⟩) (x := 1) ⟨by decide, by decide⟩ (by decide)
        have KA := AddF (Vq.fr fp (by omega)) (Vq.fr q1 (by omega))
        have KC2 := CmpF (Vq.fr qr (by omega)) (Vq.fr qa (by omega)) (qr.sub qa) (by omega)
        have t1 := cmpQ_ge (x := (valS d4 : Rat) - q * (valS d3 : Rat)) (y := 0)
        have t2 := cmpQ_lt (x := (valS d4 : Rat) - q * (valS d3 : Rat)) (y := q + 1)
        rw [decide_eq_true l1] at t1
        rw [decide_eq_true l2] at t2
        clear l1 l2 f3 f4 q3 q4 qm qr q1 qa z
        change Ret _ _ (FR 1) at KO3
        unfold FR at *
        unfold FV nil at *
        generalize cmpQ ((valS d4 : Rat) - q * (valS d3 : Rat)) 0 = c1 at *
        generalize cmpQ ((valS d4 : Rat) - q * (valS d3 : Rat)) (q + 1) = c2 at *
        generalize frN ((valS d4 : Rat) - q * (valS d3 : Rat)) = rn at *
        generalize frD ((valS d4 : Rat) - q * (valS d3 : Rat)) = rd at *
        generalize frN (q * (valS d3 : Rat)) = mn at *
        generalize frD (q * (valS d3 : Rat)) = md at *
        generalize frN (q + 1) = sn at *
        generalize frD (q + 1) = sd at *
        generalize frN ((valS d4 : Rat)) = xn at *
        generalize frD ((valS d4 : Rat)) = xd at *
        generalize frN ((valS d3 : Rat)) = yn at *
        generalize frD ((valS d3 : Rat)) = yd at *
        generalize frN (q) = pn at *
        generalize frD (q) = pd at *
        generalize frN ((1 : Rat)) = on at *
        generalize frD ((1 : Rat)) = od at *
        clear fp z3 z4
        go_enter Tryz.func8, Tryz.ntmps8
        go_wp2_with fail
        refine KG.step ((hs.alloc _).alloc _) HR.out ?_
        intro w1 hs hb
        have B0 := ((Bx.new w #[.int .i64 day, .string v, .string p, .string b] 41).alloc _).on hb
        have x0 := B0.cell (i := 0) (v := .int .i64 day) rfl
        have x1 := B0.cell (i := 1) (v := .string v) rfl
        have x2 := B0.cell (i := 2) (v := .string p) rfl
        have x3 := B0.cell (i := 3) (v := .string b) rfl
        go_wp2_with fail
        refine K1.step hs ?_
        intro w2 hs hb
        have B1 := (B0.on hb).alloc (.cells #[.string d1, .string d2, .string d3, .string d4] 36)
        have y1 := B1.cell (i := 1) (v := .string v) rfl
        clear x0 x1 x2 x3
        go_wp2_with fail
        refine K2.step (hs.alloc _) ?_
        intro w3 hs hb
        clear y1
        have B2 := (((Bx.new w2 #[.string d1, .string d2, .string d3, .string d4] 36).on hb).alloc (.cells #[.string pn, .string pd] 43))
        have B3 := Bx.new w3 #[.string pn, .string pd] 43
        have hs3 := hs.alloc (.cells #[.string pn, .string pd] 43)
        go_wp2_with fail
        refine wp_region_fresh1 10 9 9 #[.string ⟨#[]⟩, .string ⟨#[]⟩] (by kernel_rfl) (by kernel_rfl) (by kernel_rfl) (by omega) rfl (by kernel_rfl) ⟨_, 9, _, rfl, rfl, rfl, fun _ _ => by simp [execOp, go_sem, ptrTo]; rfl⟩ ?_
        apply Exists.intro
        refine ⟨fun S W hne hk hcl => ?_, ?_⟩
        · simp only [List.take_succ_cons, List.take_zero, quietL, List.mem_cons, List.not_mem_nil, or_false, Nat.reduceAdd, Nat.reduceEqDiff, reduceIte, Nat.zero_add]
          have kk0 := B2.in hk (i := 2) (v := .string d3) rfl
          have kk1 := B2.in hk (i := 3) (v := .string d4) rfl
          have kk2 := B3.in hk (i := 0) (v := .string pn) rfl
          have kk3 := B3.in hk (i := 1) (v := .string pd) rfl
          repeat (go_big_quiet_step (first | (with_reducible exact KO1.fresh hs3 hk hcl) | (with_reducible exact KO2.fresh hs3 hk hcl) | (with_reducible exact KM.fresh hs3 hk hcl) | (with_reducible exact KS.fresh hs3 hk hcl)))
          exact wpQuiet_nil rfl
        intro b1 v1 hb1 hv1 hx1
        simp only [List.drop_succ_cons, List.drop_zero, ptrTo]
        have z0 := hx1.cell (i := 0) (v := .string ⟨#[]⟩) rfl
        have z1 := hx1.cell (i := 1) (v := .string ⟨#[]⟩) rfl
        have g0 := hx1.frozen 0
        have g1 := hx1.frozen 1
        go_wp2_with fail
        have hl1 : w3.heap.size + 1 ≤ b1 := by rw [World.size_alloc] at hb1; exact hb1
        have hl0 : w.heap.size ≤ w3.heap.size := hs.size
        have B4 := ((B3.on hv1).other (c := b1) (by omega) 0 (.string rn)).other (c := b1) (by omega) 1 (.string rd)
        have B5 := (hx1.set 0 (.string rn)).set 1 (.string rd)
        have hs4 := ((hs3.on hv1).set (b := b1) (by omega) 0 (.string rn)).set (b := b1) (by omega) 1 (.string rd)
        clear z0 z1 g0 g1
        generalize (v1.setCell ⟨b1, 0, none⟩ (.string rn)).setCell ⟨b1, 1, none⟩ (.string rd) = W4 at *
        have k0 := B4.keeps (i := 0) (v := .string pn) rfl
        have k1 := B4.keeps (i := 1) (v := .string pd) rfl
        have k2 := B5.keeps (i := 0) (v := .string rn) rfl
        have k3 := B5.keeps (i := 1) (v := .string rd) rfl
        have KW := awake44
        refine wp_region_kept (by kernel_rfl) (by kernel_rfl) ?_
        repeat (go_big_quiet_step (first | (with_reducible exact KC1.kept hs4) | (with_reducible exact KO3.kept hs4) | (with_reducible exact KA.kept hs4) | (with_reducible exact KC2.kept hs4) | (with_reducible exact KW.kept hs4)))
        refine wpQuiet_nil ?_
        rintro _ ⟨u2, rfl⟩
        go_wp2_with fail
        go_ret
        exact ⟨rfl, (hs4.kept u2).2⟩
      · have qq : (qe != 0) = true := by simpa using hq
        have hn := hpe hc hq
        unfold isNil at hn
        clear hl hpe hc hq
        unfold FR at K2
        generalize frN q = pn at *
        generalize frD q = pd at *
        go_enter Tryz.func8, Tryz.ntmps8
        go_wp2_with fail
        refine KG.step ((hs.alloc _).alloc _) HR.out ?_
        intro w1 hs hb
        have B0 := ((Bx.new w #[.int .i64 day, .string v, .string p, .string b] 41).alloc _).on hb
        have x0 := B0.cell (i := 0) (v := .int .i64 day) rfl
        have x1 := B0.cell (i := 1) (v := .string v) rfl
        have x2 := B0.cell (i := 2) (v := .string p) rfl
        have x3 := B0.cell (i := 3) (v := .string b) rfl
        go_wp2_with fail
        refine K1.step hs ?_
        intro w2 hs hb
        have B1 := (B0.on hb).alloc (.cells #[.string d1, .string d2, .string d3, .string d4] 36)
        have y1 := B1.cell (i := 1) (v := .string v) rfl
        clear x0 x1 x2 x3
        go_wp2_with fail
        refine K2.step (hs.alloc _) ?_
        intro w3 hs hb
        go_wp2_with fail
        refine awake44.step (hs.alloc _) ?_
        intro wa hs _
        go_wp2_with fail
        go_ret
        exact ⟨rfl, hs.2⟩
    · have qq : (d5 != 0) = true := by simpa using h5
      have e := he h5
      injection e with e1 e2 e3 e4
      clear he hl hpe hc h5
      subst e1 e2 e3 e4
      unfold nil at K1
      have ed := fun u => eqlD ⟨#[]⟩ ⟨#[]⟩ ⟨#[]⟩ ⟨#[]⟩ ⟨#[]⟩ ⟨#[]⟩ ⟨#[]⟩ ⟨#[]⟩ u
      simp only [beq_self_eq_true, Bool.and_true] at ed
      go_enter Tryz.func8, Tryz.ntmps8
      go_wp2_with fail
      refine KG.step ((hs.alloc _).alloc _) HR.out ?_
      intro w1 hs hb
      have B0 := ((Bx.new w #[.int .i64 day, .string v, .string p, .string b] 41).alloc _).on hb
      have x0 := B0.cell (i := 0) (v := .int .i64 day) rfl
      have x1 := B0.cell (i := 1) (v := .string v) rfl
      have x2 := B0.cell (i := 2) (v := .string p) rfl
      have x3 := B0.cell (i := 3) (v := .string b) rfl
      go_wp2_with fail
      refine K1.step hs ?_
      intro w2 hs hb
      go_wp2_with fail
      refine awake44.step (hs.alloc _) ?_
      intro wa hs _
      go_wp2_with fail
      go_ret
      exact ⟨rfl, hs.2⟩
end Go.Proofs.YtonopbelbehheaaGreatDoor
