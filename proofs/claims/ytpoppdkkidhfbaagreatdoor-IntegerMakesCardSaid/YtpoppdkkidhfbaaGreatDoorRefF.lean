/- Integer, the reference: contracts of Small, Neg, Check and Compare. Conditions: sizes below 2^40. -/
import Derived.Test.YtpoppdkkidhfbaaGreatDoorRefE
namespace Go.Proofs.YtpoppdkkidhfbaaGreatDoor
open Go.RowKit Go.Shelf Dec

theorem toList_bytes (s : ByteArray) : s.toList = bytes s := by
  unfold bytes
  rw [ByteArray.toList_eq]
theorem natOf_take_le (l : Bytes) (k : Nat) : natOf (l.take k) ≤ natOf l := by
  conv => rhs; rw [← List.take_append_drop k l]
  rw [natOf_append]
  have : natOf (l.take k) * 1 ≤ natOf (l.take k) * 10 ^ (l.drop k).length := Nat.mul_le_mul_left _ (Nat.pow_pos (by omega))
  omega
theorem less_natOf : ∀ (s t : Bytes), s.length = t.length → (∀ d ∈ s, isDig d = true) → (∀ d ∈ t, isDig d = true) → Op.bytesLess s t = decide (natOf s < natOf t) := by
  intro s
  induction s with
  | nil => intro t hl _ _; cases t with
    | nil => rfl
    | cons _ _ => cases hl
  | cons a s ih =>
    intro t hl hs ht
    cases t with
    | nil => cases hl
    | cons b t =>
      have hl2 : s.length = t.length := by simpa using hl
      have h1 := natOf_lt s (fun d hd => hs d (List.mem_cons_of_mem _ hd))
      have h2 := natOf_lt t (fun d hd => ht d (List.mem_cons_of_mem _ hd))
      have h3 := ih t hl2 (fun d hd => hs d (List.mem_cons_of_mem _ hd)) (fun d hd => ht d (List.mem_cons_of_mem _ hd))
      have ha := hs a List.mem_cons_self
      have hb := ht b List.mem_cons_self
      unfold isDig at ha hb
      have ha := of_decide_eq_true ha
      have hb := of_decide_eq_true hb
      rw [natOf_cons, natOf_cons, hl2]
      rw [hl2] at h1
      show (a < b || (a == b && Op.bytesLess s t)) = _
      rw [h3]
      generalize 10 ^ t.length = P at *
      generalize natOf s = x at *
      generalize natOf t = y at *
      rcases Nat.lt_trichotomy a.toNat b.toNat with h | h | h
      · have e1 : decide (a < b) = true := decide_eq_true (UInt8.lt_iff_toNat_lt.2 h)
        rw [e1, Bool.true_or]
        symm
        apply decide_eq_true
        have h5 : (a.toNat - 48 + 1) * P ≤ (b.toNat - 48) * P := Nat.mul_le_mul_right _ (by omega)
        rw [Nat.add_mul] at h5
        omega
      · have e0 : a = b := UInt8.toNat_inj.1 h
        subst e0
        have e1 : decide (a < a) = false := decide_eq_false (fun hh => Nat.lt_irrefl _ (UInt8.lt_iff_toNat_lt.1 hh))
        rw [e1, Bool.false_or, beq_self_eq_true, Bool.true_and]
        exact decide_eq_decide.2 (by omega)
      · have e1 : decide (a < b) = false := decide_eq_false (fun hh => by have := UInt8.lt_iff_toNat_lt.1 hh; omega)
        have e2 : (a == b) = false := by rw [beq_eq_false_iff_ne]; intro e; rw [e] at h; omega
        rw [e1, e2, Bool.false_and, Bool.false_or]
        symm
        apply decide_eq_false
        have h5 : (b.toNat - 48 + 1) * P ≤ (a.toNat - 48) * P := Nat.mul_le_mul_right _ (by omega)
        rw [Nat.add_mul] at h5
        omega
theorem natOf_inj_len {s t : Bytes} (hl : s.length = t.length) (hs : ∀ d ∈ s, isDig d = true) (ht : ∀ d ∈ t, isDig d = true) (h : natOf s = natOf t) : s = t := by
  induction s generalizing t with
  | nil => cases t with
    | nil => rfl
    | cons _ _ => cases hl
  | cons a s ih =>
    cases t with
    | nil => cases hl
    | cons b t =>
      have hl2 : s.length = t.length := by simpa using hl
      have h1 := natOf_lt s (fun d hd => hs d (List.mem_cons_of_mem _ hd))
      have h2 := natOf_lt t (fun d hd => ht d (List.mem_cons_of_mem _ hd))
      have ha := hs a List.mem_cons_self
      have hb := ht b List.mem_cons_self
      unfold isDig at ha hb
      have ha := of_decide_eq_true ha
      have hb := of_decide_eq_true hb
      rw [natOf_cons, natOf_cons, hl2] at h
      rw [hl2] at h1
      have key : a.toNat = b.toNat := by
        generalize 10 ^ t.length = P at *
        rcases Nat.lt_trichotomy a.toNat b.toNat with h3 | h3 | h3
        · have h5 : (a.toNat - 48 + 1) * P ≤ (b.toNat - 48) * P := Nat.mul_le_mul_right _ (by omega)
          rw [Nat.add_mul] at h5
          omega
        · exact h3
        · have h5 : (b.toNat - 48 + 1) * P ≤ (a.toNat - 48) * P := Nat.mul_le_mul_right _ (by omega)
          rw [Nat.add_mul] at h5
          omega
      have e0 : a = b := UInt8.toNat_inj.1 key
      subst e0
      rw [ih hl2 (fun d hd => hs d (List.mem_cons_of_mem _ hd)) (fun d hd => ht d (List.mem_cons_of_mem _ hd)) (by omega)]
/-- comparing two strings of as many digits -/
theorem less_S {s t : ByteArray} (hl : s.size = t.size) (hs : ∀ d ∈ bytes s, isDig d = true) (ht : ∀ d ∈ bytes t, isDig d = true) : Op.bytesLess s.toList t.toList = decide (natOf (bytes s) < natOf (bytes t)) := by
  rw [toList_bytes, toList_bytes]
  exact less_natOf _ _ (by rw [← size_bytes, ← size_bytes]; exact hl) hs ht
theorem eq_S {s t : ByteArray} (hl : s.size = t.size) (hs : ∀ d ∈ bytes s, isDig d = true) (ht : ∀ d ∈ bytes t, isDig d = true) : (s.toList == t.toList) = decide (natOf (bytes s) = natOf (bytes t)) := by
  rw [toList_beq]
  apply decide_eq_decide.2
  constructor
  · intro h; rw [h]
  · intro h; exact bytes_inj (natOf_inj_len (by rw [← size_bytes, ← size_bytes]; exact hl) hs ht h)
theorem natOf_big {s : Bytes} (h0 : ∀ d, s.head? = some d → d ≠ 48) (h : ∀ d ∈ s, isDig d = true) {k : Nat} (hk : k < s.length) : 10 ^ k ≤ natOf s := by
  have h1 := dec_natOf s h h0
  rcases Nat.lt_or_ge (natOf s) (10 ^ k) with h2 | h2
  · have := dec_len.2 h2
    rw [h1] at this
    omega
  · exact h2
set_option maxHeartbeats 2000000 in
set_option maxRecDepth 100000 in
theorem rsmall_true (a t : ByteArray) (z : Int) (w : World) (hts : t.size ≤ 4611686018427387904) (H1 : Hid (∀ w, Calls Tryz.prog 71 #[.string a] w fun e w' => e = .returned (.tuple #[.string t, .bool true]) ∧ Below w.heap.size w w'))
    (HD : Hid (∀ d ∈ bytes t, isDig d = true)) (HH : Hid (∀ d, (bytes t).head? = some d → d ≠ 48)) (HV : Hid (z = -(natOf (bytes t) : Int))) :
    Calls Tryz.prog 21 #[.string a] w fun e w' => e = .returned (.tuple #[.int .i64 (sml z).1, .bool (sml z).2]) ∧ Below w.heap.size w w' := by
  by_cases h19 : 19 < t.size
  · have q1 : decide ((19 : Int) < (t.size : Int)) = true := decide_eq_true (by omega)
    have HM : Hid (9223372036854775808 < natOf (bytes t)) := by
      have := natOf_big HH.out HD.out (k := 19) (by rw [← size_bytes]; exact h19)
      show _ < _
      omega
    clear h19
    go_enter Tryz.func21, Tryz.ntmps21
    go_wp2_with fail
    refine (H1.out _).mono ?_
    rintro e w1 ⟨rfl, hb1⟩
    have HB := Lib.hid hb1
    clear hb1
    go_wp2_with fail
    go_ret2
    have hv : sml z = (0, false) := by rw [HV.out]; unfold sml; rw [if_neg (by have := HM.out; omega)]
    exact ⟨ret_ib (by rw [hv]), HB.out⟩
  · have q1 : decide ((19 : Int) < (t.size : Int)) = false := decide_eq_false (by omega)
    by_cases he : t.size = 19
    · have q2 : ((t.size : Int) == 19) = true := by simp; omega
      have HL := Lib.hid (less_S (s := t) (t := ⟨#[57, 50, 50, 51, 51, 55, 50, 48, 51, 54, 56, 53, 52, 55, 55, 53, 56, 48, 56]⟩) he HD.out (by decide))
      have HQ := Lib.hid (eq_S (s := t) (t := ⟨#[57, 50, 50, 51, 51, 55, 50, 48, 51, 54, 56, 53, 52, 55, 55, 53, 56, 48, 56]⟩) he HD.out (by decide))
      have e0 : natOf (bytes ⟨#[57, 50, 50, 51, 51, 55, 50, 48, 51, 54, 56, 53, 52, 55, 55, 53, 56, 48, 56]⟩) = 9223372036854775808 := by decide
      have el : (⟨#[57, 50, 50, 51, 51, 55, 50, 48, 51, 54, 56, 53, 52, 55, 55, 53, 56, 48, 56]⟩ : ByteArray).toList = [57, 50, 50, 51, 51, 55, 50, 48, 51, 54, 56, 53, 52, 55, 55, 53, 56, 48, 56] := by rw [ByteArray.toList_eq]
      rw [e0, el] at HL HQ
      clear e0 el he
      rcases Nat.lt_trichotomy (natOf (bytes t)) 9223372036854775808 with h | h | h
      · have q3 : Op.bytesLess t.toList [57, 50, 50, 51, 51, 55, 50, 48, 51, 54, 56, 53, 52, 55, 55, 53, 56, 48, 56] = true := HL.out.trans (decide_eq_true h)
        have HM : Hid (natOf (bytes t) ≤ 9223372036854775808) := Nat.le_of_lt h
        clear HL HQ h
        go_enter Tryz.func21, Tryz.ntmps21
        go_wp2_with fail
        refine (H1.out _).mono ?_
        rintro e w1 ⟨rfl, hb1⟩
        have HB := Lib.hid hb1
        clear hb1
        go_wp2_with fail
        go_loop [8, 7] (fun s u => ∃ (k n : Nat), k ≤ t.size ∧ n ≤ 9223372036854775808 ∧ s = .int .i64 (k : Int) ∧ u = .int .i64 (-(n : Int)) ∧ Hid (natOf ((bytes t).take k) = n)) (fun s _ => (t.size - intOf s).toNat)
        case atStart => exact ⟨0, 0, by omega, by omega, rfl, rfl, rfl⟩
        case round =>
          obtain ⟨k, n, hk, hn, rfl, rfl, HN⟩ := hrel
          by_cases hkt : k = t.size
          · have q0 : decide ((k : Int) < (t.size : Int)) = false := decide_eq_false (by omega)
            have HE : Hid (natOf (bytes t) = n) := by
              show _ = _
              rw [← HN.out, List.take_of_length_le (by rw [← size_bytes]; omega)]
            go_wp2_with fail
            go_ret2
            have hv : sml z = (-(n : Int), true) := by rw [HV.out, HE.out]; unfold sml; rw [if_pos (by omega)]
            exact ⟨ret_ib (by rw [hv]), HB.out⟩
          · have hkl : k < t.size := by omega
            have q0 : decide ((k : Int) < (t.size : Int)) = true := decide_eq_true (by omega)
            have hd := dig_at HD.out k hkl
            have hd1 := hd.1
            have hd2 := hd.2
            have HG := Lib.hid (natOf_take_succ (bytes t) k _ (get_bytes t k hkl))
            have hn2 : 10 * n + (t[k].toNat - 48) ≤ 9223372036854775808 := by
              rw [← HN.out, ← HG.out]
              exact Nat.le_trans (natOf_take_le _ _) HM.out
            clear hd
            go_wp2_with fail
            go_round
            case rel =>
              refine ⟨k + 1, 10 * n + (t[k].toNat - 48), by omega, hn2, by go_num, by congr 1; omega, ?_⟩
              show _ = _
              rw [HG.out, HN.out]
            case measure => simp [intOf]; omega
      · have q3 : Op.bytesLess t.toList [57, 50, 50, 51, 51, 55, 50, 48, 51, 54, 56, 53, 52, 55, 55, 53, 56, 48, 56] = false := HL.out.trans (decide_eq_false (by omega))
        have q4 : (t.toList == [57, 50, 50, 51, 51, 55, 50, 48, 51, 54, 56, 53, 52, 55, 55, 53, 56, 48, 56]) = true := HQ.out.trans (decide_eq_true h)
        have HM : Hid (natOf (bytes t) ≤ 9223372036854775808) := Nat.le_of_eq h
        clear HL HQ h
        go_enter Tryz.func21, Tryz.ntmps21
        go_wp2_with fail
        refine (H1.out _).mono ?_
        rintro e w1 ⟨rfl, hb1⟩
        have HB := Lib.hid hb1
        clear hb1
        go_wp2_with fail
        go_loop [8, 7] (fun s u => ∃ (k n : Nat), k ≤ t.size ∧ n ≤ 9223372036854775808 ∧ s = .int .i64 (k : Int) ∧ u = .int .i64 (-(n : Int)) ∧ Hid (natOf ((bytes t).take k) = n)) (fun s _ => (t.size - intOf s).toNat)
        case atStart => exact ⟨0, 0, by omega, by omega, rfl, rfl, rfl⟩
        case round =>
          obtain ⟨k, n, hk, hn, rfl, rfl, HN⟩ := hrel
          by_cases hkt : k = t.size
          · have q0 : decide ((k : Int) < (t.size : Int)) = false := decide_eq_false (by omega)
            have HE : Hid (natOf (bytes t) = n) := by
              show _ = _
              rw [← HN.out, List.take_of_length_le (by rw [← size_bytes]; omega)]
            go_wp2_with fail
            go_ret2
            have hv : sml z = (-(n : Int), true) := by rw [HV.out, HE.out]; unfold sml; rw [if_pos (by omega)]
            exact ⟨ret_ib (by rw [hv]), HB.out⟩
          · have hkl : k < t.size := by omega
            have q0 : decide ((k : Int) < (t.size : Int)) = true := decide_eq_true (by omega)
            have hd := dig_at HD.out k hkl
            have hd1 := hd.1
            have hd2 := hd.2
            have HG := Lib.hid (natOf_take_succ (bytes t) k _ (get_bytes t k hkl))
            have hn2 : 10 * n + (t[k].toNat - 48) ≤ 9223372036854775808 := by
              rw [← HN.out, ← HG.out]
              exact Nat.le_trans (natOf_take_le _ _) HM.out
            clear hd
            go_wp2_with fail
            go_round
            case rel =>
              refine ⟨k + 1, 10 * n + (t[k].toNat - 48), by omega, hn2, by go_num, by congr 1; omega, ?_⟩
              show _ = _
              rw [HG.out, HN.out]
            case measure => simp [intOf]; omega
      · have q3 : Op.bytesLess t.toList [57, 50, 50, 51, 51, 55, 50, 48, 51, 54, 56, 53, 52, 55, 55, 53, 56, 48, 56] = false := HL.out.trans (decide_eq_false (by omega))
        have q4 : (t.toList == [57, 50, 50, 51, 51, 55, 50, 48, 51, 54, 56, 53, 52, 55, 55, 53, 56, 48, 56]) = false := HQ.out.trans (decide_eq_false (by omega))
        have HM : Hid (9223372036854775808 < natOf (bytes t)) := h
        clear HL HQ h
        go_enter Tryz.func21, Tryz.ntmps21
        go_wp2_with fail
        refine (H1.out _).mono ?_
        rintro e w1 ⟨rfl, hb1⟩
        have HB := Lib.hid hb1
        clear hb1
        go_wp2_with fail
        go_ret2
        have hv : sml z = (0, false) := by rw [HV.out]; unfold sml; rw [if_neg (by have := HM.out; omega)]
        exact ⟨ret_ib (by rw [hv]), HB.out⟩
    · have q2 : ((t.size : Int) == 19) = false := by simp; omega
      have HM : Hid (natOf (bytes t) ≤ 9223372036854775808) := by
        have h1 := natOf_lt (bytes t) HD.out
        have h2 : 10 ^ (bytes t).length ≤ 10 ^ 18 := Nat.pow_le_pow_right (by omega) (by rw [← size_bytes]; omega)
        show _ ≤ _
        omega
      clear he
      go_enter Tryz.func21, Tryz.ntmps21
      go_wp2_with fail
      refine (H1.out _).mono ?_
      rintro e w1 ⟨rfl, hb1⟩
      have HB := Lib.hid hb1
      clear hb1
      go_wp2_with fail
      go_loop [8, 7] (fun s u => ∃ (k n : Nat), k ≤ t.size ∧ n ≤ 9223372036854775808 ∧ s = .int .i64 (k : Int) ∧ u = .int .i64 (-(n : Int)) ∧ Hid (natOf ((bytes t).take k) = n)) (fun s _ => (t.size - intOf s).toNat)
      case atStart => exact ⟨0, 0, by omega, by omega, rfl, rfl, rfl⟩
      case round =>
        obtain ⟨k, n, hk, hn, rfl, rfl, HN⟩ := hrel
        by_cases hkt : k = t.size
        · have q0 : decide ((k : Int) < (t.size : Int)) = false := decide_eq_false (by omega)
          have HE : Hid (natOf (bytes t) = n) := by
            show _ = _
            rw [← HN.out, List.take_of_length_le (by rw [← size_bytes]; omega)]
          go_wp2_with fail
          go_ret2
          have hv : sml z = (-(n : Int), true) := by rw [HV.out, HE.out]; unfold sml; rw [if_pos (by omega)]
          exact ⟨ret_ib (by rw [hv]), HB.out⟩
        · have hkl : k < t.size := by omega
          have q0 : decide ((k : Int) < (t.size : Int)) = true := decide_eq_true (by omega)
          have hd := dig_at HD.out k hkl
          have hd1 := hd.1
          have hd2 := hd.2
          have HG := Lib.hid (natOf_take_succ (bytes t) k _ (get_bytes t k hkl))
          have hn2 : 10 * n + (t[k].toNat - 48) ≤ 9223372036854775808 := by
            rw [← HN.out, ← HG.out]
            exact Nat.le_trans (natOf_take_le _ _) HM.out
          clear hd
          go_wp2_with fail
          go_round
          case rel =>
            refine ⟨k + 1, 10 * n + (t[k].toNat - 48), by omega, hn2, by go_num, by congr 1; omega, ?_⟩
            show _ = _
            rw [HG.out, HN.out]
          case measure => simp [intOf]; omega
set_option maxHeartbeats 2000000 in
set_option maxRecDepth 100000 in
theorem rsmall_false (a t : ByteArray) (z : Int) (w : World) (hts : t.size ≤ 4611686018427387904) (H1 : Hid (∀ w, Calls Tryz.prog 71 #[.string a] w fun e w' => e = .returned (.tuple #[.string t, .bool false]) ∧ Below w.heap.size w w'))
    (HD : Hid (∀ d ∈ bytes t, isDig d = true)) (HH : Hid (∀ d, (bytes t).head? = some d → d ≠ 48)) (HV : Hid (z = (natOf (bytes t) : Int))) :
    Calls Tryz.prog 21 #[.string a] w fun e w' => e = .returned (.tuple #[.int .i64 (sml z).1, .bool (sml z).2]) ∧ Below w.heap.size w w' := by
  by_cases h19 : 19 < t.size
  · have q1 : decide ((19 : Int) < (t.size : Int)) = true := decide_eq_true (by omega)
    have HM : Hid (9223372036854775807 < natOf (bytes t)) := by
      have := natOf_big HH.out HD.out (k := 19) (by rw [← size_bytes]; exact h19)
      show _ < _
      omega
    clear h19
    go_enter Tryz.func21, Tryz.ntmps21
    go_wp2_with fail
    refine (H1.out _).mono ?_
    rintro e w1 ⟨rfl, hb1⟩
    have HB := Lib.hid hb1
    clear hb1
    go_wp2_with fail
    go_ret2
    have hv : sml z = (0, false) := by rw [HV.out]; unfold sml; rw [if_neg (by have := HM.out; omega)]
    exact ⟨ret_ib (by rw [hv]), HB.out⟩
  · have q1 : decide ((19 : Int) < (t.size : Int)) = false := decide_eq_false (by omega)
    by_cases he : t.size = 19
    · have q2 : ((t.size : Int) == 19) = true := by simp; omega
      have HL := Lib.hid (less_S (s := t) (t := ⟨#[57, 50, 50, 51, 51, 55, 50, 48, 51, 54, 56, 53, 52, 55, 55, 53, 56, 48, 55]⟩) he HD.out (by decide))
      have HQ := Lib.hid (eq_S (s := t) (t := ⟨#[57, 50, 50, 51, 51, 55, 50, 48, 51, 54, 56, 53, 52, 55, 55, 53, 56, 48, 55]⟩) he HD.out (by decide))
      have e0 : natOf (bytes ⟨#[57, 50, 50, 51, 51, 55, 50, 48, 51, 54, 56, 53, 52, 55, 55, 53, 56, 48, 55]⟩) = 9223372036854775807 := by decide
      have el : (⟨#[57, 50, 50, 51, 51, 55, 50, 48, 51, 54, 56, 53, 52, 55, 55, 53, 56, 48, 55]⟩ : ByteArray).toList = [57, 50, 50, 51, 51, 55, 50, 48, 51, 54, 56, 53, 52, 55, 55, 53, 56, 48, 55] := by rw [ByteArray.toList_eq]
      rw [e0, el] at HL HQ
      clear e0 el he
      rcases Nat.lt_trichotomy (natOf (bytes t)) 9223372036854775807 with h | h | h
      · have q3 : Op.bytesLess t.toList [57, 50, 50, 51, 51, 55, 50, 48, 51, 54, 56, 53, 52, 55, 55, 53, 56, 48, 55] = true := HL.out.trans (decide_eq_true h)
        have HM : Hid (natOf (bytes t) ≤ 9223372036854775807) := Nat.le_of_lt h
        clear HL HQ h
        go_enter Tryz.func21, Tryz.ntmps21
        go_wp2_with fail
        refine (H1.out _).mono ?_
        rintro e w1 ⟨rfl, hb1⟩
        have HB := Lib.hid hb1
        clear hb1
        go_wp2_with fail
        go_loop [8, 7] (fun s u => ∃ (k n : Nat), k ≤ t.size ∧ n ≤ 9223372036854775807 ∧ s = .int .i64 (k : Int) ∧ u = .int .i64 (-(n : Int)) ∧ Hid (natOf ((bytes t).take k) = n)) (fun s _ => (t.size - intOf s).toNat)
        case atStart => exact ⟨0, 0, by omega, by omega, rfl, rfl, rfl⟩
        case round =>
          obtain ⟨k, n, hk, hn, rfl, rfl, HN⟩ := hrel
          by_cases hkt : k = t.size
          · have q0 : decide ((k : Int) < (t.size : Int)) = false := decide_eq_false (by omega)
            have HE : Hid (natOf (bytes t) = n) := by
              show _ = _
              rw [← HN.out, List.take_of_length_le (by rw [← size_bytes]; omega)]
            go_wp2_with fail
            go_ret2
            have hv : sml z = ((n : Int), true) := by rw [HV.out, HE.out]; unfold sml; rw [if_pos (by omega)]
            exact ⟨ret_ib (by rw [hv]), HB.out⟩
          · have hkl : k < t.size := by omega
            have q0 : decide ((k : Int) < (t.size : Int)) = true := decide_eq_true (by omega)
            have hd := dig_at HD.out k hkl
            have hd1 := hd.1
            have hd2 := hd.2
            have HG := Lib.hid (natOf_take_succ (bytes t) k _ (get_bytes t k hkl))
            have hn2 : 10 * n + (t[k].toNat - 48) ≤ 9223372036854775807 := by
              rw [← HN.out, ← HG.out]
              exact Nat.le_trans (natOf_take_le _ _) HM.out
            clear hd
            go_wp2_with fail
            go_round
            case rel =>
              refine ⟨k + 1, 10 * n + (t[k].toNat - 48), by omega, hn2, by go_num, by congr 1; omega, ?_⟩
              show _ = _
              rw [HG.out, HN.out]
            case measure => simp [intOf]; omega
      · have q3 : Op.bytesLess t.toList [57, 50, 50, 51, 51, 55, 50, 48, 51, 54, 56, 53, 52, 55, 55, 53, 56, 48, 55] = false := HL.out.trans (decide_eq_false (by omega))
        have q4 : (t.toList == [57, 50, 50, 51, 51, 55, 50, 48, 51, 54, 56, 53, 52, 55, 55, 53, 56, 48, 55]) = true := HQ.out.trans (decide_eq_true h)
        have HM : Hid (natOf (bytes t) ≤ 9223372036854775807) := Nat.le_of_eq h
        clear HL HQ h
        go_enter Tryz.func21, Tryz.ntmps21
        go_wp2_with fail
        refine (H1.out _).mono ?_
        rintro e w1 ⟨rfl, hb1⟩
        have HB := Lib.hid hb1
        clear hb1
        go_wp2_with fail
        go_loop [8, 7] (fun s u => ∃ (k n : Nat), k ≤ t.size ∧ n ≤ 9223372036854775807 ∧ s = .int .i64 (k : Int) ∧ u = .int .i64 (-(n : Int)) ∧ Hid (natOf ((bytes t).take k) = n)) (fun s _ => (t.size - intOf s).toNat)
        case atStart => exact ⟨0, 0, by omega, by omega, rfl, rfl, rfl⟩
        case round =>
          obtain ⟨k, n, hk, hn, rfl, rfl, HN⟩ := hrel
          by_cases hkt : k = t.size
          · have q0 : decide ((k : Int) < (t.size : Int)) = false := decide_eq_false (by omega)
            have HE : Hid (natOf (bytes t) = n) := by
              show _ = _
              rw [← HN.out, List.take_of_length_le (by rw [← size_bytes]; omega)]
            go_wp2_with fail
            go_ret2
            have hv : sml z = ((n : Int), true) := by rw [HV.out, HE.out]; unfold sml; rw [if_pos (by omega)]
            exact ⟨ret_ib (by rw [hv]), HB.out⟩
          · have hkl : k < t.size := by omega
            have q0 : decide ((k : Int) < (t.size : Int)) = true := decide_eq_true (by omega)
            have hd := dig_at HD.out k hkl
            have hd1 := hd.1
            have hd2 := hd.2
            have HG := Lib.hid (natOf_take_succ (bytes t) k _ (get_bytes t k hkl))
            have hn2 : 10 * n + (t[k].toNat - 48) ≤ 9223372036854775807 := by
              rw [← HN.out, ← HG.out]
              exact Nat.le_trans (natOf_take_le _ _) HM.out
            clear hd
            go_wp2_with fail
            go_round
            case rel =>
              refine ⟨k + 1, 10 * n + (t[k].toNat - 48), by omega, hn2, by go_num, by congr 1; omega, ?_⟩
              show _ = _
              rw [HG.out, HN.out]
            case measure => simp [intOf]; omega
      · have q3 : Op.bytesLess t.toList [57, 50, 50, 51, 51, 55, 50, 48, 51, 54, 56, 53, 52, 55, 55, 53, 56, 48, 55] = false := HL.out.trans (decide_eq_false (by omega))
        have q4 : (t.toList == [57, 50, 50, 51, 51, 55, 50, 48, 51, 54, 56, 53, 52, 55, 55, 53, 56, 48, 55]) = false := HQ.out.trans (decide_eq_false (by omega))
        have HM : Hid (9223372036854775807 < natOf (bytes t)) := h
        clear HL HQ h
        go_enter Tryz.func21, Tryz.ntmps21
        go_wp2_with fail
        refine (H1.out _).mono ?_
        rintro e w1 ⟨rfl, hb1⟩
        have HB := Lib.hid hb1
        clear hb1
        go_wp2_with fail
        go_ret2
        have hv : sml z = (0, false) := by rw [HV.out]; unfold sml; rw [if_neg (by have := HM.out; omega)]
        exact ⟨ret_ib (by rw [hv]), HB.out⟩
    · have q2 : ((t.size : Int) == 19) = false := by simp; omega
      have HM : Hid (natOf (bytes t) ≤ 9223372036854775807) := by
        have h1 := natOf_lt (bytes t) HD.out
        have h2 : 10 ^ (bytes t).length ≤ 10 ^ 18 := Nat.pow_le_pow_right (by omega) (by rw [← size_bytes]; omega)
        show _ ≤ _
        omega
      clear he
      go_enter Tryz.func21, Tryz.ntmps21
      go_wp2_with fail
      refine (H1.out _).mono ?_
      rintro e w1 ⟨rfl, hb1⟩
      have HB := Lib.hid hb1
      clear hb1
      go_wp2_with fail
      go_loop [8, 7] (fun s u => ∃ (k n : Nat), k ≤ t.size ∧ n ≤ 9223372036854775807 ∧ s = .int .i64 (k : Int) ∧ u = .int .i64 (-(n : Int)) ∧ Hid (natOf ((bytes t).take k) = n)) (fun s _ => (t.size - intOf s).toNat)
      case atStart => exact ⟨0, 0, by omega, by omega, rfl, rfl, rfl⟩
      case round =>
        obtain ⟨k, n, hk, hn, rfl, rfl, HN⟩ := hrel
        by_cases hkt : k = t.size
        · have q0 : decide ((k : Int) < (t.size : Int)) = false := decide_eq_false (by omega)
          have HE : Hid (natOf (bytes t) = n) := by
            show _ = _
            rw [← HN.out, List.take_of_length_le (by rw [← size_bytes]; omega)]
          go_wp2_with fail
          go_ret2
          have hv : sml z = ((n : Int), true) := by rw [HV.out, HE.out]; unfold sml; rw [if_pos (by omega)]
          exact ⟨ret_ib (by rw [hv]), HB.out⟩
        · have hkl : k < t.size := by omega
          have q0 : decide ((k : Int) < (t.size : Int)) = true := decide_eq_true (by omega)
          have hd := dig_at HD.out k hkl
          have hd1 := hd.1
          have hd2 := hd.2
          have HG := Lib.hid (natOf_take_succ (bytes t) k _ (get_bytes t k hkl))
          have hn2 : 10 * n + (t[k].toNat - 48) ≤ 9223372036854775807 := by
            rw [← HN.out, ← HG.out]
            exact Nat.le_trans (natOf_take_le _ _) HM.out
          clear hd
          go_wp2_with fail
          go_round
          case rel =>
            refine ⟨k + 1, 10 * n + (t[k].toNat - 48), by omega, hn2, by go_num, by congr 1; omega, ?_⟩
            show _ = _
            rw [HG.out, HN.out]
          case measure => simp [intOf]; omega
theorem rsmall_any (a : ByteArray) (w : World) (ha : a.size ≤ 4611686018427387904) :
    Calls Tryz.prog 21 #[.string a] w fun e w' => e = .returned (.tuple #[.int .i64 (sml (valS a)).1, .bool (sml (valS a)).2]) ∧ Below w.heap.size w w' := by
  have h1 : (str (digs (bytes a))).size ≤ 4611686018427387904 := by have := digs_len (bytes a); rw [size_str]; rw [← size_bytes] at this; omega
  have HD : ∀ d ∈ bytes (str (digs (bytes a))), isDig d = true := by rw [bytes_str]; exact digs_dig _
  have HH : ∀ d, (bytes (str (digs (bytes a)))).head? = some d → d ≠ 48 := by rw [bytes_str]; exact digs_head _
  have H1 := fun w => rdigits_any a w (by omega)
  cases hn : negB (bytes a) with
  | true =>
    rw [hn] at H1
    exact rsmall_true a _ _ w h1 H1 HD HH (by show _ = _; rw [valS_eq, hn, bytes_str]; rfl)
  | false =>
    rw [hn] at H1
    exact rsmall_false a _ _ w h1 H1 HD HH (by show _ = _; rw [valS_eq, hn, bytes_str]; rfl)
end Go.Proofs.YtpoppdkkidhfbaaGreatDoor
