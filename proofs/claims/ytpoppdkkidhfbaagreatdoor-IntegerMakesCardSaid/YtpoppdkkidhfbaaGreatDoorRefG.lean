/- Integer, the reference: contracts of Neg, Check and Compare. Conditions: sizes below 2^62. -/
import Derived.Test.YtpoppdkkidhfbaaGreatDoorRefF
namespace Go.Proofs.YtpoppdkkidhfbaaGreatDoor
open Go.RowKit Go.Shelf Dec

theorem cmp_lt {x y : Int} (h : x < y) : cmpI x y = -1 := by unfold cmpI; rw [if_pos h]
theorem cmp_gt {x y : Int} (h : y < x) : cmpI x y = 1 := by unfold cmpI; rw [if_neg (by omega), if_neg (by omega)]
theorem cmp_eq {x y : Int} (h : x = y) : cmpI x y = 0 := by unfold cmpI; rw [if_neg (by omega), if_pos h]
theorem natOf_len_lt {s t : Bytes} (hs : ∀ d ∈ s, isDig d = true) (ht : ∀ d ∈ t, isDig d = true) (h0 : ∀ d, t.head? = some d → d ≠ 48) (h : s.length < t.length) : natOf s < natOf t := by
  have h1 := natOf_lt s hs
  have h2 := natOf_big h0 ht (k := t.length - 1) (by omega)
  have h3 : 10 ^ s.length ≤ 10 ^ (t.length - 1) := Nat.pow_le_pow_right (by omega) (by omega)
  omega
theorem natOf_pos {s : Bytes} (hs : ∀ d ∈ s, isDig d = true) (h0 : ∀ d, s.head? = some d → d ≠ 48) (h : s ≠ []) : 0 < natOf s := by
  cases s with
  | nil => exact absurd rfl h
  | cons d s =>
    have := natOf_big h0 hs (k := 0) (by simp)
    omega

set_option maxHeartbeats 1000000 in
theorem rneg_any (a : ByteArray) (w : World) (ha : a.size ≤ 4611686018427387904) :
    Calls Tryz.prog 29 #[.string a] w fun e w' => e = .returned (.string (canS (-(valS a)))) ∧ Below w.heap.size w w' := by
  have H1 := Lib.hid (fun w => rdigits_any a w (by omega))
  have hl : (str (digs (bytes a))).size ≤ a.size := by rw [size_str, size_bytes a]; exact digs_len _
  have HC := Lib.hid (str_cons 45 (digs (bytes a)))
  cases hn : negB (bytes a) with
  | true =>
    have HE : Hid (canS (-(valS a)) = str (digs (bytes a))) := by
      show _ = _
      rw [valS_eq, hn, if_pos rfl, Int.neg_neg]
      unfold canS canon
      rw [if_neg (by omega), Int.natAbs_natCast, digs_dec]
    rw [hn] at H1
    generalize str (digs (bytes a)) = t at *
    clear hn
    go_enter Tryz.func29, Tryz.ntmps29
    go_wp2_with fail
    refine (H1.out _).mono ?_
    rintro e w1 ⟨rfl, hb1⟩
    go_wp2_with fail
    go_ret
    exact ⟨by rw [HE.out]; rfl, hb1⟩
  | false =>
    by_cases h0 : digs (bytes a) = []
    · have HE : Hid (canS (-(valS a)) = ⟨#[]⟩) := by
        show _ = _
        rw [valS_eq, hn, h0]
        rfl
      rw [hn, h0] at H1
      have H2 : Hid (∀ w, Calls Tryz.prog 71 #[.string a] w fun e w' => e = .returned (.tuple #[.string ⟨#[]⟩, .bool false]) ∧ Below w.heap.size w w') := H1.out
      clear hn h0 HC hl H1
      go_enter Tryz.func29, Tryz.ntmps29
      go_wp2_with fail
      refine (H2.out _).mono ?_
      rintro e w1 ⟨rfl, hb1⟩
      go_wp2_with fail
      go_ret
      exact ⟨by rw [HE.out]; rfl, hb1⟩
    · have HE : Hid (canS (-(valS a)) = str (45 :: digs (bytes a))) := by
        show _ = _
        have := natOf_pos (digs_dig _) (digs_head _) h0
        rw [valS_eq, hn, if_neg (by decide)]
        unfold canS canon
        rw [if_pos (by omega), Int.natAbs_neg, Int.natAbs_natCast, digs_dec]
      have q : (str (digs (bytes a))).toList.isEmpty = false := by
        rw [isEmpty_bytes, bytes_str]
        cases hh : digs (bytes a) with
        | nil => exact absurd hh h0
        | cons _ _ => rfl
      rw [hn] at H1
      generalize str (digs (bytes a)) = t at *
      clear hn h0
      go_enter Tryz.func29, Tryz.ntmps29
      go_wp2_with fail
      refine (H1.out _).mono ?_
      rintro e w1 ⟨rfl, hb1⟩
      go_wp2_with fail
      go_ret
      exact ⟨by rw [HE.out, ← HC.out]; rfl, hb1⟩

set_option maxHeartbeats 1000000 in
theorem rcheck_any (a : ByteArray) (w : World) (ha : a.size ≤ 4611686018427387904) :
    Calls Tryz.prog 23 #[.string a] w fun e w' => e = .returned (.int .i64 (chk a)) ∧ Below w.heap.size w w' := by
  have H1 := Lib.hid (fun w => rcanonical_any a w ha)
  generalize hc : canS (valS a) = t at H1
  by_cases h : a = t
  · have HE : Hid (chk a = 0) := by show _ = _; unfold chk; rw [hc, if_pos h]
    have q : (t.toList == a.toList) = true := by rw [toList_beq, decide_eq_true h.symm]
    clear hc h
    go_enter Tryz.func23, Tryz.ntmps23
    go_wp2_with fail
    refine (H1.out _).mono ?_
    rintro e w1 ⟨rfl, hb1⟩
    go_wp2_with fail
    go_ret
    exact ⟨ret_int (by rw [HE.out]), hb1⟩
  · have HE : Hid (chk a = 1) := by show _ = _; unfold chk; rw [hc, if_neg h]
    have q : (t.toList == a.toList) = false := by rw [toList_beq, decide_eq_false (fun e => h e.symm)]
    clear hc h
    go_enter Tryz.func23, Tryz.ntmps23
    go_wp2_with fail
    refine (H1.out _).mono ?_
    rintro e w1 ⟨rfl, hb1⟩
    go_wp2_with fail
    go_ret
    exact ⟨ret_int (by rw [HE.out]), hb1⟩

set_option maxHeartbeats 1000000 in
theorem rcmp_true_true (a b t u : ByteArray) (y z : Int) (w : World) (_hts : t.size ≤ 4611686018427387904) (_hus : u.size ≤ 4611686018427387904)
    (H1 : Hid (∀ w, Calls Tryz.prog 71 #[.string a] w fun e w' => e = .returned (.tuple #[.string t, .bool true]) ∧ Below w.heap.size w w'))
    (H2 : Hid (∀ w, Calls Tryz.prog 71 #[.string b] w fun e w' => e = .returned (.tuple #[.string u, .bool true]) ∧ Below w.heap.size w w'))
    (HD : Hid (∀ d ∈ bytes t, isDig d = true)) (HH : Hid (∀ d, (bytes t).head? = some d → d ≠ 48)) (HD' : Hid (∀ d ∈ bytes u, isDig d = true)) (HH' : Hid (∀ d, (bytes u).head? = some d → d ≠ 48)) (HV : Hid (y = -(natOf (bytes t) : Int))) (HV' : Hid (z = -(natOf (bytes u) : Int)))
    (_HY : Hid (y < 0)) (_HZ : Hid (z < 0)) :
    Calls Tryz.prog 39 #[.string a, .string b] w fun e w' => e = .returned (.int .i64 (cmpI y z)) ∧ Below w.heap.size w w' := by
  have HR0 : Hid ((natOf (bytes t) < natOf (bytes u) → cmpI y z = 1) ∧ (natOf (bytes u) < natOf (bytes t) → cmpI y z = -1) ∧ (natOf (bytes t) = natOf (bytes u) → cmpI y z = 0)) :=
    ⟨fun h => cmp_gt (by have h1 := HV.out; have h2 := HV'.out; omega), fun h => cmp_lt (by have h1 := HV.out; have h2 := HV'.out; omega), fun h => cmp_eq (by have h1 := HV.out; have h2 := HV'.out; omega)⟩
  by_cases hl : t.size = u.size
  · have q1 : ((t.size : Int) == (u.size : Int)) = true := by rw [hl]; simp
    have q1n : ((t.size : Int) != (u.size : Int)) = false := by rw [hl]; simp
    have HL := Lib.hid (less_S hl HD.out HD'.out)
    have HQ := Lib.hid (eq_S hl HD.out HD'.out)
    clear hl
    rcases Nat.lt_trichotomy (natOf (bytes t)) (natOf (bytes u)) with h | h | h
    · have HR := Lib.hid (HR0.out.1 h)
      have q3 : Op.bytesLess t.toList u.toList = true := HL.out.trans (decide_eq_true h)
      clear HL HQ h
      go_enter Tryz.func39, Tryz.ntmps39
      go_wp2_with fail
      refine (H1.out _).mono ?_
      rintro e w1 ⟨rfl, hb1⟩
      have HB1 := Lib.hid hb1
      clear hb1
      go_wp2_with fail
      refine (H2.out _).mono ?_
      rintro e w2 ⟨rfl, hb2⟩
      have HB2 := Lib.hid (HB1.out.trans (hb2.mono HB1.out.size))
      clear hb2
      go_wp2_with fail
      go_ret
      exact ⟨ret_int (by rw [HR.out]), HB2.out⟩
    · have HR := Lib.hid (HR0.out.2.2 h)
      have q3 : Op.bytesLess t.toList u.toList = false := HL.out.trans (decide_eq_false (by omega))
      have q4 : (t.toList == u.toList) = true := HQ.out.trans (decide_eq_true h)
      clear HL HQ h
      go_enter Tryz.func39, Tryz.ntmps39
      go_wp2_with fail
      refine (H1.out _).mono ?_
      rintro e w1 ⟨rfl, hb1⟩
      have HB1 := Lib.hid hb1
      clear hb1
      go_wp2_with fail
      refine (H2.out _).mono ?_
      rintro e w2 ⟨rfl, hb2⟩
      have HB2 := Lib.hid (HB1.out.trans (hb2.mono HB1.out.size))
      clear hb2
      go_wp2_with fail
      go_ret
      exact ⟨ret_int (by rw [HR.out]), HB2.out⟩
    · have HR := Lib.hid (HR0.out.2.1 h)
      have q3 : Op.bytesLess t.toList u.toList = false := HL.out.trans (decide_eq_false (by omega))
      have q4 : (t.toList == u.toList) = false := HQ.out.trans (decide_eq_false (by omega))
      clear HL HQ h
      go_enter Tryz.func39, Tryz.ntmps39
      go_wp2_with fail
      refine (H1.out _).mono ?_
      rintro e w1 ⟨rfl, hb1⟩
      have HB1 := Lib.hid hb1
      clear hb1
      go_wp2_with fail
      refine (H2.out _).mono ?_
      rintro e w2 ⟨rfl, hb2⟩
      have HB2 := Lib.hid (HB1.out.trans (hb2.mono HB1.out.size))
      clear hb2
      go_wp2_with fail
      go_ret
      exact ⟨ret_int (by rw [HR.out]), HB2.out⟩
  · have q1n : ((t.size : Int) != (u.size : Int)) = true := by simp; omega
    by_cases hlt : t.size < u.size
    · have q2 : decide ((t.size : Int) < (u.size : Int)) = true := decide_eq_true (by omega)
      have HR := Lib.hid (HR0.out.1 (natOf_len_lt HD.out HD'.out HH'.out (by rw [← size_bytes, ← size_bytes]; exact hlt)))
      go_enter Tryz.func39, Tryz.ntmps39
      go_wp2_with fail
      refine (H1.out _).mono ?_
      rintro e w1 ⟨rfl, hb1⟩
      have HB1 := Lib.hid hb1
      clear hb1
      go_wp2_with fail
      refine (H2.out _).mono ?_
      rintro e w2 ⟨rfl, hb2⟩
      have HB2 := Lib.hid (HB1.out.trans (hb2.mono HB1.out.size))
      clear hb2
      go_wp2_with fail
      go_ret
      exact ⟨ret_int (by rw [HR.out]), HB2.out⟩
    · have q2 : decide ((t.size : Int) < (u.size : Int)) = false := decide_eq_false (by omega)
      have HR := Lib.hid (HR0.out.2.1 (natOf_len_lt HD'.out HD.out HH.out (by rw [← size_bytes, ← size_bytes]; omega)))
      go_enter Tryz.func39, Tryz.ntmps39
      go_wp2_with fail
      refine (H1.out _).mono ?_
      rintro e w1 ⟨rfl, hb1⟩
      have HB1 := Lib.hid hb1
      clear hb1
      go_wp2_with fail
      refine (H2.out _).mono ?_
      rintro e w2 ⟨rfl, hb2⟩
      have HB2 := Lib.hid (HB1.out.trans (hb2.mono HB1.out.size))
      clear hb2
      go_wp2_with fail
      go_ret
      exact ⟨ret_int (by rw [HR.out]), HB2.out⟩
set_option maxHeartbeats 1000000 in
theorem rcmp_true_false (a b t u : ByteArray) (y z : Int) (w : World) (_hts : t.size ≤ 4611686018427387904) (_hus : u.size ≤ 4611686018427387904)
    (H1 : Hid (∀ w, Calls Tryz.prog 71 #[.string a] w fun e w' => e = .returned (.tuple #[.string t, .bool true]) ∧ Below w.heap.size w w'))
    (H2 : Hid (∀ w, Calls Tryz.prog 71 #[.string b] w fun e w' => e = .returned (.tuple #[.string u, .bool false]) ∧ Below w.heap.size w w'))
    (_HD : Hid (∀ d ∈ bytes t, isDig d = true)) (_HH : Hid (∀ d, (bytes t).head? = some d → d ≠ 48)) (_HD' : Hid (∀ d ∈ bytes u, isDig d = true)) (_HH' : Hid (∀ d, (bytes u).head? = some d → d ≠ 48)) (_HV : Hid (y = -(natOf (bytes t) : Int))) (_HV' : Hid (z = (natOf (bytes u) : Int)))
    (HY : Hid (y < 0)) (HZ : Hid (0 ≤ z)) :
    Calls Tryz.prog 39 #[.string a, .string b] w fun e w' => e = .returned (.int .i64 (cmpI y z)) ∧ Below w.heap.size w w' := by
  have HR : Hid (cmpI y z = -1) := cmp_lt (by have := HY.out; have := HZ.out; omega)
  go_enter Tryz.func39, Tryz.ntmps39
  go_wp2_with fail
  refine (H1.out _).mono ?_
  rintro e w1 ⟨rfl, hb1⟩
  have HB1 := Lib.hid hb1
  clear hb1
  go_wp2_with fail
  refine (H2.out _).mono ?_
  rintro e w2 ⟨rfl, hb2⟩
  have HB2 := Lib.hid (HB1.out.trans (hb2.mono HB1.out.size))
  clear hb2
  go_wp2_with fail
  go_ret
  exact ⟨ret_int (by rw [HR.out]), HB2.out⟩
set_option maxHeartbeats 1000000 in
theorem rcmp_false_true (a b t u : ByteArray) (y z : Int) (w : World) (_hts : t.size ≤ 4611686018427387904) (_hus : u.size ≤ 4611686018427387904)
    (H1 : Hid (∀ w, Calls Tryz.prog 71 #[.string a] w fun e w' => e = .returned (.tuple #[.string t, .bool false]) ∧ Below w.heap.size w w'))
    (H2 : Hid (∀ w, Calls Tryz.prog 71 #[.string b] w fun e w' => e = .returned (.tuple #[.string u, .bool true]) ∧ Below w.heap.size w w'))
    (_HD : Hid (∀ d ∈ bytes t, isDig d = true)) (_HH : Hid (∀ d, (bytes t).head? = some d → d ≠ 48)) (_HD' : Hid (∀ d ∈ bytes u, isDig d = true)) (_HH' : Hid (∀ d, (bytes u).head? = some d → d ≠ 48)) (_HV : Hid (y = (natOf (bytes t) : Int))) (_HV' : Hid (z = -(natOf (bytes u) : Int)))
    (HY : Hid (0 ≤ y)) (HZ : Hid (z < 0)) :
    Calls Tryz.prog 39 #[.string a, .string b] w fun e w' => e = .returned (.int .i64 (cmpI y z)) ∧ Below w.heap.size w w' := by
  have HR : Hid (cmpI y z = 1) := cmp_gt (by have := HY.out; have := HZ.out; omega)
  go_enter Tryz.func39, Tryz.ntmps39
  go_wp2_with fail
  refine (H1.out _).mono ?_
  rintro e w1 ⟨rfl, hb1⟩
  have HB1 := Lib.hid hb1
  clear hb1
  go_wp2_with fail
  refine (H2.out _).mono ?_
  rintro e w2 ⟨rfl, hb2⟩
  have HB2 := Lib.hid (HB1.out.trans (hb2.mono HB1.out.size))
  clear hb2
  go_wp2_with fail
  go_ret
  exact ⟨ret_int (by rw [HR.out]), HB2.out⟩
set_option maxHeartbeats 1000000 in
theorem rcmp_false_false (a b t u : ByteArray) (y z : Int) (w : World) (_hts : t.size ≤ 4611686018427387904) (_hus : u.size ≤ 4611686018427387904)
    (H1 : Hid (∀ w, Calls Tryz.prog 71 #[.string a] w fun e w' => e = .returned (.tuple #[.string t, .bool false]) ∧ Below w.heap.size w w'))
    (H2 : Hid (∀ w, Calls Tryz.prog 71 #[.string b] w fun e w' => e = .returned (.tuple #[.string u, .bool false]) ∧ Below w.heap.size w w'))
    (HD : Hid (∀ d ∈ bytes t, isDig d = true)) (HH : Hid (∀ d, (bytes t).head? = some d → d ≠ 48)) (HD' : Hid (∀ d ∈ bytes u, isDig d = true)) (HH' : Hid (∀ d, (bytes u).head? = some d → d ≠ 48)) (HV : Hid (y = (natOf (bytes t) : Int))) (HV' : Hid (z = (natOf (bytes u) : Int)))
    (_HY : Hid (0 ≤ y)) (_HZ : Hid (0 ≤ z)) :
    Calls Tryz.prog 39 #[.string a, .string b] w fun e w' => e = .returned (.int .i64 (cmpI y z)) ∧ Below w.heap.size w w' := by
  have HR0 : Hid ((natOf (bytes t) < natOf (bytes u) → cmpI y z = -1) ∧ (natOf (bytes u) < natOf (bytes t) → cmpI y z = 1) ∧ (natOf (bytes t) = natOf (bytes u) → cmpI y z = 0)) :=
    ⟨fun h => cmp_lt (by have h1 := HV.out; have h2 := HV'.out; omega), fun h => cmp_gt (by have h1 := HV.out; have h2 := HV'.out; omega), fun h => cmp_eq (by have h1 := HV.out; have h2 := HV'.out; omega)⟩
  by_cases hl : t.size = u.size
  · have q1 : ((t.size : Int) == (u.size : Int)) = true := by rw [hl]; simp
    have q1n : ((t.size : Int) != (u.size : Int)) = false := by rw [hl]; simp
    have HL := Lib.hid (less_S hl HD.out HD'.out)
    have HQ := Lib.hid (eq_S hl HD.out HD'.out)
    clear hl
    rcases Nat.lt_trichotomy (natOf (bytes t)) (natOf (bytes u)) with h | h | h
    · have HR := Lib.hid (HR0.out.1 h)
      have q3 : Op.bytesLess t.toList u.toList = true := HL.out.trans (decide_eq_true h)
      clear HL HQ h
      go_enter Tryz.func39, Tryz.ntmps39
      go_wp2_with fail
      refine (H1.out _).mono ?_
      rintro e w1 ⟨rfl, hb1⟩
      have HB1 := Lib.hid hb1
      clear hb1
      go_wp2_with fail
      refine (H2.out _).mono ?_
      rintro e w2 ⟨rfl, hb2⟩
      have HB2 := Lib.hid (HB1.out.trans (hb2.mono HB1.out.size))
      clear hb2
      go_wp2_with fail
      go_ret
      exact ⟨ret_int (by rw [HR.out]), HB2.out⟩
    · have HR := Lib.hid (HR0.out.2.2 h)
      have q3 : Op.bytesLess t.toList u.toList = false := HL.out.trans (decide_eq_false (by omega))
      have q4 : (t.toList == u.toList) = true := HQ.out.trans (decide_eq_true h)
      clear HL HQ h
      go_enter Tryz.func39, Tryz.ntmps39
      go_wp2_with fail
      refine (H1.out _).mono ?_
      rintro e w1 ⟨rfl, hb1⟩
      have HB1 := Lib.hid hb1
      clear hb1
      go_wp2_with fail
      refine (H2.out _).mono ?_
      rintro e w2 ⟨rfl, hb2⟩
      have HB2 := Lib.hid (HB1.out.trans (hb2.mono HB1.out.size))
      clear hb2
      go_wp2_with fail
      go_ret
      exact ⟨ret_int (by rw [HR.out]), HB2.out⟩
    · have HR := Lib.hid (HR0.out.2.1 h)
      have q3 : Op.bytesLess t.toList u.toList = false := HL.out.trans (decide_eq_false (by omega))
      have q4 : (t.toList == u.toList) = false := HQ.out.trans (decide_eq_false (by omega))
      clear HL HQ h
      go_enter Tryz.func39, Tryz.ntmps39
      go_wp2_with fail
      refine (H1.out _).mono ?_
      rintro e w1 ⟨rfl, hb1⟩
      have HB1 := Lib.hid hb1
      clear hb1
      go_wp2_with fail
      refine (H2.out _).mono ?_
      rintro e w2 ⟨rfl, hb2⟩
      have HB2 := Lib.hid (HB1.out.trans (hb2.mono HB1.out.size))
      clear hb2
      go_wp2_with fail
      go_ret
      exact ⟨ret_int (by rw [HR.out]), HB2.out⟩
  · have q1n : ((t.size : Int) != (u.size : Int)) = true := by simp; omega
    by_cases hlt : t.size < u.size
    · have q2 : decide ((t.size : Int) < (u.size : Int)) = true := decide_eq_true (by omega)
      have HR := Lib.hid (HR0.out.1 (natOf_len_lt HD.out HD'.out HH'.out (by rw [← size_bytes, ← size_bytes]; exact hlt)))
      go_enter Tryz.func39, Tryz.ntmps39
      go_wp2_with fail
      refine (H1.out _).mono ?_
      rintro e w1 ⟨rfl, hb1⟩
      have HB1 := Lib.hid hb1
      clear hb1
      go_wp2_with fail
      refine (H2.out _).mono ?_
      rintro e w2 ⟨rfl, hb2⟩
      have HB2 := Lib.hid (HB1.out.trans (hb2.mono HB1.out.size))
      clear hb2
      go_wp2_with fail
      go_ret
      exact ⟨ret_int (by rw [HR.out]), HB2.out⟩
    · have q2 : decide ((t.size : Int) < (u.size : Int)) = false := decide_eq_false (by omega)
      have HR := Lib.hid (HR0.out.2.1 (natOf_len_lt HD'.out HD.out HH.out (by rw [← size_bytes, ← size_bytes]; omega)))
      go_enter Tryz.func39, Tryz.ntmps39
      go_wp2_with fail
      refine (H1.out _).mono ?_
      rintro e w1 ⟨rfl, hb1⟩
      have HB1 := Lib.hid hb1
      clear hb1
      go_wp2_with fail
      refine (H2.out _).mono ?_
      rintro e w2 ⟨rfl, hb2⟩
      have HB2 := Lib.hid (HB1.out.trans (hb2.mono HB1.out.size))
      clear hb2
      go_wp2_with fail
      go_ret
      exact ⟨ret_int (by rw [HR.out]), HB2.out⟩
theorem rcompare_any (a b : ByteArray) (w : World) (ha : a.size ≤ 4611686018427387904) (hb : b.size ≤ 4611686018427387904) :
    Calls Tryz.prog 39 #[.string a, .string b] w fun e w' => e = .returned (.int .i64 (cmpI (valS a) (valS b))) ∧ Below w.heap.size w w' := by
  have sz : ∀ a : ByteArray, a.size ≤ 4611686018427387904 → (str (digs (bytes a))).size ≤ 4611686018427387904 := by intro a h; have := digs_len (bytes a); rw [size_str]; rw [← size_bytes] at this; omega
  have HD : ∀ a : ByteArray, ∀ d ∈ bytes (str (digs (bytes a))), isDig d = true := by intro a; rw [bytes_str]; exact digs_dig _
  have HH : ∀ a : ByteArray, ∀ d, (bytes (str (digs (bytes a)))).head? = some d → d ≠ 48 := by intro a; rw [bytes_str]; exact digs_head _
  have H1 := fun w => rdigits_any a w (by omega)
  have H2 := fun w => rdigits_any b w (by omega)
  have vt : ∀ a : ByteArray, negB (bytes a) = true → valS a = -(natOf (bytes (str (digs (bytes a)))) : Int) := by intro a h; rw [valS_eq, h, bytes_str]; rfl
  have vf : ∀ a : ByteArray, negB (bytes a) = false → valS a = (natOf (bytes (str (digs (bytes a)))) : Int) := by intro a h; rw [valS_eq, h, bytes_str]; rfl
  have nt : ∀ a : ByteArray, negB (bytes a) = true → valS a < 0 := fun a h => (val_neg _).2 h
  have nf : ∀ a : ByteArray, negB (bytes a) = false → 0 ≤ valS a := fun a h => by rw [vf a h]; omega
  cases hm : negB (bytes a) with
  | true =>
    rw [hm] at H1
    cases hn : negB (bytes b) with
    | true => rw [hn] at H2; exact rcmp_true_true a b _ _ _ _ w (sz a ha) (sz b hb) H1 H2 (HD a) (HH a) (HD b) (HH b) (vt a hm) (vt b hn) (nt a hm) (nt b hn)
    | false => rw [hn] at H2; exact rcmp_true_false a b _ _ _ _ w (sz a ha) (sz b hb) H1 H2 (HD a) (HH a) (HD b) (HH b) (vt a hm) (vf b hn) (nt a hm) (nf b hn)
  | false =>
    rw [hm] at H1
    cases hn : negB (bytes b) with
    | true => rw [hn] at H2; exact rcmp_false_true a b _ _ _ _ w (sz a ha) (sz b hb) H1 H2 (HD a) (HH a) (HD b) (HH b) (vf a hm) (vt b hn) (nf a hm) (nt b hn)
    | false => rw [hn] at H2; exact rcmp_false_false a b _ _ _ _ w (sz a ha) (sz b hb) H1 H2 (HD a) (HH a) (HD b) (HH b) (vf a hm) (vf b hn) (nf a hm) (nf b hn)
end Go.Proofs.YtpoppdkkidhfbaaGreatDoor
