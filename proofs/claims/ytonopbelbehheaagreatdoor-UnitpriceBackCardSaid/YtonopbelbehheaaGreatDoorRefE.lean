/- Integer, the reference: contracts of Of, Small, Neg, Check and Compare. Conditions: sizes below 2^40. -/
import Derived.Test.YtonopbelbehheaaGreatDoorRefD
namespace Go.Proofs.YtonopbelbehheaaGreatDoor
open Go.RowKit Go.Shelf Dec

theorem enc_dig (q : Nat) : Utf8.encode (48 + ((q % 10 : Nat) : Int)) = str [digB q] := by
  have h : q % 10 < 10 := Nat.mod_lt _ (by omega)
  unfold digB
  generalize q % 10 = r at *
  match r, h with
  | 0, _ => decide +kernel
  | 1, _ => decide +kernel
  | 2, _ => decide +kernel
  | 3, _ => decide +kernel
  | 4, _ => decide +kernel
  | 5, _ => decide +kernel
  | 6, _ => decide +kernel
  | 7, _ => decide +kernel
  | 8, _ => decide +kernel
  | 9, _ => decide +kernel
theorem str_app2 (a b : Bytes) : str a ++ str b = str (a ++ b) := by apply bytes_inj; rw [bytes_str]; simp [bytes, str]
theorem dec_more {N q : Nat} {ds : Bytes} (hq : q ≠ 0) (h : dec N = dec q ++ ds) : dec N = dec (q / 10) ++ (digB q :: ds) := by
  rw [h, dec_pos hq]
  simp
theorem ds_len {N q : Nat} {ds : Bytes} (hN : N ≤ 9223372036854775808) (h : dec N = dec q ++ ds) : ds.length ≤ 19 := by
  have h1 : (dec N).length ≤ 19 := dec_len.2 (by omega)
  rw [h, List.length_append] at h1
  omega

set_option maxRecDepth 100000 in
set_option maxHeartbeats 1000000 in
theorem rof_pos0 (f : Int → ByteArray) (hf : ∀ (n : Int) (u : World), (convert 21 9 (.int .i32 n)).run Tryz.prog u = .ok (.string (f n)) u) (hfd : Hid (∀ q : Nat, f (48 + ((q % 10 : Nat) : Int)) = str [digB q])) (n : Nat) (w : World) (h0 : 0 < n) (h1 : n ≤ 9223372036854775807) :
    Calls Tryz.prog 76 #[.int .i64 (n : Int)] w fun e w' => e = .returned (.string (str (dec n))) ∧ w' = w := by
  have q0 : ((n : Int) == 0) = false := by simp; omega
  have q1 : decide ((n : Int) < 0) = false := decide_eq_false (by omega)
  go_enter Tryz.func76, Tryz.ntmps76
  go_wp2_with fail
  go_loop [4, 3] (fun s u => ∃ (q : Nat) (t : ByteArray), q ≤ 9223372036854775807 ∧ t.size ≤ 19 ∧ s = .int .i64 (q : Int) ∧ u = .string t ∧ Hid (dec n = dec q ++ bytes t)) (fun s _ => (intOf s).toNat)
  case atStart => exact ⟨n, ⟨#[]⟩, h1, by decide, rfl, rfl, by show _ = _; simp [bytes]⟩
  case round =>
    obtain ⟨q, t, hq, ht, rfl, rfl, H⟩ := hrel
    by_cases hq0 : q = 0
    · subst hq0
      have HE : Hid (str (dec n) = t) := by show _ = _; rw [H.out, dec_zero, List.nil_append, str_bytes]
      go_wp2_with fail
      go_ret
      exact ⟨by rw [HE.out]; rfl, rfl⟩
    · have q2 : ((q : Int) == 0) = false := by simp; omega
      have q3 : decide (((q : Int) % 10) < 0) = false := decide_eq_false (by omega)
      have HX : Hid (f (48 + (q : Int) % 10) = str [digB q]) := by
        have := hfd.out q
        rwa [Int.natCast_emod] at this
      obtain ⟨x, hx⟩ : ∃ x, f (48 + (q : Int) % 10) = x := ⟨_, rfl⟩
      have HX2 : Hid (x = str [digB q]) := by show _ = _; rw [← hx, HX.out]
      have hxs : x.size = 1 := by rw [HX2.out, size_str]; rfl
      have HDM := Lib.hid (dec_more hq0 H.out)
      have HL := Lib.hid (ds_len (by omega) HDM.out)
      have HB : Hid (bytes (x ++ t) = digB q :: bytes t) := by
        show _ = _
        rw [HX2.out]
        conv => lhs; rw [← str_bytes t]
        rw [str_app2, bytes_str]
        rfl
      clear HX
      go_wp2_with fail
      go_round
      case rel =>
        refine ⟨q / 10, x ++ t, by omega, ?_, by go_num, rfl, ?_⟩
        · rw [size_bytes, HB.out]; exact HL.out
        · show _ = _
          rw [HB.out]; exact HDM.out
      case measure => simp [intOf]; omega

set_option maxRecDepth 100000 in
set_option maxHeartbeats 1000000 in
theorem rof_neg0 (f : Int → ByteArray) (hf : ∀ (n : Int) (u : World), (convert 21 9 (.int .i32 n)).run Tryz.prog u = .ok (.string (f n)) u) (hfd : Hid (∀ q : Nat, f (48 + ((q % 10 : Nat) : Int)) = str [digB q])) (n : Nat) (w : World) (h0 : 0 < n) (h1 : n ≤ 9223372036854775808) :
    Calls Tryz.prog 76 #[.int .i64 (-(n : Int))] w fun e w' => e = .returned (.string (str (45 :: dec n))) ∧ w' = w := by
  have q0 : ((-(n : Int)) == 0) = false := by simp; omega
  have q1 : decide ((-(n : Int)) < 0) = true := decide_eq_true (by omega)
  go_enter Tryz.func76, Tryz.ntmps76
  go_wp2_with fail
  go_loop [4, 3] (fun s u => ∃ (q : Nat) (t : ByteArray), q ≤ 9223372036854775808 ∧ t.size ≤ 19 ∧ s = .int .i64 (-(q : Int)) ∧ u = .string t ∧ Hid (dec n = dec q ++ bytes t)) (fun s _ => (-(intOf s)).toNat)
  case atStart => exact ⟨n, ⟨#[]⟩, h1, by decide, rfl, rfl, by show _ = _; simp [bytes]⟩
  case round =>
    obtain ⟨q, t, hq, ht, rfl, rfl, H⟩ := hrel
    by_cases hq0 : q = 0
    · subst hq0
      have HE : Hid (str (dec n) = t) := by show _ = _; rw [H.out, dec_zero, List.nil_append, str_bytes]
      have HC := Lib.hid (str_cons 45 (dec n))
      rw [HE.out] at HC
      go_wp2_with fail
      go_ret
      exact ⟨by rw [← HC.out]; rfl, rfl⟩
    · have q2 : ((-(q : Int)) == 0) = false := by simp; omega
      have hr : (-(q : Int)).tmod 10 = -((q % 10 : Nat) : Int) := by rw [Int.neg_tmod]; rfl
      have hd : (-(q : Int)).tdiv 10 = -((q / 10 : Nat) : Int) := by rw [Int.neg_tdiv]; rfl
      obtain ⟨x, hx⟩ : ∃ x, f (48 + ((q % 10 : Nat) : Int)) = x := ⟨_, rfl⟩
      have HX2 : Hid (x = str [digB q]) := by show _ = _; rw [← hx, hfd.out]
      have hxs : x.size = 1 := by rw [HX2.out, size_str]; rfl
      have HDM := Lib.hid (dec_more hq0 H.out)
      have HL := Lib.hid (ds_len (by omega) HDM.out)
      have HB : Hid (bytes (x ++ t) = digB q :: bytes t) := by
        show _ = _
        rw [HX2.out]
        conv => lhs; rw [← str_bytes t]
        rw [str_app2, bytes_str]
        rfl
      have hm : q % 10 < 10 := Nat.mod_lt _ (by omega)
      have hdv : q / 10 < q := by omega
      generalize hqm : q % 10 = r at *
      generalize hqd : q / 10 = p at *
      have HQD := Lib.hid hqd
      clear hqm hqd
      by_cases hr0 : r = 0
      · have q3 : decide (-(r : Int) < 0) = false := decide_eq_false (by omega)
        have hx0 : f (48 + -(r : Int)) = x := by rw [← hx, hr0]; rfl
        have hx1 : f (48 - (r : Int)) = x := by rw [← hx, hr0]; rfl
        have hx2 : f 48 = x := by rw [← hx, hr0]; rfl
        have hri : (r : Int) = 0 := by omega
        clear hx
        go_wp2_with fail
        go_round
        case rel =>
          refine ⟨p, x ++ t, by omega, ?_, rfl, rfl, ?_⟩
          · rw [size_bytes, HB.out]; exact HL.out
          · show _ = _
            rw [HB.out]; exact HDM.out
        case measure => simp [intOf]; omega
      · have q3 : decide (-(r : Int) < 0) = true := decide_eq_true (by omega)
        go_wp2_with fail
        go_round
        case rel =>
          refine ⟨p, x ++ t, by omega, ?_, rfl, rfl, ?_⟩
          · rw [size_bytes, HB.out]; exact HL.out
          · show _ = _
            rw [HB.out]; exact HDM.out
        case measure => simp [intOf]; omega
theorem run_rune (n : Int) (u : World) : (convert 21 9 (.int .i32 n)).run Tryz.prog u = .ok (.string (Utf8.encode n)) u := run_convert_int_string u _ _ _ _ (by kernel_rfl) (by kernel_rfl)
theorem rof_pos (n : Nat) (w : World) (h0 : 0 < n) (h1 : n ≤ 9223372036854775807) :
    Calls Tryz.prog 76 #[.int .i64 (n : Int)] w fun e w' => e = .returned (.string (str (dec n))) ∧ w' = w := rof_pos0 _ run_rune enc_dig n w h0 h1
theorem rof_neg (n : Nat) (w : World) (h0 : 0 < n) (h1 : n ≤ 9223372036854775808) :
    Calls Tryz.prog 76 #[.int .i64 (-(n : Int))] w fun e w' => e = .returned (.string (str (45 :: dec n))) ∧ w' = w := rof_neg0 _ run_rune enc_dig n w h0 h1
theorem rof_any (n : Int) (w : World) (h0 : -9223372036854775808 ≤ n) (h1 : n ≤ 9223372036854775807) :
    Calls Tryz.prog 76 #[.int .i64 n] w fun e w' => e = .returned (.string (canS n)) ∧ Below w.heap.size w w' := by
  rcases Int.lt_trichotomy n 0 with h | h | h
  · obtain ⟨m, rfl⟩ : ∃ m : Nat, n = -(m : Int) := ⟨n.natAbs, by omega⟩
    refine (rof_neg m w (by omega) (by omega)).mono ?_
    rintro e w' ⟨rfl, rfl⟩
    refine ⟨?_, Below.refl _ _⟩
    unfold canS canon
    rw [if_pos h, show (-(m : Int)).natAbs = m by omega]
  · subst h
    go_enter Tryz.func76, Tryz.ntmps76
    go_wp2_with fail
    go_ret
    exact ⟨rfl, Below.refl _ _⟩
  · obtain ⟨m, rfl⟩ : ∃ m : Nat, n = (m : Int) := ⟨n.natAbs, by omega⟩
    refine (rof_pos m w (by omega) (by omega)).mono ?_
    rintro e w' ⟨rfl, rfl⟩
    refine ⟨?_, Below.refl _ _⟩
    unfold canS canon
    rw [if_neg (by omega)]
    rfl
end Go.Proofs.YtonopbelbehheaaGreatDoor
