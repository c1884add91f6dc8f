/- Integer, the reference: contracts of short, Of, Small, Neg, Check and Compare. Conditions: sizes below 2^40. -/
import Derived.Test.YtonopbelbehheaaGreatDoorRefB
namespace Go.Proofs.YtonopbelbehheaaGreatDoor
open Go.RowKit Go.Shelf Dec

theorem natOf_take_succ (l : Bytes) (k : Nat) (d : UInt8) (h : l[k]? = some d) : natOf (l.take (k + 1)) = 10 * natOf (l.take k) + (d.toNat - 48) := by
  rw [List.take_add_one, h]
  simp only [Option.toList_some]
  rw [natOf_append, natOf_one]
  simp
  omega
theorem dig_at {t : ByteArray} (h : ∀ d ∈ bytes t, isDig d = true) (k : Nat) (hk : k < t.size) : 48 ≤ t[k].toNat ∧ t[k].toNat ≤ 57 := by
  have := h t[k] (List.mem_of_getElem? (get_bytes t k hk))
  unfold isDig at this
  exact of_decide_eq_true this
theorem natOf_take_lt {l : Bytes} (h : ∀ d ∈ l, isDig d = true) {k m : Nat} (hm : k ≤ m) : natOf (l.take k) < 10 ^ m := by
  have h1 := natOf_lt (l.take k) (fun d hd => h d (List.mem_of_mem_take hd))
  have h2 : 10 ^ (l.take k).length ≤ 10 ^ m := Nat.pow_le_pow_right (by omega) (by rw [List.length_take]; omega)
  omega
/-- what short hands back -/
def shortR (a : ByteArray) : Int × Bool := if (digs (bytes a)).length ≤ 17 then (valS a, true) else (0, false)
theorem ret_ib {m n : Int} {a b : Bool} (h : (m, a) = (n, b)) : Ending.returned (.tuple #[.int .i64 m, .bool a]) = .returned (.tuple #[.int .i64 n, .bool b]) := by injection h with h1 h2; rw [h1, h2]
theorem valS_eq (a : ByteArray) : valS a = if negB (bytes a) then -(natOf (digs (bytes a)) : Int) else natOf (digs (bytes a)) := rfl

set_option maxHeartbeats 1000000 in
theorem rshort_any (a : ByteArray) (w : World) (ha : a.size ≤ 4611686018427387904) :
    Calls Tryz.prog 75 #[.string a] w fun e w' => e = .returned (.tuple #[.int .i64 (shortR a).1, .bool (shortR a).2]) ∧ Below w.heap.size w w' := by
  obtain ⟨t, ht⟩ : ∃ t, str (digs (bytes a)) = t := ⟨_, rfl⟩
  have HT : Hid (bytes t = digs (bytes a)) := by show _ = _; rw [← ht, bytes_str]
  have hts : t.size ≤ a.size := by rw [← ht, size_str, size_bytes a]; exact digs_len _
  have H1 : Hid (∀ w, Calls Tryz.prog 82 #[.string a] w fun e w' => e = .returned (.tuple #[.string t, .bool (negB (bytes a))]) ∧ Below w.heap.size w w') := by
    intro w; rw [← ht]; exact rdigits_any a w (by omega)
  have HD : Hid (∀ d ∈ bytes t, isDig d = true) := by show ∀ d ∈ bytes t, _; rw [HT.out]; exact digs_dig _
  have HV : Hid (valS a = if negB (bytes a) then -(natOf (bytes t) : Int) else natOf (bytes t)) := by show _ = _; rw [HT.out]; rfl
  have HS : Hid (shortR a = if t.size ≤ 17 then (valS a, true) else (0, false)) := by show _ = _; unfold shortR; rw [size_bytes t, HT.out]
  generalize negB (bytes a) = ng at *
  clear ht HT
  by_cases hl : t.size ≤ 17
  · have q : decide ((17 : Int) < (t.size : Int)) = false := decide_eq_false (by omega)
    go_enter Tryz.func75, Tryz.ntmps75
    go_wp2_with fail
    refine (H1.out _).mono ?_
    rintro e w1 ⟨rfl, hb1⟩
    have HB := Lib.hid hb1
    clear hb1 q
    go_wp2_with fail
    go_loop [7, 6] (fun s u => ∃ (k n : Nat), k ≤ t.size ∧ n < 100000000000000000 ∧ s = .int .i64 (k : Int) ∧ u = .int .i64 (n : Int) ∧ Hid (natOf ((bytes t).take k) = n)) (fun s _ => (t.size - intOf s).toNat)
    case atStart => exact ⟨0, 0, by omega, by omega, rfl, rfl, rfl⟩
    case round =>
      obtain ⟨k, n, hk, hn, rfl, rfl, HN⟩ := hrel
      by_cases hkt : k = t.size
      · have q0 : decide ((k : Int) < (t.size : Int)) = false := decide_eq_false (by omega)
        have HE : Hid (natOf (bytes t) = n) := by
          show _ = _
          rw [← HN.out, List.take_of_length_le (by rw [← size_bytes]; omega)]
        cases ng with
        | true =>
          go_wp2_with fail
          go_ret2
          exact ⟨ret_ib (by rw [HS.out, if_pos hl, HV.out, HE.out]; rfl), HB.out⟩
        | false =>
          go_wp2_with fail
          go_ret2
          exact ⟨ret_ib (by rw [HS.out, if_pos hl, HV.out, HE.out]; rfl), HB.out⟩
      · have hkl : k < t.size := by omega
        have q0 : decide ((k : Int) < (t.size : Int)) = true := decide_eq_true (by omega)
        have hd := dig_at HD.out k hkl
        have hd1 := hd.1
        have hd2 := hd.2
        have HG := Lib.hid (natOf_take_succ (bytes t) k _ (get_bytes t k hkl))
        have hn2 : 10 * n + (t[k].toNat - 48) < 100000000000000000 := by
          rw [← HN.out, ← HG.out]
          exact natOf_take_lt (k := k + 1) (m := 17) HD.out (by omega)
        clear hd
        go_wp2_with fail
        go_round
        case rel =>
          refine ⟨k + 1, 10 * n + (t[k].toNat - 48), by omega, hn2, by go_num, by congr 1; omega, ?_⟩
          show _ = _
          rw [HG.out, HN.out]
        case measure => simp [intOf]; omega
  · have q : decide ((17 : Int) < (t.size : Int)) = true := decide_eq_true (by omega)
    go_enter Tryz.func75, Tryz.ntmps75
    go_wp2_with fail
    refine (H1.out _).mono ?_
    rintro e w1 ⟨rfl, hb1⟩
    have HB := Lib.hid hb1
    clear hb1
    go_wp2_with fail
    go_ret2
    exact ⟨ret_ib (by rw [HS.out, if_neg hl]), HB.out⟩
end Go.Proofs.YtonopbelbehheaaGreatDoor
