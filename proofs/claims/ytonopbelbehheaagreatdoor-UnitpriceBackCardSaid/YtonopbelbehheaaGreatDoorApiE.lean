/- Integer: contracts of Small and Of. Conditions: sizes below 2^46; the library's table and error lie as the program's text lays them. -/
import Derived.Test.YtonopbelbehheaaGreatDoorApiB
namespace Go.Proofs.YtonopbelbehheaaGreatDoor
open Go.RowKit Go.Shelf Dec

/-- digits without an overflow, or one -/
theorem parseM_or (m : Nat) : ∀ (l : Bytes) (n : Nat), (∀ d ∈ l, isDig d = true) → n ≤ m → m ≤ 18446744073709551615 →
    (n * 10 ^ l.length + natOf l ≤ m ∧ Lib.parseUintM m n l = .ok (n * 10 ^ l.length + natOf l)) ∨ (m < n * 10 ^ l.length + natOf l ∧ (m = 18446744073709551615 → Lib.parseUintM m n l = .range)) := by
  intro l
  induction l with
  | nil => intro n _ h _; left; simp [Lib.parseUintM, natOf]; exact h
  | cons d l ih =>
    intro n h hn hM
    have hd := h d List.mem_cons_self
    unfold isDig at hd
    simp at hd
    have hp : 1 ≤ 10 ^ l.length := Nat.pow_pos (by omega)
    have e : n * 10 ^ (d :: l).length + natOf (d :: l) = (n * 10 + (d.toNat - 48)) * 10 ^ l.length + natOf l := by
      rw [natOf_cons, List.length_cons, Nat.pow_succ, Nat.add_mul]; grind
    rw [e]
    have hlow : n * 10 + (d.toNat - 48) ≤ (n * 10 + (d.toNat - 48)) * 10 ^ l.length := Nat.le_mul_of_pos_right _ hp
    by_cases h1 : 1844674407370955162 ≤ n
    · right
      refine ⟨by omega, fun _ => ?_⟩
      rw [Lib.parseUintM, if_pos hd, if_pos h1]
    · by_cases h2 : m < n * 10 + (d.toNat - 48)
      · right
        refine ⟨by omega, fun _ => ?_⟩
        rw [Lib.parseUintM, if_pos hd, if_neg h1, if_pos h2]
      · rw [Lib.parseUintM, if_pos hd, if_neg h1, if_neg h2]
        exact ih _ (fun x hx => h x (List.mem_cons_of_mem _ hx)) (by omega) hM
/-- what ParseInt makes of the text of a value -/
theorem parse_prt (z : Int) : Lib.parseIntB 64 (prt z) = if -9223372036854775808 ≤ z ∧ z ≤ 9223372036854775807 then .ok z else .range := by
  have key : ∀ (l : Bytes), l ≠ [] → (∀ d ∈ l, isDig d = true) → (natOf l ≤ 18446744073709551615 ∧ Lib.parseUintB 64 l = .ok (natOf l)) ∨ (18446744073709551615 < natOf l ∧ Lib.parseUintB 64 l = .range) := by
    intro l h0 h
    unfold Lib.parseUintB
    rw [if_neg h0]
    have := parseM_or (2 ^ 64 - 1) l 0 h (by omega) (by omega)
    simp only [Nat.zero_mul, Nat.zero_add] at this
    rcases this with h | h
    · exact .inl h
    · exact .inr ⟨h.1, by first | exact h.2 rfl | exact h.2 trivial⟩
  unfold prt
  by_cases hz : z = 0
  · subst hz; rfl
  · rw [if_neg hz]
    unfold canon
    by_cases hneg : z < 0
    · rw [if_pos hneg]
      have hne : dec z.natAbs ≠ [] := fun e => by rw [dec_nil] at e; omega
      have hk := key (dec z.natAbs) hne (dec_dig _)
      rw [natOf_dec] at hk
      unfold Lib.parseIntB
      simp only [show (45 : UInt8).toNat = 45 from rfl]
      rw [if_pos (Or.inr trivial)]
      rcases hk with ⟨h1, h2⟩ | ⟨h1, h2⟩
      · rw [h2]
        simp only [not_true_eq_false, false_and, if_false, true_and, if_true]
        by_cases h3 : 2 ^ (64 - 1) < z.natAbs
        · rw [if_pos h3, if_neg (by omega)]
        · rw [if_neg h3, if_pos (by omega), show -(z.natAbs : Int) = z by omega]
      · rw [h2]
        rw [if_neg (by omega)]
    · rw [if_neg hneg]
      have hne : dec z.natAbs ≠ [] := fun e => by rw [dec_nil] at e; omega
      have hk := key (dec z.natAbs) hne (dec_dig _)
      rw [natOf_dec] at hk
      have hdg := dec_dig z.natAbs
      cases hd : dec z.natAbs with
      | nil => exact absurd hd hne
      | cons c r =>
        have hc := hdg c (by rw [hd]; exact List.mem_cons_self)
        unfold isDig at hc
        simp at hc
        rw [hd] at hk
        unfold Lib.parseIntB
        simp only [if_neg (show ¬ (c.toNat = 43 ∨ c.toNat = 45) by omega)]
        have hc45 : ¬ c.toNat = 45 := by omega
        rcases hk with ⟨h1, h2⟩ | ⟨h1, h2⟩
        · rw [h2]
          simp only [hc45, not_false_eq_true, true_and, false_and, if_false]
          by_cases h3 : 2 ^ (64 - 1) ≤ z.natAbs
          · rw [if_pos h3, if_neg (by omega)]
          · rw [if_neg h3, if_pos (by omega), show (z.natAbs : Int) = z by omega]
        · rw [h2]
          rw [if_neg (by omega)]

/-- what Small hands back -/
def sml (z : Int) : Int × Bool := if -9223372036854775808 ≤ z ∧ z ≤ 9223372036854775807 then (z, true) else (0, false)
theorem size_prt (a : ByteArray) : (str (prt (valS a))).size ≤ a.size + 1 := by
  unfold prt
  split
  · rw [size_str]; simp
  · exact size_canS_le a

set_option maxRecDepth 100000 in
set_option maxHeartbeats 2000000 in
theorem Small_any (a : ByteArray) (w : World) (ha : a.size ≤ 68719476736) (hg : Gl w) :
    Calls Tryz.prog 67 #[.string a] w fun e w' => e = .returned (.tuple #[.int .i64 (sml (valS a)).1, .bool (sml (valS a)).2]) ∧ Below w.heap.size w w' := by
  have Hg := Lib.hid hg
  clear hg
  have H1 := Lib.hid (fun w => print_any a w (by omega))
  have hsz := size_prt a
  by_cases h : -9223372036854775808 ≤ valS a ∧ valS a ≤ 9223372036854775807
  · have HE : Hid (sml (valS a) = (valS a, true)) := by show _ = _; unfold sml; rw [if_pos h]
    have HP : Hid (Lib.parseIntB 64 (str (prt (valS a))).data.toList = .ok (valS a)) := by show _ = _; have := parse_prt (valS a); rw [if_pos h] at this; exact this
    have h1 := h.1
    have h2 := h.2
    clear h
    generalize str (prt (valS a)) = t at *
    generalize valS a = z at *
    go_enter Tryz.func67, Tryz.ntmps67
    go_wp2_with fail
    refine (H1.out _).mono ?_
    rintro e w1 ⟨rfl, hb1⟩
    go_wp2_with fail
    refine (Any.strconv_ParseInt_10_at64_ok Tryz.laysC174 t (by omega) z HP.out _).mono ?_
    rintro e w2 ⟨rfl, hw2⟩
    have HB2 : Hid (Below w1.heap.size w1 w2) := by
      rcases hw2 with rfl | ⟨u, rfl⟩
      · exact Below.refl _ _
      · exact Lib.bytesWorld_below _ _ _
    clear hw2
    go_wp2_with fail
    go_ret2
    exact ⟨by rw [HE.out]; rfl, hb1.trans (HB2.out.mono hb1.size)⟩
  · have HE : Hid (sml (valS a) = (0, false)) := by show _ = _; unfold sml; rw [if_neg h]
    have HP : Hid (Lib.parseIntB 64 (str (prt (valS a))).data.toList = .range) := by show _ = _; have := parse_prt (valS a); rw [if_neg h] at this; exact this
    clear h
    generalize str (prt (valS a)) = t at *
    obtain ⟨tp, p, hv⟩ := Hg.out.2
    have HVr := Lib.hid hv
    clear hv
    go_enter Tryz.func67, Tryz.ntmps67
    go_wp2_with fail
    refine (H1.out _).mono ?_
    rintro e w1 ⟨rfl, hb1⟩
    have Hb1 := Lib.hid hb1
    clear hb1
    go_wp2_with fail
    refine (Any.strconv_ParseInt_10_at64_range_var Tryz.laysC174 t (by omega) HP.out tp p _ (var_below HVr.out Hb1.out)).mono ?_
    rintro e w2 ⟨N, rfl, hN, hN2, hb2⟩
    have Hb2 := Lib.hid hb2
    clear hN hN2 hb2
    go_wp2_with fail
    go_ret2
    exact ⟨by rw [HE.out]; rfl, Hb1.out.trans (Hb2.out.mono Hb1.out.size)⟩
end Go.Proofs.YtonopbelbehheaaGreatDoor
