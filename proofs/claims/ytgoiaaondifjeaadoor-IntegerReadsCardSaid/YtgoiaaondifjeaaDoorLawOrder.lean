/- Integer: the walk of IntegerOrder: for every input it returns true. Condition: the library's table and error lie as the program's text lays them. -/
import Derived.Test.YtgoiaaondifjeaaDoorAwake
namespace Go.Proofs.YtgoiaaondifjeaaDoor
open Go.RowKit Go.Shelf Dec

theorem abs_val (a : ByteArray) : (valS a).natAbs < 10 ^ a.size := by
  unfold valS
  rw [val_abs]
  have h1 := natOf_lt (digs (bytes a)) (digs_dig _)
  have h2 := digs_len (bytes a)
  rw [← size_bytes] at h2
  have h3 : 10 ^ (digs (bytes a)).length ≤ 10 ^ a.size := Nat.pow_le_pow_right (by omega) (by omega)
  omega
theorem size_canS {z : Int} {k : Nat} (h : z.natAbs < 10 ^ k) : (canS z).size ≤ k + 1 := by
  unfold canS
  rw [size_str]
  have := dec_len.2 h
  unfold canon
  split <;> simp <;> omega
/-- a value of at most k digits -/
def Fit (k : Nat) (z : Int) : Prop := z.natAbs < 10 ^ k
theorem Fit.val {a : ByteArray} {k : Nat} (h : a.size ≤ k) : Fit k (valS a) := Nat.lt_of_lt_of_le (abs_val a) (Nat.pow_le_pow_right (by omega) h)
theorem Fit.mono {k m : Nat} {z : Int} (h : Fit k z) (hk : k ≤ m) : Fit m z := Nat.lt_of_lt_of_le h (Nat.pow_le_pow_right (by omega) hk)
theorem Fit.add {k : Nat} {y z : Int} (h : Fit k y) (h2 : Fit k z) : Fit (k + 1) (y + z) := by
  unfold Fit at *
  rw [Nat.pow_succ]
  have : (y + z).natAbs ≤ y.natAbs + z.natAbs := Int.natAbs_add_le y z
  omega
theorem Fit.sub {k : Nat} {y z : Int} (h : Fit k y) (h2 : Fit k z) : Fit (k + 1) (y - z) := by
  unfold Fit at *
  rw [Nat.pow_succ]
  have : (y - z).natAbs ≤ y.natAbs + z.natAbs := Int.natAbs_sub_le y z
  omega
theorem Fit.neg {k : Nat} {z : Int} (h : Fit k z) : Fit k (-z) := by unfold Fit at *; rw [Int.natAbs_neg]; exact h
theorem Fit.mul {k m : Nat} {y z : Int} (h : Fit k y) (h2 : Fit m z) : Fit (k + m) (y * z) := by
  unfold Fit at *
  rw [Nat.pow_add, Int.natAbs_mul]
  exact Nat.mul_lt_mul_of_lt_of_le h (Nat.le_of_lt h2) (Nat.pow_pos (by omega))
theorem Fit.zero (k : Nat) : Fit k 0 := Nat.pow_pos (by omega)
theorem Fit.size {k : Nat} {z : Int} (h : Fit k z) : (canS z).size ≤ k + 1 := size_canS h

theorem cmp_can (u v : Int) (k : Nat) (hk : k ≤ 1000000) (hu : Fit k u) (hv : Fit k v) (w : World) :
    Calls Tryd.prog 17 #[.string (canS u), .string (canS v)] w fun e w' => e = .returned (.int .i64 (cmpI u v)) ∧ Below w.heap.size w w' := by
  have := Compare_any (canS u) (canS v) w (by have := hu.size; omega) (by have := hv.size; omega)
  rwa [valS_canS, valS_canS] at this
theorem cmp_nil (a : ByteArray) (ha : a.size ≤ 1000000) (w : World) :
    Calls Tryd.prog 17 #[.string a, .string ⟨#[]⟩] w fun e w' => e = .returned (.int .i64 (cmpI (valS a) 0)) ∧ Below w.heap.size w w' :=
  Compare_any a ⟨#[]⟩ w (by omega) (by decide)
theorem cmp_canil (u : Int) (k : Nat) (hk : k ≤ 1000000) (hu : Fit k u) (w : World) :
    Calls Tryd.prog 17 #[.string (canS u), .string ⟨#[]⟩] w fun e w' => e = .returned (.int .i64 (cmpI u 0)) ∧ Below w.heap.size w w' := by
  have := Compare_any (canS u) ⟨#[]⟩ w (by have := hu.size; omega) (by decide)
  rwa [valS_canS] at this
theorem cmpI_mul (x y z : Int) : cmpI (x * z) (y * z) = cmpI x y * cmpI z 0 := by
  unfold cmpI
  rcases Int.lt_trichotomy z 0 with h | h | h
  · have k1 : x * z < y * z ↔ y < x := Int.mul_lt_mul_right_of_neg h
    have k2 : x * z = y * z ↔ x = y := ⟨fun e => Int.eq_of_mul_eq_mul_right (by omega) e, fun e => by rw [e]⟩
    simp only [k1, k2]
    rw [if_pos h]
    split <;> split <;> (try split) <;> (try split) <;> omega
  · subst h; simp
  · have k1 : x * z < y * z ↔ x < y := Int.mul_lt_mul_right h
    have k2 : x * z = y * z ↔ x = y := ⟨fun e => Int.eq_of_mul_eq_mul_right (by omega) e, fun e => by rw [e]⟩
    simp only [k1, k2]
    rw [if_neg (by omega : ¬ z < 0), if_neg (by omega : ¬ z = 0)]
    split <;> (try split) <;> omega
/-- what Compare's results know of each other -/
theorem cmpI_facts (x y z : Int) : cmpI x y = -cmpI y x ∧ (cmpI x y = cmpI y z → cmpI x z = cmpI x y) ∧ -1 ≤ cmpI x y ∧ cmpI x y ≤ 1 ∧ (cmpI x y = 0 ↔ x = y) ∧ cmpI (x + z) (y + z) = cmpI x y ∧ cmpI (x - y) 0 = cmpI x y := by
  unfold cmpI
  refine ⟨?_, ?_, ?_, ?_, ?_, ?_, ?_⟩ <;> (repeat' split) <;> omega

/-- the three strings' slice, as great gets it -/
theorem great3 (a b c : ByteArray) (w : World) (ha : a.size ≤ 9223372036854775807) (hb : b.size ≤ 9223372036854775807) (hc : c.size ≤ 9223372036854775807) :
    Calls Tryd.prog 13 #[.slice (some ⟨w.heap.size, 0, none⟩) 3 3] (w.alloc (.cells #[.string a, .string b, .string c] 22)) fun e w' => e = .returned (.bool (big a || big b || big c)) ∧ (w.alloc (.cells #[.string a, .string b, .string c] 22)) = w' := by
  have := great_any [a, b, c] w.heap.size (w.alloc (.cells #[.string a, .string b, .string c] 22)) ?_ (by simp)
  · have e : [a, b, c].any big = (big a || big b || big c) := by simp [Bool.or_assoc]
    rw [e] at this
    exact this
  · intro i s hi
    have h := heap_new w (.cells #[.string a, .string b, .string c] 22)
    unfold World.cell?
    rw [h]
    match i, hi with
    | 0, hi => simp at hi; subst hi; exact ⟨rfl, ha⟩
    | 1, hi => simp at hi; subst hi; exact ⟨rfl, hb⟩
    | 2, hi => simp at hi; subst hi; exact ⟨rfl, hc⟩
    | i + 3, hi => simp at hi
theorem big_false {a : ByteArray} (h : big a = false) : a.size ≤ 60 := by unfold big at h; have := of_decide_eq_false h; omega

set_option maxRecDepth 100000 in
set_option maxHeartbeats 8000000 in
theorem order_any (a b c : ByteArray) (w : World) (ha : a.size ≤ 9223372036854775807) (hb : b.size ≤ 9223372036854775807) (hc : c.size ≤ 9223372036854775807) (hg : Gl w) :
    Calls Tryd.prog 6 #[.string a, .string b, .string c] w fun e w' => e = .returned (.bool true) ∧ Below w.heap.size w w' := by
  have Hg := Lib.hid hg
  clear hg
  have HG3 := Lib.hid (great3 a b c w ha hb hc)
  have hbw : Below w.heap.size w (w.alloc (.cells #[.string a, .string b, .string c] 22)) := (Below.refl _ _).alloc (Nat.le_refl _) _
  have Hbw := Lib.hid hbw
  clear hbw
  cases hbig : (big a || big b || big c) with
  | true =>
    rw [hbig] at HG3
    clear hbig
    go_enter Tryd.func6, Tryd.ntmps6
    go_wp2_with fail
    refine HG3.out.mono ?_
    rintro e w1 ⟨rfl, rfl⟩
    go_wp2_with fail
    refine (awake_any _ (Hg.out.below Hbw.out)).mono ?_
    rintro e w2 ⟨rfl, hb2⟩
    go_wp2_with fail
    go_ret
    exact ⟨rfl, Hbw.out.trans (hb2.mono Hbw.out.size)⟩
  | false =>
    rw [hbig] at HG3
    simp only [Bool.or_eq_false_iff] at hbig
    have sa := big_false hbig.1.1
    have sb := big_false hbig.1.2
    have sc := big_false hbig.2
    clear hbig
    have Fa := Lib.hid (Fit.val sa)
    have Fb := Lib.hid (Fit.val sb)
    have Fc := Lib.hid (Fit.val sc)
    have K1 := Lib.hid (fun w => Compare_any a b w (by omega) (by omega))
    have K2 := Lib.hid (fun w => Compare_any b c w (by omega) (by omega))
    have K3 := Lib.hid (fun w => Compare_any a c w (by omega) (by omega))
    have K4 := Lib.hid (fun w => Compare_any b a w (by omega) (by omega))
    have K5 := Lib.hid (fun w => canonical_any a w (by omega))
    have K6 := Lib.hid (fun w => canonical_any b w (by omega))
    have K7 := Lib.hid (fun w => cmp_nil c (by omega) w)
    have K8 := Lib.hid (fun w hg => Add_any a c w (by omega) (by omega) hg)
    have K9 := Lib.hid (fun w hg => Add_any b c w (by omega) (by omega) hg)
    have K10 := Lib.hid (fun w hg => Mul_any a c w (by omega) (by omega) hg)
    have K11 := Lib.hid (fun w hg => Mul_any b c w (by omega) (by omega) hg)
    have K12 := Lib.hid (fun w hg => Sub_any a b w (by omega) (by omega) hg)
    have C1 := Lib.hid (fun w => cmp_can (valS a + valS c) (valS b + valS c) 61 (by omega) (Fa.out.add Fc.out) (Fb.out.add Fc.out) w)
    have C2 := Lib.hid (fun w => cmp_can (valS a * valS c) (valS b * valS c) 120 (by omega) (Fa.out.mul Fc.out) (Fb.out.mul Fc.out) w)
    have C3 := Lib.hid (fun w => cmp_canil (valS a - valS b) 61 (by omega) (Fa.out.sub Fb.out) w)
    have F := cmpI_facts (valS a) (valS b) (valS c)
    have M := cmpI_mul (valS a) (valS b) (valS c)
    have B2 := cmpI_facts (valS c) 0 0
    have hx : (canS (valS a) = canS (valS b)) ↔ valS a = valS b := ⟨canS_inj, fun e => by rw [e]⟩
    rw [M] at C2
    rw [F.2.2.2.2.2.1] at C1
    rw [F.2.2.2.2.2.2] at C3
    generalize valS a + valS c = u1 at *
    generalize valS b + valS c = u2 at *
    generalize valS a * valS c = u3 at *
    generalize valS b * valS c = u4 at *
    generalize valS a - valS b = u5 at *
    generalize cmpI (valS b) (valS a) = c4 at *
    generalize cmpI (valS a) (valS b) = c1 at *
    generalize cmpI (valS b) (valS c) = c2 at *
    generalize cmpI (valS a) (valS c) = c3 at *
    generalize cmpI (valS c) 0 = c5 at *
    generalize canS (valS a) = ta at *
    generalize canS (valS b) = tb at *
    obtain ⟨f1, f2, f3, f4, f5, -, -⟩ := F
    have g3 := B2.2.2.1
    have g4 := B2.2.2.2.1
    have h4a : -1 ≤ c4 := by omega
    have h4b : c4 ≤ 1 := by omega
    have q1 : (c1 != -c4) = false := by simp [f1]
    have q3 : decide (c1 < -1) = false := decide_eq_false (by omega)
    have q4 : decide ((1 : Int) < c1) = false := decide_eq_false (by omega)
    have hp1 : -1 ≤ c1 * c5 := by
      rcases (show c1 = -1 ∨ c1 = 0 ∨ c1 = 1 by omega) with h | h | h <;> rw [h] <;> omega
    have hp2 : c1 * c5 ≤ 1 := by
      rcases (show c1 = -1 ∨ c1 = 0 ∨ c1 = 1 by omega) with h | h | h <;> rw [h] <;> omega
    have HT : Hid ((c1 == 0) = (ta.toList == tb.toList)) := by
      show _ = _
      rw [toList_beq]
      by_cases h : c1 = 0
      · rw [decide_eq_true (hx.2 (f5.1 h))]; simp [h]
      · rw [decide_eq_false (fun e => h (f5.2 (hx.1 e)))]; simp [h]
    have F2 := Lib.hid f2
    clear f1 f2 f5 B2 hx M
    have main : ∀ (z1 z2 : Bool), (c1 == c2) = z1 → (c1 == 0) = z2 → (ta.toList == tb.toList) = z2 → (z1 = true → (c3 != c1) = false) →
        Calls Tryd.prog 6 #[.string a, .string b, .string c] w fun e w' => e = .returned (.bool true) ∧ Below w.heap.size w w' := by
      intro z1 z2 h1 h2 h3 h4
      clear F2 HT
      have q5 : (c1 == c1) = true := by simp
      have q6 : (c1 * c5 == c1 * c5) = true := by simp
      rcases z1 with _ | _
      all_goals rcases z2 with _ | _
      all_goals (try replace h4 := h4 rfl)
      all_goals (
        go_enter Tryd.func6, Tryd.ntmps6
        go_wp2_with fail
        refine HG3.out.mono ?_
        rintro e w1 ⟨rfl, rfl⟩
        go_wp2_with fail
        refine (K1.out _).mono ?_
        rintro e w1 ⟨rfl, hb1⟩
        replace Hbw := Lib.hid (Hbw.out.trans (hb1.mono Hbw.out.size))
        clear hb1
        go_wp2_with fail
        refine (K2.out _).mono ?_
        rintro e w1 ⟨rfl, hb1⟩
        replace Hbw := Lib.hid (Hbw.out.trans (hb1.mono Hbw.out.size))
        clear hb1
        go_wp2_with fail
        refine (K3.out _).mono ?_
        rintro e w1 ⟨rfl, hb1⟩
        replace Hbw := Lib.hid (Hbw.out.trans (hb1.mono Hbw.out.size))
        clear hb1
        go_wp2_with fail
        refine (K4.out _).mono ?_
        rintro e w1 ⟨rfl, hb1⟩
        replace Hbw := Lib.hid (Hbw.out.trans (hb1.mono Hbw.out.size))
        clear hb1
        go_wp2_with fail
        refine (K5.out _).mono ?_
        rintro e w1 ⟨rfl, hb1⟩
        replace Hbw := Lib.hid (Hbw.out.trans (hb1.mono Hbw.out.size))
        clear hb1
        go_wp2_with fail
        refine (K6.out _).mono ?_
        rintro e w1 ⟨rfl, hb1⟩
        replace Hbw := Lib.hid (Hbw.out.trans (hb1.mono Hbw.out.size))
        clear hb1
        go_wp2_with fail
        refine (K7.out _).mono ?_
        rintro e w1 ⟨rfl, hb1⟩
        replace Hbw := Lib.hid (Hbw.out.trans (hb1.mono Hbw.out.size))
        clear hb1
        go_wp2_with fail
        refine (K8.out _ (Hg.out.below Hbw.out)).mono ?_
        rintro e w1 ⟨rfl, hb1⟩
        replace Hbw := Lib.hid (Hbw.out.trans (hb1.mono Hbw.out.size))
        clear hb1
        go_wp2_with fail
        refine (K9.out _ (Hg.out.below Hbw.out)).mono ?_
        rintro e w1 ⟨rfl, hb1⟩
        replace Hbw := Lib.hid (Hbw.out.trans (hb1.mono Hbw.out.size))
        clear hb1
        go_wp2_with fail
        refine (C1.out _).mono ?_
        rintro e w1 ⟨rfl, hb1⟩
        replace Hbw := Lib.hid (Hbw.out.trans (hb1.mono Hbw.out.size))
        clear hb1
        go_wp2_with fail
        refine (K10.out _ (Hg.out.below Hbw.out)).mono ?_
        rintro e w1 ⟨rfl, hb1⟩
        replace Hbw := Lib.hid (Hbw.out.trans (hb1.mono Hbw.out.size))
        clear hb1
        go_wp2_with fail
        refine (K11.out _ (Hg.out.below Hbw.out)).mono ?_
        rintro e w1 ⟨rfl, hb1⟩
        replace Hbw := Lib.hid (Hbw.out.trans (hb1.mono Hbw.out.size))
        clear hb1
        go_wp2_with fail
        refine (C2.out _).mono ?_
        rintro e w1 ⟨rfl, hb1⟩
        replace Hbw := Lib.hid (Hbw.out.trans (hb1.mono Hbw.out.size))
        clear hb1
        go_wp2_with fail
        refine (K12.out _ (Hg.out.below Hbw.out)).mono ?_
        rintro e w1 ⟨rfl, hb1⟩
        replace Hbw := Lib.hid (Hbw.out.trans (hb1.mono Hbw.out.size))
        clear hb1
        go_wp2_with fail
        refine (C3.out _).mono ?_
        rintro e w1 ⟨rfl, hb1⟩
        replace Hbw := Lib.hid (Hbw.out.trans (hb1.mono Hbw.out.size))
        clear hb1
        go_wp2_with fail
        refine (awake_any _ (Hg.out.below Hbw.out)).mono ?_
        rintro e w1 ⟨rfl, hb1⟩
        replace Hbw := Lib.hid (Hbw.out.trans (hb1.mono Hbw.out.size))
        clear hb1
        go_wp2_with fail
        go_ret
        exact ⟨rfl, Hbw.out⟩)
    exact main _ _ rfl rfl HT.out.symm (fun h => by have := F2.out (by simpa using h); simp [this])
end Go.Proofs.YtgoiaaondifjeaaDoor
