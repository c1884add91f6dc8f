/- Integer: the walk of IntegerDivisors: for every input it returns true. Condition: the library's table and error lie as the program's text lays them. -/
import Derived.Test.YtgoiaaondifjeaaDoorLawOrder
namespace Go.Proofs.YtgoiaaondifjeaaDoor
open Go.RowKit Go.Shelf Dec

/-- the greatest common divisor of two values -/
def gcdI (x y : Int) : Nat := Nat.gcd x.natAbs y.natAbs
theorem gcdI_comm (x y : Int) : gcdI y x = gcdI x y := Nat.gcd_comm _ _
theorem gcdI_zero (x y : Int) : gcdI x y = 0 ↔ x = 0 ∧ y = 0 := by unfold gcdI; rw [Nat.gcd_eq_zero_iff]; omega
theorem gcdI_left (x y : Int) : (gcdI x y : Int) ∣ x := Int.ofNat_dvd_left.2 (Nat.gcd_dvd_left _ _)
theorem gcdI_right (x y : Int) : (gcdI x y : Int) ∣ y := Int.ofNat_dvd_left.2 (Nat.gcd_dvd_right _ _)
theorem gcdI_mul (x y z : Int) : gcdI (x * z) (y * z) = gcdI x y * z.natAbs := by unfold gcdI; rw [Int.natAbs_mul, Int.natAbs_mul, Nat.gcd_mul_right]
theorem gcdI_add (x y z : Int) : gcdI (x + y * z) y = gcdI x y := by
  apply Nat.dvd_antisymm
  · refine Nat.dvd_gcd (Int.ofNat_dvd_left.1 ?_) (Int.ofNat_dvd_left.1 (gcdI_right _ _))
    have h1 := gcdI_left (x + y * z) y
    have h2 := Int.dvd_mul_of_dvd_left (gcdI_right (x + y * z) y) (c := z)
    have := Int.dvd_sub h1 h2
    rwa [Int.add_sub_cancel] at this
  · exact Nat.dvd_gcd (Int.ofNat_dvd_left.1 (Int.dvd_add (gcdI_left _ _) (Int.dvd_mul_of_dvd_left (gcdI_right _ _)))) (Int.ofNat_dvd_left.1 (gcdI_right _ _))
theorem gcdI_one (x y : Int) (h : gcdI x y ≠ 0) : gcdI (x / gcdI x y) (y / gcdI x y) = 1 := by
  obtain ⟨u, hu⟩ := gcdI_left x y
  obtain ⟨v, hv⟩ := gcdI_right x y
  generalize hd : gcdI x y = d at *
  have hd0 : (d : Int) ≠ 0 := by omega
  have e : gcdI (u * d) (v * d) = d := by rw [Int.mul_comm u, Int.mul_comm v, ← hu, ← hv, hd]
  rw [gcdI_mul] at e
  have e1 : x / (d : Int) = u := by rw [hu, Int.mul_ediv_cancel_left _ hd0]
  have e2 : y / (d : Int) = v := by rw [hv, Int.mul_ediv_cancel_left _ hd0]
  rw [e1, e2]
  have e3 : (d : Int).natAbs = d := by simp
  rw [e3] at e
  exact Nat.eq_of_mul_eq_mul_right (by omega) (by omega : gcdI u v * d = 1 * d)
theorem div_gcd (x : Int) (d : Nat) (h : d ≠ 0) (hd : (d : Int) ∣ x) : divR x d = (canS (x / d), ⟨#[]⟩, 0) := by
  unfold divR
  rw [if_neg (by omega), Int.fdiv_eq_ediv_of_nonneg _ (by omega), Int.fmod_eq_emod_of_nonneg _ (by omega), Int.emod_eq_zero_of_dvd hd]
  rfl
theorem Fit.gcd {k : Nat} {x y : Int} (hx : Fit k x) (hy : Fit k y) : Fit k (gcdI x y) := by
  unfold Fit at *
  by_cases h : x = 0
  · subst h; unfold gcdI; simpa using hy
  · have h1 : gcdI x y ≤ x.natAbs := Nat.le_of_dvd (by omega) (Nat.gcd_dvd_left _ _)
    have h2 : ((gcdI x y : Nat) : Int).natAbs = gcdI x y := by simp
    omega
theorem Fit.ediv {k : Nat} {x : Int} (hx : Fit k x) (d : Nat) : Fit (k + 1) (x / d) := by
  unfold Fit at *
  have h1 : (x / (d : Int)).natAbs ≤ x.natAbs + 1 := by
    exact Nat.le_succ_of_le (Int.natAbs_ediv_le_natAbs _ _)
  have h2 : 0 < 10 ^ k := Nat.pow_pos (by omega)
  rw [Nat.pow_succ]
  omega
theorem empty_canS {z : Int} (h : z ≠ 0) : (canS z).toList.isEmpty = false := by
  have hne : bytes (canS z) ≠ [] := by unfold canS; rw [bytes_str]; exact fun e => h (canon_nil.1 e)
  rw [isEmpty_bytes]
  cases hh : bytes (canS z) with
  | nil => exact absurd hh hne
  | cons _ _ => rfl

set_option maxRecDepth 100000 in
set_option maxHeartbeats 8000000 in
theorem divisors_any (a b c : ByteArray) (w : World) (ha : a.size ≤ 9223372036854775807) (hb : b.size ≤ 9223372036854775807) (hc : c.size ≤ 9223372036854775807) (hg : Gl w) :
    Calls Tryd.prog 7 #[.string a, .string b, .string c] w fun e w' => e = .returned (.bool true) ∧ Below w.heap.size w w' := by
  have Hg := Lib.hid hg
  clear hg
  have hbw : Below w.heap.size w w := Below.refl _ _
  have Hbw := Lib.hid hbw
  clear hbw
  by_cases h1 : (30 : Int) < (a.size : Int)
  · have qa := decide_eq_true h1
    go_enter Tryd.func7, Tryd.ntmps7
    go_wp2_with fail
    refine (awake_any _ (Hg.out.below Hbw.out)).mono ?_
    rintro e w1 ⟨rfl, hb1⟩
    replace Hbw := Lib.hid (Hbw.out.trans (hb1.mono Hbw.out.size))
    clear hb1
    go_wp2_with fail
    go_ret
    exact ⟨rfl, Hbw.out⟩
  have qa := decide_eq_false h1
  by_cases h2 : (30 : Int) < (b.size : Int)
  · have qb := decide_eq_true h2
    go_enter Tryd.func7, Tryd.ntmps7
    go_wp2_with fail
    refine (awake_any _ (Hg.out.below Hbw.out)).mono ?_
    rintro e w1 ⟨rfl, hb1⟩
    replace Hbw := Lib.hid (Hbw.out.trans (hb1.mono Hbw.out.size))
    clear hb1
    go_wp2_with fail
    go_ret
    exact ⟨rfl, Hbw.out⟩
  have qb := decide_eq_false h2
  by_cases h3 : (30 : Int) < (c.size : Int)
  · have qc := decide_eq_true h3
    go_enter Tryd.func7, Tryd.ntmps7
    go_wp2_with fail
    refine (awake_any _ (Hg.out.below Hbw.out)).mono ?_
    rintro e w1 ⟨rfl, hb1⟩
    replace Hbw := Lib.hid (Hbw.out.trans (hb1.mono Hbw.out.size))
    clear hb1
    go_wp2_with fail
    go_ret
    exact ⟨rfl, Hbw.out⟩
  have qc := decide_eq_false h3
  have Fa := Lib.hid (Fit.val (a := a) (k := 30) (by omega))
  have Fb := Lib.hid (Fit.val (a := b) (k := 30) (by omega))
  have Fc := Lib.hid (Fit.val (a := c) (k := 30) (by omega))
  have Fg := Lib.hid (Fa.out.gcd Fb.out)
  have K1 := Lib.hid (fun w hg => Gcd_any a b w (by omega) (by omega) hg)
  have K3 := Lib.hid (fun w hg => Gcd_any b a w (by omega) (by omega) hg)
  rw [Nat.gcd_comm (valS b).natAbs] at K3
  change Hid (∀ w hg, Calls Tryd.prog 20 #[.string a, .string b] w fun e w' => e = .returned (.string (canS (gcdI (valS a) (valS b) : Nat))) ∧ Below w.heap.size w w') at K1
  change Hid (∀ w hg, Calls Tryd.prog 20 #[.string b, .string a] w fun e w' => e = .returned (.string (canS (gcdI (valS a) (valS b) : Nat))) ∧ Below w.heap.size w w') at K3
  have K2 := Lib.hid (fun w => cmp_canil (gcdI (valS a) (valS b)) 30 (by omega) Fg.out w)
  have K4 := Lib.hid (fun w => canonical_any a w (by omega))
  have K5 := Lib.hid (fun w => canonical_any b w (by omega))
  have K6 := Lib.hid (fun w => canonical_any c w (by omega))
  have K7 := Lib.hid (fun w => cmp_canil (valS c) 30 (by omega) Fc.out w)
  have K8 := Lib.hid (fun w hg => Neg_any (canS (valS c)) w (by have := Fc.out.size; omega) hg)
  rw [valS_canS] at K8
  have K9 := Lib.hid (fun w hg => Mul_any a c w (by omega) (by omega) hg)
  have K10 := Lib.hid (fun w hg => Mul_any b c w (by omega) (by omega) hg)
  have K11 := Lib.hid (fun w hg => Gcd_any (canS (valS a * valS c)) (canS (valS b * valS c)) w (by have := (Fa.out.mul Fc.out).size; omega) (by have := (Fb.out.mul Fc.out).size; omega) hg)
  rw [valS_canS, valS_canS] at K11
  change Hid (∀ w hg, Calls Tryd.prog 20 #[.string (canS (valS a * valS c)), .string (canS (valS b * valS c))] w fun e w' => e = .returned (.string (canS (gcdI (valS a * valS c) (valS b * valS c) : Nat))) ∧ Below w.heap.size w w') at K11
  rw [gcdI_mul] at K11
  have K16 := Lib.hid (fun w hg => Add_any a (canS (valS b * valS c)) w (by omega) (by have := (Fb.out.mul Fc.out).size; omega) hg)
  rw [valS_canS] at K16
  have K17 := Lib.hid (fun w hg => Gcd_any (canS (valS a + valS b * valS c)) b w (by have := ((Fa.out.mono (show 30 ≤ 60 by omega)).add (Fb.out.mul Fc.out)).size; omega) (by omega) hg)
  rw [valS_canS] at K17
  change Hid (∀ w hg, Calls Tryd.prog 20 #[.string (canS (valS a + valS b * valS c)), .string b] w fun e w' => e = .returned (.string (canS (gcdI (valS a + valS b * valS c) (valS b) : Nat))) ∧ Below w.heap.size w w') at K17
  rw [gcdI_add] at K17
  have K12 : ∃ tz, (valS c < 0 → tz = canS (-valS c)) ∧ (¬ valS c < 0 → tz = canS (valS c)) ∧ Hid (∀ w, Gl w → Calls Tryd.prog 10 #[.string (canS (gcdI (valS a) (valS b) : Nat)), .string tz] w fun e w' => e = .returned (.string (canS (gcdI (valS a) (valS b) * (valS c).natAbs : Nat))) ∧ Below w.heap.size w w') := by
    refine ⟨canS ((valS c).natAbs : Nat), fun h => by rw [show (((valS c).natAbs : Nat) : Int) = -valS c by omega], fun h => by rw [show (((valS c).natAbs : Nat) : Int) = valS c by omega], ?_⟩
    intro w hg
    have := Mul_any (canS (gcdI (valS a) (valS b) : Nat)) (canS ((valS c).natAbs : Nat)) w (by have := Fg.out.size; omega) (by have := (show Fit 30 (((valS c).natAbs : Nat) : Int) by unfold Fit; have := Fc.out; unfold Fit at this; simpa using this).size; omega) hg
    rwa [valS_canS, valS_canS, ← Int.natCast_mul] at this
  obtain ⟨tz, z1, z2, K12⟩ := K12
  have qg : decide (cmpI (gcdI (valS a) (valS b) : Nat) 0 < 0) = false := by
    apply decide_eq_false
    unfold cmpI
    (repeat' split) <;> omega
  have qg1 : -1 ≤ cmpI (gcdI (valS a) (valS b) : Nat) 0 := (cmpI_facts _ 0 0).2.2.1
  have qz1 : -1 ≤ cmpI (valS c) 0 := (cmpI_facts _ 0 0).2.2.1
  have qz2 : cmpI (valS c) 0 ≤ 1 := (cmpI_facts _ 0 0).2.2.2.1
  have qz : decide (cmpI (valS c) 0 < 0) = decide (valS c < 0) := by
    by_cases h : valS c < 0
    · rw [decide_eq_true h]; apply decide_eq_true; unfold cmpI; rw [if_pos h]; omega
    · rw [decide_eq_false h]; apply decide_eq_false; unfold cmpI; rw [if_neg h]; split <;> omega
  have hzero := gcdI_zero (valS a) (valS b)
  have K13 : gcdI (valS a) (valS b) ≠ 0 → ∃ x1 y1, Hid (∀ w, Gl w → Calls Tryd.prog 22 #[.string a, .string (canS (gcdI (valS a) (valS b) : Nat))] w fun e w' => e = .returned (.tuple #[.string x1, .string ⟨#[]⟩, .int .i64 0]) ∧ Below w.heap.size w w') ∧
      Hid (∀ w, Gl w → Calls Tryd.prog 22 #[.string b, .string (canS (gcdI (valS a) (valS b) : Nat))] w fun e w' => e = .returned (.tuple #[.string y1, .string ⟨#[]⟩, .int .i64 0]) ∧ Below w.heap.size w w') ∧
      Hid (∀ w, Gl w → Calls Tryd.prog 20 #[.string x1, .string y1] w fun e w' => e = .returned (.string ⟨#[49]⟩) ∧ Below w.heap.size w w') := by
    intro h0
    refine ⟨canS (valS a / gcdI (valS a) (valS b)), canS (valS b / gcdI (valS a) (valS b)), ?_, ?_, ?_⟩
    · intro w hg
      have := Div_any a (canS (gcdI (valS a) (valS b) : Nat)) w (by omega) (by have := Fg.out.size; omega) hg
      unfold DivS at this
      rw [valS_canS, div_gcd _ _ h0 (gcdI_left _ _)] at this
      exact this
    · intro w hg
      have := Div_any b (canS (gcdI (valS a) (valS b) : Nat)) w (by omega) (by have := Fg.out.size; omega) hg
      unfold DivS at this
      rw [valS_canS, div_gcd _ _ h0 (gcdI_right _ _)] at this
      exact this
    · intro w hg
      have := Gcd_any (canS (valS a / gcdI (valS a) (valS b))) (canS (valS b / gcdI (valS a) (valS b))) w (by have := (Fa.out.ediv (gcdI (valS a) (valS b))).size; omega) (by have := (Fb.out.ediv (gcdI (valS a) (valS b))).size; omega) hg
      rw [valS_canS, valS_canS, show Nat.gcd (valS a / (gcdI (valS a) (valS b) : Int)).natAbs (valS b / (gcdI (valS a) (valS b) : Int)).natAbs = 1 from gcdI_one _ _ h0] at this
      exact this
  have EG : gcdI (valS a) (valS b) ≠ 0 → (canS (gcdI (valS a) (valS b) : Nat)).toList.isEmpty = false := fun h => empty_canS (by omega)
  have EA : valS a ≠ 0 → (canS (valS a)).toList.isEmpty = false := empty_canS
  have EB : valS b ≠ 0 → (canS (valS b)).toList.isEmpty = false := empty_canS
  have ZG : gcdI (valS a) (valS b) = 0 → canS (gcdI (valS a) (valS b) : Nat) = ⟨#[]⟩ := fun h => by rw [h]; rfl
  have ZA : valS a = 0 → canS (valS a) = ⟨#[]⟩ := fun h => by rw [h]; rfl
  have ZB : valS b = 0 → canS (valS b) = ⟨#[]⟩ := fun h => by rw [h]; rfl
  generalize canS (gcdI (valS a) (valS b) * (valS c).natAbs : Nat) = m3 at *
  generalize canS (valS a + valS b * valS c) = s1 at *
  generalize canS (valS a * valS c) = m1 at *
  generalize canS (valS b * valS c) = m2 at *
  generalize cmpI (gcdI (valS a) (valS b) : Nat) 0 = cg at *
  generalize cmpI (valS c) 0 = cz at *
  generalize canS (gcdI (valS a) (valS b) : Nat) = tg at *
  generalize canS (valS a) = ta at *
  generalize canS (valS b) = tb at *
  generalize canS (-valS c) = tn at *
  generalize canS (valS c) = tc at *
  generalize gcdI (valS a) (valS b) = g at *
  clear Fa Fb Fc Fg
  have e0 : (tg.toList == tg.toList) = true := by simp
  have e3 : (m3.toList == m3.toList) = true := by simp
  by_cases hz : valS c < 0
  · have q3 : decide (cz < 0) = true := by rw [qz, decide_eq_true hz]
    obtain rfl := z1 hz
    clear z1 z2 qz hz
    by_cases hx : valS a = 0
    · by_cases hy : valS b = 0
      · obtain rfl := ZA hx
        obtain rfl := ZB hy
        obtain rfl := ZG (hzero.2 ⟨hx, hy⟩)
        clear ZA ZB ZG EA EB EG K13 hzero hx hy
        go_enter Tryd.func7, Tryd.ntmps7
        go_wp2_with fail
        refine (K1.out _ (Hg.out.below Hbw.out)).mono ?_
        rintro e w1 ⟨rfl, hb1⟩
        replace Hbw := Lib.hid (Hbw.out.trans (hb1.mono Hbw.out.size))
        clear hb1
        go_wp2_with fail
        refine (K2.out _).mono ?_
        rintro e w1 ⟨rfl, hb1⟩
        replace Hbw := Lib.hid (Hbw.out.trans (hb1.mono Hbw.out.size))
        clear hb1
        go_wp2_with fail
        refine (K3.out _ (Hg.out.below Hbw.out)).mono ?_
        rintro e w1 ⟨rfl, hb1⟩
        replace Hbw := Lib.hid (Hbw.out.trans (hb1.mono Hbw.out.size))
        clear hb1
        go_wp2_with fail
        refine (K4.out _).mono ?_
        rintro e w1 ⟨rfl, hb1⟩
        replace Hbw := Lib.hid (Hbw.out.trans (hb1.mono Hbw.out.size))
        clear hb1
        go_wp2_with fail
        refine (K5.out _).mono ?_
        rintro e w1 ⟨rfl, hb1⟩
        replace Hbw := Lib.hid (Hbw.out.trans (hb1.mono Hbw.out.size))
        clear hb1
        go_wp2_with fail
        refine (K6.out _).mono ?_
        rintro e w1 ⟨rfl, hb1⟩
        replace Hbw := Lib.hid (Hbw.out.trans (hb1.mono Hbw.out.size))
        clear hb1
        go_wp2_with fail
        refine (K7.out _).mono ?_
        rintro e w1 ⟨rfl, hb1⟩
        replace Hbw := Lib.hid (Hbw.out.trans (hb1.mono Hbw.out.size))
        clear hb1
        go_wp2_with fail
        refine (K8.out _ (Hg.out.below Hbw.out)).mono ?_
        rintro e w1 ⟨rfl, hb1⟩
        replace Hbw := Lib.hid (Hbw.out.trans (hb1.mono Hbw.out.size))
        clear hb1
        go_wp2_with fail
        refine (K9.out _ (Hg.out.below Hbw.out)).mono ?_
        rintro e w1 ⟨rfl, hb1⟩
        replace Hbw := Lib.hid (Hbw.out.trans (hb1.mono Hbw.out.size))
        clear hb1
        go_wp2_with fail
        refine (K10.out _ (Hg.out.below Hbw.out)).mono ?_
        rintro e w1 ⟨rfl, hb1⟩
        replace Hbw := Lib.hid (Hbw.out.trans (hb1.mono Hbw.out.size))
        clear hb1
        go_wp2_with fail
        refine (K11.out _ (Hg.out.below Hbw.out)).mono ?_
        rintro e w1 ⟨rfl, hb1⟩
        replace Hbw := Lib.hid (Hbw.out.trans (hb1.mono Hbw.out.size))
        clear hb1
        go_wp2_with fail
        refine (K12.out _ (Hg.out.below Hbw.out)).mono ?_
        rintro e w1 ⟨rfl, hb1⟩
        replace Hbw := Lib.hid (Hbw.out.trans (hb1.mono Hbw.out.size))
        clear hb1
        go_wp2_with fail
        refine (awake_any _ (Hg.out.below Hbw.out)).mono ?_
        rintro e w1 ⟨rfl, hb1⟩
        replace Hbw := Lib.hid (Hbw.out.trans (hb1.mono Hbw.out.size))
        clear hb1
        go_wp2_with fail
        go_ret
        exact ⟨rfl, Hbw.out⟩
      · obtain rfl := ZA hx
        have hq := EB hy
        have h0 : g ≠ 0 := fun h => hy (hzero.1 h).2
        have hr := EG h0
        obtain ⟨x1, y1, D1, D2, D3⟩ := K13 h0
        clear ZA ZB ZG EA EB EG K13 hzero hx hy h0
        go_enter Tryd.func7, Tryd.ntmps7
        go_wp2_with fail
        refine (K1.out _ (Hg.out.below Hbw.out)).mono ?_
        rintro e w1 ⟨rfl, hb1⟩
        replace Hbw := Lib.hid (Hbw.out.trans (hb1.mono Hbw.out.size))
        clear hb1
        go_wp2_with fail
        refine (K2.out _).mono ?_
        rintro e w1 ⟨rfl, hb1⟩
        replace Hbw := Lib.hid (Hbw.out.trans (hb1.mono Hbw.out.size))
        clear hb1
        go_wp2_with fail
        refine (K3.out _ (Hg.out.below Hbw.out)).mono ?_
        rintro e w1 ⟨rfl, hb1⟩
        replace Hbw := Lib.hid (Hbw.out.trans (hb1.mono Hbw.out.size))
        clear hb1
        go_wp2_with fail
        refine (K4.out _).mono ?_
        rintro e w1 ⟨rfl, hb1⟩
        replace Hbw := Lib.hid (Hbw.out.trans (hb1.mono Hbw.out.size))
        clear hb1
        go_wp2_with fail
        refine (K5.out _).mono ?_
        rintro e w1 ⟨rfl, hb1⟩
        replace Hbw := Lib.hid (Hbw.out.trans (hb1.mono Hbw.out.size))
        clear hb1
        go_wp2_with fail
        refine (K6.out _).mono ?_
        rintro e w1 ⟨rfl, hb1⟩
        replace Hbw := Lib.hid (Hbw.out.trans (hb1.mono Hbw.out.size))
        clear hb1
        go_wp2_with fail
        refine (K7.out _).mono ?_
        rintro e w1 ⟨rfl, hb1⟩
        replace Hbw := Lib.hid (Hbw.out.trans (hb1.mono Hbw.out.size))
        clear hb1
        go_wp2_with fail
        refine (K8.out _ (Hg.out.below Hbw.out)).mono ?_
        rintro e w1 ⟨rfl, hb1⟩
        replace Hbw := Lib.hid (Hbw.out.trans (hb1.mono Hbw.out.size))
        clear hb1
        go_wp2_with fail
        refine (K9.out _ (Hg.out.below Hbw.out)).mono ?_
        rintro e w1 ⟨rfl, hb1⟩
        replace Hbw := Lib.hid (Hbw.out.trans (hb1.mono Hbw.out.size))
        clear hb1
        go_wp2_with fail
        refine (K10.out _ (Hg.out.below Hbw.out)).mono ?_
        rintro e w1 ⟨rfl, hb1⟩
        replace Hbw := Lib.hid (Hbw.out.trans (hb1.mono Hbw.out.size))
        clear hb1
        go_wp2_with fail
        refine (K11.out _ (Hg.out.below Hbw.out)).mono ?_
        rintro e w1 ⟨rfl, hb1⟩
        replace Hbw := Lib.hid (Hbw.out.trans (hb1.mono Hbw.out.size))
        clear hb1
        go_wp2_with fail
        refine (K12.out _ (Hg.out.below Hbw.out)).mono ?_
        rintro e w1 ⟨rfl, hb1⟩
        replace Hbw := Lib.hid (Hbw.out.trans (hb1.mono Hbw.out.size))
        clear hb1
        go_wp2_with fail
        refine (D1.out _ (Hg.out.below Hbw.out)).mono ?_
        rintro e w1 ⟨rfl, hb1⟩
        replace Hbw := Lib.hid (Hbw.out.trans (hb1.mono Hbw.out.size))
        clear hb1
        go_wp2_with fail
        refine (D2.out _ (Hg.out.below Hbw.out)).mono ?_
        rintro e w1 ⟨rfl, hb1⟩
        replace Hbw := Lib.hid (Hbw.out.trans (hb1.mono Hbw.out.size))
        clear hb1
        go_wp2_with fail
        refine (D3.out _ (Hg.out.below Hbw.out)).mono ?_
        rintro e w1 ⟨rfl, hb1⟩
        replace Hbw := Lib.hid (Hbw.out.trans (hb1.mono Hbw.out.size))
        clear hb1
        go_wp2_with fail
        refine (K10.out _ (Hg.out.below Hbw.out)).mono ?_
        rintro e w1 ⟨rfl, hb1⟩
        replace Hbw := Lib.hid (Hbw.out.trans (hb1.mono Hbw.out.size))
        clear hb1
        go_wp2_with fail
        refine (K16.out _ (Hg.out.below Hbw.out)).mono ?_
        rintro e w1 ⟨rfl, hb1⟩
        replace Hbw := Lib.hid (Hbw.out.trans (hb1.mono Hbw.out.size))
        clear hb1
        go_wp2_with fail
        refine (K17.out _ (Hg.out.below Hbw.out)).mono ?_
        rintro e w1 ⟨rfl, hb1⟩
        replace Hbw := Lib.hid (Hbw.out.trans (hb1.mono Hbw.out.size))
        clear hb1
        go_wp2_with fail
        refine (awake_any _ (Hg.out.below Hbw.out)).mono ?_
        rintro e w1 ⟨rfl, hb1⟩
        replace Hbw := Lib.hid (Hbw.out.trans (hb1.mono Hbw.out.size))
        clear hb1
        go_wp2_with fail
        go_ret
        exact ⟨rfl, Hbw.out⟩
    · have hq := EA hx
      have h0 : g ≠ 0 := fun h => hx (hzero.1 h).1
      have hr := EG h0
      obtain ⟨x1, y1, D1, D2, D3⟩ := K13 h0
      clear ZA ZB ZG EA EB EG K13 hzero hx h0
      go_enter Tryd.func7, Tryd.ntmps7
      go_wp2_with fail
      refine (K1.out _ (Hg.out.below Hbw.out)).mono ?_
      rintro e w1 ⟨rfl, hb1⟩
      replace Hbw := Lib.hid (Hbw.out.trans (hb1.mono Hbw.out.size))
      clear hb1
      go_wp2_with fail
      refine (K2.out _).mono ?_
      rintro e w1 ⟨rfl, hb1⟩
      replace Hbw := Lib.hid (Hbw.out.trans (hb1.mono Hbw.out.size))
      clear hb1
      go_wp2_with fail
      refine (K3.out _ (Hg.out.below Hbw.out)).mono ?_
      rintro e w1 ⟨rfl, hb1⟩
      replace Hbw := Lib.hid (Hbw.out.trans (hb1.mono Hbw.out.size))
      clear hb1
      go_wp2_with fail
      refine (K4.out _).mono ?_
      rintro e w1 ⟨rfl, hb1⟩
      replace Hbw := Lib.hid (Hbw.out.trans (hb1.mono Hbw.out.size))
      clear hb1
      go_wp2_with fail
      refine (K6.out _).mono ?_
      rintro e w1 ⟨rfl, hb1⟩
      replace Hbw := Lib.hid (Hbw.out.trans (hb1.mono Hbw.out.size))
      clear hb1
      go_wp2_with fail
      refine (K7.out _).mono ?_
      rintro e w1 ⟨rfl, hb1⟩
      replace Hbw := Lib.hid (Hbw.out.trans (hb1.mono Hbw.out.size))
      clear hb1
      go_wp2_with fail
      refine (K8.out _ (Hg.out.below Hbw.out)).mono ?_
      rintro e w1 ⟨rfl, hb1⟩
      replace Hbw := Lib.hid (Hbw.out.trans (hb1.mono Hbw.out.size))
      clear hb1
      go_wp2_with fail
      refine (K9.out _ (Hg.out.below Hbw.out)).mono ?_
      rintro e w1 ⟨rfl, hb1⟩
      replace Hbw := Lib.hid (Hbw.out.trans (hb1.mono Hbw.out.size))
      clear hb1
      go_wp2_with fail
      refine (K10.out _ (Hg.out.below Hbw.out)).mono ?_
      rintro e w1 ⟨rfl, hb1⟩
      replace Hbw := Lib.hid (Hbw.out.trans (hb1.mono Hbw.out.size))
      clear hb1
      go_wp2_with fail
      refine (K11.out _ (Hg.out.below Hbw.out)).mono ?_
      rintro e w1 ⟨rfl, hb1⟩
      replace Hbw := Lib.hid (Hbw.out.trans (hb1.mono Hbw.out.size))
      clear hb1
      go_wp2_with fail
      refine (K12.out _ (Hg.out.below Hbw.out)).mono ?_
      rintro e w1 ⟨rfl, hb1⟩
      replace Hbw := Lib.hid (Hbw.out.trans (hb1.mono Hbw.out.size))
      clear hb1
      go_wp2_with fail
      refine (D1.out _ (Hg.out.below Hbw.out)).mono ?_
      rintro e w1 ⟨rfl, hb1⟩
      replace Hbw := Lib.hid (Hbw.out.trans (hb1.mono Hbw.out.size))
      clear hb1
      go_wp2_with fail
      refine (D2.out _ (Hg.out.below Hbw.out)).mono ?_
      rintro e w1 ⟨rfl, hb1⟩
      replace Hbw := Lib.hid (Hbw.out.trans (hb1.mono Hbw.out.size))
      clear hb1
      go_wp2_with fail
      refine (D3.out _ (Hg.out.below Hbw.out)).mono ?_
      rintro e w1 ⟨rfl, hb1⟩
      replace Hbw := Lib.hid (Hbw.out.trans (hb1.mono Hbw.out.size))
      clear hb1
      go_wp2_with fail
      refine (K10.out _ (Hg.out.below Hbw.out)).mono ?_
      rintro e w1 ⟨rfl, hb1⟩
      replace Hbw := Lib.hid (Hbw.out.trans (hb1.mono Hbw.out.size))
      clear hb1
      go_wp2_with fail
      refine (K16.out _ (Hg.out.below Hbw.out)).mono ?_
      rintro e w1 ⟨rfl, hb1⟩
      replace Hbw := Lib.hid (Hbw.out.trans (hb1.mono Hbw.out.size))
      clear hb1
      go_wp2_with fail
      refine (K17.out _ (Hg.out.below Hbw.out)).mono ?_
      rintro e w1 ⟨rfl, hb1⟩
      replace Hbw := Lib.hid (Hbw.out.trans (hb1.mono Hbw.out.size))
      clear hb1
      go_wp2_with fail
      refine (awake_any _ (Hg.out.below Hbw.out)).mono ?_
      rintro e w1 ⟨rfl, hb1⟩
      replace Hbw := Lib.hid (Hbw.out.trans (hb1.mono Hbw.out.size))
      clear hb1
      go_wp2_with fail
      go_ret
      exact ⟨rfl, Hbw.out⟩
  · have q3 : decide (cz < 0) = false := by rw [qz, decide_eq_false hz]
    obtain rfl := z2 hz
    clear z1 z2 qz hz
    by_cases hx : valS a = 0
    · by_cases hy : valS b = 0
      · obtain rfl := ZA hx
        obtain rfl := ZB hy
        obtain rfl := ZG (hzero.2 ⟨hx, hy⟩)
        clear ZA ZB ZG EA EB EG K13 hzero hx hy
        go_enter Tryd.func7, Tryd.ntmps7
        go_wp2_with fail
        refine (K1.out _ (Hg.out.below Hbw.out)).mono ?_
        rintro e w1 ⟨rfl, hb1⟩
        replace Hbw := Lib.hid (Hbw.out.trans (hb1.mono Hbw.out.size))
        clear hb1
        go_wp2_with fail
        refine (K2.out _).mono ?_
        rintro e w1 ⟨rfl, hb1⟩
        replace Hbw := Lib.hid (Hbw.out.trans (hb1.mono Hbw.out.size))
        clear hb1
        go_wp2_with fail
        refine (K3.out _ (Hg.out.below Hbw.out)).mono ?_
        rintro e w1 ⟨rfl, hb1⟩
        replace Hbw := Lib.hid (Hbw.out.trans (hb1.mono Hbw.out.size))
        clear hb1
        go_wp2_with fail
        refine (K4.out _).mono ?_
        rintro e w1 ⟨rfl, hb1⟩
        replace Hbw := Lib.hid (Hbw.out.trans (hb1.mono Hbw.out.size))
        clear hb1
        go_wp2_with fail
        refine (K5.out _).mono ?_
        rintro e w1 ⟨rfl, hb1⟩
        replace Hbw := Lib.hid (Hbw.out.trans (hb1.mono Hbw.out.size))
        clear hb1
        go_wp2_with fail
        refine (K6.out _).mono ?_
        rintro e w1 ⟨rfl, hb1⟩
        replace Hbw := Lib.hid (Hbw.out.trans (hb1.mono Hbw.out.size))
        clear hb1
        go_wp2_with fail
        refine (K7.out _).mono ?_
        rintro e w1 ⟨rfl, hb1⟩
        replace Hbw := Lib.hid (Hbw.out.trans (hb1.mono Hbw.out.size))
        clear hb1
        go_wp2_with fail
        refine (K9.out _ (Hg.out.below Hbw.out)).mono ?_
        rintro e w1 ⟨rfl, hb1⟩
        replace Hbw := Lib.hid (Hbw.out.trans (hb1.mono Hbw.out.size))
        clear hb1
        go_wp2_with fail
        refine (K10.out _ (Hg.out.below Hbw.out)).mono ?_
        rintro e w1 ⟨rfl, hb1⟩
        replace Hbw := Lib.hid (Hbw.out.trans (hb1.mono Hbw.out.size))
        clear hb1
        go_wp2_with fail
        refine (K11.out _ (Hg.out.below Hbw.out)).mono ?_
        rintro e w1 ⟨rfl, hb1⟩
        replace Hbw := Lib.hid (Hbw.out.trans (hb1.mono Hbw.out.size))
        clear hb1
        go_wp2_with fail
        refine (K12.out _ (Hg.out.below Hbw.out)).mono ?_
        rintro e w1 ⟨rfl, hb1⟩
        replace Hbw := Lib.hid (Hbw.out.trans (hb1.mono Hbw.out.size))
        clear hb1
        go_wp2_with fail
        refine (awake_any _ (Hg.out.below Hbw.out)).mono ?_
        rintro e w1 ⟨rfl, hb1⟩
        replace Hbw := Lib.hid (Hbw.out.trans (hb1.mono Hbw.out.size))
        clear hb1
        go_wp2_with fail
        go_ret
        exact ⟨rfl, Hbw.out⟩
      · obtain rfl := ZA hx
        have hq := EB hy
        have h0 : g ≠ 0 := fun h => hy (hzero.1 h).2
        have hr := EG h0
        obtain ⟨x1, y1, D1, D2, D3⟩ := K13 h0
        clear ZA ZB ZG EA EB EG K13 hzero hx hy h0
        go_enter Tryd.func7, Tryd.ntmps7
        go_wp2_with fail
        refine (K1.out _ (Hg.out.below Hbw.out)).mono ?_
        rintro e w1 ⟨rfl, hb1⟩
        replace Hbw := Lib.hid (Hbw.out.trans (hb1.mono Hbw.out.size))
        clear hb1
        go_wp2_with fail
        refine (K2.out _).mono ?_
        rintro e w1 ⟨rfl, hb1⟩
        replace Hbw := Lib.hid (Hbw.out.trans (hb1.mono Hbw.out.size))
        clear hb1
        go_wp2_with fail
        refine (K3.out _ (Hg.out.below Hbw.out)).mono ?_
        rintro e w1 ⟨rfl, hb1⟩
        replace Hbw := Lib.hid (Hbw.out.trans (hb1.mono Hbw.out.size))
        clear hb1
        go_wp2_with fail
        refine (K4.out _).mono ?_
        rintro e w1 ⟨rfl, hb1⟩
        replace Hbw := Lib.hid (Hbw.out.trans (hb1.mono Hbw.out.size))
        clear hb1
        go_wp2_with fail
        refine (K5.out _).mono ?_
        rintro e w1 ⟨rfl, hb1⟩
        replace Hbw := Lib.hid (Hbw.out.trans (hb1.mono Hbw.out.size))
        clear hb1
        go_wp2_with fail
        refine (K6.out _).mono ?_
        rintro e w1 ⟨rfl, hb1⟩
        replace Hbw := Lib.hid (Hbw.out.trans (hb1.mono Hbw.out.size))
        clear hb1
        go_wp2_with fail
        refine (K7.out _).mono ?_
        rintro e w1 ⟨rfl, hb1⟩
        replace Hbw := Lib.hid (Hbw.out.trans (hb1.mono Hbw.out.size))
        clear hb1
        go_wp2_with fail
        refine (K9.out _ (Hg.out.below Hbw.out)).mono ?_
        rintro e w1 ⟨rfl, hb1⟩
        replace Hbw := Lib.hid (Hbw.out.trans (hb1.mono Hbw.out.size))
        clear hb1
        go_wp2_with fail
        refine (K10.out _ (Hg.out.below Hbw.out)).mono ?_
        rintro e w1 ⟨rfl, hb1⟩
        replace Hbw := Lib.hid (Hbw.out.trans (hb1.mono Hbw.out.size))
        clear hb1
        go_wp2_with fail
        refine (K11.out _ (Hg.out.below Hbw.out)).mono ?_
        rintro e w1 ⟨rfl, hb1⟩
        replace Hbw := Lib.hid (Hbw.out.trans (hb1.mono Hbw.out.size))
        clear hb1
        go_wp2_with fail
        refine (K12.out _ (Hg.out.below Hbw.out)).mono ?_
        rintro e w1 ⟨rfl, hb1⟩
        replace Hbw := Lib.hid (Hbw.out.trans (hb1.mono Hbw.out.size))
        clear hb1
        go_wp2_with fail
        refine (D1.out _ (Hg.out.below Hbw.out)).mono ?_
        rintro e w1 ⟨rfl, hb1⟩
        replace Hbw := Lib.hid (Hbw.out.trans (hb1.mono Hbw.out.size))
        clear hb1
        go_wp2_with fail
        refine (D2.out _ (Hg.out.below Hbw.out)).mono ?_
        rintro e w1 ⟨rfl, hb1⟩
        replace Hbw := Lib.hid (Hbw.out.trans (hb1.mono Hbw.out.size))
        clear hb1
        go_wp2_with fail
        refine (D3.out _ (Hg.out.below Hbw.out)).mono ?_
        rintro e w1 ⟨rfl, hb1⟩
        replace Hbw := Lib.hid (Hbw.out.trans (hb1.mono Hbw.out.size))
        clear hb1
        go_wp2_with fail
        refine (K10.out _ (Hg.out.below Hbw.out)).mono ?_
        rintro e w1 ⟨rfl, hb1⟩
        replace Hbw := Lib.hid (Hbw.out.trans (hb1.mono Hbw.out.size))
        clear hb1
        go_wp2_with fail
        refine (K16.out _ (Hg.out.below Hbw.out)).mono ?_
        rintro e w1 ⟨rfl, hb1⟩
        replace Hbw := Lib.hid (Hbw.out.trans (hb1.mono Hbw.out.size))
        clear hb1
        go_wp2_with fail
        refine (K17.out _ (Hg.out.below Hbw.out)).mono ?_
        rintro e w1 ⟨rfl, hb1⟩
        replace Hbw := Lib.hid (Hbw.out.trans (hb1.mono Hbw.out.size))
        clear hb1
        go_wp2_with fail
        refine (awake_any _ (Hg.out.below Hbw.out)).mono ?_
        rintro e w1 ⟨rfl, hb1⟩
        replace Hbw := Lib.hid (Hbw.out.trans (hb1.mono Hbw.out.size))
        clear hb1
        go_wp2_with fail
        go_ret
        exact ⟨rfl, Hbw.out⟩
    · have hq := EA hx
      have h0 : g ≠ 0 := fun h => hx (hzero.1 h).1
      have hr := EG h0
      obtain ⟨x1, y1, D1, D2, D3⟩ := K13 h0
      clear ZA ZB ZG EA EB EG K13 hzero hx h0
      go_enter Tryd.func7, Tryd.ntmps7
      go_wp2_with fail
      refine (K1.out _ (Hg.out.below Hbw.out)).mono ?_
      rintro e w1 ⟨rfl, hb1⟩
      replace Hbw := Lib.hid (Hbw.out.trans (hb1.mono Hbw.out.size))
      clear hb1
      go_wp2_with fail
      refine (K2.out _).mono ?_
      rintro e w1 ⟨rfl, hb1⟩
      replace Hbw := Lib.hid (Hbw.out.trans (hb1.mono Hbw.out.size))
      clear hb1
      go_wp2_with fail
      refine (K3.out _ (Hg.out.below Hbw.out)).mono ?_
      rintro e w1 ⟨rfl, hb1⟩
      replace Hbw := Lib.hid (Hbw.out.trans (hb1.mono Hbw.out.size))
      clear hb1
      go_wp2_with fail
      refine (K4.out _).mono ?_
      rintro e w1 ⟨rfl, hb1⟩
      replace Hbw := Lib.hid (Hbw.out.trans (hb1.mono Hbw.out.size))
      clear hb1
      go_wp2_with fail
      refine (K6.out _).mono ?_
      rintro e w1 ⟨rfl, hb1⟩
      replace Hbw := Lib.hid (Hbw.out.trans (hb1.mono Hbw.out.size))
      clear hb1
      go_wp2_with fail
      refine (K7.out _).mono ?_
      rintro e w1 ⟨rfl, hb1⟩
      replace Hbw := Lib.hid (Hbw.out.trans (hb1.mono Hbw.out.size))
      clear hb1
      go_wp2_with fail
      refine (K9.out _ (Hg.out.below Hbw.out)).mono ?_
      rintro e w1 ⟨rfl, hb1⟩
      replace Hbw := Lib.hid (Hbw.out.trans (hb1.mono Hbw.out.size))
      clear hb1
      go_wp2_with fail
      refine (K10.out _ (Hg.out.below Hbw.out)).mono ?_
      rintro e w1 ⟨rfl, hb1⟩
      replace Hbw := Lib.hid (Hbw.out.trans (hb1.mono Hbw.out.size))
      clear hb1
      go_wp2_with fail
      refine (K11.out _ (Hg.out.below Hbw.out)).mono ?_
      rintro e w1 ⟨rfl, hb1⟩
      replace Hbw := Lib.hid (Hbw.out.trans (hb1.mono Hbw.out.size))
      clear hb1
      go_wp2_with fail
      refine (K12.out _ (Hg.out.below Hbw.out)).mono ?_
      rintro e w1 ⟨rfl, hb1⟩
      replace Hbw := Lib.hid (Hbw.out.trans (hb1.mono Hbw.out.size))
      clear hb1
      go_wp2_with fail
      refine (D1.out _ (Hg.out.below Hbw.out)).mono ?_
      rintro e w1 ⟨rfl, hb1⟩
      replace Hbw := Lib.hid (Hbw.out.trans (hb1.mono Hbw.out.size))
      clear hb1
      go_wp2_with fail
      refine (D2.out _ (Hg.out.below Hbw.out)).mono ?_
      rintro e w1 ⟨rfl, hb1⟩
      replace Hbw := Lib.hid (Hbw.out.trans (hb1.mono Hbw.out.size))
      clear hb1
      go_wp2_with fail
      refine (D3.out _ (Hg.out.below Hbw.out)).mono ?_
      rintro e w1 ⟨rfl, hb1⟩
      replace Hbw := Lib.hid (Hbw.out.trans (hb1.mono Hbw.out.size))
      clear hb1
      go_wp2_with fail
      refine (K10.out _ (Hg.out.below Hbw.out)).mono ?_
      rintro e w1 ⟨rfl, hb1⟩
      replace Hbw := Lib.hid (Hbw.out.trans (hb1.mono Hbw.out.size))
      clear hb1
      go_wp2_with fail
      refine (K16.out _ (Hg.out.below Hbw.out)).mono ?_
      rintro e w1 ⟨rfl, hb1⟩
      replace Hbw := Lib.hid (Hbw.out.trans (hb1.mono Hbw.out.size))
      clear hb1
      go_wp2_with fail
      refine (K17.out _ (Hg.out.below Hbw.out)).mono ?_
      rintro e w1 ⟨rfl, hb1⟩
      replace Hbw := Lib.hid (Hbw.out.trans (hb1.mono Hbw.out.size))
      clear hb1
      go_wp2_with fail
      refine (awake_any _ (Hg.out.below Hbw.out)).mono ?_
      rintro e w1 ⟨rfl, hb1⟩
      replace Hbw := Lib.hid (Hbw.out.trans (hb1.mono Hbw.out.size))
      clear hb1
      go_wp2_with fail
      go_ret
      exact ⟨rfl, Hbw.out⟩
end Go.Proofs.YtgoiaaondifjeaaDoor
