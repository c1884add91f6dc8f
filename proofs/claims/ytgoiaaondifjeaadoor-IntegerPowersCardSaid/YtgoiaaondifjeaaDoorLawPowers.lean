/- Integer: the walk of IntegerPowers: for every input it returns true. Condition: the library's table and error lie as the program's text lays them. -/
import Derived.Test.YtgoiaaondifjeaaDoorLawOrder
namespace Go.Proofs.YtgoiaaondifjeaaDoor
open Go.RowKit Go.Shelf Dec

@[local go_sem high] theorem run_max_five {P : Program} (w : World) (ts : Array TypeId) (t : TypeId) : (Builtin.max_ ts t #[.int .i64 0, .int .i64 0, .int .i64 0, .int .i64 0, .int .i64 0]).run P w = .ok (.int .i64 0) w := by
  rfl
theorem Fit.pow {k : Nat} {z : Int} (h : Fit k z) (m : Nat) : Fit (k * m + 1) (z ^ m) := by
  unfold Fit at *
  rw [Int.natAbs_pow, Nat.pow_succ, Nat.pow_mul]
  have h1 : z.natAbs ^ m ≤ (10 ^ k) ^ m := Nat.pow_le_pow_left (Nat.le_of_lt h) m
  have h2 : 0 < (10 ^ k) ^ m := Nat.pow_pos (Nat.pow_pos (by omega))
  omega
theorem powR_in (x : Int) (m : Int) (h0 : 0 ≤ m) (h : m ≤ 400) : powR x m = (canS (x ^ m.toNat), 0) := by unfold powR; rw [if_neg (by omega)]
theorem powR_out (x : Int) (m : Int) (h : m < 0) : powR x m = (⟨#[]⟩, 2) := by unfold powR; rw [if_pos (Or.inl h)]

set_option maxRecDepth 100000 in
set_option maxHeartbeats 8000000 in
theorem powers_any (a b : ByteArray) (m n : Int) (w : World) (ha : a.size ≤ 9223372036854775807) (hb : b.size ≤ 9223372036854775807) (hm0 : 0 ≤ m) (hm : m ≤ 255) (hn0 : 0 ≤ n) (hn : n ≤ 255) (hg : Gl w) :
    Calls Tryd.prog 3 #[.string a, .string b, .int .u8 m, .int .u8 n] w fun e w' => e = .returned (.bool true) ∧ Below w.heap.size w w' := by
  have Hg := Lib.hid hg
  clear hg
  have hbw : Below w.heap.size w w := Below.refl _ _
  have Hbw := Lib.hid hbw
  clear hbw
  by_cases h1 : (8 : Int) < (a.size : Int)
  · have q1 := decide_eq_true h1
    go_enter Tryd.func3, Tryd.ntmps3
    go_wp2_with fail
    refine (awake_any _ (Hg.out.below Hbw.out)).mono ?_
    rintro e w1 ⟨rfl, hb1⟩
    replace Hbw := Lib.hid (Hbw.out.trans (hb1.mono Hbw.out.size))
    clear hb1
    go_wp2_with fail
    go_ret
    exact ⟨rfl, Hbw.out⟩
  have q1 := decide_eq_false h1
  by_cases h2 : (8 : Int) < (b.size : Int)
  · have q2 := decide_eq_true h2
    go_enter Tryd.func3, Tryd.ntmps3
    go_wp2_with fail
    refine (awake_any _ (Hg.out.below Hbw.out)).mono ?_
    rintro e w1 ⟨rfl, hb1⟩
    replace Hbw := Lib.hid (Hbw.out.trans (hb1.mono Hbw.out.size))
    clear hb1
    go_wp2_with fail
    go_ret
    exact ⟨rfl, Hbw.out⟩
  have q2 := decide_eq_false h2
  by_cases h3 : (40 : Int) < m
  · have q3 := decide_eq_true h3
    go_enter Tryd.func3, Tryd.ntmps3
    go_wp2_with fail
    refine (awake_any _ (Hg.out.below Hbw.out)).mono ?_
    rintro e w1 ⟨rfl, hb1⟩
    replace Hbw := Lib.hid (Hbw.out.trans (hb1.mono Hbw.out.size))
    clear hb1
    go_wp2_with fail
    go_ret
    exact ⟨rfl, Hbw.out⟩
  have q3 := decide_eq_false h3
  by_cases h4 : (40 : Int) < n
  · have q4 := decide_eq_true h4
    go_enter Tryd.func3, Tryd.ntmps3
    go_wp2_with fail
    refine (awake_any _ (Hg.out.below Hbw.out)).mono ?_
    rintro e w1 ⟨rfl, hb1⟩
    replace Hbw := Lib.hid (Hbw.out.trans (hb1.mono Hbw.out.size))
    clear hb1
    go_wp2_with fail
    go_ret
    exact ⟨rfl, Hbw.out⟩
  have q4 := decide_eq_false h4
  have Fa := Lib.hid (Fit.val (a := a) (k := 8) (by omega))
  have Fb := Lib.hid (Fit.val (a := b) (k := 8) (by omega))
  have hM : m.toNat ≤ 40 := by omega
  have hN : n.toNat ≤ 40 := by omega
  have FP : ∀ {z : Int} {k : Nat}, Fit k z → k ≤ 8 → ∀ j : Nat, j ≤ 40 → (canS (z ^ j)).size ≤ 400 := by
    intro z k hz hk j hj
    have h1 := (hz.pow j).size
    have h2 : k * j ≤ 8 * 40 := Nat.mul_le_mul hk hj
    omega
  have K1 := Lib.hid (fun w hg => Power_any a m w (by omega) hg)
  rw [powR_in _ m hm0 (by omega)] at K1
  have K2 := Lib.hid (fun w hg => Power_any a n w (by omega) hg)
  rw [powR_in _ n hn0 (by omega)] at K2
  have K3 := Lib.hid (fun w hg => Power_any a (m + n) w (by omega) hg)
  rw [powR_in _ (m + n) (by omega) (by omega)] at K3
  have K4 := Lib.hid (fun w hg => Power_any b m w (by omega) hg)
  rw [powR_in _ m hm0 (by omega)] at K4
  have K5 := Lib.hid (fun w hg => Mul_any a b w (by omega) (by omega) hg)
  have K6 := Lib.hid (fun w hg => Power_any (canS (valS a * valS b)) m w (by have := (Fa.out.mul Fb.out).size; omega) hg)
  rw [powR_in _ m hm0 (by omega), valS_canS] at K6
  have K7 := Lib.hid (fun w hg => Power_any a (-1 - n) w (by omega) hg)
  rw [powR_out _ (-1 - n) (by omega)] at K7
  have K8 := Lib.hid (fun w hg => Mul_any (canS (valS a ^ m.toNat)) (canS (valS a ^ n.toNat)) w (by have := FP Fa.out (by omega) m.toNat hM; omega) (by have := FP Fa.out (by omega) n.toNat hN; omega) hg)
  rw [valS_canS, valS_canS, ← Int.pow_add, show m.toNat + n.toNat = (m + n).toNat by omega] at K8
  have K9 := Lib.hid (fun w hg => Mul_any (canS (valS a ^ m.toNat)) (canS (valS b ^ m.toNat)) w (by have := FP Fa.out (by omega) m.toNat hM; omega) (by have := FP Fb.out (by omega) m.toNat hM; omega) hg)
  rw [valS_canS, valS_canS, ← Int.mul_pow] at K9
  generalize canS (valS a ^ m.toNat) = t1 at *
  generalize canS (valS a ^ n.toNat) = t2 at *
  generalize canS (valS a ^ (m + n).toNat) = t3 at *
  generalize canS (valS b ^ m.toNat) = t4 at *
  generalize canS (valS a * valS b) = t5 at *
  generalize canS ((valS a * valS b) ^ m.toNat) = t6 at *
  clear FP hM hN
  have e3 : (t3.toList == t3.toList) = true := by simp
  have e6 : (t6.toList == t6.toList) = true := by simp
  go_enter Tryd.func3, Tryd.ntmps3
  go_wp2_with fail
  refine (K1.out _ (Hg.out.below Hbw.out)).mono ?_
  rintro e w1 ⟨rfl, hb1⟩
  replace Hbw := Lib.hid (Hbw.out.trans (hb1.mono Hbw.out.size))
  clear hb1
  go_wp2_with fail
  refine (K2.out _ (Hg.out.below Hbw.out)).mono ?_
  rintro e w1 ⟨rfl, hb1⟩
  replace Hbw := Lib.hid (Hbw.out.trans (hb1.mono Hbw.out.size))
  clear hb1
  go_wp2_with fail
  refine (K3.out _ (Hg.out.below Hbw.out)).mono ?_
  rintro e w1 ⟨rfl, hb1⟩
  replace Hbw := Lib.hid (Hbw.out.trans (hb1.mono Hbw.out.size))
  clear hb1
  go_wp2_with fail
  refine (K4.out _ (Hg.out.below Hbw.out)).mono ?_
  rintro e w1 ⟨rfl, hb1⟩
  replace Hbw := Lib.hid (Hbw.out.trans (hb1.mono Hbw.out.size))
  clear hb1
  go_wp2_with fail
  refine (K5.out _ (Hg.out.below Hbw.out)).mono ?_
  rintro e w1 ⟨rfl, hb1⟩
  replace Hbw := Lib.hid (Hbw.out.trans (hb1.mono Hbw.out.size))
  clear hb1
  go_wp2_with fail
  refine (K6.out _ (Hg.out.below Hbw.out)).mono ?_
  rintro e w1 ⟨rfl, hb1⟩
  replace Hbw := Lib.hid (Hbw.out.trans (hb1.mono Hbw.out.size))
  clear hb1
  go_wp2_with fail
  refine (K7.out _ (Hg.out.below Hbw.out)).mono ?_
  rintro e w1 ⟨rfl, hb1⟩
  replace Hbw := Lib.hid (Hbw.out.trans (hb1.mono Hbw.out.size))
  clear hb1
  go_wp2_with fail
  refine (K8.out _ (Hg.out.below Hbw.out)).mono ?_
  rintro e w1 ⟨rfl, hb1⟩
  replace Hbw := Lib.hid (Hbw.out.trans (hb1.mono Hbw.out.size))
  clear hb1
  go_wp2_with fail
  refine (K9.out _ (Hg.out.below Hbw.out)).mono ?_
  rintro e w1 ⟨rfl, hb1⟩
  replace Hbw := Lib.hid (Hbw.out.trans (hb1.mono Hbw.out.size))
  clear hb1
  go_wp2_with fail
  refine (awake_any _ (Hg.out.below Hbw.out)).mono ?_
  rintro e w1 ⟨rfl, hb1⟩
  replace Hbw := Lib.hid (Hbw.out.trans (hb1.mono Hbw.out.size))
  clear hb1
  go_wp2_with fail
  go_ret
  exact ⟨rfl, Hbw.out⟩
end Go.Proofs.YtgoiaaondifjeaaDoor
