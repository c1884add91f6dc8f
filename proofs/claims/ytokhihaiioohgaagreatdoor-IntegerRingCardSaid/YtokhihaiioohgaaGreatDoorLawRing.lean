/- Integer: the walk of IntegerRing: for every input it returns true. Condition: the library's table and error lie as the program's text lays them. -/
import Derived.Test.YtokhihaiioohgaaGreatDoorGr01
import Derived.Test.YtokhihaiioohgaaGreatDoorVs
namespace Go.Proofs.YtokhihaiioohgaaGreatDoor
open Go.RowKit Go.Shelf Dec

set_option maxRecDepth 100000 in
set_option maxHeartbeats 8000000 in
theorem ring_any (a b c : ByteArray) (w : World) (ha : a.size ≤ 9223372036854775807) (hb : b.size ≤ 9223372036854775807) (hc : c.size ≤ 9223372036854775807) (hg : Gl w) :
    Calls Tryz.prog 5 #[.string a, .string b, .string c] w fun e w' => e = .returned (.bool true) ∧ Below w.heap.size w w' := by
  have Hg := Lib.hid hg
  clear hg
  have HG3 := Lib.hid (great3 a b c w ha hb hc)
  have hbw : Below w.heap.size w (w.alloc (.cells #[.string a, .string b, .string c] 22)) := (Below.refl _ _).alloc (Nat.le_refl _) _
  have Hbw := Lib.hid hbw
  clear hbw
  cases hbig : (big a || big b || big c) with
  | true =>
    rw [hbig] at HG3
    clear hbig
    go_enter Tryz.func5, Tryz.ntmps5
    go_wp2_with fail
    refine HG3.out.mono ?_
    rintro e w1 ⟨rfl, rfl⟩
    go_wp2_with fail
    refine (awake_any _ (Hg.out.below Hbw.out)).mono ?_
    rintro e w1 ⟨rfl, hb1⟩
    replace Hbw := Lib.hid (Hbw.out.trans (hb1.mono Hbw.out.size))
    clear hb1
    go_wp2_with fail
    go_ret
    exact ⟨rfl, Hbw.out⟩
  | false =>
    rw [hbig] at HG3
    simp only [Bool.or_eq_false_iff] at hbig
    have sa := big_false hbig.1.1
    have sb := big_false hbig.1.2
    have sc := big_false hbig.2
    clear hbig
    have Va : Vs a (valS a) := Vs.arg (by omega)
    have Vb : Vs b (valS b) := Vs.arg (by omega)
    have Vc : Vs c (valS c) := Vs.arg (by omega)
    have V1 : Vs (⟨#[49]⟩ : ByteArray) 1 := ⟨by decide, by decide⟩
    have Vm : Vs (⟨#[45, 49]⟩ : ByteArray) (-1) := ⟨by decide, by decide⟩
    have Fa := Fit.val sa
    have Fb := Fit.val sb
    have Fc := Fit.val sc
    generalize valS a = x at *
    generalize valS b = y at *
    generalize valS c = z at *
    have Vxy : Vs (canS (x + y)) (x + y) := Vs.can (k := 61) (Fa.add Fb) (by omega)
    have Vyz : Vs (canS (y + z)) (y + z) := Vs.can (k := 61) (Fb.add Fc) (by omega)
    have Wxy : Vs (canS (x * y)) (x * y) := Vs.can (k := 120) (Fa.mul Fb) (by omega)
    have Wyz : Vs (canS (y * z)) (y * z) := Vs.can (k := 120) (Fb.mul Fc) (by omega)
    have Wxz : Vs (canS (x * z)) (x * z) := Vs.can (k := 120) (Fa.mul Fc) (by omega)
    have K1 := Lib.hid (fun w hg => AddV Va Vb w hg)
    have K2 := Lib.hid (fun w hg => AddV Vb Va w hg)
    rw [Int.add_comm y x] at K2
    have K3 := Lib.hid (fun w hg => MulV Va Vb w hg)
    have K4 := Lib.hid (fun w hg => MulV Vb Va w hg)
    rw [Int.mul_comm y x] at K4
    have K5 := Lib.hid (fun w hg => AddV Vxy Vc w hg)
    have K6 := Lib.hid (fun w hg => AddV Vb Vc w hg)
    have K7 := Lib.hid (fun w hg => AddV Va Vyz w hg)
    rw [← Int.add_assoc x y z] at K7
    have K8 := Lib.hid (fun w hg => MulV Wxy Vc w hg)
    have K9 := Lib.hid (fun w hg => MulV Vb Vc w hg)
    have K10 := Lib.hid (fun w hg => MulV Va Wyz w hg)
    rw [← Int.mul_assoc x y z] at K10
    have K11 := Lib.hid (fun w hg => MulV Va Vyz w hg)
    have K12 := Lib.hid (fun w hg => MulV Va Vc w hg)
    have K13 := Lib.hid (fun w hg => AddV Wxy Wxz w hg)
    rw [← Int.mul_add] at K13
    have K14 := Lib.hid (fun w => CanV Va w)
    have K15 := Lib.hid (fun w hg => SubV Vxy Vb w hg)
    rw [Int.add_sub_cancel] at K15
    have K16 := Lib.hid (fun w hg => AddV Va Vs.nil w hg)
    rw [Int.add_zero] at K16
    have K17 := Lib.hid (fun w hg => MulV Va V1 w hg)
    rw [Int.mul_one] at K17
    have K18 := Lib.hid (fun w hg => MulV Va Vm w hg)
    rw [Int.mul_neg, Int.mul_one] at K18
    have K19 := Lib.hid (fun w hg => NegV Va w hg)
    have K20 := Lib.hid (fun w => ChkV (k := 120) (Fa.mul Fb) (by omega) w)
    have K21 := Lib.hid (fun w => ChkV (k := 61) (Fa.add Fb) (by omega) w)
    clear Va Vb Vc V1 Vm Fa Fb Fc Vxy Vyz Wxy Wyz Wxz
    generalize canS (x + y + z) = t1 at *
    generalize canS (x * y * z) = t2 at *
    generalize canS (x * (y + z)) = t3 at *
    generalize canS (x + y) = t4 at *
    generalize canS (y + z) = t5 at *
    generalize canS (x * y) = t6 at *
    generalize canS (y * z) = t7 at *
    generalize canS (x * z) = t8 at *
    generalize canS x = t9 at *
    generalize canS (-x) = t10 at *
    have q1 : (t1.toList == t1.toList) = true := by simp
    have q2 : (t2.toList == t2.toList) = true := by simp
    have q3 : (t3.toList == t3.toList) = true := by simp
    have q4 : (t4.toList == t4.toList) = true := by simp
    have q6 : (t6.toList == t6.toList) = true := by simp
    have q9 : (t9.toList == t9.toList) = true := by simp
    have q10 : (t10.toList == t10.toList) = true := by simp
    go_enter Tryz.func5, Tryz.ntmps5
    go_wp2_with fail
    refine HG3.out.mono ?_
    rintro e w1 ⟨rfl, rfl⟩
    go_wp2_with fail
    refine (K1.out _ (Hg.out.below Hbw.out)).mono ?_
    rintro e w1 ⟨rfl, hb1⟩
    replace Hbw := Lib.hid (Hbw.out.trans (hb1.mono Hbw.out.size))
    clear hb1
    go_wp2_with fail
    refine (K2.out _ (Hg.out.below Hbw.out)).mono ?_
    rintro e w1 ⟨rfl, hb1⟩
    replace Hbw := Lib.hid (Hbw.out.trans (hb1.mono Hbw.out.size))
    clear hb1
    go_wp2_with fail
    refine (K3.out _ (Hg.out.below Hbw.out)).mono ?_
    rintro e w1 ⟨rfl, hb1⟩
    replace Hbw := Lib.hid (Hbw.out.trans (hb1.mono Hbw.out.size))
    clear hb1
    go_wp2_with fail
    refine (K4.out _ (Hg.out.below Hbw.out)).mono ?_
    rintro e w1 ⟨rfl, hb1⟩
    replace Hbw := Lib.hid (Hbw.out.trans (hb1.mono Hbw.out.size))
    clear hb1
    go_wp2_with fail
    refine (K1.out _ (Hg.out.below Hbw.out)).mono ?_
    rintro e w1 ⟨rfl, hb1⟩
    replace Hbw := Lib.hid (Hbw.out.trans (hb1.mono Hbw.out.size))
    clear hb1
    go_wp2_with fail
    refine (K5.out _ (Hg.out.below Hbw.out)).mono ?_
    rintro e w1 ⟨rfl, hb1⟩
    replace Hbw := Lib.hid (Hbw.out.trans (hb1.mono Hbw.out.size))
    clear hb1
    go_wp2_with fail
    refine (K6.out _ (Hg.out.below Hbw.out)).mono ?_
    rintro e w1 ⟨rfl, hb1⟩
    replace Hbw := Lib.hid (Hbw.out.trans (hb1.mono Hbw.out.size))
    clear hb1
    go_wp2_with fail
    refine (K7.out _ (Hg.out.below Hbw.out)).mono ?_
    rintro e w1 ⟨rfl, hb1⟩
    replace Hbw := Lib.hid (Hbw.out.trans (hb1.mono Hbw.out.size))
    clear hb1
    go_wp2_with fail
    refine (K3.out _ (Hg.out.below Hbw.out)).mono ?_
    rintro e w1 ⟨rfl, hb1⟩
    replace Hbw := Lib.hid (Hbw.out.trans (hb1.mono Hbw.out.size))
    clear hb1
    go_wp2_with fail
    refine (K8.out _ (Hg.out.below Hbw.out)).mono ?_
    rintro e w1 ⟨rfl, hb1⟩
    replace Hbw := Lib.hid (Hbw.out.trans (hb1.mono Hbw.out.size))
    clear hb1
    go_wp2_with fail
    refine (K9.out _ (Hg.out.below Hbw.out)).mono ?_
    rintro e w1 ⟨rfl, hb1⟩
    replace Hbw := Lib.hid (Hbw.out.trans (hb1.mono Hbw.out.size))
    clear hb1
    go_wp2_with fail
    refine (K10.out _ (Hg.out.below Hbw.out)).mono ?_
    rintro e w1 ⟨rfl, hb1⟩
    replace Hbw := Lib.hid (Hbw.out.trans (hb1.mono Hbw.out.size))
    clear hb1
    go_wp2_with fail
    refine (K6.out _ (Hg.out.below Hbw.out)).mono ?_
    rintro e w1 ⟨rfl, hb1⟩
    replace Hbw := Lib.hid (Hbw.out.trans (hb1.mono Hbw.out.size))
    clear hb1
    go_wp2_with fail
    refine (K11.out _ (Hg.out.below Hbw.out)).mono ?_
    rintro e w1 ⟨rfl, hb1⟩
    replace Hbw := Lib.hid (Hbw.out.trans (hb1.mono Hbw.out.size))
    clear hb1
    go_wp2_with fail
    refine (K3.out _ (Hg.out.below Hbw.out)).mono ?_
    rintro e w1 ⟨rfl, hb1⟩
    replace Hbw := Lib.hid (Hbw.out.trans (hb1.mono Hbw.out.size))
    clear hb1
    go_wp2_with fail
    refine (K12.out _ (Hg.out.below Hbw.out)).mono ?_
    rintro e w1 ⟨rfl, hb1⟩
    replace Hbw := Lib.hid (Hbw.out.trans (hb1.mono Hbw.out.size))
    clear hb1
    go_wp2_with fail
    refine (K13.out _ (Hg.out.below Hbw.out)).mono ?_
    rintro e w1 ⟨rfl, hb1⟩
    replace Hbw := Lib.hid (Hbw.out.trans (hb1.mono Hbw.out.size))
    clear hb1
    go_wp2_with fail
    refine (K14.out _).mono ?_
    rintro e w1 ⟨rfl, hb1⟩
    replace Hbw := Lib.hid (Hbw.out.trans (hb1.mono Hbw.out.size))
    clear hb1
    go_wp2_with fail
    refine (K1.out _ (Hg.out.below Hbw.out)).mono ?_
    rintro e w1 ⟨rfl, hb1⟩
    replace Hbw := Lib.hid (Hbw.out.trans (hb1.mono Hbw.out.size))
    clear hb1
    go_wp2_with fail
    refine (K15.out _ (Hg.out.below Hbw.out)).mono ?_
    rintro e w1 ⟨rfl, hb1⟩
    replace Hbw := Lib.hid (Hbw.out.trans (hb1.mono Hbw.out.size))
    clear hb1
    go_wp2_with fail
    refine (K16.out _ (Hg.out.below Hbw.out)).mono ?_
    rintro e w1 ⟨rfl, hb1⟩
    replace Hbw := Lib.hid (Hbw.out.trans (hb1.mono Hbw.out.size))
    clear hb1
    go_wp2_with fail
    refine (K17.out _ (Hg.out.below Hbw.out)).mono ?_
    rintro e w1 ⟨rfl, hb1⟩
    replace Hbw := Lib.hid (Hbw.out.trans (hb1.mono Hbw.out.size))
    clear hb1
    go_wp2_with fail
    refine (K18.out _ (Hg.out.below Hbw.out)).mono ?_
    rintro e w1 ⟨rfl, hb1⟩
    replace Hbw := Lib.hid (Hbw.out.trans (hb1.mono Hbw.out.size))
    clear hb1
    go_wp2_with fail
    refine (K19.out _ (Hg.out.below Hbw.out)).mono ?_
    rintro e w1 ⟨rfl, hb1⟩
    replace Hbw := Lib.hid (Hbw.out.trans (hb1.mono Hbw.out.size))
    clear hb1
    go_wp2_with fail
    refine (K3.out _ (Hg.out.below Hbw.out)).mono ?_
    rintro e w1 ⟨rfl, hb1⟩
    replace Hbw := Lib.hid (Hbw.out.trans (hb1.mono Hbw.out.size))
    clear hb1
    go_wp2_with fail
    refine (K20.out _).mono ?_
    rintro e w1 ⟨rfl, hb1⟩
    replace Hbw := Lib.hid (Hbw.out.trans (hb1.mono Hbw.out.size))
    clear hb1
    go_wp2_with fail
    refine (K1.out _ (Hg.out.below Hbw.out)).mono ?_
    rintro e w1 ⟨rfl, hb1⟩
    replace Hbw := Lib.hid (Hbw.out.trans (hb1.mono Hbw.out.size))
    clear hb1
    go_wp2_with fail
    refine (K21.out _).mono ?_
    rintro e w1 ⟨rfl, hb1⟩
    replace Hbw := Lib.hid (Hbw.out.trans (hb1.mono Hbw.out.size))
    clear hb1
    go_wp2_with fail
    refine (awake_any _ (Hg.out.below Hbw.out)).mono ?_
    rintro e w1 ⟨rfl, hb1⟩
    replace Hbw := Lib.hid (Hbw.out.trans (hb1.mono Hbw.out.size))
    clear hb1
    go_wp2_with fail
    go_ret
    exact ⟨rfl, Hbw.out⟩
end Go.Proofs.YtokhihaiioohgaaGreatDoor
