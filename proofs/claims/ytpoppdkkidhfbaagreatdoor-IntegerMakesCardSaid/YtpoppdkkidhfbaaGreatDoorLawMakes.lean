/- Integer: the walk of IntegerMakes: for every input it returns true. Condition: the library's table and error lie as the program's text lays them. -/
import Derived.Test.YtpoppdkkidhfbaaGreatDoorGr01
import Derived.Test.YtpoppdkkidhfbaaGreatDoorVs
import Derived.Test.YtpoppdkkidhfbaaGreatDoorRefG
import Derived.Test.YtpoppdkkidhfbaaGreatDoorRefC
namespace Go.Proofs.YtpoppdkkidhfbaaGreatDoor
open Go.RowKit Go.Shelf Dec

set_option maxRecDepth 100000 in
set_option maxHeartbeats 8000000 in
theorem makes_any (a : ByteArray) (n : Int) (w : World) (ha : a.size ≤ 9223372036854775807) (hn0 : -9223372036854775808 ≤ n) (hn1 : n ≤ 9223372036854775807) (hg : Gl w) :
    Calls Tryz.prog 4 #[.string a, .int .i64 n] w fun e w' => e = .returned (.bool true) ∧ Below w.heap.size w w' := by
  have Hg := Lib.hid hg
  clear hg
  have HG1 := Lib.hid (great1 a w ha)
  have hbw : Below w.heap.size w (w.alloc (.cells #[.string a] 22)) := (Below.refl _ _).alloc (Nat.le_refl _) _
  have Hbw := Lib.hid hbw
  clear hbw
  cases hbig : big a with
  | true =>
    rw [hbig] at HG1
    clear hbig
    go_enter Tryz.func4, Tryz.ntmps4
    go_wp2_with fail
    refine HG1.out.mono ?_
    rintro e w1 ⟨rfl, rfl⟩
    go_wp2_with fail
    refine (awake_any _ (Hg.out.below Hbw.out)).mono ?_
    rintro e w1 ⟨rfl, hb1⟩
    replace Hbw := Lib.hid (Hbw.out.trans (hb1.mono Hbw.out.size))
    clear hb1
    go_wp2_with fail
    go_ret
    exact ⟨rfl, Hbw.out⟩
  | false =>
    rw [hbig] at HG1
    have sa := big_false hbig
    clear hbig
    have Va : Vs a (valS a) := Vs.arg (by omega)
    have K1 := Lib.hid (fun w hg => SmlV Va w hg)
    have K2 := Lib.hid (fun w => rsmall_any a w (by omega))
    have K3 := Lib.hid (fun w => check_any a w (by omega))
    have K4 := Lib.hid (fun w => rcheck_any a w (by omega))
    have K5 := Lib.hid (fun w => CanV Va w)
    have K6 := Lib.hid (fun w => rcanonical_any a w (by omega))
    have K7 := Lib.hid (fun w hg => Of_any n w hn0 hn1 hg)
    have K8 := Lib.hid (fun w => rof_any n w hn0 hn1)
    have K9 := Lib.hid (fun w hg => NegV Va w hg)
    have K10 := Lib.hid (fun w => rneg_any a w (by omega))
    have K11 := Lib.hid (fun w => print_any a w (by omega))
    have K12 := Lib.hid (fun w => rprint_any a w (by omega))
    clear Va
    generalize (sml (valS a)).1 = i1 at *
    generalize (sml (valS a)).2 = i2 at *
    generalize chk a = i3 at *
    generalize canS (-(valS a)) = t2 at *
    generalize canS (valS a) = t1 at *
    generalize str (prt (valS a)) = t3 at *
    generalize canS n = t4 at *
    have q1 : (t1.toList == t1.toList) = true := by simp
    have q2 : (t2.toList == t2.toList) = true := by simp
    have q3 : (t3.toList == t3.toList) = true := by simp
    have q4 : (t4.toList == t4.toList) = true := by simp
    have q5 : (i1 == i1) = true := by simp
    have q6 : (i2 == i2) = true := by simp
    have q7 : (i3 == i3) = true := by simp
    go_enter Tryz.func4, Tryz.ntmps4
    go_wp2_with fail
    refine HG1.out.mono ?_
    rintro e w1 ⟨rfl, rfl⟩
    go_wp2_with fail
    refine (K1.out _ (Hg.out.below Hbw.out)).mono ?_
    rintro e w1 ⟨rfl, hb1⟩
    replace Hbw := Lib.hid (Hbw.out.trans (hb1.mono Hbw.out.size))
    clear hb1
    go_wp2_with fail
    refine (K2.out _).mono ?_
    rintro e w1 ⟨rfl, hb1⟩
    replace Hbw := Lib.hid (Hbw.out.trans (hb1.mono Hbw.out.size))
    clear hb1
    go_wp2_with fail
    refine (K3.out _).mono ?_
    rintro e w1 ⟨rfl, hb1⟩
    replace Hbw := Lib.hid (Hbw.out.trans (hb1.mono Hbw.out.size))
    clear hb1
    go_wp2_with fail
    refine (K4.out _).mono ?_
    rintro e w1 ⟨rfl, hb1⟩
    replace Hbw := Lib.hid (Hbw.out.trans (hb1.mono Hbw.out.size))
    clear hb1
    go_wp2_with fail
    refine (K5.out _).mono ?_
    rintro e w1 ⟨rfl, hb1⟩
    replace Hbw := Lib.hid (Hbw.out.trans (hb1.mono Hbw.out.size))
    clear hb1
    go_wp2_with fail
    refine (K6.out _).mono ?_
    rintro e w1 ⟨rfl, hb1⟩
    replace Hbw := Lib.hid (Hbw.out.trans (hb1.mono Hbw.out.size))
    clear hb1
    go_wp2_with fail
    refine (K7.out _ (Hg.out.below Hbw.out)).mono ?_
    rintro e w1 ⟨rfl, hb1⟩
    replace Hbw := Lib.hid (Hbw.out.trans (hb1.mono Hbw.out.size))
    clear hb1
    go_wp2_with fail
    refine (K8.out _).mono ?_
    rintro e w1 ⟨rfl, hb1⟩
    replace Hbw := Lib.hid (Hbw.out.trans (hb1.mono Hbw.out.size))
    clear hb1
    go_wp2_with fail
    refine (K9.out _ (Hg.out.below Hbw.out)).mono ?_
    rintro e w1 ⟨rfl, hb1⟩
    replace Hbw := Lib.hid (Hbw.out.trans (hb1.mono Hbw.out.size))
    clear hb1
    go_wp2_with fail
    refine (K10.out _).mono ?_
    rintro e w1 ⟨rfl, hb1⟩
    replace Hbw := Lib.hid (Hbw.out.trans (hb1.mono Hbw.out.size))
    clear hb1
    go_wp2_with fail
    refine (K11.out _).mono ?_
    rintro e w1 ⟨rfl, hb1⟩
    replace Hbw := Lib.hid (Hbw.out.trans (hb1.mono Hbw.out.size))
    clear hb1
    go_wp2_with fail
    refine (K12.out _).mono ?_
    rintro e w1 ⟨rfl, hb1⟩
    replace Hbw := Lib.hid (Hbw.out.trans (hb1.mono Hbw.out.size))
    clear hb1
    go_wp2_with fail
    refine (awake_any _ (Hg.out.below Hbw.out)).mono ?_
    rintro e w1 ⟨rfl, hb1⟩
    replace Hbw := Lib.hid (Hbw.out.trans (hb1.mono Hbw.out.size))
    clear hb1
    go_wp2_with fail
    go_ret
    exact ⟨rfl, Hbw.out⟩
end Go.Proofs.YtpoppdkkidhfbaaGreatDoor
