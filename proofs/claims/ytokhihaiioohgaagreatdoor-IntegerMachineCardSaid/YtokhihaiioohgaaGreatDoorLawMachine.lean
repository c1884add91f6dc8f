/- Integer: the walk of IntegerMachine: for every input it returns true. Condition: the library's table and error lie as the program's text lays them. -/
import Derived.Test.YtokhihaiioohgaaGreatDoorGr01
import Derived.Test.YtokhihaiioohgaaGreatDoorVs
namespace Go.Proofs.YtokhihaiioohgaaGreatDoor
open Go.RowKit Go.Shelf Dec

theorem lawcmp_any (m n : Int) (w : World) : Calls Tryz.prog 37 #[.int .i64 m, .int .i64 n] w fun e w' => e = .returned (.int .i64 (cmpI m n)) ∧ Below w.heap.size w w' := by
  by_cases h1 : m < n
  · have HE : Hid (cmpI m n = -1) := by show _ = _; unfold cmpI; rw [if_pos h1]
    have q1 := decide_eq_true h1
    go_enter Tryz.func37, Tryz.ntmps37
    go_wp2_with fail
    go_ret
    exact ⟨by rw [HE.out]; rfl, Below.refl _ _⟩
  · have q1 := decide_eq_false h1
    by_cases h2 : n < m
    · have HE : Hid (cmpI m n = 1) := by show _ = _; unfold cmpI; rw [if_neg h1, if_neg (by omega)]
      have q2 := decide_eq_true h2
      go_enter Tryz.func37, Tryz.ntmps37
      go_wp2_with fail
      go_ret
      exact ⟨by rw [HE.out]; rfl, Below.refl _ _⟩
    · have HE : Hid (cmpI m n = 0) := by show _ = _; unfold cmpI; rw [if_neg h1, if_pos (by omega)]
      have q2 := decide_eq_false h2
      go_enter Tryz.func37, Tryz.ntmps37
      go_wp2_with fail
      go_ret
      exact ⟨by rw [HE.out]; rfl, Below.refl _ _⟩
theorem Fit.i64 {n : Int} (h0 : -9223372036854775808 ≤ n) (h1 : n ≤ 9223372036854775807) : Fit 19 n := by
  unfold Fit
  have : (10 : Nat) ^ 19 = 10000000000000000000 := by decide
  omega
theorem sml_in {n : Int} (h0 : -9223372036854775808 ≤ n) (h1 : n ≤ 9223372036854775807) : sml n = (n, true) := by unfold sml; rw [if_pos ⟨h0, h1⟩]

set_option maxRecDepth 100000 in
set_option maxHeartbeats 8000000 in
theorem machine_any (m n : Int) (w : World) (m0 : -9223372036854775808 ≤ m) (m1 : m ≤ 9223372036854775807) (n0 : -9223372036854775808 ≤ n) (n1 : n ≤ 9223372036854775807) (hg : Gl w) :
    Calls Tryz.prog 8 #[.int .i64 m, .int .i64 n] w fun e w' => e = .returned (.bool true) ∧ Below w.heap.size w w' := by
  have Hg := Lib.hid hg
  clear hg
  have hbw : Below w.heap.size w w := Below.refl _ _
  have Hbw := Lib.hid hbw
  clear hbw
  have Fm := Fit.i64 m0 m1
  have Fn := Fit.i64 n0 n1
  have Vm := Vs.can Fm (by omega)
  have Vn := Vs.can Fn (by omega)
  have V1 : Vs (⟨#[49]⟩ : ByteArray) 1 := ⟨by decide, by decide⟩
  have FM : Fit 19 9223372036854775807 := Fit.i64 (by omega) (by omega)
  have FL : Fit 19 (-9223372036854775808) := Fit.i64 (by omega) (by omega)
  have K1 := Lib.hid (fun w hg => Of_any m w m0 m1 hg)
  have K2 := Lib.hid (fun w hg => SmlV Vm w hg)
  rw [sml_in m0 m1] at K2
  have K3 := Lib.hid (fun w => ChkV Fm (by omega) w)
  have K4 := Lib.hid (fun w hg => Of_any n w n0 n1 hg)
  have K5 := Lib.hid (fun w => CmpV Vm Vn w)
  have K6 := Lib.hid (fun w => lawcmp_any m n w)
  have K7 := Lib.hid (fun w hg => Of_any 9223372036854775807 w (by omega) (by omega) hg)
  have K8 := Lib.hid (fun w hg => AddV (Vs.can FM (by omega)) V1 w hg)
  have K9 := Lib.hid (fun w hg => SmlV (Vs.can (k := 20) (FM.add (Fit.one (by omega))) (by omega)) w hg)
  rw [show sml (9223372036854775807 + 1) = (0, false) by decide] at K9
  have K10 := Lib.hid (fun w hg => Of_any (-9223372036854775808) w (by omega) (by omega) hg)
  have K11 := Lib.hid (fun w hg => SubV (Vs.can FL (by omega)) V1 w hg)
  have K12 := Lib.hid (fun w hg => SmlV (Vs.can (k := 20) (FL.sub (Fit.one (by omega))) (by omega)) w hg)
  rw [show sml (-9223372036854775808 - 1) = (0, false) by decide] at K12
  have B := cmpI_facts m n 0
  have b1 := B.2.2.1
  have b2 := B.2.2.2.1
  have q1 : (m == m) = true := by simp
  clear B
  generalize canS (9223372036854775807 + 1) = u1 at *
  generalize canS 9223372036854775807 = u2 at *
  generalize canS (-9223372036854775808 - 1) = u3 at *
  generalize canS (-9223372036854775808) = u4 at *
  generalize cmpI m n = cm at *
  have q2 : (cm == cm) = true := by simp
  clear FM FL V1
  by_cases p1 : 1073741824 ≤ m
  · have dp1 := decide_eq_true p1
    clear Vm Vn Fm Fn
    generalize canS m = tm at *
    generalize canS n = tn at *
    go_enter Tryz.func8, Tryz.ntmps8
    go_wp2_with fail
    refine (K1.out _ (Hg.out.below Hbw.out)).mono ?_
    rintro e w1 ⟨rfl, hb1⟩
    replace Hbw := Lib.hid (Hbw.out.trans (hb1.mono Hbw.out.size))
    clear hb1
    go_wp2_with fail
    refine (K2.out _ (Hg.out.below Hbw.out)).mono ?_
    rintro e w1 ⟨rfl, hb1⟩
    replace Hbw := Lib.hid (Hbw.out.trans (hb1.mono Hbw.out.size))
    clear hb1
    go_wp2_with fail
    refine (K1.out _ (Hg.out.below Hbw.out)).mono ?_
    rintro e w1 ⟨rfl, hb1⟩
    replace Hbw := Lib.hid (Hbw.out.trans (hb1.mono Hbw.out.size))
    clear hb1
    go_wp2_with fail
    refine (K3.out _).mono ?_
    rintro e w1 ⟨rfl, hb1⟩
    replace Hbw := Lib.hid (Hbw.out.trans (hb1.mono Hbw.out.size))
    clear hb1
    go_wp2_with fail
    refine (K1.out _ (Hg.out.below Hbw.out)).mono ?_
    rintro e w1 ⟨rfl, hb1⟩
    replace Hbw := Lib.hid (Hbw.out.trans (hb1.mono Hbw.out.size))
    clear hb1
    go_wp2_with fail
    refine (K4.out _ (Hg.out.below Hbw.out)).mono ?_
    rintro e w1 ⟨rfl, hb1⟩
    replace Hbw := Lib.hid (Hbw.out.trans (hb1.mono Hbw.out.size))
    clear hb1
    go_wp2_with fail
    refine (K5.out _).mono ?_
    rintro e w1 ⟨rfl, hb1⟩
    replace Hbw := Lib.hid (Hbw.out.trans (hb1.mono Hbw.out.size))
    clear hb1
    go_wp2_with fail
    refine (K6.out _).mono ?_
    rintro e w1 ⟨rfl, hb1⟩
    replace Hbw := Lib.hid (Hbw.out.trans (hb1.mono Hbw.out.size))
    clear hb1
    go_wp2_with fail
    refine (K7.out _ (Hg.out.below Hbw.out)).mono ?_
    rintro e w1 ⟨rfl, hb1⟩
    replace Hbw := Lib.hid (Hbw.out.trans (hb1.mono Hbw.out.size))
    clear hb1
    go_wp2_with fail
    refine (K8.out _ (Hg.out.below Hbw.out)).mono ?_
    rintro e w1 ⟨rfl, hb1⟩
    replace Hbw := Lib.hid (Hbw.out.trans (hb1.mono Hbw.out.size))
    clear hb1
    go_wp2_with fail
    refine (K9.out _ (Hg.out.below Hbw.out)).mono ?_
    rintro e w1 ⟨rfl, hb1⟩
    replace Hbw := Lib.hid (Hbw.out.trans (hb1.mono Hbw.out.size))
    clear hb1
    go_wp2_with fail
    refine (K10.out _ (Hg.out.below Hbw.out)).mono ?_
    rintro e w1 ⟨rfl, hb1⟩
    replace Hbw := Lib.hid (Hbw.out.trans (hb1.mono Hbw.out.size))
    clear hb1
    go_wp2_with fail
    refine (K11.out _ (Hg.out.below Hbw.out)).mono ?_
    rintro e w1 ⟨rfl, hb1⟩
    replace Hbw := Lib.hid (Hbw.out.trans (hb1.mono Hbw.out.size))
    clear hb1
    go_wp2_with fail
    refine (K12.out _ (Hg.out.below Hbw.out)).mono ?_
    rintro e w1 ⟨rfl, hb1⟩
    replace Hbw := Lib.hid (Hbw.out.trans (hb1.mono Hbw.out.size))
    clear hb1
    go_wp2_with fail
    refine (awake_any _ (Hg.out.below Hbw.out)).mono ?_
    rintro e w1 ⟨rfl, hb1⟩
    replace Hbw := Lib.hid (Hbw.out.trans (hb1.mono Hbw.out.size))
    clear hb1
    go_wp2_with fail
    go_ret
    exact ⟨rfl, Hbw.out⟩
  · have dp1 := decide_eq_false p1
    by_cases p2 : m ≤ -1073741824
    · have dp2 := decide_eq_true p2
      clear Vm Vn Fm Fn
      generalize canS m = tm at *
      generalize canS n = tn at *
      go_enter Tryz.func8, Tryz.ntmps8
      go_wp2_with fail
      refine (K1.out _ (Hg.out.below Hbw.out)).mono ?_
      rintro e w1 ⟨rfl, hb1⟩
      replace Hbw := Lib.hid (Hbw.out.trans (hb1.mono Hbw.out.size))
      clear hb1
      go_wp2_with fail
      refine (K2.out _ (Hg.out.below Hbw.out)).mono ?_
      rintro e w1 ⟨rfl, hb1⟩
      replace Hbw := Lib.hid (Hbw.out.trans (hb1.mono Hbw.out.size))
      clear hb1
      go_wp2_with fail
      refine (K1.out _ (Hg.out.below Hbw.out)).mono ?_
      rintro e w1 ⟨rfl, hb1⟩
      replace Hbw := Lib.hid (Hbw.out.trans (hb1.mono Hbw.out.size))
      clear hb1
      go_wp2_with fail
      refine (K3.out _).mono ?_
      rintro e w1 ⟨rfl, hb1⟩
      replace Hbw := Lib.hid (Hbw.out.trans (hb1.mono Hbw.out.size))
      clear hb1
      go_wp2_with fail
      refine (K1.out _ (Hg.out.below Hbw.out)).mono ?_
      rintro e w1 ⟨rfl, hb1⟩
      replace Hbw := Lib.hid (Hbw.out.trans (hb1.mono Hbw.out.size))
      clear hb1
      go_wp2_with fail
      refine (K4.out _ (Hg.out.below Hbw.out)).mono ?_
      rintro e w1 ⟨rfl, hb1⟩
      replace Hbw := Lib.hid (Hbw.out.trans (hb1.mono Hbw.out.size))
      clear hb1
      go_wp2_with fail
      refine (K5.out _).mono ?_
      rintro e w1 ⟨rfl, hb1⟩
      replace Hbw := Lib.hid (Hbw.out.trans (hb1.mono Hbw.out.size))
      clear hb1
      go_wp2_with fail
      refine (K6.out _).mono ?_
      rintro e w1 ⟨rfl, hb1⟩
      replace Hbw := Lib.hid (Hbw.out.trans (hb1.mono Hbw.out.size))
      clear hb1
      go_wp2_with fail
      refine (K7.out _ (Hg.out.below Hbw.out)).mono ?_
      rintro e w1 ⟨rfl, hb1⟩
      replace Hbw := Lib.hid (Hbw.out.trans (hb1.mono Hbw.out.size))
      clear hb1
      go_wp2_with fail
      refine (K8.out _ (Hg.out.below Hbw.out)).mono ?_
      rintro e w1 ⟨rfl, hb1⟩
      replace Hbw := Lib.hid (Hbw.out.trans (hb1.mono Hbw.out.size))
      clear hb1
      go_wp2_with fail
      refine (K9.out _ (Hg.out.below Hbw.out)).mono ?_
      rintro e w1 ⟨rfl, hb1⟩
      replace Hbw := Lib.hid (Hbw.out.trans (hb1.mono Hbw.out.size))
      clear hb1
      go_wp2_with fail
      refine (K10.out _ (Hg.out.below Hbw.out)).mono ?_
      rintro e w1 ⟨rfl, hb1⟩
      replace Hbw := Lib.hid (Hbw.out.trans (hb1.mono Hbw.out.size))
      clear hb1
      go_wp2_with fail
      refine (K11.out _ (Hg.out.below Hbw.out)).mono ?_
      rintro e w1 ⟨rfl, hb1⟩
      replace Hbw := Lib.hid (Hbw.out.trans (hb1.mono Hbw.out.size))
      clear hb1
      go_wp2_with fail
      refine (K12.out _ (Hg.out.below Hbw.out)).mono ?_
      rintro e w1 ⟨rfl, hb1⟩
      replace Hbw := Lib.hid (Hbw.out.trans (hb1.mono Hbw.out.size))
      clear hb1
      go_wp2_with fail
      refine (awake_any _ (Hg.out.below Hbw.out)).mono ?_
      rintro e w1 ⟨rfl, hb1⟩
      replace Hbw := Lib.hid (Hbw.out.trans (hb1.mono Hbw.out.size))
      clear hb1
      go_wp2_with fail
      go_ret
      exact ⟨rfl, Hbw.out⟩
    · have dp2 := decide_eq_false p2
      by_cases p3 : 1073741824 ≤ n
      · have dp3 := decide_eq_true p3
        clear Vm Vn Fm Fn
        generalize canS m = tm at *
        generalize canS n = tn at *
        go_enter Tryz.func8, Tryz.ntmps8
        go_wp2_with fail
        refine (K1.out _ (Hg.out.below Hbw.out)).mono ?_
        rintro e w1 ⟨rfl, hb1⟩
        replace Hbw := Lib.hid (Hbw.out.trans (hb1.mono Hbw.out.size))
        clear hb1
        go_wp2_with fail
        refine (K2.out _ (Hg.out.below Hbw.out)).mono ?_
        rintro e w1 ⟨rfl, hb1⟩
        replace Hbw := Lib.hid (Hbw.out.trans (hb1.mono Hbw.out.size))
        clear hb1
        go_wp2_with fail
        refine (K1.out _ (Hg.out.below Hbw.out)).mono ?_
        rintro e w1 ⟨rfl, hb1⟩
        replace Hbw := Lib.hid (Hbw.out.trans (hb1.mono Hbw.out.size))
        clear hb1
        go_wp2_with fail
        refine (K3.out _).mono ?_
        rintro e w1 ⟨rfl, hb1⟩
        replace Hbw := Lib.hid (Hbw.out.trans (hb1.mono Hbw.out.size))
        clear hb1
        go_wp2_with fail
        refine (K1.out _ (Hg.out.below Hbw.out)).mono ?_
        rintro e w1 ⟨rfl, hb1⟩
        replace Hbw := Lib.hid (Hbw.out.trans (hb1.mono Hbw.out.size))
        clear hb1
        go_wp2_with fail
        refine (K4.out _ (Hg.out.below Hbw.out)).mono ?_
        rintro e w1 ⟨rfl, hb1⟩
        replace Hbw := Lib.hid (Hbw.out.trans (hb1.mono Hbw.out.size))
        clear hb1
        go_wp2_with fail
        refine (K5.out _).mono ?_
        rintro e w1 ⟨rfl, hb1⟩
        replace Hbw := Lib.hid (Hbw.out.trans (hb1.mono Hbw.out.size))
        clear hb1
        go_wp2_with fail
        refine (K6.out _).mono ?_
        rintro e w1 ⟨rfl, hb1⟩
        replace Hbw := Lib.hid (Hbw.out.trans (hb1.mono Hbw.out.size))
        clear hb1
        go_wp2_with fail
        refine (K7.out _ (Hg.out.below Hbw.out)).mono ?_
        rintro e w1 ⟨rfl, hb1⟩
        replace Hbw := Lib.hid (Hbw.out.trans (hb1.mono Hbw.out.size))
        clear hb1
        go_wp2_with fail
        refine (K8.out _ (Hg.out.below Hbw.out)).mono ?_
        rintro e w1 ⟨rfl, hb1⟩
        replace Hbw := Lib.hid (Hbw.out.trans (hb1.mono Hbw.out.size))
        clear hb1
        go_wp2_with fail
        refine (K9.out _ (Hg.out.below Hbw.out)).mono ?_
        rintro e w1 ⟨rfl, hb1⟩
        replace Hbw := Lib.hid (Hbw.out.trans (hb1.mono Hbw.out.size))
        clear hb1
        go_wp2_with fail
        refine (K10.out _ (Hg.out.below Hbw.out)).mono ?_
        rintro e w1 ⟨rfl, hb1⟩
        replace Hbw := Lib.hid (Hbw.out.trans (hb1.mono Hbw.out.size))
        clear hb1
        go_wp2_with fail
        refine (K11.out _ (Hg.out.below Hbw.out)).mono ?_
        rintro e w1 ⟨rfl, hb1⟩
        replace Hbw := Lib.hid (Hbw.out.trans (hb1.mono Hbw.out.size))
        clear hb1
        go_wp2_with fail
        refine (K12.out _ (Hg.out.below Hbw.out)).mono ?_
        rintro e w1 ⟨rfl, hb1⟩
        replace Hbw := Lib.hid (Hbw.out.trans (hb1.mono Hbw.out.size))
        clear hb1
        go_wp2_with fail
        refine (awake_any _ (Hg.out.below Hbw.out)).mono ?_
        rintro e w1 ⟨rfl, hb1⟩
        replace Hbw := Lib.hid (Hbw.out.trans (hb1.mono Hbw.out.size))
        clear hb1
        go_wp2_with fail
        go_ret
        exact ⟨rfl, Hbw.out⟩
      · have dp3 := decide_eq_false p3
        by_cases p4 : n ≤ -1073741824
        · have dp4 := decide_eq_true p4
          clear Vm Vn Fm Fn
          generalize canS m = tm at *
          generalize canS n = tn at *
          go_enter Tryz.func8, Tryz.ntmps8
          go_wp2_with fail
          refine (K1.out _ (Hg.out.below Hbw.out)).mono ?_
          rintro e w1 ⟨rfl, hb1⟩
          replace Hbw := Lib.hid (Hbw.out.trans (hb1.mono Hbw.out.size))
          clear hb1
          go_wp2_with fail
          refine (K2.out _ (Hg.out.below Hbw.out)).mono ?_
          rintro e w1 ⟨rfl, hb1⟩
          replace Hbw := Lib.hid (Hbw.out.trans (hb1.mono Hbw.out.size))
          clear hb1
          go_wp2_with fail
          refine (K1.out _ (Hg.out.below Hbw.out)).mono ?_
          rintro e w1 ⟨rfl, hb1⟩
          replace Hbw := Lib.hid (Hbw.out.trans (hb1.mono Hbw.out.size))
          clear hb1
          go_wp2_with fail
          refine (K3.out _).mono ?_
          rintro e w1 ⟨rfl, hb1⟩
          replace Hbw := Lib.hid (Hbw.out.trans (hb1.mono Hbw.out.size))
          clear hb1
          go_wp2_with fail
          refine (K1.out _ (Hg.out.below Hbw.out)).mono ?_
          rintro e w1 ⟨rfl, hb1⟩
          replace Hbw := Lib.hid (Hbw.out.trans (hb1.mono Hbw.out.size))
          clear hb1
          go_wp2_with fail
          refine (K4.out _ (Hg.out.below Hbw.out)).mono ?_
          rintro e w1 ⟨rfl, hb1⟩
          replace Hbw := Lib.hid (Hbw.out.trans (hb1.mono Hbw.out.size))
          clear hb1
          go_wp2_with fail
          refine (K5.out _).mono ?_
          rintro e w1 ⟨rfl, hb1⟩
          replace Hbw := Lib.hid (Hbw.out.trans (hb1.mono Hbw.out.size))
          clear hb1
          go_wp2_with fail
          refine (K6.out _).mono ?_
          rintro e w1 ⟨rfl, hb1⟩
          replace Hbw := Lib.hid (Hbw.out.trans (hb1.mono Hbw.out.size))
          clear hb1
          go_wp2_with fail
          refine (K7.out _ (Hg.out.below Hbw.out)).mono ?_
          rintro e w1 ⟨rfl, hb1⟩
          replace Hbw := Lib.hid (Hbw.out.trans (hb1.mono Hbw.out.size))
          clear hb1
          go_wp2_with fail
          refine (K8.out _ (Hg.out.below Hbw.out)).mono ?_
          rintro e w1 ⟨rfl, hb1⟩
          replace Hbw := Lib.hid (Hbw.out.trans (hb1.mono Hbw.out.size))
          clear hb1
          go_wp2_with fail
          refine (K9.out _ (Hg.out.below Hbw.out)).mono ?_
          rintro e w1 ⟨rfl, hb1⟩
          replace Hbw := Lib.hid (Hbw.out.trans (hb1.mono Hbw.out.size))
          clear hb1
          go_wp2_with fail
          refine (K10.out _ (Hg.out.below Hbw.out)).mono ?_
          rintro e w1 ⟨rfl, hb1⟩
          replace Hbw := Lib.hid (Hbw.out.trans (hb1.mono Hbw.out.size))
          clear hb1
          go_wp2_with fail
          refine (K11.out _ (Hg.out.below Hbw.out)).mono ?_
          rintro e w1 ⟨rfl, hb1⟩
          replace Hbw := Lib.hid (Hbw.out.trans (hb1.mono Hbw.out.size))
          clear hb1
          go_wp2_with fail
          refine (K12.out _ (Hg.out.below Hbw.out)).mono ?_
          rintro e w1 ⟨rfl, hb1⟩
          replace Hbw := Lib.hid (Hbw.out.trans (hb1.mono Hbw.out.size))
          clear hb1
          go_wp2_with fail
          refine (awake_any _ (Hg.out.below Hbw.out)).mono ?_
          rintro e w1 ⟨rfl, hb1⟩
          replace Hbw := Lib.hid (Hbw.out.trans (hb1.mono Hbw.out.size))
          clear hb1
          go_wp2_with fail
          go_ret
          exact ⟨rfl, Hbw.out⟩
        · have dp4 := decide_eq_false p4
          have r1 : m + n ≤ 9223372036854775807 ∧ -9223372036854775808 ≤ m + n := by omega
          have r2 : m - n ≤ 9223372036854775807 ∧ -9223372036854775808 ≤ m - n := by omega
          have r3 : (m * n).natAbs ≤ 1073741824 * 1073741824 := by rw [Int.natAbs_mul]; exact Nat.mul_le_mul (by omega) (by omega)
          have r4 : m * n ≤ 9223372036854775807 := by omega
          have r5 : -9223372036854775808 ≤ m * n := by omega
          have K13 := Lib.hid (fun w hg => AddV Vm Vn w hg)
          have K14 := Lib.hid (fun w hg => SubV Vm Vn w hg)
          have K15 := Lib.hid (fun w hg => MulV Vm Vn w hg)
          have K16 := Lib.hid (fun w hg => Of_any (m + n) w r1.2 r1.1 hg)
          have K17 := Lib.hid (fun w hg => Of_any (m - n) w r2.2 r2.1 hg)
          have K18 := Lib.hid (fun w hg => Of_any (m * n) w r5 r4 hg)
          clear Vm Vn Fm Fn r3
          obtain ⟨r1a, r1b⟩ := r1
          obtain ⟨r2a, r2b⟩ := r2
          generalize canS m = tm at *
          generalize canS n = tn at *
          generalize canS (m + n) = t1 at *
          generalize canS (m - n) = t2 at *
          generalize canS (m * n) = t3 at *
          have e1 : (t1.toList == t1.toList) = true := by simp
          have e2 : (t2.toList == t2.toList) = true := by simp
          have e3 : (t3.toList == t3.toList) = true := by simp
          go_enter Tryz.func8, Tryz.ntmps8
          go_wp2_with fail
          refine (K1.out _ (Hg.out.below Hbw.out)).mono ?_
          rintro e w1 ⟨rfl, hb1⟩
          replace Hbw := Lib.hid (Hbw.out.trans (hb1.mono Hbw.out.size))
          clear hb1
          go_wp2_with fail
          refine (K2.out _ (Hg.out.below Hbw.out)).mono ?_
          rintro e w1 ⟨rfl, hb1⟩
          replace Hbw := Lib.hid (Hbw.out.trans (hb1.mono Hbw.out.size))
          clear hb1
          go_wp2_with fail
          refine (K1.out _ (Hg.out.below Hbw.out)).mono ?_
          rintro e w1 ⟨rfl, hb1⟩
          replace Hbw := Lib.hid (Hbw.out.trans (hb1.mono Hbw.out.size))
          clear hb1
          go_wp2_with fail
          refine (K3.out _).mono ?_
          rintro e w1 ⟨rfl, hb1⟩
          replace Hbw := Lib.hid (Hbw.out.trans (hb1.mono Hbw.out.size))
          clear hb1
          go_wp2_with fail
          refine (K1.out _ (Hg.out.below Hbw.out)).mono ?_
          rintro e w1 ⟨rfl, hb1⟩
          replace Hbw := Lib.hid (Hbw.out.trans (hb1.mono Hbw.out.size))
          clear hb1
          go_wp2_with fail
          refine (K4.out _ (Hg.out.below Hbw.out)).mono ?_
          rintro e w1 ⟨rfl, hb1⟩
          replace Hbw := Lib.hid (Hbw.out.trans (hb1.mono Hbw.out.size))
          clear hb1
          go_wp2_with fail
          refine (K5.out _).mono ?_
          rintro e w1 ⟨rfl, hb1⟩
          replace Hbw := Lib.hid (Hbw.out.trans (hb1.mono Hbw.out.size))
          clear hb1
          go_wp2_with fail
          refine (K6.out _).mono ?_
          rintro e w1 ⟨rfl, hb1⟩
          replace Hbw := Lib.hid (Hbw.out.trans (hb1.mono Hbw.out.size))
          clear hb1
          go_wp2_with fail
          refine (K7.out _ (Hg.out.below Hbw.out)).mono ?_
          rintro e w1 ⟨rfl, hb1⟩
          replace Hbw := Lib.hid (Hbw.out.trans (hb1.mono Hbw.out.size))
          clear hb1
          go_wp2_with fail
          refine (K8.out _ (Hg.out.below Hbw.out)).mono ?_
          rintro e w1 ⟨rfl, hb1⟩
          replace Hbw := Lib.hid (Hbw.out.trans (hb1.mono Hbw.out.size))
          clear hb1
          go_wp2_with fail
          refine (K9.out _ (Hg.out.below Hbw.out)).mono ?_
          rintro e w1 ⟨rfl, hb1⟩
          replace Hbw := Lib.hid (Hbw.out.trans (hb1.mono Hbw.out.size))
          clear hb1
          go_wp2_with fail
          refine (K10.out _ (Hg.out.below Hbw.out)).mono ?_
          rintro e w1 ⟨rfl, hb1⟩
          replace Hbw := Lib.hid (Hbw.out.trans (hb1.mono Hbw.out.size))
          clear hb1
          go_wp2_with fail
          refine (K11.out _ (Hg.out.below Hbw.out)).mono ?_
          rintro e w1 ⟨rfl, hb1⟩
          replace Hbw := Lib.hid (Hbw.out.trans (hb1.mono Hbw.out.size))
          clear hb1
          go_wp2_with fail
          refine (K12.out _ (Hg.out.below Hbw.out)).mono ?_
          rintro e w1 ⟨rfl, hb1⟩
          replace Hbw := Lib.hid (Hbw.out.trans (hb1.mono Hbw.out.size))
          clear hb1
          go_wp2_with fail
          refine (K1.out _ (Hg.out.below Hbw.out)).mono ?_
          rintro e w1 ⟨rfl, hb1⟩
          replace Hbw := Lib.hid (Hbw.out.trans (hb1.mono Hbw.out.size))
          clear hb1
          go_wp2_with fail
          refine (K4.out _ (Hg.out.below Hbw.out)).mono ?_
          rintro e w1 ⟨rfl, hb1⟩
          replace Hbw := Lib.hid (Hbw.out.trans (hb1.mono Hbw.out.size))
          clear hb1
          go_wp2_with fail
          refine (K13.out _ (Hg.out.below Hbw.out)).mono ?_
          rintro e w1 ⟨rfl, hb1⟩
          replace Hbw := Lib.hid (Hbw.out.trans (hb1.mono Hbw.out.size))
          clear hb1
          go_wp2_with fail
          refine (K16.out _ (Hg.out.below Hbw.out)).mono ?_
          rintro e w1 ⟨rfl, hb1⟩
          replace Hbw := Lib.hid (Hbw.out.trans (hb1.mono Hbw.out.size))
          clear hb1
          go_wp2_with fail
          refine (K1.out _ (Hg.out.below Hbw.out)).mono ?_
          rintro e w1 ⟨rfl, hb1⟩
          replace Hbw := Lib.hid (Hbw.out.trans (hb1.mono Hbw.out.size))
          clear hb1
          go_wp2_with fail
          refine (K4.out _ (Hg.out.below Hbw.out)).mono ?_
          rintro e w1 ⟨rfl, hb1⟩
          replace Hbw := Lib.hid (Hbw.out.trans (hb1.mono Hbw.out.size))
          clear hb1
          go_wp2_with fail
          refine (K14.out _ (Hg.out.below Hbw.out)).mono ?_
          rintro e w1 ⟨rfl, hb1⟩
          replace Hbw := Lib.hid (Hbw.out.trans (hb1.mono Hbw.out.size))
          clear hb1
          go_wp2_with fail
          refine (K17.out _ (Hg.out.below Hbw.out)).mono ?_
          rintro e w1 ⟨rfl, hb1⟩
          replace Hbw := Lib.hid (Hbw.out.trans (hb1.mono Hbw.out.size))
          clear hb1
          go_wp2_with fail
          refine (K1.out _ (Hg.out.below Hbw.out)).mono ?_
          rintro e w1 ⟨rfl, hb1⟩
          replace Hbw := Lib.hid (Hbw.out.trans (hb1.mono Hbw.out.size))
          clear hb1
          go_wp2_with fail
          refine (K4.out _ (Hg.out.below Hbw.out)).mono ?_
          rintro e w1 ⟨rfl, hb1⟩
          replace Hbw := Lib.hid (Hbw.out.trans (hb1.mono Hbw.out.size))
          clear hb1
          go_wp2_with fail
          refine (K15.out _ (Hg.out.below Hbw.out)).mono ?_
          rintro e w1 ⟨rfl, hb1⟩
          replace Hbw := Lib.hid (Hbw.out.trans (hb1.mono Hbw.out.size))
          clear hb1
          go_wp2_with fail
          refine (K18.out _ (Hg.out.below Hbw.out)).mono ?_
          rintro e w1 ⟨rfl, hb1⟩
          replace Hbw := Lib.hid (Hbw.out.trans (hb1.mono Hbw.out.size))
          clear hb1
          go_wp2_with fail
          refine (awake_any _ (Hg.out.below Hbw.out)).mono ?_
          rintro e w1 ⟨rfl, hb1⟩
          replace Hbw := Lib.hid (Hbw.out.trans (hb1.mono Hbw.out.size))
          clear hb1
          go_wp2_with fail
          go_ret
          exact ⟨rfl, Hbw.out⟩
end Go.Proofs.YtokhihaiioohgaaGreatDoor
