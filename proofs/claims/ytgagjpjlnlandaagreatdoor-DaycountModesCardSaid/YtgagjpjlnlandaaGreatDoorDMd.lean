/- Parts of years: the walk of DaycountModes: for every input it returns true. Condition: the library's table and error lie as the program's text lays them. -/
import Derived.Test.YtgagjpjlnlandaaGreatDoorIt
import Derived.Test.YtgagjpjlnlandaaGreatDoorLg8
import Derived.Test.YtgagjpjlnlandaaGreatDoorFeL
namespace Go.Proofs.YtgagjpjlnlandaaGreatDoor
open Go.RowKit Go.Shelf Dec QQ

theorem fit_minus {k : Nat} {x y : Int} (h1 : Fit k x) (h2 : Fit k y) : Fit (k + 1) (x - y) := by
  unfold Fit at *
  rw [Nat.pow_succ]
  omega
theorem it_zero {a rn rd : ByteArray} {c A B m : Int} (h : itE a rn rd c A B m = 0) : chk a = 0 ∧ chkF rn rd = 0 ∧ (fracR c A B).2 = 0 ∧ rndE m = 0 := by
  unfold itE at h
  by_cases h1 : chk a ≠ 0 ∨ chkF rn rd ≠ 0
  · rw [if_pos h1] at h; cases h
  · rw [if_neg h1] at h
    by_cases h2 : (fracR c A B).2 ≠ 0
    · rw [if_pos h2] at h; exact absurd h h2
    · rw [if_neg h2] at h
      exact ⟨Decidable.of_not_not fun h => h1 (.inl h), Decidable.of_not_not fun h => h1 (.inr h), Decidable.of_not_not h2, h⟩
theorem rndE_zero {m : Int} (h : rndE m = 0) : 1 ≤ m ∧ m ≤ 6 := by
  unfold rndE at h
  split at h
  · cases h
  · omega
theorem itS_ok {a rn rd : ByteArray} {c A B m : Int} (h : itE a rn rd c A B m = 0) : itS a rn rd c A B m = canS (rndQ m (itQ a rn rd c A B)) := if_pos h
theorem it_in {a rn rd : ByteArray} {c A B m : Int} (h1 : chk a = 0) (h2 : chkF rn rd = 0) (h3 : (fracR c A B).2 = 0) (h4 : rndE m = 0) : itE a rn rd c A B m = 0 := by rw [(it_ok m h1 h2 h3).1, h4]
theorem itQ_neg (a rn rd : ByteArray) (c A B : Int) : itQ (canS (-valS a)) rn rd c A B = -(itQ a rn rd c A B) := by
  unfold itQ
  rw [valS_canS, Rat.intCast_neg]
  grind
theorem cmpI_not {x y : Int} (h : x ≤ y) : decide (0 < cmpI x y) = false := by
  apply decide_eq_false
  unfold cmpI
  split
  · decide
  · split
    · decide
    · omega
set_option maxRecDepth 100000 in
set_option maxHeartbeats 4000000 in
theorem modes_long {a rn rd : ByteArray} {c A B m : Int} (g1 : a.size ≤ 9223372036854775807) (g2 : rn.size ≤ 9223372036854775807) (g3 : rd.size ≤ 9223372036854775807) (hL : (decide (20 < rn.size) || (decide (20 < rd.size) || decide (20 < a.size))) = true) (w : World) (hg : Gl w) : Calls Tryz.prog 5 #[.string a, .agg #[.string rn, .string rd], .int .i64 c, .int .i64 A, .int .i64 B, .int .i64 m] w fun e w' => e = .returned (.bool true) ∧ Below w.heap.size w w' := by
  have hs := ((St.refl hg).alloc (.cells #[.string rn, .string rd] 34)).alloc (.cells #[.string rn, .string rd] 34)
  have XR := (Bx.new w #[.string rn, .string rd] 34).alloc (.cells #[.string rn, .string rd] 34)
  have XS := Bx.new1 w (.cells #[.string rn, .string rd] 34) #[.string rn, .string rd] 34
  have AW := awake08
  have KL := long_one (a := a) (w.heap.size + 1) g2 g3 g1
  rw [hL] at KL
  clear hL g1 g2 g3 XR
  go_enter Tryz.func5, Tryz.ntmps5
  go_wp2_with fail
  refine KL.step hs XS ?_
  intro w1 hs hb
  go_wp2_with fail
  refine AW.step hs ?_
  intro w9 hs hb
  go_wp2_with fail
  go_ret
  exact ⟨rfl, hs.2⟩
set_option maxRecDepth 100000 in
set_option maxHeartbeats 4000000 in
theorem modes_err {a rn rd : ByteArray} {c A B m : Int} (g1 : a.size ≤ 9223372036854775807) (g2 : rn.size ≤ 9223372036854775807) (g3 : rd.size ≤ 9223372036854775807) (hL : (decide (20 < rn.size) || (decide (20 < rd.size) || decide (20 < a.size))) = false) (he : itE a rn rd c A B m ≠ 0) (w : World) (hg : Gl w) : Calls Tryz.prog 5 #[.string a, .agg #[.string rn, .string rd], .int .i64 c, .int .i64 A, .int .i64 B, .int .i64 m] w fun e w' => e = .returned (.bool true) ∧ Below w.heap.size w w' := by
  obtain ⟨s1, s2, s3⟩ : rn.size ≤ 20 ∧ rd.size ≤ 20 ∧ a.size ≤ 20 := by simpa using hL
  have hs := ((St.refl hg).alloc (.cells #[.string rn, .string rd] 34)).alloc (.cells #[.string rn, .string rd] 34)
  have XR := (Bx.new w #[.string rn, .string rd] 34).alloc (.cells #[.string rn, .string rd] 34)
  have XS := Bx.new1 w (.cells #[.string rn, .string rd] 34) #[.string rn, .string rd] 34
  have AW := awake08
  have KL := long_one (a := a) (w.heap.size + 1) g2 g3 g1
  rw [hL] at KL
  have KI := Interest_any c A B m (a := a) (rn := rn) (rd := rd) (by omega) (by omega) (by omega)
  have r1 : itS a rn rd c A B m = ⟨#[]⟩ := if_neg he
  rw [r1] at KI
  have q : (itE a rn rd c A B m != 0) = true := by simpa using he
  generalize itE a rn rd c A B m = e at *
  clear he r1
  clear hL g1 g2 g3 s1 s2 s3
  go_enter Tryz.func5, Tryz.ntmps5
  go_wp2_with fail
  refine KL.step hs XS ?_
  intro w1 hs hb
  clear XS
  replace XR := XR.on hb
  have x0 := XR.cell (i := 0) (v := .string rn) rfl
  have x1 := XR.cell (i := 1) (v := .string rd) rfl
  go_wp2_with fail
  refine KI.step hs ?_
  intro w2 hs hb
  clear x0 x1
  replace XR := XR.on hb
  go_wp2_with fail
  refine AW.step hs ?_
  intro w9 hs hb
  go_wp2_with fail
  go_ret
  exact ⟨rfl, hs.2⟩
set_option maxRecDepth 100000 in
set_option maxHeartbeats 4000000 in
theorem modes_4 {a rn rd : ByteArray} {c A B m : Int} (g1 : a.size ≤ 9223372036854775807) (g2 : rn.size ≤ 9223372036854775807) (g3 : rd.size ≤ 9223372036854775807) (hL : (decide (20 < rn.size) || (decide (20 < rd.size) || decide (20 < a.size))) = false) (he : itE a rn rd c A B m = 0) (hm : m ≤ 4) (w : World) (hg : Gl w) : Calls Tryz.prog 5 #[.string a, .agg #[.string rn, .string rd], .int .i64 c, .int .i64 A, .int .i64 B, .int .i64 m] w fun e w' => e = .returned (.bool true) ∧ Below w.heap.size w w' := by
  obtain ⟨s1, s2, s3⟩ : rn.size ≤ 20 ∧ rd.size ≤ 20 ∧ a.size ≤ 20 := by simpa using hL
  have hs := ((St.refl hg).alloc (.cells #[.string rn, .string rd] 34)).alloc (.cells #[.string rn, .string rd] 34)
  have XR := (Bx.new w #[.string rn, .string rd] 34).alloc (.cells #[.string rn, .string rd] 34)
  have XS := Bx.new1 w (.cells #[.string rn, .string rd] 34) #[.string rn, .string rd] 34
  have AW := awake08
  have KL := long_one (a := a) (w.heap.size + 1) g2 g3 g1
  rw [hL] at KL
  have KI := Interest_any c A B m (a := a) (rn := rn) (rd := rd) (by omega) (by omega) (by omega)
  obtain ⟨c1, c2, c3, c4⟩ := it_zero he
  obtain ⟨m1, m6⟩ := rndE_zero c4
  have d1 : chk (canS (-valS a)) = 0 := by rw [chk_zero, valS_canS]
  have va := Vs.arg (s := a) (by omega)
  have zn : (canS (-valS a)).size ≤ 21 := by
    have h := Fit.val (a := a) s3
    have : Fit 20 (-valS a) := by unfold Fit at *; rwa [Int.natAbs_neg]
    exact this.size
  have KN := NegR va
  have KI2 := Interest_any c A B m (a := canS (-valS a)) (rn := rn) (rd := rd) (by omega) (by omega) (by omega)
  have KI3 := Interest_any c A B 5 (a := a) (rn := rn) (rd := rd) (by omega) (by omega) (by omega)
  have KI4 := Interest_any c A B 6 (a := a) (rn := rn) (rd := rd) (by omega) (by omega) (by omega)
  rw [itS_ok he, he] at KI
  rw [itS_ok (it_in d1 c2 c3 c4), it_in d1 c2 c3 c4, itQ_neg] at KI2
  rw [itS_ok (it_in c1 c2 c3 rfl), it_in c1 c2 c3 rfl] at KI3
  rw [itS_ok (it_in c1 c2 c3 rfl), it_in c1 c2 c3 rfl] at KI4
  have fQ : FitQ 53 (itQ a rn rd c A B) := ((FitQ.arg (n := rn) (d := rd) (k := 20) s1 s2 (by omega)).mul (frac_fit c A B)).mul (FitQ.int (Fit.val s3) (by omega))
  have fx : Fit 54 (rndQ m (itQ a rn rd c A B)) := Fit.mono (rnd_fit m fQ) (by omega)
  have fl : Fit 54 (rndQ 5 (itQ a rn rd c A B)) := Fit.mono (rnd_fit 5 fQ) (by omega)
  have fh : Fit 54 (rndQ 6 (itQ a rn rd c A B)) := Fit.mono (rnd_fit 6 fQ) (by omega)
  have KC1 := CmpR (Vs.can fl (by omega)) (Vs.can fx (by omega))
  have q1 := cmpI_not (rnd_low m (itQ a rn rd c A B))
  have KC2 := CmpR (Vs.can fx (by omega)) (Vs.can fh (by omega))
  have q2 := cmpI_not (rnd_high m (itQ a rn rd c A B))
  have KS := SubR (Vs.can fh (show 54 ≤ 999999 by omega)) (Vs.can fl (show 54 ≤ 999999 by omega))
  have fd := fit_minus fh fl
  have KC3 := CmpR (Vs.can fd (by omega)) Vs.one
  have q3 := cmpI_not (rnd_gap (itQ a rn rd c A B))
  have KN2 := NegR (Vs.can fx (show 54 ≤ 999999 by omega))
  rw [rnd_neg m1 hm] at KI2
  have q5 : (m == 5) = false := beq_eq_false_iff_ne.2 (by omega)
  have q6 : (m == 6) = false := beq_eq_false_iff_ne.2 (by omega)
  unfold FV at *
  clear fQ fx fl fh fd c1 c2 c3 c4 m1 m6 d1 va zn he hm
  generalize cmpI (rndQ 5 (itQ a rn rd c A B)) (rndQ m (itQ a rn rd c A B)) = k1 at *
  generalize cmpI (rndQ m (itQ a rn rd c A B)) (rndQ 6 (itQ a rn rd c A B)) = k2 at *
  generalize cmpI (rndQ 6 (itQ a rn rd c A B) - rndQ 5 (itQ a rn rd c A B)) 1 = k3 at *
  generalize canS (rndQ 6 (itQ a rn rd c A B) - rndQ 5 (itQ a rn rd c A B)) = ds at *
  generalize canS (-(rndQ m (itQ a rn rd c A B))) = ys at *
  generalize canS (rndQ m (itQ a rn rd c A B)) = xs at *
  generalize canS (rndQ 5 (itQ a rn rd c A B)) = ls at *
  generalize canS (rndQ 6 (itQ a rn rd c A B)) = us at *
  generalize canS (-valS a) = na at *
  clear hL g1 g2 g3 s1 s2 s3
  go_enter Tryz.func5, Tryz.ntmps5
  go_wp2_with fail
  refine KL.step hs XS ?_
  intro w1 hs hb
  clear XS
  replace XR := XR.on hb
  have x0 := XR.cell (i := 0) (v := .string rn) rfl
  have x1 := XR.cell (i := 1) (v := .string rd) rfl
  go_wp2_with fail
  refine KI.step hs ?_
  intro w2 hs hb
  clear x0 x1
  replace XR := XR.on hb
  have k0 := XR.keeps (i := 0) (v := .string rn) rfl
  have k1' := XR.keeps (i := 1) (v := .string rd) rfl
  go_wp2_with fail
  refine wp_region_kept (by kernel_rfl) (by kernel_rfl) ?_
  repeat (go_big_quiet_step (first | (with_reducible exact KN.kept hs) | (with_reducible exact KI2.kept hs)))
  refine wpQuiet_nil ?_
  rintro _ ⟨u_, rfl⟩
  replace hs := hs.kept u_
  replace XR := XR.kept u_
  clear k0 k1'
  have x0 := XR.cell (i := 0) (v := .string rn) rfl
  have x1 := XR.cell (i := 1) (v := .string rd) rfl
  go_wp2_with fail
  refine KI3.step hs ?_
  intro w3 hs hb
  clear x0 x1
  replace XR := XR.on hb
  have x0 := XR.cell (i := 0) (v := .string rn) rfl
  have x1 := XR.cell (i := 1) (v := .string rd) rfl
  go_wp2_with fail
  refine KI4.step hs ?_
  intro w4 hs hb
  go_wp2_with fail
  refine KC1.step hs ?_
  intro w5 hs hb
  go_wp2_with fail
  refine KC2.step hs ?_
  intro w5 hs hb
  go_wp2_with fail
  refine KS.step hs ?_
  intro w5 hs hb
  go_wp2_with fail
  refine KC3.step hs ?_
  intro w5 hs hb
  go_wp2_with fail
  refine KN2.step hs ?_
  intro w5 hs hb
  go_wp2_with fail
  refine AW.step hs ?_
  intro w9 hs hb
  go_wp2_with fail
  go_ret
  exact ⟨rfl, hs.2⟩
set_option maxRecDepth 100000 in
set_option maxHeartbeats 4000000 in
theorem modes_5 {a rn rd : ByteArray} {c A B m : Int} (g1 : a.size ≤ 9223372036854775807) (g2 : rn.size ≤ 9223372036854775807) (g3 : rd.size ≤ 9223372036854775807) (hL : (decide (20 < rn.size) || (decide (20 < rd.size) || decide (20 < a.size))) = false) (he : itE a rn rd c A B m = 0) (hm : m = 5) (w : World) (hg : Gl w) : Calls Tryz.prog 5 #[.string a, .agg #[.string rn, .string rd], .int .i64 c, .int .i64 A, .int .i64 B, .int .i64 m] w fun e w' => e = .returned (.bool true) ∧ Below w.heap.size w w' := by
  obtain ⟨s1, s2, s3⟩ : rn.size ≤ 20 ∧ rd.size ≤ 20 ∧ a.size ≤ 20 := by simpa using hL
  have hs := ((St.refl hg).alloc (.cells #[.string rn, .string rd] 34)).alloc (.cells #[.string rn, .string rd] 34)
  have XR := (Bx.new w #[.string rn, .string rd] 34).alloc (.cells #[.string rn, .string rd] 34)
  have XS := Bx.new1 w (.cells #[.string rn, .string rd] 34) #[.string rn, .string rd] 34
  have AW := awake08
  have KL := long_one (a := a) (w.heap.size + 1) g2 g3 g1
  rw [hL] at KL
  have KI := Interest_any c A B m (a := a) (rn := rn) (rd := rd) (by omega) (by omega) (by omega)
  obtain ⟨c1, c2, c3, c4⟩ := it_zero he
  obtain ⟨m1, m6⟩ := rndE_zero c4
  have d1 : chk (canS (-valS a)) = 0 := by rw [chk_zero, valS_canS]
  have va := Vs.arg (s := a) (by omega)
  have zn : (canS (-valS a)).size ≤ 21 := by
    have h := Fit.val (a := a) s3
    have : Fit 20 (-valS a) := by unfold Fit at *; rwa [Int.natAbs_neg]
    exact this.size
  have KN := NegR va
  have KI2 := Interest_any c A B m (a := canS (-valS a)) (rn := rn) (rd := rd) (by omega) (by omega) (by omega)
  have KI3 := Interest_any c A B 5 (a := a) (rn := rn) (rd := rd) (by omega) (by omega) (by omega)
  have KI4 := Interest_any c A B 6 (a := a) (rn := rn) (rd := rd) (by omega) (by omega) (by omega)
  rw [itS_ok he, he] at KI
  rw [itS_ok (it_in d1 c2 c3 c4), it_in d1 c2 c3 c4, itQ_neg] at KI2
  rw [itS_ok (it_in c1 c2 c3 rfl), it_in c1 c2 c3 rfl] at KI3
  rw [itS_ok (it_in c1 c2 c3 rfl), it_in c1 c2 c3 rfl] at KI4
  have fQ : FitQ 53 (itQ a rn rd c A B) := ((FitQ.arg (n := rn) (d := rd) (k := 20) s1 s2 (by omega)).mul (frac_fit c A B)).mul (FitQ.int (Fit.val s3) (by omega))
  have fx : Fit 54 (rndQ m (itQ a rn rd c A B)) := Fit.mono (rnd_fit m fQ) (by omega)
  have fl : Fit 54 (rndQ 5 (itQ a rn rd c A B)) := Fit.mono (rnd_fit 5 fQ) (by omega)
  have fh : Fit 54 (rndQ 6 (itQ a rn rd c A B)) := Fit.mono (rnd_fit 6 fQ) (by omega)
  have KC1 := CmpR (Vs.can fl (by omega)) (Vs.can fx (by omega))
  have q1 := cmpI_not (rnd_low m (itQ a rn rd c A B))
  have KC2 := CmpR (Vs.can fx (by omega)) (Vs.can fh (by omega))
  have q2 := cmpI_not (rnd_high m (itQ a rn rd c A B))
  have KS := SubR (Vs.can fh (show 54 ≤ 999999 by omega)) (Vs.can fl (show 54 ≤ 999999 by omega))
  have fd := fit_minus fh fl
  have KC3 := CmpR (Vs.can fd (by omega)) Vs.one
  have q3 := cmpI_not (rnd_gap (itQ a rn rd c A B))
  unfold FV at *
  clear fQ fx fl fh fd c1 c2 c3 c4 m1 m6 d1 va zn he
  generalize cmpI (rndQ 5 (itQ a rn rd c A B)) (rndQ m (itQ a rn rd c A B)) = k1 at *
  generalize cmpI (rndQ m (itQ a rn rd c A B)) (rndQ 6 (itQ a rn rd c A B)) = k2 at *
  generalize cmpI (rndQ 6 (itQ a rn rd c A B) - rndQ 5 (itQ a rn rd c A B)) 1 = k3 at *
  generalize canS (rndQ 6 (itQ a rn rd c A B) - rndQ 5 (itQ a rn rd c A B)) = ds at *
  generalize canS (rndQ m (-(itQ a rn rd c A B))) = ys at *
  generalize canS (rndQ m (itQ a rn rd c A B)) = xs at *
  generalize canS (rndQ 5 (itQ a rn rd c A B)) = ls at *
  generalize canS (rndQ 6 (itQ a rn rd c A B)) = us at *
  generalize canS (-valS a) = na at *
  subst hm
  clear hL g1 g2 g3 s1 s2 s3
  go_enter Tryz.func5, Tryz.ntmps5
  go_wp2_with fail
  refine KL.step hs XS ?_
  intro w1 hs hb
  clear XS
  replace XR := XR.on hb
  have x0 := XR.cell (i := 0) (v := .string rn) rfl
  have x1 := XR.cell (i := 1) (v := .string rd) rfl
  go_wp2_with fail
  refine KI.step hs ?_
  intro w2 hs hb
  clear x0 x1
  replace XR := XR.on hb
  have k0 := XR.keeps (i := 0) (v := .string rn) rfl
  have k1' := XR.keeps (i := 1) (v := .string rd) rfl
  go_wp2_with fail
  refine wp_region_kept (by kernel_rfl) (by kernel_rfl) ?_
  repeat (go_big_quiet_step (first | (with_reducible exact KN.kept hs) | (with_reducible exact KI2.kept hs)))
  refine wpQuiet_nil ?_
  rintro _ ⟨u_, rfl⟩
  replace hs := hs.kept u_
  replace XR := XR.kept u_
  clear k0 k1'
  have x0 := XR.cell (i := 0) (v := .string rn) rfl
  have x1 := XR.cell (i := 1) (v := .string rd) rfl
  go_wp2_with fail
  refine KI3.step hs ?_
  intro w3 hs hb
  clear x0 x1
  replace XR := XR.on hb
  have x0 := XR.cell (i := 0) (v := .string rn) rfl
  have x1 := XR.cell (i := 1) (v := .string rd) rfl
  go_wp2_with fail
  refine KI4.step hs ?_
  intro w4 hs hb
  go_wp2_with fail
  refine KC1.step hs ?_
  intro w5 hs hb
  go_wp2_with fail
  refine KC2.step hs ?_
  intro w5 hs hb
  go_wp2_with fail
  refine KS.step hs ?_
  intro w5 hs hb
  go_wp2_with fail
  refine KC3.step hs ?_
  intro w5 hs hb
  go_wp2_with fail
  refine AW.step hs ?_
  intro w9 hs hb
  go_wp2_with fail
  go_ret
  exact ⟨rfl, hs.2⟩
set_option maxRecDepth 100000 in
set_option maxHeartbeats 4000000 in
theorem modes_6 {a rn rd : ByteArray} {c A B m : Int} (g1 : a.size ≤ 9223372036854775807) (g2 : rn.size ≤ 9223372036854775807) (g3 : rd.size ≤ 9223372036854775807) (hL : (decide (20 < rn.size) || (decide (20 < rd.size) || decide (20 < a.size))) = false) (he : itE a rn rd c A B m = 0) (hm : m = 6) (w : World) (hg : Gl w) : Calls Tryz.prog 5 #[.string a, .agg #[.string rn, .string rd], .int .i64 c, .int .i64 A, .int .i64 B, .int .i64 m] w fun e w' => e = .returned (.bool true) ∧ Below w.heap.size w w' := by
  obtain ⟨s1, s2, s3⟩ : rn.size ≤ 20 ∧ rd.size ≤ 20 ∧ a.size ≤ 20 := by simpa using hL
  have hs := ((St.refl hg).alloc (.cells #[.string rn, .string rd] 34)).alloc (.cells #[.string rn, .string rd] 34)
  have XR := (Bx.new w #[.string rn, .string rd] 34).alloc (.cells #[.string rn, .string rd] 34)
  have XS := Bx.new1 w (.cells #[.string rn, .string rd] 34) #[.string rn, .string rd] 34
  have AW := awake08
  have KL := long_one (a := a) (w.heap.size + 1) g2 g3 g1
  rw [hL] at KL
  have KI := Interest_any c A B m (a := a) (rn := rn) (rd := rd) (by omega) (by omega) (by omega)
  obtain ⟨c1, c2, c3, c4⟩ := it_zero he
  obtain ⟨m1, m6⟩ := rndE_zero c4
  have d1 : chk (canS (-valS a)) = 0 := by rw [chk_zero, valS_canS]
  have va := Vs.arg (s := a) (by omega)
  have zn : (canS (-valS a)).size ≤ 21 := by
    have h := Fit.val (a := a) s3
    have : Fit 20 (-valS a) := by unfold Fit at *; rwa [Int.natAbs_neg]
    exact this.size
  have KN := NegR va
  have KI2 := Interest_any c A B m (a := canS (-valS a)) (rn := rn) (rd := rd) (by omega) (by omega) (by omega)
  have KI3 := Interest_any c A B 5 (a := a) (rn := rn) (rd := rd) (by omega) (by omega) (by omega)
  have KI4 := Interest_any c A B 6 (a := a) (rn := rn) (rd := rd) (by omega) (by omega) (by omega)
  rw [itS_ok he, he] at KI
  rw [itS_ok (it_in d1 c2 c3 c4), it_in d1 c2 c3 c4, itQ_neg] at KI2
  rw [itS_ok (it_in c1 c2 c3 rfl), it_in c1 c2 c3 rfl] at KI3
  rw [itS_ok (it_in c1 c2 c3 rfl), it_in c1 c2 c3 rfl] at KI4
  have fQ : FitQ 53 (itQ a rn rd c A B) := ((FitQ.arg (n := rn) (d := rd) (k := 20) s1 s2 (by omega)).mul (frac_fit c A B)).mul (FitQ.int (Fit.val s3) (by omega))
  have fx : Fit 54 (rndQ m (itQ a rn rd c A B)) := Fit.mono (rnd_fit m fQ) (by omega)
  have fl : Fit 54 (rndQ 5 (itQ a rn rd c A B)) := Fit.mono (rnd_fit 5 fQ) (by omega)
  have fh : Fit 54 (rndQ 6 (itQ a rn rd c A B)) := Fit.mono (rnd_fit 6 fQ) (by omega)
  have KC1 := CmpR (Vs.can fl (by omega)) (Vs.can fx (by omega))
  have q1 := cmpI_not (rnd_low m (itQ a rn rd c A B))
  have KC2 := CmpR (Vs.can fx (by omega)) (Vs.can fh (by omega))
  have q2 := cmpI_not (rnd_high m (itQ a rn rd c A B))
  have KS := SubR (Vs.can fh (show 54 ≤ 999999 by omega)) (Vs.can fl (show 54 ≤ 999999 by omega))
  have fd := fit_minus fh fl
  have KC3 := CmpR (Vs.can fd (by omega)) Vs.one
  have q3 := cmpI_not (rnd_gap (itQ a rn rd c A B))
  unfold FV at *
  clear fQ fx fl fh fd c1 c2 c3 c4 m1 m6 d1 va zn he
  generalize cmpI (rndQ 5 (itQ a rn rd c A B)) (rndQ m (itQ a rn rd c A B)) = k1 at *
  generalize cmpI (rndQ m (itQ a rn rd c A B)) (rndQ 6 (itQ a rn rd c A B)) = k2 at *
  generalize cmpI (rndQ 6 (itQ a rn rd c A B) - rndQ 5 (itQ a rn rd c A B)) 1 = k3 at *
  generalize canS (rndQ 6 (itQ a rn rd c A B) - rndQ 5 (itQ a rn rd c A B)) = ds at *
  generalize canS (rndQ m (-(itQ a rn rd c A B))) = ys at *
  generalize canS (rndQ m (itQ a rn rd c A B)) = xs at *
  generalize canS (rndQ 5 (itQ a rn rd c A B)) = ls at *
  generalize canS (rndQ 6 (itQ a rn rd c A B)) = us at *
  generalize canS (-valS a) = na at *
  subst hm
  clear hL g1 g2 g3 s1 s2 s3
  go_enter Tryz.func5, Tryz.ntmps5
  go_wp2_with fail
  refine KL.step hs XS ?_
  intro w1 hs hb
  clear XS
  replace XR := XR.on hb
  have x0 := XR.cell (i := 0) (v := .string rn) rfl
  have x1 := XR.cell (i := 1) (v := .string rd) rfl
  go_wp2_with fail
  refine KI.step hs ?_
  intro w2 hs hb
  clear x0 x1
  replace XR := XR.on hb
  have k0 := XR.keeps (i := 0) (v := .string rn) rfl
  have k1' := XR.keeps (i := 1) (v := .string rd) rfl
  go_wp2_with fail
  refine wp_region_kept (by kernel_rfl) (by kernel_rfl) ?_
  repeat (go_big_quiet_step (first | (with_reducible exact KN.kept hs) | (with_reducible exact KI2.kept hs)))
  refine wpQuiet_nil ?_
  rintro _ ⟨u_, rfl⟩
  replace hs := hs.kept u_
  replace XR := XR.kept u_
  clear k0 k1'
  have x0 := XR.cell (i := 0) (v := .string rn) rfl
  have x1 := XR.cell (i := 1) (v := .string rd) rfl
  go_wp2_with fail
  refine KI3.step hs ?_
  intro w3 hs hb
  clear x0 x1
  replace XR := XR.on hb
  have x0 := XR.cell (i := 0) (v := .string rn) rfl
  have x1 := XR.cell (i := 1) (v := .string rd) rfl
  go_wp2_with fail
  refine KI4.step hs ?_
  intro w4 hs hb
  go_wp2_with fail
  refine KC1.step hs ?_
  intro w5 hs hb
  go_wp2_with fail
  refine KC2.step hs ?_
  intro w5 hs hb
  go_wp2_with fail
  refine KS.step hs ?_
  intro w5 hs hb
  go_wp2_with fail
  refine KC3.step hs ?_
  intro w5 hs hb
  go_wp2_with fail
  refine AW.step hs ?_
  intro w9 hs hb
  go_wp2_with fail
  go_ret
  exact ⟨rfl, hs.2⟩
theorem modes_any (c A B m : Int) {a rn rd : ByteArray} (w : World) (g1 : a.size ≤ 9223372036854775807) (g2 : rn.size ≤ 9223372036854775807) (g3 : rd.size ≤ 9223372036854775807) (hg : Gl w) : Calls Tryz.prog 5 #[.string a, .agg #[.string rn, .string rd], .int .i64 c, .int .i64 A, .int .i64 B, .int .i64 m] w fun e w' => e = .returned (.bool true) ∧ Below w.heap.size w w' := by
  cases hL : (decide (20 < rn.size) || (decide (20 < rd.size) || decide (20 < a.size))) with
  | true => exact modes_long g1 g2 g3 hL w hg
  | false =>
    by_cases he : itE a rn rd c A B m = 0
    · by_cases h4 : m ≤ 4
      · exact modes_4 g1 g2 g3 hL he h4 w hg
      · by_cases h5 : m = 5
        · exact modes_5 g1 g2 g3 hL he h5 w hg
        · exact modes_6 g1 g2 g3 hL he (by have := rndE_zero (it_zero he).2.2.2; omega) w hg
    · exact modes_err g1 g2 g3 hL he w hg
end Go.Proofs.YtgagjpjlnlandaaGreatDoor
