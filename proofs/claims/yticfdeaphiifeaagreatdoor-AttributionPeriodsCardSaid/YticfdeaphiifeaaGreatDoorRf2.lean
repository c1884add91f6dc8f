/- Fractions, the reference: contracts of Add, Sub, Neg, Mul, Quo, Floor, Of, Check. Conditions: strings of up to thirty thousand bytes. -/
import Derived.Test.YticfdeaphiifeaaGreatDoorOv
import Derived.Test.YticfdeaphiifeaaGreatDoorFq
import Derived.Test.YticfdeaphiifeaaGreatDoorRf
set_option maxHeartbeats 4000000
set_option maxRecDepth 100000
namespace Go.Proofs.YticfdeaphiifeaaGreatDoor
open Go.RowKit Go.Shelf Dec QQ
theorem rAddR {a b : ByteArray} (ha : a.size ≤ 900000) (hb : b.size ≤ 900000) : Ret 103 #[.string a, .string b] (.string (canS (valS a + valS b))) := fun w _ => rAdd_any a b w ha hb
theorem rSubR {a b : ByteArray} (ha : a.size ≤ 900000) (hb : b.size ≤ 800000) : Ret 68 #[.string a, .string b] (.string (canS (valS a - valS b))) := fun w _ => rSub_any a b w ha hb
theorem radd_r {a b c d : ByteArray} (h1 : a.size ≤ 30000) (h2 : b.size ≤ 30000) (h3 : c.size ≤ 30000) (h4 : d.size ≤ 30000) : Ret 50 #[FV a b, FV c d] (FR (ratV a b + ratV c d)) := by
 intro w hg
 have hs := (((St.refl hg).alloc (.cells #[.string a, .string b] 34)).alloc (.cells #[.string c, .string d] 34)).alloc (.cells #[.string ⟨#[]⟩, .string ⟨#[]⟩] 34)
 have B1 := (Bx.new1 w (.cells #[.string a, .string b] 34) #[.string c, .string d] 34).alloc (.cells #[.string ⟨#[]⟩, .string ⟨#[]⟩] 34)
 have B2 := Bx.new2 w (.cells #[.string a, .string b] 34) (.cells #[.string c, .string d] 34) #[.string ⟨#[]⟩, .string ⟨#[]⟩] 34
 have K1 := raw_r (n := a) (d := b) (by omega) (by omega)
 have K2 := raw_r (n := c) (d := d) (by omega) (by omega)
 obtain ⟨e1, p1⟩ := raw_rat a b
 obtain ⟨e2, p2⟩ := raw_rat c d
 obtain ⟨s1, s2⟩ := raw_size (k := 30000) h1 h2 (by omega)
 obtain ⟨s3, s4⟩ := raw_size (k := 30000) h3 h4 (by omega)
 generalize (rawR a b).1 = n1 at *
 generalize (rawR a b).2 = d1 at *
 generalize (rawR c d).1 = n2 at *
 generalize (rawR c d).2 = d2 at *
 have f1 := (Fit.val s1).mul (Fit.val s4)
 have f2 := (Fit.val s3).mul (Fit.val s2)
 have f3 := (Fit.val s2).mul (Fit.val s4)
 have f4 := f1.add f2
 have z1 := f1.size
 have z2 := f2.size
 have z3 := f3.size
 have z4 := f4.size
 have K3 := rMulR (a := n1) (b := d2) (by omega) (by omega)
 have K4 := rMulR (a := n2) (b := d1) (by omega) (by omega)
 have K5 := rAddR (a := canS (valS n1 * valS d2)) (b := canS (valS n2 * valS d1)) (by omega) (by omega)
 rw [valS_canS, valS_canS] at K5
 have K6 := rMulR (a := d1) (b := d2) (by omega) (by omega)
 have K7 := reduced_r (n := canS (valS n1 * valS d2 + valS n2 * valS d1)) (d := canS (valS d1 * valS d2)) (by omega) (by omega) (by rw [valS_canS]; exact Int.mul_pos p1 p2)
 rw [valS_canS, valS_canS, rat_add (by omega) (by omega), e1, e2] at K7
 unfold FR at K7 ⊢
 unfold FV
 clear e1 e2 p1 p2 f1 f2 f3 f4 z1 z2 z3 z4 s1 s2 s3 s4
 generalize frN (ratV a b + ratV c d) = rn at *
 generalize frD (ratV a b + ratV c d) = rd at *
 generalize canS (valS n1 * valS d2 + valS n2 * valS d1) = u3 at *
 generalize canS (valS n1 * valS d2) = u1 at *
 generalize canS (valS n2 * valS d1) = u2 at *
 generalize canS (valS d1 * valS d2) = u4 at *
 go_enter Tryz.func50, Tryz.ntmps50
 go_wp2_with fail
 refine K1.step hs ?_
 intro w1 hs hb
 replace B1 := B1.on hb
 replace B2 := B2.on hb
 have c0 := B1.cell (i := 0) (v := .string c) rfl
 have c1 := B1.cell (i := 1) (v := .string d) rfl
 go_wp2_with fail
 refine K2.step hs ?_
 intro w2 hs hb
 replace B2 := B2.on hb
 clear c0 c1 B1
 go_wp2_with fail
 refine K3.step hs ?_
 intro w3 hs hb
 replace B2 := B2.on hb
 go_wp2_with fail
 refine K4.step hs ?_
 intro w4 hs hb
 replace B2 := B2.on hb
 go_wp2_with fail
 refine K5.step hs ?_
 intro w5 hs hb
 replace B2 := B2.on hb
 go_wp2_with fail
 refine K6.step hs ?_
 intro w6 hs hb
 replace B2 := B2.on hb
 go_wp2_with fail
 refine K7.step hs ?_
 intro w7 hs hb
 replace B2 := B2.on hb
 have x0 := B2.cell (i := 0) (v := .string ⟨#[]⟩) rfl
 have x1 := B2.cell (i := 1) (v := .string ⟨#[]⟩) rfl
 have f0 := B2.frozen 0
 have f1 := B2.frozen 1
 go_wp2_with fail
 obtain ⟨W, hW, y0, y1, hbe⟩ := ret_frac hs (by omega) B2 rn rd
 rw [hW]
 exact bodyPost_ret (v := .agg #[.string rn, .string rd]) (by simp [results, Tryz.results50, go_sem, y0, y1]) rfl ⟨rfl, hbe⟩
theorem rmul_r {a b c d : ByteArray} (h1 : a.size ≤ 30000) (h2 : b.size ≤ 30000) (h3 : c.size ≤ 30000) (h4 : d.size ≤ 30000) : Ret 49 #[FV a b, FV c d] (FR (ratV a b * ratV c d)) := by
 intro w hg
 have hs := (((St.refl hg).alloc (.cells #[.string a, .string b] 34)).alloc (.cells #[.string c, .string d] 34)).alloc (.cells #[.string ⟨#[]⟩, .string ⟨#[]⟩] 34)
 have B1 := (Bx.new1 w (.cells #[.string a, .string b] 34) #[.string c, .string d] 34).alloc (.cells #[.string ⟨#[]⟩, .string ⟨#[]⟩] 34)
 have B2 := Bx.new2 w (.cells #[.string a, .string b] 34) (.cells #[.string c, .string d] 34) #[.string ⟨#[]⟩, .string ⟨#[]⟩] 34
 have K1 := raw_r (n := a) (d := b) (by omega) (by omega)
 have K2 := raw_r (n := c) (d := d) (by omega) (by omega)
 obtain ⟨e1, p1⟩ := raw_rat a b
 obtain ⟨e2, p2⟩ := raw_rat c d
 obtain ⟨s1, s2⟩ := raw_size (k := 30000) h1 h2 (by omega)
 obtain ⟨s3, s4⟩ := raw_size (k := 30000) h3 h4 (by omega)
 generalize (rawR a b).1 = n1 at *
 generalize (rawR a b).2 = d1 at *
 generalize (rawR c d).1 = n2 at *
 generalize (rawR c d).2 = d2 at *
 have f1 := (Fit.val s1).mul (Fit.val s3)
 have f3 := (Fit.val s2).mul (Fit.val s4)
 have z1 := f1.size
 have z3 := f3.size
 have K3 := rMulR (a := n1) (b := n2) (by omega) (by omega)
 have K6 := rMulR (a := d1) (b := d2) (by omega) (by omega)
 have K7 := reduced_r (n := canS (valS n1 * valS n2)) (d := canS (valS d1 * valS d2)) (by omega) (by omega) (by rw [valS_canS]; exact Int.mul_pos p1 p2)
 rw [valS_canS, valS_canS, rat_mul (by omega) (by omega), e1, e2] at K7
 unfold FR at K7 ⊢
 unfold FV
 clear e1 e2 p1 p2 f1 f3 z1 z3 s1 s2 s3 s4
 generalize frN (ratV a b * ratV c d) = rn at *
 generalize frD (ratV a b * ratV c d) = rd at *
 generalize canS (valS n1 * valS n2) = u1 at *
 generalize canS (valS d1 * valS d2) = u4 at *
 go_enter Tryz.func49, Tryz.ntmps49
 go_wp2_with fail
 refine K1.step hs ?_
 intro w1 hs hb
 replace B1 := B1.on hb
 replace B2 := B2.on hb
 have c0 := B1.cell (i := 0) (v := .string c) rfl
 have c1 := B1.cell (i := 1) (v := .string d) rfl
 go_wp2_with fail
 refine K2.step hs ?_
 intro w2 hs hb
 replace B2 := B2.on hb
 clear c0 c1 B1
 go_wp2_with fail
 refine K3.step hs ?_
 intro w3 hs hb
 replace B2 := B2.on hb
 go_wp2_with fail
 refine K6.step hs ?_
 intro w4 hs hb
 replace B2 := B2.on hb
 go_wp2_with fail
 refine K7.step hs ?_
 intro w5 hs hb
 replace B2 := B2.on hb
 have x0 := B2.cell (i := 0) (v := .string ⟨#[]⟩) rfl
 have x1 := B2.cell (i := 1) (v := .string ⟨#[]⟩) rfl
 have f0 := B2.frozen 0
 have f1 := B2.frozen 1
 go_wp2_with fail
 obtain ⟨W, hW, y0, y1, hbe⟩ := ret_frac hs (by omega) B2 rn rd
 rw [hW]
 exact bodyPost_ret (v := .agg #[.string rn, .string rd]) (by simp [results, Tryz.results49, go_sem, y0, y1]) rfl ⟨rfl, hbe⟩
theorem rneg_r {a b : ByteArray} (h1 : a.size ≤ 40000) (h2 : b.size ≤ 40000) : Ret 154 #[FV a b] (FR (-(ratV a b))) := by
 intro w hg
 have hs := ((St.refl hg).alloc (.cells #[.string a, .string b] 34)).alloc (.cells #[.string ⟨#[]⟩, .string ⟨#[]⟩] 34)
 have B2 := Bx.new1 w (.cells #[.string a, .string b] 34) #[.string ⟨#[]⟩, .string ⟨#[]⟩] 34
 have K1 := raw_r (n := a) (d := b) (by omega) (by omega)
 obtain ⟨e1, p1⟩ := raw_rat a b
 obtain ⟨s1, s2⟩ := raw_size (k := 40000) h1 h2 (by omega)
 generalize (rawR a b).1 = n1 at *
 generalize (rawR a b).2 = d1 at *
 have z1 := (Fit.val s1).neg.size
 have K2 := rnegR (a := n1) (by omega)
 have K3 := reduced_r (n := canS (-(valS n1))) (d := d1) (by omega) (by omega) p1
 rw [valS_canS, rat_negn, e1] at K3
 unfold FR at K3 ⊢
 unfold FV
 clear e1 p1 z1 s1 s2
 generalize frN (-(ratV a b)) = rn at *
 generalize frD (-(ratV a b)) = rd at *
 generalize canS (-(valS n1)) = u1 at *
 go_enter Tryz.func154, Tryz.ntmps154
 go_wp2_with fail
 refine K1.step hs ?_
 intro w1 hs hb
 replace B2 := B2.on hb
 go_wp2_with fail
 refine K2.step hs ?_
 intro w3 hs hb
 replace B2 := B2.on hb
 go_wp2_with fail
 refine K3.step hs ?_
 intro w4 hs hb
 replace B2 := B2.on hb
 have x0 := B2.cell (i := 0) (v := .string ⟨#[]⟩) rfl
 have x1 := B2.cell (i := 1) (v := .string ⟨#[]⟩) rfl
 have f0 := B2.frozen 0
 have f1 := B2.frozen 1
 go_wp2_with fail
 obtain ⟨W, hW, y0, y1, hbe⟩ := ret_frac hs (by omega) B2 rn rd
 rw [hW]
 exact bodyPost_ret (v := .agg #[.string rn, .string rd]) (by simp [results, Tryz.results154, go_sem, y0, y1]) rfl ⟨rfl, hbe⟩
theorem rsub_r {a b c d : ByteArray} (h1 : a.size ≤ 30000) (h2 : b.size ≤ 30000) (h3 : c.size ≤ 20000) (h4 : d.size ≤ 20000) : Ret 104 #[FV a b, FV c d] (FR (ratV a b - ratV c d)) := by
 intro w hg
 have hs := (((St.refl hg).alloc (.cells #[.string a, .string b] 34)).alloc (.cells #[.string c, .string d] 34)).alloc (.cells #[.string ⟨#[]⟩, .string ⟨#[]⟩] 34)
 have B1 := (Bx.new1 w (.cells #[.string a, .string b] 34) #[.string c, .string d] 34).alloc (.cells #[.string ⟨#[]⟩, .string ⟨#[]⟩] 34)
 have B2 := Bx.new2 w (.cells #[.string a, .string b] 34) (.cells #[.string c, .string d] 34) #[.string ⟨#[]⟩, .string ⟨#[]⟩] 34
 have B0 := ((Bx.new w #[.string a, .string b] 34).alloc (.cells #[.string c, .string d] 34)).alloc (.cells #[.string ⟨#[]⟩, .string ⟨#[]⟩] 34)
 have K1 := rneg_r (a := c) (b := d) (by omega) (by omega)
 have ff : FitQ 20001 (-(ratV c d)) := (FitQ.arg (k := 20001) (by omega) (by omega) (by omega)).neg
 have zz := FitQ.sizes ff
 have K2 := radd_r (a := a) (b := b) (c := frN (-(ratV c d))) (d := frD (-(ratV c d))) h1 h2 (by omega) (by omega)
 rw [ratV_fr, ← Rat.sub_eq_add_neg] at K2
 unfold FR at K1 K2 ⊢
 unfold FV at K1 K2 ⊢
 clear ff zz
 generalize frN (-(ratV c d)) = m1 at *
 generalize frD (-(ratV c d)) = m2 at *
 generalize frN (ratV a b - ratV c d) = rn at *
 generalize frD (ratV a b - ratV c d) = rd at *
 obtain ⟨W, hW, hsW, BW0, BW1, BW2⟩ : ∃ W, ((w.alloc (.cells #[.string a, .string b] 34)).alloc (.cells #[.string c, .string d] 34)).alloc (.cells #[.string ⟨#[]⟩, .string ⟨#[]⟩] 34) = W ∧ St w W ∧ Bx W w.heap.size #[.string a, .string b] ∧ Bx W (w.heap.size + 1) #[.string c, .string d] ∧ Bx W (w.heap.size + 2) #[.string ⟨#[]⟩, .string ⟨#[]⟩] := ⟨_, rfl, hs, B0, B1, B2⟩
 have HW := Lib.hid hW
 clear hW hs B0 B1 B2
 have k0 := BW0.keeps (i := 0) (v := .string a) rfl
 have k1 := BW0.keeps (i := 1) (v := .string b) rfl
 have k2 := BW1.keeps (i := 0) (v := .string c) rfl
 have k3 := BW1.keeps (i := 1) (v := .string d) rfl
 go_enter Tryz.func104, Tryz.ntmps104
 go_wp2_with fail
 go_wp2_with fail
 rw [HW.out]
 refine wp_region_kept_tail 4 (by kernel_rfl) (by kernel_rfl) ?_
 simp only [List.take_succ_cons, List.take_zero, List.drop_succ_cons, List.drop_zero]
 repeat (go_big_quiet_step (first | (with_reducible exact K1.kept hsW) | (with_reducible exact K2.kept hsW)))
 refine wpQuiet_nil ?_
 rintro _ ⟨u, rfl⟩
 have hs := hsW.kept u
 have B2 := BW2.kept u
 have x0 := B2.cell (i := 0) (v := .string ⟨#[]⟩) rfl
 have x1 := B2.cell (i := 1) (v := .string ⟨#[]⟩) rfl
 have f0 := B2.frozen 0
 have f1 := B2.frozen 1
 go_wp2_with fail
 obtain ⟨W, hW, y0, y1, hbe⟩ := ret_frac hs (by omega) B2 rn rd
 rw [hW]
 exact bodyPost_ret (v := .agg #[.string rn, .string rd]) (by simp [results, Tryz.results104, go_sem, y0, y1]) rfl ⟨rfl, hbe⟩
theorem rof_r {a : ByteArray} (h1 : a.size ≤ 80000) : Ret 47 #[.string a] (FR ((valS a : Int) : Rat)) := by
 intro w hg
 have hs := (St.refl hg).alloc (.cells #[.string ⟨#[]⟩, .string ⟨#[]⟩] 34)
 have B2 := Bx.new w #[.string ⟨#[]⟩, .string ⟨#[]⟩] 34
 have KO := one_r
 have K2 := reduced_r (n := a) (d := ⟨#[49]⟩) (by omega) (by decide) (by rw [one_val]; decide)
 rw [one_val, rat_one] at K2
 unfold FR at K2 ⊢
 generalize frN ((valS a : Int) : Rat) = rn at *
 generalize frD ((valS a : Int) : Rat) = rd at *
 go_enter Tryz.func47, Tryz.ntmps47
 go_wp2_with fail
 refine KO.step hs ?_
 intro w3 hs hb
 replace B2 := B2.on hb
 go_wp2_with fail
 refine K2.step hs ?_
 intro w4 hs hb
 replace B2 := B2.on hb
 have x0 := B2.cell (i := 0) (v := .string ⟨#[]⟩) rfl
 have x1 := B2.cell (i := 1) (v := .string ⟨#[]⟩) rfl
 have f0 := B2.frozen 0
 have f1 := B2.frozen 1
 go_wp2_with fail
 obtain ⟨W, hW, y0, y1, hbe⟩ := ret_frac hs (by omega) B2 rn rd
 rw [hW]
 exact bodyPost_ret (v := .agg #[.string rn, .string rd]) (by simp [results, Tryz.results47, go_sem, y0, y1]) rfl ⟨rfl, hbe⟩
theorem rchk_r {a b : ByteArray} (h1 : a.size ≤ 80000) (h2 : b.size ≤ 80000) : Ret 120 #[FV a b] (.int .i64 (chkF a b)) := by
 intro w hg
 have hs := (St.refl hg).alloc (.cells #[.string a, .string b] 34)
 have x0 := (Bx.new w #[.string a, .string b] 34).keeps (i := 0) (v := .string a) rfl
 have x1 := (Bx.new w #[.string a, .string b] 34).keeps (i := 1) (v := .string b) rfl
 have K2 := canonical_r (n := a) (d := b) h1 h2
 have he := chkF_eq a b
 rw [he]
 unfold FR at K2
 unfold FV
 generalize frN (ratV a b) = rn at *
 generalize frD (ratV a b) = rd at *
 clear he
 have hn := neqF a b rn rd
 generalize ((a.toList == rn.toList) && (b.toList == rd.toList)) = t at *
 cases t
 all_goals
  go_enter Tryz.func120, Tryz.ntmps120
  go_wp2_with fail
  refine wp_region_kept (by kernel_rfl) (by kernel_rfl) ?_
  repeat (go_big_quiet_step (first | (with_reducible exact K2.kept hs)))
  refine wpQuiet_nil ?_
  rintro _ ⟨u, rfl⟩
  go_wp2_with fail
  go_ret
  exact ⟨rfl, (hs.kept u).2⟩
theorem rfloor_r {a b : ByteArray} (h1 : a.size ≤ 30000) (h2 : b.size ≤ 30000) : Ret 165 #[FV a b] (.string (canS (ratV a b).floor)) := by
 intro w hg
 have hs := (St.refl hg).alloc (.cells #[.string a, .string b] 34)
 have K1 := raw_r (n := a) (d := b) (by omega) (by omega)
 obtain ⟨e1, p1⟩ := raw_rat a b
 obtain ⟨s1, s2⟩ := raw_size (k := 30000) h1 h2 (by omega)
 generalize (rawR a b).1 = n1 at *
 generalize (rawR a b).2 = d1 at *
 have K2 := rdivR (a := n1) (b := d1) (by omega) (by omega) (by omega)
 have hle : valS n1 / valS d1 * valS d1 ≤ valS n1 := Int.ediv_mul_le _ (by omega)
 rw [← Int.fdiv_eq_ediv_of_nonneg _ (by omega)] at hle
 have ff : Fit 30001 ((valS n1).fdiv (valS d1)) := fit_fdiv (Fit.val s1) (by omega)
 have zz := ff.size
 have K3 := rMulR (a := canS ((valS n1).fdiv (valS d1))) (b := d1) (by omega) (by omega)
 rw [valS_canS] at K3
 have z2 := (ff.mul (Fit.val s2)).size
 have K4 := rcmpR (a := canS ((valS n1).fdiv (valS d1) * valS d1)) (b := n1) (by omega) (by omega)
 rw [valS_canS] at K4
 have q : decide (0 < cmpI ((valS n1).fdiv (valS d1) * valS d1) (valS n1)) = false := by rw [cmpI_gt]; exact decide_eq_false (by omega)
 rw [floor_rat (by omega), e1] at K2 K3 K4 q
 unfold FV
 clear e1 p1 hle ff zz z2 s1 s2
 generalize canS ((ratV a b).floor * valS d1) = u1 at *
 generalize cmpI ((ratV a b).floor * valS d1) (valS n1) = c at *
 generalize canS (ratV a b).floor = u2 at *
 generalize canS ((valS n1).fmod (valS d1)) = u3 at *
 go_enter Tryz.func165, Tryz.ntmps165
 go_wp2_with fail
 refine K1.step hs ?_
 intro w1 hs _
 go_wp2_with fail
 refine K2.step hs ?_
 intro w2 hs _
 go_wp2_with fail
 refine K3.step hs ?_
 intro w3 hs _
 go_wp2_with fail
 refine K4.step hs ?_
 intro w4 hs _
 go_wp2_with fail
 go_ret
 exact ⟨rfl, hs.2⟩
end Go.Proofs.YticfdeaphiifeaaGreatDoor
