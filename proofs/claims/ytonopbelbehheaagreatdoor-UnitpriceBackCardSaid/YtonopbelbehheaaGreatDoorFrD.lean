/- Fraction: contracts of Add, Sub, Mul, Quo, Of, New, Compare, Check over values. Conditions: strings of up to a hundred thousand bytes. -/
import Derived.Test.YtonopbelbehheaaGreatDoorFrC
import Derived.Laws.StructEq
namespace Go.Proofs.YtonopbelbehheaaGreatDoor
open Go.RowKit Go.Shelf Dec QQ

theorem eqlF (a b c d : ByteArray) (u : World) : (binOp .eql 43 (.agg #[.string a, .string b]) (.agg #[.string c, .string d])).run Tryz.prog u = .ok (.bool ((a.toList == c.toList) && (b.toList == d.toList))) u := by
  simp [go_sem]
  repeat' split
  all_goals simp_all
theorem neqF (a b c d : ByteArray) (u : World) : (binOp .neq 43 (.agg #[.string a, .string b]) (.agg #[.string c, .string d])).run Tryz.prog u = .ok (.bool (!((a.toList == c.toList) && (b.toList == d.toList)))) u := by
  simp [go_sem]
  repeat' split
  all_goals simp_all
theorem Vq.vs {n d : ByteArray} {q : Rat} (h : Vq n d q) : Vs n (valS n) ∧ Vs (dn d) (valS (dn d)) ∧ Fit 100000 (valS n) ∧ Fit 100001 (valS (dn d)) := by
  have h1 := h.2.1
  have h2 := h.2.2
  have h3 := dn_size d
  exact ⟨Vs.arg (by omega), Vs.arg (by omega), Fit.val (by omega), Fit.val (by omega)⟩
theorem Vs.mul {k m : Nat} {x y : Int} (h : Fit k x) (h2 : Fit m y) (hk : k + m ≤ 999999) : Vs (canS (x * y)) (x * y) := Vs.can (h.mul h2) hk
theorem cmpI_num (x y : Rat) : cmpI (x - y).num 0 = cmpQ x y := cmp_num x y
theorem AddF {a b c d : ByteArray} {p q : Rat} (h1 : Vq a b p) (h2 : Vq c d q) : Ret 45 #[FV a b, FV c d] (FR (p + q)) := by
  obtain ⟨va, vb, fa, fb⟩ := h1.vs
  obtain ⟨vc, vd, fc, fd⟩ := h2.vs
  have nb := dn_ne b
  have nd := dn_ne d
  have v1 := Vs.mul fa fd (by omega)
  have v2 := Vs.mul fc fb (by omega)
  have f1 : Fit 300000 (valS a * valS (dn d) + valS c * valS (dn b)) := (Fit.add (fa.mul fd) (fc.mul fb)).mono (by omega)
  have f2 : Fit 300000 (valS (dn b) * valS (dn d)) := (fb.mul fd).mono (by omega)
  have KM := made_any (Vs.can f1 (by omega)) (Vs.can f2 (by omega)) (Nat.le_trans f1.size (by omega)) (Nat.le_trans f2.size (by omega)) (Int.mul_ne_zero nb nd)
  rw [rat_add nb nd, dn_rat, dn_rat, h1.1, h2.1] at KM
  exact Add_frac0 (fun g w hg hx => apply_plus g w hg hx (by have := h1.2.2; omega) (by have := h2.2.2; omega) (fun w hg hx => plus_op va vb vc vd g w hg hx v1 v2) KM)
theorem SubF {a b c d : ByteArray} {p q : Rat} (h1 : Vq a b p) (h2 : Vq c d q) : Ret 41 #[FV a b, FV c d] (FR (p - q)) := by
  obtain ⟨va, vb, fa, fb⟩ := h1.vs
  obtain ⟨vc, vd, fc, fd⟩ := h2.vs
  have nb := dn_ne b
  have nd := dn_ne d
  have v1 := Vs.mul fa fd (by omega)
  have v2 := Vs.mul fc fb (by omega)
  have f1 : Fit 300000 (valS a * valS (dn d) - valS c * valS (dn b)) := (Fit.sub (fa.mul fd) (fc.mul fb)).mono (by omega)
  have f2 : Fit 300000 (valS (dn b) * valS (dn d)) := (fb.mul fd).mono (by omega)
  have KM := made_any (Vs.can f1 (by omega)) (Vs.can f2 (by omega)) (Nat.le_trans f1.size (by omega)) (Nat.le_trans f2.size (by omega)) (Int.mul_ne_zero nb nd)
  rw [rat_sub nb nd, dn_rat, dn_rat, h1.1, h2.1] at KM
  exact Sub_frac0 (fun g w hg hx => apply_minus g w hg hx (by have := h1.2.2; omega) (by have := h2.2.2; omega) (fun w hg hx => minus_op va vb vc vd g w hg hx v1 v2) KM)
theorem MulF {a b c d : ByteArray} {p q : Rat} (h1 : Vq a b p) (h2 : Vq c d q) : Ret 43 #[FV a b, FV c d] (FR (p * q)) := by
  obtain ⟨va, vb, fa, fb⟩ := h1.vs
  obtain ⟨vc, vd, fc, fd⟩ := h2.vs
  have nb := dn_ne b
  have nd := dn_ne d
  have f1 : Fit 300000 (valS a * valS c) := (fa.mul fc).mono (by omega)
  have f2 : Fit 300000 (valS (dn b) * valS (dn d)) := (fb.mul fd).mono (by omega)
  have KM := made_any (Vs.can f1 (by omega)) (Vs.can f2 (by omega)) (Nat.le_trans f1.size (by omega)) (Nat.le_trans f2.size (by omega)) (Int.mul_ne_zero nb nd)
  rw [rat_mul nb nd, dn_rat, dn_rat, h1.1, h2.1] at KM
  exact Mul_frac0 (fun g w hg hx => apply_times g w hg hx (by have := h1.2.2; omega) (by have := h2.2.2; omega) (fun w hg hx => times_op va vb vc vd g w hg hx) KM)
theorem QuoF {a b c d : ByteArray} {p q : Rat} (h1 : Vq a b p) (h2 : Vq c d q) (hq : q ≠ 0) : Ret 120 #[FV a b, FV c d] (.tuple #[FR (p / q), .int .i64 0]) := by
  obtain ⟨va, vb, fa, fb⟩ := h1.vs
  obtain ⟨vc, vd, fc, fd⟩ := h2.vs
  have nb := dn_ne b
  have nd := dn_ne d
  have nc : valS c ≠ 0 := fun e => hq (by rw [← h2.1]; exact rat_eq_zero.2 e)
  have f1 : Fit 300000 (valS a * valS (dn d)) := (fa.mul fd).mono (by omega)
  have f2 : Fit 300000 (valS (dn b) * valS c) := (fb.mul fc).mono (by omega)
  have KM := made_any (Vs.can f1 (by omega)) (Vs.can f2 (by omega)) (Nat.le_trans f1.size (by omega)) (Nat.le_trans f2.size (by omega)) (Int.mul_ne_zero nb nc)
  rw [rat_quo nb nc nd, dn_rat, dn_rat, h1.1, h2.1] at KM
  exact Quo_frac0 (by have := h2.2.1; omega) nc (fun g w hg hx => apply_over g w hg hx (by have := h1.2.2; omega) (by have := h2.2.2; omega) (fun w hg hx => over_op va vb vc vd g w hg hx) KM)
set_option maxRecDepth 100000 in
set_option maxHeartbeats 4000000 in
theorem OfF {a : ByteArray} {x : Int} (h : Vs a x) (s : a.size ≤ 999999) : Ret 42 #[.string a] (FR (x : Rat)) := by
  intro w hg
  have hs := St.refl hg
  have K1 := made_any h (show Vs ⟨#[49]⟩ 1 from ⟨by decide, by decide⟩) s (by decide) (by decide)
  rw [rat_one] at K1
  unfold FR at K1 ⊢
  generalize frN (x : Rat) = rn at *
  generalize frD (x : Rat) = rd at *
  go_enter Tryz.func42, Tryz.ntmps42
  go_wp2_with fail
  refine K1.step (hs.alloc _) ?_
  intro w1 hs hb
  have B := (Bx.new w #[.string ⟨#[]⟩, .string ⟨#[]⟩] 43).on hb
  have xB0 := B.cell (i := 0) (v := .string ⟨#[]⟩) rfl
  have fB0 := B.frozen 0
  have xB1 := B.cell (i := 1) (v := .string ⟨#[]⟩) rfl
  have fB1 := B.frozen 1
  go_wp2_with fail
  have B6 := (B.set 0 (.string rn)).set 1 (.string rd)
  have y0 := B6.cell (i := 0) (v := .string rn) rfl
  have y1 := B6.cell (i := 1) (v := .string rd) rfl
  have hs4 := (hs.set (b := w.heap.size) (Nat.le_refl _) 0 (.string rn)).set (b := w.heap.size) (Nat.le_refl _) 1 (.string rd)
  exact bodyPost_ret (v := .agg #[.string rn, .string rd]) (by simp [results, Tryz.results42, go_sem, y0, y1]) rfl ⟨rfl, hs4.2⟩
set_option maxRecDepth 100000 in
set_option maxHeartbeats 4000000 in
theorem NewF {a b : ByteArray} {x y : Int} (h : Vs a x) (h2 : Vs b y) (s : a.size ≤ 999999) (s2 : b.size ≤ 999999) (hy : y ≠ 0) : Ret 94 #[.string a, .string b] (.tuple #[FR (rat x y), .int .i64 0]) := by
  intro w hg
  have hs := St.refl hg
  have K1 := CmpR h2 Vs.nil
  have K2 := made_any h h2 s s2 hy
  have q : (cmpI y 0 == 0) = false := by rw [cmpI_eq]; exact decide_eq_false hy
  unfold FR at K2 ⊢
  generalize frN (rat x y) = rn at *
  generalize frD (rat x y) = rd at *
  generalize cmpI y 0 = c at *
  go_enter Tryz.func94, Tryz.ntmps94
  go_wp2_with fail
  refine K1.step (hs.alloc _) ?_
  intro w1 hs hb
  have B0 := (Bx.new w #[.string ⟨#[]⟩, .string ⟨#[]⟩] 43).on hb
  go_wp2_with fail
  refine K2.step hs ?_
  intro w2 hs hb
  have B := B0.on hb
  have xB0 := B.cell (i := 0) (v := .string ⟨#[]⟩) rfl
  have fB0 := B.frozen 0
  have xB1 := B.cell (i := 1) (v := .string ⟨#[]⟩) rfl
  have fB1 := B.frozen 1
  go_wp2_with fail
  have B6 := (B.set 0 (.string rn)).set 1 (.string rd)
  have y0 := B6.cell (i := 0) (v := .string rn) rfl
  have y1 := B6.cell (i := 1) (v := .string rd) rfl
  have hs4 := (hs.set (b := w.heap.size) (Nat.le_refl _) 0 (.string rn)).set (b := w.heap.size) (Nat.le_refl _) 1 (.string rd)
  exact bodyPost_ret (v := .tuple #[.agg #[.string rn, .string rd], .int .i64 0]) (by simp [results, Tryz.results94, go_sem, y0, y1]) rfl ⟨rfl, hs4.2⟩
set_option maxRecDepth 100000 in
set_option maxHeartbeats 4000000 in
theorem New0F {a b : ByteArray} (h2 : Vs b 0) : Ret 94 #[.string a, .string b] (.tuple #[FR 0, .int .i64 10]) := by
  intro w hg
  have hs := St.refl hg
  have K1 := CmpR h2 Vs.nil
  have q : (cmpI 0 0 == 0) = true := by decide
  unfold FR
  rw [frN_zero, frD_zero]
  generalize cmpI 0 0 = c at *
  go_enter Tryz.func94, Tryz.ntmps94
  go_wp2_with fail
  refine K1.step (hs.alloc _) ?_
  intro w1 hs hb
  have B := (Bx.new w #[.string ⟨#[]⟩, .string ⟨#[]⟩] 43).on hb
  have xB0 := B.cell (i := 0) (v := .string ⟨#[]⟩) rfl
  have fB0 := B.frozen 0
  have xB1 := B.cell (i := 1) (v := .string ⟨#[]⟩) rfl
  have fB1 := B.frozen 1
  go_wp2_with fail
  have B6 := (B.set 0 (.string ⟨#[]⟩)).set 1 (.string ⟨#[]⟩)
  have y0 := B6.cell (i := 0) (v := .string ⟨#[]⟩) rfl
  have y1 := B6.cell (i := 1) (v := .string ⟨#[]⟩) rfl
  have hs4 := (hs.set (b := w.heap.size) (Nat.le_refl _) 0 (.string ⟨#[]⟩)).set (b := w.heap.size) (Nat.le_refl _) 1 (.string ⟨#[]⟩)
  exact bodyPost_ret (v := .tuple #[.agg #[.string ⟨#[]⟩, .string ⟨#[]⟩], .int .i64 10]) (by simp [results, Tryz.results94, go_sem, y0, y1]) rfl ⟨rfl, hs4.2⟩
set_option maxRecDepth 100000 in
set_option maxHeartbeats 4000000 in
theorem CmpF {a b c d : ByteArray} {p q : Rat} (h1 : Vq a b p) (h2 : Vq c d q) {k : Nat} (hf : FitQ k (p - q)) (hk : k ≤ 99999) : Ret 44 #[FV a b, FV c d] (.int .i64 (cmpQ p q)) := by
  intro w hg
  have hs := St.refl hg
  have K1 := SubF h1 h2
  have v := Vq.fr hf hk
  have K2 := parts_any (n := frN (p - q)) (d := frD (p - q)) (by have := v.2.2; omega)
  have K3 := CmpR (show Vs (frN (p - q)) (p - q).num from ⟨valS_canS _, by have := v.2.1; omega⟩) Vs.nil
  rw [cmpI_num] at K3
  unfold FR at K1
  unfold FV at K1 K2 ⊢
  generalize frN (p - q) = rn at *
  generalize dn (frD (p - q)) = rm at *
  generalize frD (p - q) = rd at *
  generalize cmpQ p q = cc at *
  go_enter Tryz.func44, Tryz.ntmps44
  go_wp2_with fail
  refine K1.step ((hs.alloc _).alloc _) ?_
  intro w1 hs _
  go_wp2_with fail
  refine K2.step hs ?_
  intro w2 hs _
  go_wp2_with fail
  refine K3.step hs ?_
  intro w3 hs _
  go_wp2_with fail
  go_ret
  exact ⟨rfl, hs.2⟩
/-- why a pair of strings is no canonical fraction -/
def chkF (a b : ByteArray) : Int := if a = frN (ratV a b) ∧ b = frD (ratV a b) then 0 else 1
theorem toList_inj {s t : ByteArray} (h : s.toList = t.toList) : s = t := by rw [toList_bytes, toList_bytes] at h; exact bytes_inj h
theorem chkF_eq (a b : ByteArray) : chkF a b = if ((a.toList == (frN (ratV a b)).toList) && (b.toList == (frD (ratV a b)).toList)) = true then 0 else 1 := by
  unfold chkF
  congr 1
  simp only [Bool.and_eq_true, beq_iff_eq, eq_iff_iff]
  exact ⟨fun ⟨h1, h2⟩ => ⟨by rw [← h1], by rw [← h2]⟩, fun ⟨h1, h2⟩ => ⟨toList_inj h1, toList_inj h2⟩⟩
set_option maxRecDepth 100000 in
set_option maxHeartbeats 4000000 in
theorem ChkF {a b : ByteArray} (s1 : a.size ≤ 100000) (s2 : b.size ≤ 100000) : Ret 169 #[FV a b] (.int .i64 (chkF a b)) := by
  intro w hg
  have K1 := parts_any (n := a) (d := b) (by omega)
  have h3 := dn_size b
  have K2 := made_any (Vs.arg (s := a) (by omega)) (Vs.arg (s := dn b) (by omega)) (by omega) (by omega) (dn_ne b)
  rw [dn_rat] at K2
  have he := chkF_eq a b
  rw [he]
  unfold FR at K2
  unfold FV at K1 ⊢
  generalize frN (ratV a b) = rn at *
  generalize frD (ratV a b) = rd at *
  generalize dn b = b' at *
  clear he h3
  have hn := neqF a b rn rd
  generalize ((a.toList == rn.toList) && (b.toList == rd.toList)) = t at *
  have hs := (St.refl hg).alloc (.cells #[.string a, .string b] 43)
  have x0 := (Bx.new w #[.string a, .string b] 43).keeps (i := 0) (v := .string a) rfl
  have x1 := (Bx.new w #[.string a, .string b] 43).keeps (i := 1) (v := .string b) rfl
  cases t
  all_goals
    go_enter Tryz.func169, Tryz.ntmps169
    go_wp2_with fail
    refine wp_region_kept (by kernel_rfl) (by kernel_rfl) ?_
    repeat (go_big_quiet_step (first | (with_reducible exact K1.kept hs) | (with_reducible exact K2.kept hs)))
    refine wpQuiet_nil ?_
    rintro _ ⟨u, rfl⟩
    go_wp2_with fail
    go_ret
    exact ⟨rfl, (hs.kept u).2⟩
end Go.Proofs.YtonopbelbehheaaGreatDoor
