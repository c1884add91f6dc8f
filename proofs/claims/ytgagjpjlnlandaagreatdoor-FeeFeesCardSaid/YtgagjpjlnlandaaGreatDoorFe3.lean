/- Fees: the contracts of performance and Performance. Conditions: numbers of bounded length. -/
import Derived.Test.YtgagjpjlnlandaaGreatDoorFe2
import Derived.Test.YtgagjpjlnlandaaGreatDoorFd
namespace Go.Proofs.YtgagjpjlnlandaaGreatDoor
open Go.RowKit Go.Shelf Dec QQ

theorem Fit.subI {k m : Nat} {x y : Int} (h : Fit k x) (h2 : Fit m y) (hk : k ≤ m) : Fit (m + 1) (x - y) := by
  have h3 : 10 ^ k ≤ 10 ^ m := Nat.pow_le_pow_right (by decide) hk
  unfold Fit at *
  rw [Nat.pow_succ]
  omega
set_option maxRecDepth 100000 in
set_option maxHeartbeats 4000000 in
theorem perf_any {T : TermS} (hz : T.le 13) {v u : ByteArray} (hv : v.size ≤ 60) (hu : u.size ≤ 40) (hp : 0 < valS u) {mk : Rat} {km : Nat} (hk : FitQ km mk) (hkm : km ≤ 10000) :
    Ret 116 #[tval T, .string v, .string u, FR mk] (.tuple #[.string (canS (pfI (valS v) T.p (valS u) mk)), FR (pfM (valS v) T.p (valS u) mk)]) := by
  intro w hg
  obtain ⟨mn, md, pn, pd, ct⟩ := T
  unfold tval TermS.p
  dsimp only
  obtain ⟨z1, z2, z3, z4⟩ : mn.size ≤ 13 ∧ md.size ≤ 13 ∧ pn.size ≤ 13 ∧ pd.size ≤ 13 := hz
  have va := Vs.arg (s := v) (by omega)
  have vu := Vs.arg (s := u) (by omega)
  have vp := Vq.arg (n := pn) (d := pd) (by omega) (by omega)
  have fp := FitQ.arg (n := pn) (d := pd) (k := 13) z3 z4 (by omega)
  have fv : FitQ 60 ((valS v : Int) : Rat) := FitQ.int (Fit.val hv) (by omega)
  have fu : FitQ 40 ((valS u : Int) : Rat) := FitQ.int (Fit.val hu) (by omega)
  have vk := Vq.fr hk (by omega)
  have KO1 := OfF va (by omega)
  have KO2 := OfF vu (by omega)
  have KM := MulF vk (Vq.fr fu (by omega))
  have f1 := hk.mul fu
  have KS := SubF (Vq.fr fv (by omega)) (Vq.fr f1 (by omega))
  have fo := fv.sub f1
  have KC := CmpF (Vq.fr fo (by omega)) vq0 (fo.sub fit0) (by omega)
  have qo : decide (0 < cmpQ (((valS v : Int) : Rat) - mk * ((valS u : Int) : Rat)) 0) = decide (0 < ((valS v : Int) : Rat) - mk * ((valS u : Int) : Rat)) := cmpQ_pos
  clear fv fu f1
  by_cases ho : 0 < ((valS v : Int) : Rat) - mk * ((valS u : Int) : Rat)
  · skip
    have eF : pfI (valS v) (ratV pn pd) (valS u) mk = rndQ 1 (ratV pn pd * (((valS v : Int) : Rat) - mk * ((valS u : Int) : Rat))) := if_pos ho
    rw [decide_eq_true ho] at qo
    have KM2 := MulF vp (Vq.fr fo (by omega))
    have f3 := fp.mul fo
    have KR := round_any (Vq.fr f3 (by omega)) f3 (by omega)
    have ff : Fit (13 + (60 + (km + 40) + 1) + 1) (rndQ 1 (ratV pn pd * (((valS v : Int) : Rat) - mk * ((valS u : Int) : Rat)))) := rnd_fit 1 f3
    have vf : Vs (canS (rndQ 1 (ratV pn pd * (((valS v : Int) : Rat) - mk * ((valS u : Int) : Rat))))) (rndQ 1 (ratV pn pd * (((valS v : Int) : Rat) - mk * ((valS u : Int) : Rat)))) := Vs.can ff (by omega)
    have KS2 := SubR va vf
    have fs := Fit.subI (Fit.val hv) ff (by omega)
    have vs2 : Vs (canS (valS v - (rndQ 1 (ratV pn pd * (((valS v : Int) : Rat) - mk * ((valS u : Int) : Rat)))))) (valS v - (rndQ 1 (ratV pn pd * (((valS v : Int) : Rat) - mk * ((valS u : Int) : Rat))))) := Vs.can fs (by omega)
    have KN := NewF vs2 vu (by have := fs.size; omega) (by omega) (by omega)
    have fq := (FitQ.rat fs (Fit.val hu) (by omega)).mono (show _ ≤ km + 200 by omega)
    have KC2 := CmpF (Vq.fr fq (by omega)) vk (fq.sub hk) (by omega)
    have qt : decide (0 < cmpQ (rat (valS v - (rndQ 1 (ratV pn pd * (((valS v : Int) : Rat) - mk * ((valS u : Int) : Rat))))) (valS u)) mk) = decide (mk < rat (valS v - (rndQ 1 (ratV pn pd * (((valS v : Int) : Rat) - mk * ((valS u : Int) : Rat))))) (valS u)) := cmpQ_pos
    have eM : pfM (valS v) (ratV pn pd) (valS u) mk = if mk < rat (valS v - (rndQ 1 (ratV pn pd * (((valS v : Int) : Rat) - mk * ((valS u : Int) : Rat))))) (valS u) then rat (valS v - (rndQ 1 (ratV pn pd * (((valS v : Int) : Rat) - mk * ((valS u : Int) : Rat))))) (valS u) else mk := by unfold pfM; rw [eF]
    rw [eF, eM]
    have HRes : Hid (∀ t, decide (mk < rat (valS v - (rndQ 1 (ratV pn pd * (((valS v : Int) : Rat) - mk * ((valS u : Int) : Rat))))) (valS u)) = t → FR (if mk < rat (valS v - (rndQ 1 (ratV pn pd * (((valS v : Int) : Rat) - mk * ((valS u : Int) : Rat))))) (valS u) then rat (valS v - (rndQ 1 (ratV pn pd * (((valS v : Int) : Rat) - mk * ((valS u : Int) : Rat))))) (valS u) else mk) = if t = true then FR (rat (valS v - (rndQ 1 (ratV pn pd * (((valS v : Int) : Rat) - mk * ((valS u : Int) : Rat))))) (valS u)) else FR mk) := fun t ht => by
      subst ht
      by_cases hc : mk < rat (valS v - (rndQ 1 (ratV pn pd * (((valS v : Int) : Rat) - mk * ((valS u : Int) : Rat))))) (valS u)
      · rw [if_pos hc, decide_eq_true hc, if_pos rfl]
      · rw [if_neg hc, decide_eq_false hc, if_neg (by decide)]
    obtain ⟨tp, htp⟩ : ∃ t, decide (mk < rat (valS v - (rndQ 1 (ratV pn pd * (((valS v : Int) : Rat) - mk * ((valS u : Int) : Rat))))) (valS u)) = t := ⟨_, rfl⟩
    rw [htp] at qt
    rw [HRes.out tp htp]
    clear HRes htp eF eM
    unfold FV at *
    unfold FR at *
    clear va vu vp vk fp fo ff vf fs vs2 fq ho f3
    generalize cmpQ (rat (valS v - (rndQ 1 (ratV pn pd * (((valS v : Int) : Rat) - mk * ((valS u : Int) : Rat))))) (valS u)) mk = cq at *
    generalize frN (rat (valS v - (rndQ 1 (ratV pn pd * (((valS v : Int) : Rat) - mk * ((valS u : Int) : Rat))))) (valS u)) = qn at *
    generalize frD (rat (valS v - (rndQ 1 (ratV pn pd * (((valS v : Int) : Rat) - mk * ((valS u : Int) : Rat))))) (valS u)) = qd at *
    generalize canS (valS v - (rndQ 1 (ratV pn pd * (((valS v : Int) : Rat) - mk * ((valS u : Int) : Rat))))) = ss at *
    generalize canS (rndQ 1 (ratV pn pd * (((valS v : Int) : Rat) - mk * ((valS u : Int) : Rat)))) = fs at *
    generalize frN (ratV pn pd * (((valS v : Int) : Rat) - mk * ((valS u : Int) : Rat))) = rn at *
    generalize frD (ratV pn pd * (((valS v : Int) : Rat) - mk * ((valS u : Int) : Rat))) = rd at *
    generalize cmpQ (((valS v : Int) : Rat) - mk * ((valS u : Int) : Rat)) 0 = co at *
    generalize frN (((valS v : Int) : Rat) - mk * ((valS u : Int) : Rat)) = on at *
    generalize frD (((valS v : Int) : Rat) - mk * ((valS u : Int) : Rat)) = od at *
    generalize frN (mk * ((valS u : Int) : Rat)) = xn at *
    generalize frD (mk * ((valS u : Int) : Rat)) = xd at *
    generalize frN ((valS u : Int) : Rat) = un at *
    generalize frD ((valS u : Int) : Rat) = ud at *
    generalize frN ((valS v : Int) : Rat) = vn at *
    generalize frD ((valS v : Int) : Rat) = vd at *
    generalize frN mk = kn at *
    generalize frD mk = kd at *
    have hs := (((St.refl hg).alloc (.cells #[.string mn, .string md, .string pn, .string pd, .int .i64 ct] 54)).alloc (.cells #[.string kn, .string kd] 34)).alloc (.cells #[.string ⟨#[]⟩, .string ⟨#[]⟩] 34)
    have XT := ((Bx.new w #[.string mn, .string md, .string pn, .string pd, .int .i64 ct] 54).alloc (.cells #[.string kn, .string kd] 34)).alloc (.cells #[.string ⟨#[]⟩, .string ⟨#[]⟩] 34)
    have XM := (Bx.new1 w (.cells #[.string mn, .string md, .string pn, .string pd, .int .i64 ct] 54) #[.string kn, .string kd] 34).alloc (.cells #[.string ⟨#[]⟩, .string ⟨#[]⟩] 34)
    have XZ := Bx.new2 w (.cells #[.string mn, .string md, .string pn, .string pd, .int .i64 ct] 54) (.cells #[.string kn, .string kd] 34) #[.string ⟨#[]⟩, .string ⟨#[]⟩] 34
    go_enter Tryz.func116, Tryz.ntmps116
    go_wp2_with fail
    refine wp_region_fresh1 8 7 11 #[.string ⟨#[]⟩, .string ⟨#[]⟩] (by kernel_rfl) (by kernel_rfl) (by kernel_rfl) (by omega) rfl (by kernel_rfl) ⟨_, 11, _, rfl, rfl, rfl, fun _ _ => by simp [execOp, go_sem, ptrTo]; rfl⟩ ?_
    apply Exists.intro
    refine ⟨fun S W hne hk hcl => ?_, ?_⟩
    · simp only [List.take_succ_cons, List.take_zero, quietL, List.mem_cons, List.not_mem_nil, or_false, Nat.reduceAdd, Nat.reduceEqDiff, reduceIte, Nat.zero_add]
      have kk0 := XM.in hk (i := 0) (v := .string kn) rfl
      have kk1 := XM.in hk (i := 1) (v := .string kd) rfl
      repeat (go_big_quiet_step (first | (with_reducible exact KO1.fresh hs hk hcl) | (with_reducible exact KO2.fresh hs hk hcl) | (with_reducible exact KM.fresh hs hk hcl) | (with_reducible exact KS.fresh hs hk hcl)))
      exact wpQuiet_nil rfl
    intro b1 v1 hb1 hv1 hx1
    simp only [List.drop_succ_cons, List.drop_zero, ptrTo]
    have z0 := hx1.cell (i := 0) (v := .string ⟨#[]⟩) rfl
    have z1 := hx1.cell (i := 1) (v := .string ⟨#[]⟩) rfl
    have g0 := hx1.frozen 0
    have g1 := hx1.frozen 1
    go_wp2_with fail
    have lb : w.heap.size + 3 ≤ b1 := by simp at hb1; omega
    have hl : Below w.heap.size w v1 := hs.2.trans (hv1.mono hs.2.size)
    replace hs : St w ((v1.setCell ⟨b1, 0, none⟩ (.string on)).setCell ⟨b1, 1, none⟩ (.string od)) := ((hs.on hv1).set (b := b1) (by omega) 0 (.string on)).set (b := b1) (by omega) 1 (.string od)
    replace XT := ((XT.on hv1).other (c := b1) (by omega) 0 (.string on)).other (c := b1) (by omega) 1 (.string od)
    replace XM := ((XM.on hv1).other (c := b1) (by omega) 0 (.string on)).other (c := b1) (by omega) 1 (.string od)
    replace XZ := ((XZ.on hv1).other (c := b1) (by omega) 0 (.string on)).other (c := b1) (by omega) 1 (.string od)
    have XO : Bx ((v1.setCell ⟨b1, 0, none⟩ (.string on)).setCell ⟨b1, 1, none⟩ (.string od)) b1 #[.string on, .string od] := (hx1.set 0 (.string on)).set 1 (.string od)
    clear z0 z1 g0 g1 hx1 hl hv1 hb1
    generalize (v1.setCell ⟨b1, 0, none⟩ (.string on)).setCell ⟨b1, 1, none⟩ (.string od) = W4 at *
    refine KC.step hs ?_
    intro w4 hs hb
    replace XT := XT.on hb
    replace XM := XM.on hb
    replace XZ := XZ.on hb
    replace XO := XO.on hb
    have y0 := XT.cell (i := 2) (v := .string pn) rfl
    have y1 := XT.cell (i := 3) (v := .string pd) rfl
    have y2 := XO.cell (i := 0) (v := .string on) rfl
    have y3 := XO.cell (i := 1) (v := .string od) rfl
    go_wp2_with fail
    refine KM2.step hs ?_
    intro w4 hs hb
    clear y0 y1 y2 y3
    replace XM := XM.on hb
    replace XZ := XZ.on hb
    go_wp2_with fail
    refine KR.step hs ?_
    intro w4 hs hb
    replace XM := XM.on hb
    replace XZ := XZ.on hb
    go_wp2_with fail
    refine KS2.step hs ?_
    intro w5 hs hb
    replace XM := XM.on hb
    replace XZ := XZ.on hb
    go_wp2_with fail
    refine KN.step hs ?_
    intro w6 hs hb
    have lM := (XM.on hb).lt
    have lZ := (XZ.on hb).lt
    replace XM := (XM.on hb).alloc (.cells #[.string qn, .string qd] 34)
    replace XZ := (XZ.on hb).alloc (.cells #[.string qn, .string qd] 34)
    have XQ := Bx.new w6 #[.string qn, .string qd] 34
    replace hs := hs.alloc (.cells #[.string qn, .string qd] 34)
    have y0 := XM.cell (i := 0) (v := .string kn) rfl
    have y1 := XM.cell (i := 1) (v := .string kd) rfl
    have y2 := XQ.cell (i := 0) (v := .string qn) rfl
    have y3 := XQ.cell (i := 1) (v := .string qd) rfl
    go_wp2_with fail
    refine KC2.step hs ?_
    intro w7 hs hb
    clear y0 y1 y2 y3
    replace XM := XM.on hb
    replace XZ := XZ.on hb
    replace XQ := XQ.on hb
    have y0 := XM.cell (i := 0) (v := .string kn) rfl
    have y1 := XM.cell (i := 1) (v := .string kd) rfl
    have y2 := XQ.cell (i := 0) (v := .string qn) rfl
    have y3 := XQ.cell (i := 1) (v := .string qd) rfl
    have g0 := XM.frozen 0
    have g1 := XM.frozen 1
    have n1 : ¬ w6.heap.size = w.heap.size + 1 := by omega
    have n2 : ¬ w.heap.size + 1 = w6.heap.size := by omega
    cases tp with
    | true =>
      go_wp2_with fail
      have hs2 := (hs.set (b := w.heap.size + 1) (by omega) 0 (.string qn)).set (b := w.heap.size + 1) (by omega) 1 (.string qd)
      have XM2 := (XM.set 0 (.string qn)).set 1 (.string qd)
      have XZ2 := (XZ.other (c := w.heap.size + 1) (by omega) 0 (.string qn)).other (c := w.heap.size + 1) (by omega) 1 (.string qd)
      clear y0 y1 y2 y3 g0 g1 XM XZ XQ hs
      generalize (w7.setCell ⟨w.heap.size + 1, 0, none⟩ (.string qn)).setCell ⟨w.heap.size + 1, 1, none⟩ (.string qd) = W8 at *
      replace XM2 : Bx W8 (w.heap.size + 1) #[.string qn, .string qd] := XM2
      have y0 := XM2.cell (i := 0) (v := .string qn) rfl
      have y1 := XM2.cell (i := 1) (v := .string qd) rfl
      have e0 := XZ2.cell (i := 0) (v := .string ⟨#[]⟩) rfl
      have e1 := XZ2.cell (i := 1) (v := .string ⟨#[]⟩) rfl
      have f0 := XZ2.frozen 0
      have f1 := XZ2.frozen 1
      go_region
      all_goals
        go_wp2_with fail
        obtain ⟨W, hW, y0, y1, hbe⟩ := ret_frac hs2 (by omega) XZ2 qn qd
        rw [hW]
        exact bodyPost_ret (v := .tuple #[.string fs, .agg #[.string qn, .string qd]]) (by simp [results, Tryz.results116, go_sem, y0, y1]) rfl ⟨rfl, hbe.drew⟩
    | false =>
      have e0 := XZ.cell (i := 0) (v := .string ⟨#[]⟩) rfl
      have e1 := XZ.cell (i := 1) (v := .string ⟨#[]⟩) rfl
      have f0 := XZ.frozen 0
      have f1 := XZ.frozen 1
      go_wp2_with fail
      go_region
      all_goals
        go_wp2_with fail
        obtain ⟨W, hW, y0, y1, hbe⟩ := ret_frac hs (by omega) XZ kn kd
        rw [hW]
        exact bodyPost_ret (v := .tuple #[.string fs, .agg #[.string kn, .string kd]]) (by simp [results, Tryz.results116, go_sem, y0, y1]) rfl ⟨rfl, hbe.drew⟩
  · skip
    have eF : pfI (valS v) (ratV pn pd) (valS u) mk = 0 := if_neg ho
    rw [decide_eq_false ho] at qo
    have ff : Fit (13 + (60 + (km + 40) + 1) + 1) 0 := Nat.pow_pos (by decide)
    have vf : Vs ⟨#[]⟩ 0 := Vs.nil
    have KS2 := SubR va vf
    have fs := Fit.subI (Fit.val hv) ff (by omega)
    have vs2 : Vs (canS (valS v - (0))) (valS v - (0)) := Vs.can fs (by omega)
    have KN := NewF vs2 vu (by have := fs.size; omega) (by omega) (by omega)
    have fq := (FitQ.rat fs (Fit.val hu) (by omega)).mono (show _ ≤ km + 200 by omega)
    have KC2 := CmpF (Vq.fr fq (by omega)) vk (fq.sub hk) (by omega)
    have qt : decide (0 < cmpQ (rat (valS v - (0)) (valS u)) mk) = decide (mk < rat (valS v - (0)) (valS u)) := cmpQ_pos
    have eM : pfM (valS v) (ratV pn pd) (valS u) mk = if mk < rat (valS v - (0)) (valS u) then rat (valS v - (0)) (valS u) else mk := by unfold pfM; rw [eF]
    rw [eF, eM]
    rw [canS_zero]
    have HRes : Hid (∀ t, decide (mk < rat (valS v - (0)) (valS u)) = t → FR (if mk < rat (valS v - (0)) (valS u) then rat (valS v - (0)) (valS u) else mk) = if t = true then FR (rat (valS v - (0)) (valS u)) else FR mk) := fun t ht => by
      subst ht
      by_cases hc : mk < rat (valS v - (0)) (valS u)
      · rw [if_pos hc, decide_eq_true hc, if_pos rfl]
      · rw [if_neg hc, decide_eq_false hc, if_neg (by decide)]
    obtain ⟨tp, htp⟩ : ∃ t, decide (mk < rat (valS v - (0)) (valS u)) = t := ⟨_, rfl⟩
    rw [htp] at qt
    rw [HRes.out tp htp]
    clear HRes htp eF eM
    unfold FV at *
    unfold FR at *
    clear va vu vp vk fp fo ff vf fs vs2 fq ho
    generalize cmpQ (rat (valS v - (0)) (valS u)) mk = cq at *
    generalize frN (rat (valS v - (0)) (valS u)) = qn at *
    generalize frD (rat (valS v - (0)) (valS u)) = qd at *
    generalize canS (valS v - (0)) = ss at *
    generalize cmpQ (((valS v : Int) : Rat) - mk * ((valS u : Int) : Rat)) 0 = co at *
    generalize frN (((valS v : Int) : Rat) - mk * ((valS u : Int) : Rat)) = on at *
    generalize frD (((valS v : Int) : Rat) - mk * ((valS u : Int) : Rat)) = od at *
    generalize frN (mk * ((valS u : Int) : Rat)) = xn at *
    generalize frD (mk * ((valS u : Int) : Rat)) = xd at *
    generalize frN ((valS u : Int) : Rat) = un at *
    generalize frD ((valS u : Int) : Rat) = ud at *
    generalize frN ((valS v : Int) : Rat) = vn at *
    generalize frD ((valS v : Int) : Rat) = vd at *
    generalize frN mk = kn at *
    generalize frD mk = kd at *
    have hs := (((St.refl hg).alloc (.cells #[.string mn, .string md, .string pn, .string pd, .int .i64 ct] 54)).alloc (.cells #[.string kn, .string kd] 34)).alloc (.cells #[.string ⟨#[]⟩, .string ⟨#[]⟩] 34)
    have XT := ((Bx.new w #[.string mn, .string md, .string pn, .string pd, .int .i64 ct] 54).alloc (.cells #[.string kn, .string kd] 34)).alloc (.cells #[.string ⟨#[]⟩, .string ⟨#[]⟩] 34)
    have XM := (Bx.new1 w (.cells #[.string mn, .string md, .string pn, .string pd, .int .i64 ct] 54) #[.string kn, .string kd] 34).alloc (.cells #[.string ⟨#[]⟩, .string ⟨#[]⟩] 34)
    have XZ := Bx.new2 w (.cells #[.string mn, .string md, .string pn, .string pd, .int .i64 ct] 54) (.cells #[.string kn, .string kd] 34) #[.string ⟨#[]⟩, .string ⟨#[]⟩] 34
    go_enter Tryz.func116, Tryz.ntmps116
    go_wp2_with fail
    refine wp_region_fresh1 8 7 11 #[.string ⟨#[]⟩, .string ⟨#[]⟩] (by kernel_rfl) (by kernel_rfl) (by kernel_rfl) (by omega) rfl (by kernel_rfl) ⟨_, 11, _, rfl, rfl, rfl, fun _ _ => by simp [execOp, go_sem, ptrTo]; rfl⟩ ?_
    apply Exists.intro
    refine ⟨fun S W hne hk hcl => ?_, ?_⟩
    · simp only [List.take_succ_cons, List.take_zero, quietL, List.mem_cons, List.not_mem_nil, or_false, Nat.reduceAdd, Nat.reduceEqDiff, reduceIte, Nat.zero_add]
      have kk0 := XM.in hk (i := 0) (v := .string kn) rfl
      have kk1 := XM.in hk (i := 1) (v := .string kd) rfl
      repeat (go_big_quiet_step (first | (with_reducible exact KO1.fresh hs hk hcl) | (with_reducible exact KO2.fresh hs hk hcl) | (with_reducible exact KM.fresh hs hk hcl) | (with_reducible exact KS.fresh hs hk hcl)))
      exact wpQuiet_nil rfl
    intro b1 v1 hb1 hv1 hx1
    simp only [List.drop_succ_cons, List.drop_zero, ptrTo]
    have z0 := hx1.cell (i := 0) (v := .string ⟨#[]⟩) rfl
    have z1 := hx1.cell (i := 1) (v := .string ⟨#[]⟩) rfl
    have g0 := hx1.frozen 0
    have g1 := hx1.frozen 1
    go_wp2_with fail
    have lb : w.heap.size + 3 ≤ b1 := by simp at hb1; omega
    have hl : Below w.heap.size w v1 := hs.2.trans (hv1.mono hs.2.size)
    replace hs : St w ((v1.setCell ⟨b1, 0, none⟩ (.string on)).setCell ⟨b1, 1, none⟩ (.string od)) := ((hs.on hv1).set (b := b1) (by omega) 0 (.string on)).set (b := b1) (by omega) 1 (.string od)
    replace XT := ((XT.on hv1).other (c := b1) (by omega) 0 (.string on)).other (c := b1) (by omega) 1 (.string od)
    replace XM := ((XM.on hv1).other (c := b1) (by omega) 0 (.string on)).other (c := b1) (by omega) 1 (.string od)
    replace XZ := ((XZ.on hv1).other (c := b1) (by omega) 0 (.string on)).other (c := b1) (by omega) 1 (.string od)
    have XO : Bx ((v1.setCell ⟨b1, 0, none⟩ (.string on)).setCell ⟨b1, 1, none⟩ (.string od)) b1 #[.string on, .string od] := (hx1.set 0 (.string on)).set 1 (.string od)
    clear z0 z1 g0 g1 hx1 hl hv1 hb1
    generalize (v1.setCell ⟨b1, 0, none⟩ (.string on)).setCell ⟨b1, 1, none⟩ (.string od) = W4 at *
    refine KC.step hs ?_
    intro w4 hs hb
    replace XT := XT.on hb
    replace XM := XM.on hb
    replace XZ := XZ.on hb
    replace XO := XO.on hb
    go_wp2_with fail
    refine KS2.step hs ?_
    intro w5 hs hb
    replace XM := XM.on hb
    replace XZ := XZ.on hb
    go_wp2_with fail
    refine KN.step hs ?_
    intro w6 hs hb
    have lM := (XM.on hb).lt
    have lZ := (XZ.on hb).lt
    replace XM := (XM.on hb).alloc (.cells #[.string qn, .string qd] 34)
    replace XZ := (XZ.on hb).alloc (.cells #[.string qn, .string qd] 34)
    have XQ := Bx.new w6 #[.string qn, .string qd] 34
    replace hs := hs.alloc (.cells #[.string qn, .string qd] 34)
    have y0 := XM.cell (i := 0) (v := .string kn) rfl
    have y1 := XM.cell (i := 1) (v := .string kd) rfl
    have y2 := XQ.cell (i := 0) (v := .string qn) rfl
    have y3 := XQ.cell (i := 1) (v := .string qd) rfl
    go_wp2_with fail
    refine KC2.step hs ?_
    intro w7 hs hb
    clear y0 y1 y2 y3
    replace XM := XM.on hb
    replace XZ := XZ.on hb
    replace XQ := XQ.on hb
    have y0 := XM.cell (i := 0) (v := .string kn) rfl
    have y1 := XM.cell (i := 1) (v := .string kd) rfl
    have y2 := XQ.cell (i := 0) (v := .string qn) rfl
    have y3 := XQ.cell (i := 1) (v := .string qd) rfl
    have g0 := XM.frozen 0
    have g1 := XM.frozen 1
    have n1 : ¬ w6.heap.size = w.heap.size + 1 := by omega
    have n2 : ¬ w.heap.size + 1 = w6.heap.size := by omega
    cases tp with
    | true =>
      go_wp2_with fail
      have hs2 := (hs.set (b := w.heap.size + 1) (by omega) 0 (.string qn)).set (b := w.heap.size + 1) (by omega) 1 (.string qd)
      have XM2 := (XM.set 0 (.string qn)).set 1 (.string qd)
      have XZ2 := (XZ.other (c := w.heap.size + 1) (by omega) 0 (.string qn)).other (c := w.heap.size + 1) (by omega) 1 (.string qd)
      clear y0 y1 y2 y3 g0 g1 XM XZ XQ hs
      generalize (w7.setCell ⟨w.heap.size + 1, 0, none⟩ (.string qn)).setCell ⟨w.heap.size + 1, 1, none⟩ (.string qd) = W8 at *
      replace XM2 : Bx W8 (w.heap.size + 1) #[.string qn, .string qd] := XM2
      have y0 := XM2.cell (i := 0) (v := .string qn) rfl
      have y1 := XM2.cell (i := 1) (v := .string qd) rfl
      have e0 := XZ2.cell (i := 0) (v := .string ⟨#[]⟩) rfl
      have e1 := XZ2.cell (i := 1) (v := .string ⟨#[]⟩) rfl
      have f0 := XZ2.frozen 0
      have f1 := XZ2.frozen 1
      go_region
      all_goals
        go_wp2_with fail
        obtain ⟨W, hW, y0, y1, hbe⟩ := ret_frac hs2 (by omega) XZ2 qn qd
        rw [hW]
        exact bodyPost_ret (v := .tuple #[.string ⟨#[]⟩, .agg #[.string qn, .string qd]]) (by simp [results, Tryz.results116, go_sem, y0, y1]) rfl ⟨rfl, hbe.drew⟩
    | false =>
      have e0 := XZ.cell (i := 0) (v := .string ⟨#[]⟩) rfl
      have e1 := XZ.cell (i := 1) (v := .string ⟨#[]⟩) rfl
      have f0 := XZ.frozen 0
      have f1 := XZ.frozen 1
      go_wp2_with fail
      go_region
      all_goals
        go_wp2_with fail
        obtain ⟨W, hW, y0, y1, hbe⟩ := ret_frac hs (by omega) XZ kn kd
        rw [hW]
        exact bodyPost_ret (v := .tuple #[.string ⟨#[]⟩, .agg #[.string kn, .string kd]]) (by simp [results, Tryz.results116, go_sem, y0, y1]) rfl ⟨rfl, hbe.drew⟩
theorem FR_zero : FR 0 = .agg #[.string ⟨#[]⟩, .string ⟨#[]⟩] := by
  unfold FR
  rw [frN_zero, frD_zero]
theorem FR_can {n d : ByteArray} (h : chkF n d = 0) : n = frN (ratV n d) ∧ d = frD (ratV n d) := canB_iff.1 (by unfold canB; rw [h]; rfl)
set_option maxRecDepth 100000 in
set_option maxHeartbeats 4000000 in
theorem pft_any {T : TermS} (hz : T.le 13) {v u kn kd : ByteArray} (hv : v.size ≤ 60) (hu : u.size ≤ 40) (s1 : kn.size ≤ 10000) (s2 : kd.size ≤ 10000) :
    Ret 41 #[tval T, .string v, .string u, FV kn kd] (.tuple #[.string (pfR T v u kn kd), FR (pfQ T v u kn kd), .int .i64 (pfE T v u kn kd)]) := by
  intro w hg
  have KT := fchk_any hz
  have KV := ChkR (a := v) (by omega)
  have KU := cntU_any (u := u) (kn := kn) (kd := kd) hu (by omega) (by omega)
  unfold FV at KU ⊢
  have HR : Hid (∀ e : Int, pfE T v u kn kd = e → e ≠ 0 → pfR T v u kn kd = ⟨#[]⟩ ∧ pfQ T v u kn kd = 0) := fun e h h0 => ⟨if_neg (by rw [h]; exact h0), if_neg (by rw [h]; exact h0)⟩
  have HE : Hid (pfE T v u kn kd = if termE T ≠ 0 ∨ chk v ≠ 0 then 1 else cntE u kn kd) := rfl
  have hs := (((St.refl hg).alloc (.cells (tcells T) 54)).alloc (.cells #[.string kn, .string kd] 34)).alloc (.cells #[.string ⟨#[]⟩, .string ⟨#[]⟩] 34)
  have XT := ((Bx.new w (tcells T) 54).alloc (.cells #[.string kn, .string kd] 34)).alloc (.cells #[.string ⟨#[]⟩, .string ⟨#[]⟩] 34)
  have XM := (Bx.new1 w (.cells (tcells T) 54) #[.string kn, .string kd] 34).alloc (.cells #[.string ⟨#[]⟩, .string ⟨#[]⟩] 34)
  have XZ := Bx.new2 w (.cells (tcells T) 54) (.cells #[.string kn, .string kd] 34) #[.string ⟨#[]⟩, .string ⟨#[]⟩] 34
  by_cases h1 : termE T = 0
  · by_cases h2 : chk v = 0
    · have HE2 := HE.out
      rw [if_neg (by rw [h1, h2]; simp)] at HE2
      rw [h1] at KT
      rw [h2] at KV
      by_cases h3 : cntE u kn kd = 0
      · obtain ⟨c1, c2, c3, c4⟩ := cnt_zero h3
        obtain ⟨e1, e2⟩ := FR_can c2
        have KP := perf_any hz hv hu c3 (mk := ratV kn kd) (FitQ.arg (k := 10000) s1 s2 (by omega)) (by omega)
        rw [h3] at KU HE2
        have eR : pfR T v u kn kd = canS (pfI (valS v) T.p (valS u) (ratV kn kd)) := if_pos HE2
        have eQ : pfQ T v u kn kd = pfM (valS v) T.p (valS u) (ratV kn kd) := if_pos HE2
        rw [eR, eQ, HE2]
        unfold FR at KP ⊢
        rw [← e1, ← e2] at KP
        clear HE HE2 HR h1 h2 h3 c1 c2 c3 c4 e1 e2 eR eQ hv hu s1 s2 hz
        generalize canS (pfI (valS v) T.p (valS u) (ratV kn kd)) = fs at *
        generalize frN (pfM (valS v) T.p (valS u) (ratV kn kd)) = rn at *
        generalize frD (pfM (valS v) T.p (valS u) (ratV kn kd)) = rd at *
        obtain ⟨mn, md, pn, pd, ct⟩ := T
        unfold tval tcells at *
        dsimp only at *
        have t0 := XT.cell (i := 0) (v := .string mn) rfl
        have t1 := XT.cell (i := 1) (v := .string md) rfl
        have t2 := XT.cell (i := 2) (v := .string pn) rfl
        have t3 := XT.cell (i := 3) (v := .string pd) rfl
        have t4 := XT.cell (i := 4) (v := .int .i64 ct) rfl
        go_enter Tryz.func41, Tryz.ntmps41
        go_wp2_with fail
        refine KT.step hs ?_
        intro w2 hs hb
        replace XT := XT.on hb
        replace XM := XM.on hb
        replace XZ := XZ.on hb
        clear t0 t1 t2 t3 t4
        have t0 := XT.cell (i := 0) (v := .string mn) rfl
        have t1 := XT.cell (i := 1) (v := .string md) rfl
        have t2 := XT.cell (i := 2) (v := .string pn) rfl
        have t3 := XT.cell (i := 3) (v := .string pd) rfl
        have t4 := XT.cell (i := 4) (v := .int .i64 ct) rfl
        have m0 := XM.cell (i := 0) (v := .string kn) rfl
        have m1 := XM.cell (i := 1) (v := .string kd) rfl
        have e0 := XZ.cell (i := 0) (v := .string ⟨#[]⟩) rfl
        have e1 := XZ.cell (i := 1) (v := .string ⟨#[]⟩) rfl
        have f0 := XZ.frozen 0
        have f1 := XZ.frozen 1
        go_wp2_with fail
        clear m0 m1 e0 e1 f0 f1
        refine KV.step hs ?_
        intro w2 hs hb
        replace XT := XT.on hb
        replace XM := XM.on hb
        replace XZ := XZ.on hb
        clear t0 t1 t2 t3 t4
        have t0 := XT.cell (i := 0) (v := .string mn) rfl
        have t1 := XT.cell (i := 1) (v := .string md) rfl
        have t2 := XT.cell (i := 2) (v := .string pn) rfl
        have t3 := XT.cell (i := 3) (v := .string pd) rfl
        have t4 := XT.cell (i := 4) (v := .int .i64 ct) rfl
        have m0 := XM.cell (i := 0) (v := .string kn) rfl
        have m1 := XM.cell (i := 1) (v := .string kd) rfl
        have e0 := XZ.cell (i := 0) (v := .string ⟨#[]⟩) rfl
        have e1 := XZ.cell (i := 1) (v := .string ⟨#[]⟩) rfl
        have f0 := XZ.frozen 0
        have f1 := XZ.frozen 1
        go_wp2_with fail
        clear m0 m1 e0 e1 f0 f1
        refine KU.step hs ?_
        intro w2 hs hb
        replace XT := XT.on hb
        replace XM := XM.on hb
        replace XZ := XZ.on hb
        clear t0 t1 t2 t3 t4
        have t0 := XT.cell (i := 0) (v := .string mn) rfl
        have t1 := XT.cell (i := 1) (v := .string md) rfl
        have t2 := XT.cell (i := 2) (v := .string pn) rfl
        have t3 := XT.cell (i := 3) (v := .string pd) rfl
        have t4 := XT.cell (i := 4) (v := .int .i64 ct) rfl
        have m0 := XM.cell (i := 0) (v := .string kn) rfl
        have m1 := XM.cell (i := 1) (v := .string kd) rfl
        have e0 := XZ.cell (i := 0) (v := .string ⟨#[]⟩) rfl
        have e1 := XZ.cell (i := 1) (v := .string ⟨#[]⟩) rfl
        have f0 := XZ.frozen 0
        have f1 := XZ.frozen 1
        go_wp2_with fail
        clear m0 m1 e0 e1 f0 f1
        refine KP.step hs ?_
        intro w5 hs hb
        have lZ := (XZ.on hb).lt
        replace XZ := (XZ.on hb).alloc (.cells #[.string rn, .string rd] 34)
        have XQ := Bx.new w5 #[.string rn, .string rd] 34
        replace hs := hs.alloc (.cells #[.string rn, .string rd] 34)
        clear t0 t1 t2 t3 t4
        have y0 := XQ.cell (i := 0) (v := .string rn) rfl
        have y1 := XQ.cell (i := 1) (v := .string rd) rfl
        have e0 := XZ.cell (i := 0) (v := .string ⟨#[]⟩) rfl
        have e1 := XZ.cell (i := 1) (v := .string ⟨#[]⟩) rfl
        have f0 := XZ.frozen 0
        have f1 := XZ.frozen 1
        have n1 : ¬ w5.heap.size = w.heap.size + 2 := by omega
        have n2 : ¬ w.heap.size + 2 = w5.heap.size := by omega
        obtain ⟨W0, hW0⟩ : ∃ W0, w5.alloc (.cells #[.string rn, .string rd] 34) = W0 := ⟨_, rfl⟩
        go_wp2_with fail
        rw [hW0] at hs XZ XQ y0 y1 e0 e1 f0 f1
        clear hW0
        generalize w5.heap.size = b2 at *
        go_region
        all_goals
          go_wp2_with fail
          obtain ⟨W, hW, y0, y1, hbe⟩ := ret_frac hs (by omega) XZ rn rd
          rw [hW]
          exact bodyPost_ret (v := .tuple #[.string fs, .agg #[.string rn, .string rd], .int .i64 0]) (by simp [results, Tryz.results41, go_sem, y0, y1]) rfl ⟨rfl, hbe.drew⟩
      · obtain ⟨r1, r2⟩ := HR.out _ HE2 h3
        rw [r1, r2, HE2, FR_zero]
        have q : (cntE u kn kd != 0) = true := by simpa using h3
        clear HE HE2 HR h1 h2 h3 r1 r2 hv hu s1 s2 hz
        generalize cntE u kn kd = ce at *
        obtain ⟨mn, md, pn, pd, ct⟩ := T
        unfold tval tcells at *
        dsimp only at *
        have t0 := XT.cell (i := 0) (v := .string mn) rfl
        have t1 := XT.cell (i := 1) (v := .string md) rfl
        have t2 := XT.cell (i := 2) (v := .string pn) rfl
        have t3 := XT.cell (i := 3) (v := .string pd) rfl
        have t4 := XT.cell (i := 4) (v := .int .i64 ct) rfl
        go_enter Tryz.func41, Tryz.ntmps41
        go_wp2_with fail
        refine KT.step hs ?_
        intro w2 hs hb
        replace XT := XT.on hb
        replace XM := XM.on hb
        replace XZ := XZ.on hb
        clear t0 t1 t2 t3 t4
        have t0 := XT.cell (i := 0) (v := .string mn) rfl
        have t1 := XT.cell (i := 1) (v := .string md) rfl
        have t2 := XT.cell (i := 2) (v := .string pn) rfl
        have t3 := XT.cell (i := 3) (v := .string pd) rfl
        have t4 := XT.cell (i := 4) (v := .int .i64 ct) rfl
        have m0 := XM.cell (i := 0) (v := .string kn) rfl
        have m1 := XM.cell (i := 1) (v := .string kd) rfl
        have e0 := XZ.cell (i := 0) (v := .string ⟨#[]⟩) rfl
        have e1 := XZ.cell (i := 1) (v := .string ⟨#[]⟩) rfl
        have f0 := XZ.frozen 0
        have f1 := XZ.frozen 1
        go_wp2_with fail
        clear m0 m1 e0 e1 f0 f1
        refine KV.step hs ?_
        intro w2 hs hb
        replace XT := XT.on hb
        replace XM := XM.on hb
        replace XZ := XZ.on hb
        clear t0 t1 t2 t3 t4
        have t0 := XT.cell (i := 0) (v := .string mn) rfl
        have t1 := XT.cell (i := 1) (v := .string md) rfl
        have t2 := XT.cell (i := 2) (v := .string pn) rfl
        have t3 := XT.cell (i := 3) (v := .string pd) rfl
        have t4 := XT.cell (i := 4) (v := .int .i64 ct) rfl
        have m0 := XM.cell (i := 0) (v := .string kn) rfl
        have m1 := XM.cell (i := 1) (v := .string kd) rfl
        have e0 := XZ.cell (i := 0) (v := .string ⟨#[]⟩) rfl
        have e1 := XZ.cell (i := 1) (v := .string ⟨#[]⟩) rfl
        have f0 := XZ.frozen 0
        have f1 := XZ.frozen 1
        go_wp2_with fail
        clear m0 m1 e0 e1 f0 f1
        refine KU.step hs ?_
        intro w2 hs hb
        replace XT := XT.on hb
        replace XM := XM.on hb
        replace XZ := XZ.on hb
        clear t0 t1 t2 t3 t4
        have t0 := XT.cell (i := 0) (v := .string mn) rfl
        have t1 := XT.cell (i := 1) (v := .string md) rfl
        have t2 := XT.cell (i := 2) (v := .string pn) rfl
        have t3 := XT.cell (i := 3) (v := .string pd) rfl
        have t4 := XT.cell (i := 4) (v := .int .i64 ct) rfl
        have m0 := XM.cell (i := 0) (v := .string kn) rfl
        have m1 := XM.cell (i := 1) (v := .string kd) rfl
        have e0 := XZ.cell (i := 0) (v := .string ⟨#[]⟩) rfl
        have e1 := XZ.cell (i := 1) (v := .string ⟨#[]⟩) rfl
        have f0 := XZ.frozen 0
        have f1 := XZ.frozen 1
        go_wp2_with fail
        clear m0 m1 e0 e1 f0 f1
        obtain ⟨W, hW, y0, y1, hbe⟩ := ret_frac hs (by omega) XZ ⟨#[]⟩ ⟨#[]⟩
        rw [hW]
        exact bodyPost_ret (v := .tuple #[.string ⟨#[]⟩, .agg #[.string ⟨#[]⟩, .string ⟨#[]⟩], .int .i64 ce]) (by simp [results, Tryz.results41, go_sem, y0, y1]) rfl ⟨rfl, hbe⟩
    · have HE2 := HE.out
      rw [if_pos (.inr h2)] at HE2
      obtain ⟨r1, r2⟩ := HR.out _ HE2 (by decide)
      rw [r1, r2, HE2, FR_zero]
      rw [h1] at KT
      have q : (chk v != 0) = true := by simpa using h2
      clear HE HE2 HR h1 h2 r1 r2 hv hu s1 s2 hz
      generalize chk v = cv at *
      obtain ⟨mn, md, pn, pd, ct⟩ := T
      unfold tval tcells at *
      dsimp only at *
      have t0 := XT.cell (i := 0) (v := .string mn) rfl
      have t1 := XT.cell (i := 1) (v := .string md) rfl
      have t2 := XT.cell (i := 2) (v := .string pn) rfl
      have t3 := XT.cell (i := 3) (v := .string pd) rfl
      have t4 := XT.cell (i := 4) (v := .int .i64 ct) rfl
      go_enter Tryz.func41, Tryz.ntmps41
      go_wp2_with fail
      refine KT.step hs ?_
      intro w2 hs hb
      replace XT := XT.on hb
      replace XM := XM.on hb
      replace XZ := XZ.on hb
      clear t0 t1 t2 t3 t4
      have t0 := XT.cell (i := 0) (v := .string mn) rfl
      have t1 := XT.cell (i := 1) (v := .string md) rfl
      have t2 := XT.cell (i := 2) (v := .string pn) rfl
      have t3 := XT.cell (i := 3) (v := .string pd) rfl
      have t4 := XT.cell (i := 4) (v := .int .i64 ct) rfl
      have m0 := XM.cell (i := 0) (v := .string kn) rfl
      have m1 := XM.cell (i := 1) (v := .string kd) rfl
      have e0 := XZ.cell (i := 0) (v := .string ⟨#[]⟩) rfl
      have e1 := XZ.cell (i := 1) (v := .string ⟨#[]⟩) rfl
      have f0 := XZ.frozen 0
      have f1 := XZ.frozen 1
      go_wp2_with fail
      clear m0 m1 e0 e1 f0 f1
      refine KV.step hs ?_
      intro w2 hs hb
      replace XT := XT.on hb
      replace XM := XM.on hb
      replace XZ := XZ.on hb
      clear t0 t1 t2 t3 t4
      have t0 := XT.cell (i := 0) (v := .string mn) rfl
      have t1 := XT.cell (i := 1) (v := .string md) rfl
      have t2 := XT.cell (i := 2) (v := .string pn) rfl
      have t3 := XT.cell (i := 3) (v := .string pd) rfl
      have t4 := XT.cell (i := 4) (v := .int .i64 ct) rfl
      have m0 := XM.cell (i := 0) (v := .string kn) rfl
      have m1 := XM.cell (i := 1) (v := .string kd) rfl
      have e0 := XZ.cell (i := 0) (v := .string ⟨#[]⟩) rfl
      have e1 := XZ.cell (i := 1) (v := .string ⟨#[]⟩) rfl
      have f0 := XZ.frozen 0
      have f1 := XZ.frozen 1
      go_wp2_with fail
      clear m0 m1 e0 e1 f0 f1
      obtain ⟨W, hW, y0, y1, hbe⟩ := ret_frac hs (by omega) XZ ⟨#[]⟩ ⟨#[]⟩
      rw [hW]
      exact bodyPost_ret (v := .tuple #[.string ⟨#[]⟩, .agg #[.string ⟨#[]⟩, .string ⟨#[]⟩], .int .i64 1]) (by simp [results, Tryz.results41, go_sem, y0, y1]) rfl ⟨rfl, hbe⟩
  · have HE2 := HE.out
    rw [if_pos (.inl h1)] at HE2
    obtain ⟨r1, r2⟩ := HR.out _ HE2 (by decide)
    rw [r1, r2, HE2, FR_zero]
    have q : (termE T != 0) = true := by simpa using h1
    clear HE HE2 HR h1 r1 r2 hv hu s1 s2 hz
    generalize termE T = te at *
    obtain ⟨mn, md, pn, pd, ct⟩ := T
    unfold tval tcells at *
    dsimp only at *
    have t0 := XT.cell (i := 0) (v := .string mn) rfl
    have t1 := XT.cell (i := 1) (v := .string md) rfl
    have t2 := XT.cell (i := 2) (v := .string pn) rfl
    have t3 := XT.cell (i := 3) (v := .string pd) rfl
    have t4 := XT.cell (i := 4) (v := .int .i64 ct) rfl
    go_enter Tryz.func41, Tryz.ntmps41
    go_wp2_with fail
    refine KT.step hs ?_
    intro w2 hs hb
    replace XT := XT.on hb
    replace XM := XM.on hb
    replace XZ := XZ.on hb
    clear t0 t1 t2 t3 t4
    have t0 := XT.cell (i := 0) (v := .string mn) rfl
    have t1 := XT.cell (i := 1) (v := .string md) rfl
    have t2 := XT.cell (i := 2) (v := .string pn) rfl
    have t3 := XT.cell (i := 3) (v := .string pd) rfl
    have t4 := XT.cell (i := 4) (v := .int .i64 ct) rfl
    have m0 := XM.cell (i := 0) (v := .string kn) rfl
    have m1 := XM.cell (i := 1) (v := .string kd) rfl
    have e0 := XZ.cell (i := 0) (v := .string ⟨#[]⟩) rfl
    have e1 := XZ.cell (i := 1) (v := .string ⟨#[]⟩) rfl
    have f0 := XZ.frozen 0
    have f1 := XZ.frozen 1
    go_wp2_with fail
    clear m0 m1 e0 e1 f0 f1
    obtain ⟨W, hW, y0, y1, hbe⟩ := ret_frac hs (by omega) XZ ⟨#[]⟩ ⟨#[]⟩
    rw [hW]
    exact bodyPost_ret (v := .tuple #[.string ⟨#[]⟩, .agg #[.string ⟨#[]⟩, .string ⟨#[]⟩], .int .i64 1]) (by simp [results, Tryz.results41, go_sem, y0, y1]) rfl ⟨rfl, hbe⟩
end Go.Proofs.YtgagjpjlnlandaaGreatDoor
