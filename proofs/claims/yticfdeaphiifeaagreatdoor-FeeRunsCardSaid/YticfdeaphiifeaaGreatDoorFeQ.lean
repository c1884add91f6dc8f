/- Fees, the reference: units and marks, the fee for a gain. Conditions: numbers of bounded length. -/
import Derived.Test.YticfdeaphiifeaaGreatDoorFe13
import Derived.Test.YticfdeaphiifeaaGreatDoorRef3
set_option maxHeartbeats 4000000
set_option maxRecDepth 100000
namespace Go.Proofs.YticfdeaphiifeaaGreatDoor
open Go.RowKit Go.Shelf Dec QQ
theorem rcntU_any {u kn kd : ByteArray} (s0 : u.size ≤ 40) (s1 : kn.size ≤ 30000) (s2 : kd.size ≤ 30000) : Ret 64 #[.string u, FV kn kd] (.int .i64 (cntE u kn kd)) := by
 intro w hg
 have hs := (St.refl hg).alloc (.cells #[.string kn, .string kd] 34)
 have XR := Bx.new w #[.string kn, .string kd] 34
 have K1 := rchkR (a := u) (by omega)
 have K2 := rchk_r (a := kn) (b := kd) (by omega) (by omega)
 have K3 := rsignR (a := u) (by omega)
 have K4 := rsignF (a := kn) (b := kd) (by omega) (by omega)
 unfold FV at *
 have q3 : decide (cmpI (valS u) 0 ≤ 0) = decide (valS u ≤ 0) := cmpI_le0 _
 have q4 : decide (cmpQ (ratV kn kd) 0 < 0) = decide (ratV kn kd < 0) := decide_eq_decide.2 cmpQ_neg
 unfold cntE
 clear s0 s1 s2
 generalize cmpI (valS u) 0 = c3 at *
 generalize cmpQ (ratV kn kd) 0 = c4 at *
 by_cases h1 : chk u = 0
 ·by_cases h2 : chkF kn kd = 0
  ·rw [if_neg (by rw [h1, h2]; simp)]
   rw [h1] at K1
   rw [h2] at K2
   by_cases h3 : valS u ≤ 0
   ·rw [if_pos (.inl h3)]
    rw [decide_eq_true h3] at q3
    clear h1 h2 h3
    go_enter Tryz.func64, Tryz.ntmps64
    go_wp2_with fail
    refine K1.step hs ?_
    intro w1 hs hb
    replace XR := XR.on hb
    have x0 := XR.cell (i := 0) (v := .string kn) rfl
    have x1 := XR.cell (i := 1) (v := .string kd) rfl
    go_wp2_with fail
    refine K2.step hs ?_
    intro w1 hs _
    go_wp2_with fail
    refine K3.step hs ?_
    intro w1 hs _
    go_wp2_with fail
    go_ret
    exact ⟨rfl, hs.2⟩
   ·rw [decide_eq_false h3] at q3
    have e : (if valS u ≤ 0 ∨ ratV kn kd < 0 then (2 : Int) else 0) = if decide (ratV kn kd < 0) = true then 2 else 0 := by
     congr 1
     simp [h3]
    rw [e]
    clear e h1 h2 h3
    generalize decide (ratV kn kd < 0) = t at *
    cases t
    all_goals
     go_enter Tryz.func64, Tryz.ntmps64
     go_wp2_with fail
     refine K1.step hs ?_
     intro w1 hs hb
     replace XR := XR.on hb
     have x0 := XR.cell (i := 0) (v := .string kn) rfl
     have x1 := XR.cell (i := 1) (v := .string kd) rfl
     go_wp2_with fail
     refine K2.step hs ?_
     intro w2 hs hb
     replace XR := XR.on hb
     clear x0 x1
     go_wp2_with fail
     refine K3.step hs ?_
     intro w3 hs hb
     replace XR := XR.on hb
     have x0 := XR.cell (i := 0) (v := .string kn) rfl
     have x1 := XR.cell (i := 1) (v := .string kd) rfl
     go_wp2_with fail
     refine K4.step hs ?_
     intro w1 hs _
     go_wp2_with fail
     go_ret
     exact ⟨by rfl, hs.2⟩
  ·rw [if_pos (.inr h2)]
   have q : (chkF kn kd != 0) = true := by simpa using h2
   rw [h1] at K1
   clear h1 h2
   generalize chkF kn kd = e at *
   go_enter Tryz.func64, Tryz.ntmps64
   go_wp2_with fail
   refine K1.step hs ?_
   intro w1 hs hb
   replace XR := XR.on hb
   have x0 := XR.cell (i := 0) (v := .string kn) rfl
   have x1 := XR.cell (i := 1) (v := .string kd) rfl
   go_wp2_with fail
   refine K2.step hs ?_
   intro w1 hs _
   go_wp2_with fail
   go_ret
   exact ⟨rfl, hs.2⟩
 ·rw [if_pos (.inl h1)]
  have q : (chk u != 0) = true := by simpa using h1
  clear h1
  generalize chk u = e at *
  go_enter Tryz.func64, Tryz.ntmps64
  go_wp2_with fail
  refine K1.step hs ?_
  intro w1 hs _
  go_wp2_with fail
  go_ret
  exact ⟨rfl, hs.2⟩
theorem rprice_any {v u : ByteArray} (h1 : v.size ≤ 10000) (h2 : u.size ≤ 10000) (hu : valS u ≠ 0) : Ret 74 #[.string v, .string u] (FR (rat (valS v) (valS u))) := by
 intro w hg
 have hs := (St.refl hg).alloc (.cells #[.string ⟨#[]⟩, .string ⟨#[]⟩] 34)
 have B0 := Bx.new w #[.string ⟨#[]⟩, .string ⟨#[]⟩] 34
 have K3 := new_r (n := v) (d := u) (by omega) (by omega)
 rw [if_neg hu, if_neg hu] at K3
 unfold FR at K3 ⊢
 generalize frN (rat (valS v) (valS u)) = rn at *
 generalize frD (rat (valS v) (valS u)) = rd at *
 go_enter Tryz.func74, Tryz.ntmps74
 go_wp2_with fail
 refine K3.step hs ?_
 intro w3 hs hb
 have B := (B0.on hb).alloc (.cells #[.string rn, .string rd] 34)
 have hs := hs.alloc (.cells #[.string rn, .string rd] 34)
 have ce0 := B.cell (i := 0) (v := .string ⟨#[]⟩) rfl
 have ce1 := B.cell (i := 1) (v := .string ⟨#[]⟩) rfl
 have cg0 := B.frozen 0
 have cg1 := B.frozen 1
 go_wp2_with fail
 obtain ⟨W, hW, y0, y1, hbe⟩ := ret_frac hs (by omega) B rn rd
 rw [hW]
 exact bodyPost_ret (v := .agg #[.string rn, .string rd]) (by simp [results, Tryz.results74, go_sem, y0, y1]) rfl ⟨rfl, hbe⟩
theorem rperf_any {T : TermS} (hz : T.le 13) {v u : ByteArray} (hv : v.size ≤ 60) (hu : u.size ≤ 40) (hp : 0 < valS u) {mk : Rat} {km : Nat} (hk : FitQ km mk) (hkm : km ≤ 800) :
  Ret 67 #[tval T, .string v, .string u, FR mk] (.tuple #[.string (canS (pfI (valS v) T.p (valS u) mk)), FR (pfM (valS v) T.p (valS u) mk)]) := by
 intro w hg
 obtain ⟨mn, md, pn, pd, ct⟩ := T
 unfold tval TermS.p
 dsimp only
 obtain ⟨z1, z2, z3, z4⟩ : mn.size ≤ 13 ∧ md.size ≤ 13 ∧ pn.size ≤ 13 ∧ pd.size ≤ 13 := hz
 have va := Vs.arg (s := v) (by omega)
 have vu := Vs.arg (s := u) (by omega)
 have vp := Vq.arg (n := pn) (d := pd) (by omega) (by omega)
 have fp := FitQ.arg (n := pn) (d := pd) (k := 13) z3 z4 (by omega)
 have fv : FitQ 60 ((valS v : Int) : Rat) := FitQ.int (Fit.val hv) (by omega)
 have fu : FitQ 40 ((valS u : Int) : Rat) := FitQ.int (Fit.val hu) (by omega)
 have vk := Vq.fr hk (by omega)
 have KO1 := rof_r (a := v) (by omega)
 have KO2 := rof_r (a := u) (by omega)
 have zk := FitQ.sizes hk
 have zu := FitQ.sizes fu
 have zv := FitQ.sizes fv
 have KM := rmul_r (a := frN mk) (b := frD mk) (c := frN ((valS u : Int) : Rat)) (d := frD ((valS u : Int) : Rat)) (by omega) (by omega) (by omega) (by omega)
 rw [ratV_fr, ratV_fr] at KM
 have f1 := hk.mul fu
 have z1' := FitQ.sizes f1
 have KS := rsub_r (a := frN ((valS v : Int) : Rat)) (b := frD ((valS v : Int) : Rat)) (c := frN (mk * ((valS u : Int) : Rat))) (d := frD (mk * ((valS u : Int) : Rat))) (by omega) (by omega) (by omega) (by omega)
 rw [ratV_fr, ratV_fr] at KS
 have fo := fv.sub f1
 have zo := FitQ.sizes fo
 have KC := rsignF (a := frN (((valS v : Int) : Rat) - mk * ((valS u : Int) : Rat))) (b := frD (((valS v : Int) : Rat) - mk * ((valS u : Int) : Rat))) (by omega) (by omega)
 rw [ratV_fr] at KC
 have qo : decide (0 < cmpQ (((valS v : Int) : Rat) - mk * ((valS u : Int) : Rat)) 0) = decide (0 < ((valS v : Int) : Rat) - mk * ((valS u : Int) : Rat)) := cmpQ_pos
 clear fv fu f1 zk zu zv z1'
 by_cases ho : 0 < ((valS v : Int) : Rat) - mk * ((valS u : Int) : Rat)
 ·skip
  have eF : pfI (valS v) (ratV pn pd) (valS u) mk = rndQ 1 (ratV pn pd * (((valS v : Int) : Rat) - mk * ((valS u : Int) : Rat))) := if_pos ho
  rw [decide_eq_true ho] at qo
  have KM2 := rmul_r (a := pn) (b := pd) (c := frN (((valS v : Int) : Rat) - mk * ((valS u : Int) : Rat))) (d := frD (((valS v : Int) : Rat) - mk * ((valS u : Int) : Rat))) (by omega) (by omega) (by omega) (by omega)
  rw [ratV_fr] at KM2
  have f3 := fp.mul fo
  have z3' := FitQ.sizes f3
  have KR := rRoundTo_any (a := frN (ratV pn pd * (((valS v : Int) : Rat) - mk * ((valS u : Int) : Rat)))) (b := frD (ratV pn pd * (((valS v : Int) : Rat) - mk * ((valS u : Int) : Rat)))) 1 (by omega) (by omega) (by decide) (by decide)
  rw [ratV_fr] at KR
  have ff : Fit (13 + (60 + (km + 40) + 1) + 1) (rndQ 1 (ratV pn pd * (((valS v : Int) : Rat) - mk * ((valS u : Int) : Rat)))) := rnd_fit 1 f3
  have vf : Vs (canS (rndQ 1 (ratV pn pd * (((valS v : Int) : Rat) - mk * ((valS u : Int) : Rat))))) (rndQ 1 (ratV pn pd * (((valS v : Int) : Rat) - mk * ((valS u : Int) : Rat)))) := Vs.can ff (by omega)
  have zff := ff.size
  have KS2 := rSubR (a := v) (b := canS (rndQ 1 (ratV pn pd * (((valS v : Int) : Rat) - mk * ((valS u : Int) : Rat))))) (by omega) (by omega)
  rw [valS_canS] at KS2
  have fs := Fit.subI (Fit.val hv) ff (by omega)
  have vs2 : Vs (canS (valS v - (rndQ 1 (ratV pn pd * (((valS v : Int) : Rat) - mk * ((valS u : Int) : Rat)))))) (valS v - (rndQ 1 (ratV pn pd * (((valS v : Int) : Rat) - mk * ((valS u : Int) : Rat))))) := Vs.can fs (by omega)
  have zs2 := fs.size
  have KN := rprice_any (v := canS (valS v - (rndQ 1 (ratV pn pd * (((valS v : Int) : Rat) - mk * ((valS u : Int) : Rat)))))) (u := u) (by omega) (by omega) (by omega)
  rw [valS_canS] at KN
  have fq := (FitQ.rat fs (Fit.val hu) (by omega)).mono (show _ ≤ km + 200 by omega)
  have zq := FitQ.sizes fq
  have zk := FitQ.sizes hk
  have KC2 := rcmpF (a := frN (rat (valS v - (rndQ 1 (ratV pn pd * (((valS v : Int) : Rat) - mk * ((valS u : Int) : Rat))))) (valS u))) (b := frD (rat (valS v - (rndQ 1 (ratV pn pd * (((valS v : Int) : Rat) - mk * ((valS u : Int) : Rat))))) (valS u))) (c := frN mk) (d := frD mk) (by omega) (by omega) (by omega) (by omega)
  rw [ratV_fr, ratV_fr] at KC2
  have qt : decide (0 < cmpQ (rat (valS v - (rndQ 1 (ratV pn pd * (((valS v : Int) : Rat) - mk * ((valS u : Int) : Rat))))) (valS u)) mk) = decide (mk < rat (valS v - (rndQ 1 (ratV pn pd * (((valS v : Int) : Rat) - mk * ((valS u : Int) : Rat))))) (valS u)) := cmpQ_pos
  have eM : pfM (valS v) (ratV pn pd) (valS u) mk = if mk < rat (valS v - (rndQ 1 (ratV pn pd * (((valS v : Int) : Rat) - mk * ((valS u : Int) : Rat))))) (valS u) then rat (valS v - (rndQ 1 (ratV pn pd * (((valS v : Int) : Rat) - mk * ((valS u : Int) : Rat))))) (valS u) else mk := by unfold pfM; rw [eF]
  rw [eF, eM]
  have HRes : Hid (∀ t, decide (mk < rat (valS v - (rndQ 1 (ratV pn pd * (((valS v : Int) : Rat) - mk * ((valS u : Int) : Rat))))) (valS u)) = t → FR (if mk < rat (valS v - (rndQ 1 (ratV pn pd * (((valS v : Int) : Rat) - mk * ((valS u : Int) : Rat))))) (valS u) then rat (valS v - (rndQ 1 (ratV pn pd * (((valS v : Int) : Rat) - mk * ((valS u : Int) : Rat))))) (valS u) else mk) = if t = true then FR (rat (valS v - (rndQ 1 (ratV pn pd * (((valS v : Int) : Rat) - mk * ((valS u : Int) : Rat))))) (valS u)) else FR mk) := fun t ht => by
   subst ht
   by_cases hc : mk < rat (valS v - (rndQ 1 (ratV pn pd * (((valS v : Int) : Rat) - mk * ((valS u : Int) : Rat))))) (valS u)
   ·rw [if_pos hc, decide_eq_true hc, if_pos rfl]
   ·rw [if_neg hc, decide_eq_false hc, if_neg (by decide)]
  obtain ⟨tp, htp⟩ : ∃ t, decide (mk < rat (valS v - (rndQ 1 (ratV pn pd * (((valS v : Int) : Rat) - mk * ((valS u : Int) : Rat))))) (valS u)) = t := ⟨_, rfl⟩
  rw [htp] at qt
  rw [HRes.out tp htp]
  clear HRes htp eF eM
  unfold FV at *
  unfold FR at *
  clear va vu vp vk fp fo ff vf fs vs2 fq ho f3 z3' zff zs2 zq zk zo
  generalize cmpQ (rat (valS v - (rndQ 1 (ratV pn pd * (((valS v : Int) : Rat) - mk * ((valS u : Int) : Rat))))) (valS u)) mk = cq at *
  generalize frN (rat (valS v - (rndQ 1 (ratV pn pd * (((valS v : Int) : Rat) - mk * ((valS u : Int) : Rat))))) (valS u)) = qn at *
  generalize frD (rat (valS v - (rndQ 1 (ratV pn pd * (((valS v : Int) : Rat) - mk * ((valS u : Int) : Rat))))) (valS u)) = qd at *
  generalize canS (valS v - (rndQ 1 (ratV pn pd * (((valS v : Int) : Rat) - mk * ((valS u : Int) : Rat))))) = ss at *
  generalize canS (rndQ 1 (ratV pn pd * (((valS v : Int) : Rat) - mk * ((valS u : Int) : Rat)))) = fs at *
  generalize frN (ratV pn pd * (((valS v : Int) : Rat) - mk * ((valS u : Int) : Rat))) = rn at *
  generalize frD (ratV pn pd * (((valS v : Int) : Rat) - mk * ((valS u : Int) : Rat))) = rd at *
  generalize cmpQ (((valS v : Int) : Rat) - mk * ((valS u : Int) : Rat)) 0 = co at *
  generalize frN (((valS v : Int) : Rat) - mk * ((valS u : Int) : Rat)) = on at *
  generalize frD (((valS v : Int) : Rat) - mk * ((valS u : Int) : Rat)) = od at *
  generalize frN (mk * ((valS u : Int) : Rat)) = xn at *
  generalize frD (mk * ((valS u : Int) : Rat)) = xd at *
  generalize frN ((valS u : Int) : Rat) = un at *
  generalize frD ((valS u : Int) : Rat) = ud at *
  generalize frN ((valS v : Int) : Rat) = vn at *
  generalize frD ((valS v : Int) : Rat) = vd at *
  generalize frN mk = kn at *
  generalize frD mk = kd at *
  have hs := (((St.refl hg).alloc (.cells #[.string mn, .string md, .string pn, .string pd, .int .i64 ct] 44)).alloc (.cells #[.string kn, .string kd] 34)).alloc (.cells #[.string ⟨#[]⟩, .string ⟨#[]⟩] 34)
  have XT := ((Bx.new w #[.string mn, .string md, .string pn, .string pd, .int .i64 ct] 44).alloc (.cells #[.string kn, .string kd] 34)).alloc (.cells #[.string ⟨#[]⟩, .string ⟨#[]⟩] 34)
  have XM := (Bx.new1 w (.cells #[.string mn, .string md, .string pn, .string pd, .int .i64 ct] 44) #[.string kn, .string kd] 34).alloc (.cells #[.string ⟨#[]⟩, .string ⟨#[]⟩] 34)
  have XZ := Bx.new2 w (.cells #[.string mn, .string md, .string pn, .string pd, .int .i64 ct] 44) (.cells #[.string kn, .string kd] 34) #[.string ⟨#[]⟩, .string ⟨#[]⟩] 34
  go_enter Tryz.func67, Tryz.ntmps67
  go_wp2_with fail
  refine wp_region_fresh1 8 7 10 #[.string ⟨#[]⟩, .string ⟨#[]⟩] (by kernel_rfl) (by kernel_rfl) (by kernel_rfl) (by omega) rfl (by kernel_rfl) ⟨_, 10, _, rfl, rfl, rfl, fun _ _ => by simp [execOp, go_sem, ptrTo]; rfl⟩ ?_
  apply Exists.intro
  refine ⟨fun S W hne hk hcl => ?_, ?_⟩
  ·simp only [List.take_succ_cons, List.take_zero, quietL, List.mem_cons, List.not_mem_nil, or_false, Nat.reduceAdd, Nat.reduceEqDiff, reduceIte, Nat.zero_add]
   have kk0 := XM.in hk (i := 0) (v := .string kn) rfl
   have kk1 := XM.in hk (i := 1) (v := .string kd) rfl
   repeat (go_big_quiet_step (first | (with_reducible exact KO1.fresh hs hk hcl) | (with_reducible exact KO2.fresh hs hk hcl) | (with_reducible exact KM.fresh hs hk hcl) | (with_reducible exact KS.fresh hs hk hcl)))
   exact wpQuiet_nil rfl
  intro b1 v1 hb1 hv1 hx1
  simp only [List.drop_succ_cons, List.drop_zero, ptrTo]
  have z0 := hx1.cell (i := 0) (v := .string ⟨#[]⟩) rfl
  have z1 := hx1.cell (i := 1) (v := .string ⟨#[]⟩) rfl
  have g0 := hx1.frozen 0
  have g1 := hx1.frozen 1
  go_wp2_with fail
  have lb : w.heap.size + 3 ≤ b1 := by simp at hb1; omega
  have hl : Below w.heap.size w v1 := hs.2.trans (hv1.mono hs.2.size)
  replace hs : St w ((v1.setCell ⟨b1, 0, none⟩ (.string on)).setCell ⟨b1, 1, none⟩ (.string od)) := ((hs.on hv1).set (b := b1) (by omega) 0 (.string on)).set (b := b1) (by omega) 1 (.string od)
  replace XT := ((XT.on hv1).other (c := b1) (by omega) 0 (.string on)).other (c := b1) (by omega) 1 (.string od)
  replace XM := ((XM.on hv1).other (c := b1) (by omega) 0 (.string on)).other (c := b1) (by omega) 1 (.string od)
  replace XZ := ((XZ.on hv1).other (c := b1) (by omega) 0 (.string on)).other (c := b1) (by omega) 1 (.string od)
  have XO : Bx ((v1.setCell ⟨b1, 0, none⟩ (.string on)).setCell ⟨b1, 1, none⟩ (.string od)) b1 #[.string on, .string od] := (hx1.set 0 (.string on)).set 1 (.string od)
  clear z0 z1 g0 g1 hx1 hl hv1 hb1
  generalize (v1.setCell ⟨b1, 0, none⟩ (.string on)).setCell ⟨b1, 1, none⟩ (.string od) = W4 at *
  refine KC.step hs ?_
  intro w4 hs hb
  replace XT := XT.on hb
  replace XM := XM.on hb
  replace XZ := XZ.on hb
  replace XO := XO.on hb
  have y0 := XT.cell (i := 2) (v := .string pn) rfl
  have y1 := XT.cell (i := 3) (v := .string pd) rfl
  have y2 := XO.cell (i := 0) (v := .string on) rfl
  have y3 := XO.cell (i := 1) (v := .string od) rfl
  go_wp2_with fail
  refine KM2.step hs ?_
  intro w4 hs hb
  clear y0 y1 y2 y3
  replace XM := XM.on hb
  replace XZ := XZ.on hb
  go_wp2_with fail
  refine KR.step hs ?_
  intro w4 hs hb
  replace XM := XM.on hb
  replace XZ := XZ.on hb
  go_wp2_with fail
  refine KS2.step hs ?_
  intro w5 hs hb
  replace XM := XM.on hb
  replace XZ := XZ.on hb
  go_wp2_with fail
  refine KN.step hs ?_
  intro w6 hs hb
  have lM := (XM.on hb).lt
  have lZ := (XZ.on hb).lt
  replace XM := (XM.on hb).alloc (.cells #[.string qn, .string qd] 34)
  replace XZ := (XZ.on hb).alloc (.cells #[.string qn, .string qd] 34)
  have XQ := Bx.new w6 #[.string qn, .string qd] 34
  replace hs := hs.alloc (.cells #[.string qn, .string qd] 34)
  have y0 := XM.cell (i := 0) (v := .string kn) rfl
  have y1 := XM.cell (i := 1) (v := .string kd) rfl
  have y2 := XQ.cell (i := 0) (v := .string qn) rfl
  have y3 := XQ.cell (i := 1) (v := .string qd) rfl
  go_wp2_with fail
  refine KC2.step hs ?_
  intro w7 hs hb
  clear y0 y1 y2 y3
  replace XM := XM.on hb
  replace XZ := XZ.on hb
  replace XQ := XQ.on hb
  have y0 := XM.cell (i := 0) (v := .string kn) rfl
  have y1 := XM.cell (i := 1) (v := .string kd) rfl
  have y2 := XQ.cell (i := 0) (v := .string qn) rfl
  have y3 := XQ.cell (i := 1) (v := .string qd) rfl
  have g0 := XM.frozen 0
  have g1 := XM.frozen 1
  have n1 : ¬ w6.heap.size = w.heap.size + 1 := by omega
  have n2 : ¬ w.heap.size + 1 = w6.heap.size := by omega
  cases tp with
  | true =>
   go_wp2_with fail
   have hs2 := (hs.set (b := w.heap.size + 1) (by omega) 0 (.string qn)).set (b := w.heap.size + 1) (by omega) 1 (.string qd)
   have XM2 := (XM.set 0 (.string qn)).set 1 (.string qd)
   have XZ2 := (XZ.other (c := w.heap.size + 1) (by omega) 0 (.string qn)).other (c := w.heap.size + 1) (by omega) 1 (.string qd)
   clear y0 y1 y2 y3 g0 g1 XM XZ XQ hs
   generalize (w7.setCell ⟨w.heap.size + 1, 0, none⟩ (.string qn)).setCell ⟨w.heap.size + 1, 1, none⟩ (.string qd) = W8 at *
   replace XM2 : Bx W8 (w.heap.size + 1) #[.string qn, .string qd] := XM2
   have y0 := XM2.cell (i := 0) (v := .string qn) rfl
   have y1 := XM2.cell (i := 1) (v := .string qd) rfl
   have e0 := XZ2.cell (i := 0) (v := .string ⟨#[]⟩) rfl
   have e1 := XZ2.cell (i := 1) (v := .string ⟨#[]⟩) rfl
   have f0 := XZ2.frozen 0
   have f1 := XZ2.frozen 1
   go_region
   all_goals
    go_wp2_with fail
    obtain ⟨W, hW, y0, y1, hbe⟩ := ret_frac hs2 (by omega) XZ2 qn qd
    rw [hW]
    exact bodyPost_ret (v := .tuple #[.string fs, .agg #[.string qn, .string qd]]) (by simp [results, Tryz.results67, go_sem, y0, y1]) rfl ⟨rfl, hbe.drew⟩
  | false =>
   have e0 := XZ.cell (i := 0) (v := .string ⟨#[]⟩) rfl
   have e1 := XZ.cell (i := 1) (v := .string ⟨#[]⟩) rfl
   have f0 := XZ.frozen 0
   have f1 := XZ.frozen 1
   go_wp2_with fail
   go_region
   all_goals
    go_wp2_with fail
    obtain ⟨W, hW, y0, y1, hbe⟩ := ret_frac hs (by omega) XZ kn kd
    rw [hW]
    exact bodyPost_ret (v := .tuple #[.string fs, .agg #[.string kn, .string kd]]) (by simp [results, Tryz.results67, go_sem, y0, y1]) rfl ⟨rfl, hbe.drew⟩
 ·skip
  have eF : pfI (valS v) (ratV pn pd) (valS u) mk = 0 := if_neg ho
  rw [decide_eq_false ho] at qo
  have ff : Fit (13 + (60 + (km + 40) + 1) + 1) 0 := Nat.pow_pos (by decide)
  have vf : Vs ⟨#[]⟩ 0 := Vs.nil
  have KS2 := rSubR (a := v) (b := ⟨#[]⟩) (by omega) (by decide)
  rw [show valS ⟨#[]⟩ = 0 from by decide] at KS2
  have fs := Fit.subI (Fit.val hv) ff (by omega)
  have vs2 : Vs (canS (valS v - (0))) (valS v - (0)) := Vs.can fs (by omega)
  have zs2 := fs.size
  have KN := rprice_any (v := canS (valS v - (0))) (u := u) (by omega) (by omega) (by omega)
  rw [valS_canS] at KN
  have fq := (FitQ.rat fs (Fit.val hu) (by omega)).mono (show _ ≤ km + 200 by omega)
  have zq := FitQ.sizes fq
  have zk := FitQ.sizes hk
  have KC2 := rcmpF (a := frN (rat (valS v - (0)) (valS u))) (b := frD (rat (valS v - (0)) (valS u))) (c := frN mk) (d := frD mk) (by omega) (by omega) (by omega) (by omega)
  rw [ratV_fr, ratV_fr] at KC2
  have qt : decide (0 < cmpQ (rat (valS v - (0)) (valS u)) mk) = decide (mk < rat (valS v - (0)) (valS u)) := cmpQ_pos
  have eM : pfM (valS v) (ratV pn pd) (valS u) mk = if mk < rat (valS v - (0)) (valS u) then rat (valS v - (0)) (valS u) else mk := by unfold pfM; rw [eF]
  rw [eF, eM]
  rw [canS_zero]
  have HRes : Hid (∀ t, decide (mk < rat (valS v - (0)) (valS u)) = t → FR (if mk < rat (valS v - (0)) (valS u) then rat (valS v - (0)) (valS u) else mk) = if t = true then FR (rat (valS v - (0)) (valS u)) else FR mk) := fun t ht => by
   subst ht
   by_cases hc : mk < rat (valS v - (0)) (valS u)
   ·rw [if_pos hc, decide_eq_true hc, if_pos rfl]
   ·rw [if_neg hc, decide_eq_false hc, if_neg (by decide)]
  obtain ⟨tp, htp⟩ : ∃ t, decide (mk < rat (valS v - (0)) (valS u)) = t := ⟨_, rfl⟩
  rw [htp] at qt
  rw [HRes.out tp htp]
  clear HRes htp eF eM
  unfold FV at *
  unfold FR at *
  clear va vu vp vk fp fo ff vf fs vs2 fq ho zs2 zq zk zo
  generalize cmpQ (rat (valS v - (0)) (valS u)) mk = cq at *
  generalize frN (rat (valS v - (0)) (valS u)) = qn at *
  generalize frD (rat (valS v - (0)) (valS u)) = qd at *
  generalize canS (valS v - (0)) = ss at *
  generalize cmpQ (((valS v : Int) : Rat) - mk * ((valS u : Int) : Rat)) 0 = co at *
  generalize frN (((valS v : Int) : Rat) - mk * ((valS u : Int) : Rat)) = on at *
  generalize frD (((valS v : Int) : Rat) - mk * ((valS u : Int) : Rat)) = od at *
  generalize frN (mk * ((valS u : Int) : Rat)) = xn at *
  generalize frD (mk * ((valS u : Int) : Rat)) = xd at *
  generalize frN ((valS u : Int) : Rat) = un at *
  generalize frD ((valS u : Int) : Rat) = ud at *
  generalize frN ((valS v : Int) : Rat) = vn at *
  generalize frD ((valS v : Int) : Rat) = vd at *
  generalize frN mk = kn at *
  generalize frD mk = kd at *
  have hs := (((St.refl hg).alloc (.cells #[.string mn, .string md, .string pn, .string pd, .int .i64 ct] 44)).alloc (.cells #[.string kn, .string kd] 34)).alloc (.cells #[.string ⟨#[]⟩, .string ⟨#[]⟩] 34)
  have XT := ((Bx.new w #[.string mn, .string md, .string pn, .string pd, .int .i64 ct] 44).alloc (.cells #[.string kn, .string kd] 34)).alloc (.cells #[.string ⟨#[]⟩, .string ⟨#[]⟩] 34)
  have XM := (Bx.new1 w (.cells #[.string mn, .string md, .string pn, .string pd, .int .i64 ct] 44) #[.string kn, .string kd] 34).alloc (.cells #[.string ⟨#[]⟩, .string ⟨#[]⟩] 34)
  have XZ := Bx.new2 w (.cells #[.string mn, .string md, .string pn, .string pd, .int .i64 ct] 44) (.cells #[.string kn, .string kd] 34) #[.string ⟨#[]⟩, .string ⟨#[]⟩] 34
  go_enter Tryz.func67, Tryz.ntmps67
  go_wp2_with fail
  refine wp_region_fresh1 8 7 10 #[.string ⟨#[]⟩, .string ⟨#[]⟩] (by kernel_rfl) (by kernel_rfl) (by kernel_rfl) (by omega) rfl (by kernel_rfl) ⟨_, 10, _, rfl, rfl, rfl, fun _ _ => by simp [execOp, go_sem, ptrTo]; rfl⟩ ?_
  apply Exists.intro
  refine ⟨fun S W hne hk hcl => ?_, ?_⟩
  ·simp only [List.take_succ_cons, List.take_zero, quietL, List.mem_cons, List.not_mem_nil, or_false, Nat.reduceAdd, Nat.reduceEqDiff, reduceIte, Nat.zero_add]
   have kk0 := XM.in hk (i := 0) (v := .string kn) rfl
   have kk1 := XM.in hk (i := 1) (v := .string kd) rfl
   repeat (go_big_quiet_step (first | (with_reducible exact KO1.fresh hs hk hcl) | (with_reducible exact KO2.fresh hs hk hcl) | (with_reducible exact KM.fresh hs hk hcl) | (with_reducible exact KS.fresh hs hk hcl)))
   exact wpQuiet_nil rfl
  intro b1 v1 hb1 hv1 hx1
  simp only [List.drop_succ_cons, List.drop_zero, ptrTo]
  have z0 := hx1.cell (i := 0) (v := .string ⟨#[]⟩) rfl
  have z1 := hx1.cell (i := 1) (v := .string ⟨#[]⟩) rfl
  have g0 := hx1.frozen 0
  have g1 := hx1.frozen 1
  go_wp2_with fail
  have lb : w.heap.size + 3 ≤ b1 := by simp at hb1; omega
  have hl : Below w.heap.size w v1 := hs.2.trans (hv1.mono hs.2.size)
  replace hs : St w ((v1.setCell ⟨b1, 0, none⟩ (.string on)).setCell ⟨b1, 1, none⟩ (.string od)) := ((hs.on hv1).set (b := b1) (by omega) 0 (.string on)).set (b := b1) (by omega) 1 (.string od)
  replace XT := ((XT.on hv1).other (c := b1) (by omega) 0 (.string on)).other (c := b1) (by omega) 1 (.string od)
  replace XM := ((XM.on hv1).other (c := b1) (by omega) 0 (.string on)).other (c := b1) (by omega) 1 (.string od)
  replace XZ := ((XZ.on hv1).other (c := b1) (by omega) 0 (.string on)).other (c := b1) (by omega) 1 (.string od)
  have XO : Bx ((v1.setCell ⟨b1, 0, none⟩ (.string on)).setCell ⟨b1, 1, none⟩ (.string od)) b1 #[.string on, .string od] := (hx1.set 0 (.string on)).set 1 (.string od)
  clear z0 z1 g0 g1 hx1 hl hv1 hb1
  generalize (v1.setCell ⟨b1, 0, none⟩ (.string on)).setCell ⟨b1, 1, none⟩ (.string od) = W4 at *
  refine KC.step hs ?_
  intro w4 hs hb
  replace XT := XT.on hb
  replace XM := XM.on hb
  replace XZ := XZ.on hb
  replace XO := XO.on hb
  go_wp2_with fail
  refine KS2.step hs ?_
  intro w5 hs hb
  replace XM := XM.on hb
  replace XZ := XZ.on hb
  go_wp2_with fail
  refine KN.step hs ?_
  intro w6 hs hb
  have lM := (XM.on hb).lt
  have lZ := (XZ.on hb).lt
  replace XM := (XM.on hb).alloc (.cells #[.string qn, .string qd] 34)
  replace XZ := (XZ.on hb).alloc (.cells #[.string qn, .string qd] 34)
  have XQ := Bx.new w6 #[.string qn, .string qd] 34
  replace hs := hs.alloc (.cells #[.string qn, .string qd] 34)
  have y0 := XM.cell (i := 0) (v := .string kn) rfl
  have y1 := XM.cell (i := 1) (v := .string kd) rfl
  have y2 := XQ.cell (i := 0) (v := .string qn) rfl
  have y3 := XQ.cell (i := 1) (v := .string qd) rfl
  go_wp2_with fail
  refine KC2.step hs ?_
  intro w7 hs hb
  clear y0 y1 y2 y3
  replace XM := XM.on hb
  replace XZ := XZ.on hb
  replace XQ := XQ.on hb
  have y0 := XM.cell (i := 0) (v := .string kn) rfl
  have y1 := XM.cell (i := 1) (v := .string kd) rfl
  have y2 := XQ.cell (i := 0) (v := .string qn) rfl
  have y3 := XQ.cell (i := 1) (v := .string qd) rfl
  have g0 := XM.frozen 0
  have g1 := XM.frozen 1
  have n1 : ¬ w6.heap.size = w.heap.size + 1 := by omega
  have n2 : ¬ w.heap.size + 1 = w6.heap.size := by omega
  cases tp with
  | true =>
   go_wp2_with fail
   have hs2 := (hs.set (b := w.heap.size + 1) (by omega) 0 (.string qn)).set (b := w.heap.size + 1) (by omega) 1 (.string qd)
   have XM2 := (XM.set 0 (.string qn)).set 1 (.string qd)
   have XZ2 := (XZ.other (c := w.heap.size + 1) (by omega) 0 (.string qn)).other (c := w.heap.size + 1) (by omega) 1 (.string qd)
   clear y0 y1 y2 y3 g0 g1 XM XZ XQ hs
   generalize (w7.setCell ⟨w.heap.size + 1, 0, none⟩ (.string qn)).setCell ⟨w.heap.size + 1, 1, none⟩ (.string qd) = W8 at *
   replace XM2 : Bx W8 (w.heap.size + 1) #[.string qn, .string qd] := XM2
   have y0 := XM2.cell (i := 0) (v := .string qn) rfl
   have y1 := XM2.cell (i := 1) (v := .string qd) rfl
   have e0 := XZ2.cell (i := 0) (v := .string ⟨#[]⟩) rfl
   have e1 := XZ2.cell (i := 1) (v := .string ⟨#[]⟩) rfl
   have f0 := XZ2.frozen 0
   have f1 := XZ2.frozen 1
   go_region
   all_goals
    go_wp2_with fail
    obtain ⟨W, hW, y0, y1, hbe⟩ := ret_frac hs2 (by omega) XZ2 qn qd
    rw [hW]
    exact bodyPost_ret (v := .tuple #[.string ⟨#[]⟩, .agg #[.string qn, .string qd]]) (by simp [results, Tryz.results67, go_sem, y0, y1]) rfl ⟨rfl, hbe.drew⟩
  | false =>
   have e0 := XZ.cell (i := 0) (v := .string ⟨#[]⟩) rfl
   have e1 := XZ.cell (i := 1) (v := .string ⟨#[]⟩) rfl
   have f0 := XZ.frozen 0
   have f1 := XZ.frozen 1
   go_wp2_with fail
   go_region
   all_goals
    go_wp2_with fail
    obtain ⟨W, hW, y0, y1, hbe⟩ := ret_frac hs (by omega) XZ kn kd
    rw [hW]
    exact bodyPost_ret (v := .tuple #[.string ⟨#[]⟩, .agg #[.string kn, .string kd]]) (by simp [results, Tryz.results67, go_sem, y0, y1]) rfl ⟨rfl, hbe.drew⟩
end Go.Proofs.YticfdeaphiifeaaGreatDoor
