/- The opposite of a fraction. Condition: numbers of bounded length. Allocation: Check. Conditions: up to twelve weights of bounded length, or more than 1000; parts of bounded length. Allocation: Check. Conditions: up to twelve weights of bounded length, or more than 1000; parts of bounded length. -/
import Derived.Test.YtpipkeplhkccoaaGreatDoorFq
import Derived.Test.YtpipkeplhkccoaaGreatDoorWi
import Derived.Test.YtpipkeplhkccoaaGreatDoorFd
namespace Go.Proofs.YtpipkeplhkccoaaGreatDoor
open Go.RowKit Go.Shelf Dec QQ

theorem frac_neg' {n d : ByteArray} {q : Rat} (h : Vq n d q) : rat (-valS n) (valS (dn d)) = -q := by
  rw [rat_negn, dn_rat, h.1]
set_option maxRecDepth 100000 in
set_option maxHeartbeats 4000000 in
theorem NegF {a b : ByteArray} {q : Rat} (h : Vq a b q) : Ret 97 #[FV a b] (FR (-q)) := by
  intro w hg
  have hs := ((St.refl hg).alloc (.cells #[.string a, .string b] 36)).alloc (.cells #[.string ⟨#[]⟩, .string ⟨#[]⟩] 36)
  have B0 := Bx.new1 w (.cells #[.string a, .string b] 36) #[.string ⟨#[]⟩, .string ⟨#[]⟩] 36
  have s1 := h.2.1
  have s2 := h.2.2
  have sd := dn_size b
  have K1 := parts_any (n := a) (d := b) (by omega)
  have va := Vs.arg (s := a) (by omega)
  have vd := Vs.arg (s := dn b) (by omega)
  have K2 := NegR va
  have fa : Fit 100000 (-valS a) := by
    have := Fit.val (a := a) s1
    unfold Fit at *
    rwa [Int.natAbs_neg]
  have K3 := made_any (Vs.can fa (by omega)) vd (by have := fa.size; omega) (by omega) (dn_ne b)
  rw [frac_neg' h] at K3
  unfold FV at *
  unfold FR at *
  clear va vd fa s1 s2 sd h
  generalize frN (-q) = rn at *
  generalize frD (-q) = rd at *
  generalize canS (-valS a) = s at *
  generalize dn b = d at *
  go_enter Tryz.func97, Tryz.ntmps97
  go_wp2_with fail
  refine K1.step hs ?_
  intro w1 hs hb
  replace B0 := B0.on hb
  go_wp2_with fail
  refine K2.step hs ?_
  intro w2 hs hb
  replace B0 := B0.on hb
  go_wp2_with fail
  refine K3.step hs ?_
  intro w3 hs hb
  have B := B0.on hb
  have ce0 := B.cell (i := 0) (v := .string ⟨#[]⟩) rfl
  have ce1 := B.cell (i := 1) (v := .string ⟨#[]⟩) rfl
  have cg0 := B.frozen 0
  have cg1 := B.frozen 1
  go_wp2_with fail
  obtain ⟨W, hW, y0, y1, hbe⟩ := ret_frac hs (by omega) B rn rd
  rw [hW]
  exact bodyPost_ret (v := .agg #[.string rn, .string rd]) (by simp [results, Tryz.results97, go_sem, y0, y1]) rfl ⟨rfl, hbe⟩
end Go.Proofs.YtpipkeplhkccoaaGreatDoor
namespace Go.Proofs.YtpipkeplhkccoaaGreatDoor
open Go.RowKit Go.Shelf Dec QQ SP

def pbad (s : ByteArray) : Bool := chk s != 0
set_option maxRecDepth 100000 in
set_option maxHeartbeats 4000000 in
theorem ck4_1 {s : ByteArray} (hz : s.size ≤ 1000000) : Ret 94 #[.string s] (.bool (pbad s)) := by
  intro w hg
  have hs := St.refl hg
  have K1 := ChkR hz
  unfold pbad
  generalize chk s = e at *
  go_enter Tryz.func94, Tryz.ntmps94
  go_wp2_with fail
  refine K1.step hs ?_
  intro w1 hs hb
  go_wp2_with fail
  go_ret
  exact ⟨by simp, hs.2⟩
/-- how far a part lies from the ideal one: what Check reads -/
theorem ck4_far {T S w p : Int} (h : 0 < S) : decide (0 ≤ cmpQ (rat (T * w) S - (p : Rat)) 1) = decide (S ≤ T * w - S * p) ∧ decide (0 ≤ cmpQ (-(rat (T * w) S - (p : Rat))) 1) = decide (S ≤ S * p - T * w) := by
  rw [far_diff h, ← rat_negn, far_cmp h, far_cmp h]
  refine ⟨rfl, ?_⟩
  rw [show -(T * w - S * p) = S * p - T * w by omega]
theorem in_cell {w : World} {S : Type} {W : S → World} (hk : ∀ u, Below w.heap.size w (W u)) {p : Addr} {v : Value} (h : w.cell? p = some v) (u : S) : (W u).cell? p = some v := ((hk u).cell (block_lt_of_cell h)).trans h
set_option maxRecDepth 100000 in
set_option maxHeartbeats 4000000 in
/-- Check, where the parts are as many as the weights, canonical, and add up -/
theorem ck4_few {A A' : Option Addr} {n c c' k0 : Nat} {t : ByteArray} {ws ps : List ByteArray} (hn : ws.length = n) (hn' : ps.length = n) (h12 : n ≤ 12) (hk0 : k0 ≤ 5000) (ht : t.size ≤ k0) (hz : ∀ s ∈ ws, s.size ≤ k0) (hz' : ∀ s ∈ ps, s.size ≤ k0) (he : alE t ws = 0)
    (hany : ps.any pbad = false) (hsum : canS (iv ps).sum = t) :
    RetI (fun w => Row w A (ws.map sv) ∧ Row w A' (ps.map sv)) 34 #[.string t, .slice A n c, .slice A' n c'] (.int .i64 (if (List.range ws.length).any (fun i => farI (valS t) (iv ws).sum (at0 (iv ws) i) (at0 (iv ps) i)) = true then 2 else 0)) := by
  intro w hg hi
  have hs := St.refl hg
  have HI := Lib.hid hi
  have HN := Lib.hid hn
  have HN' := Lib.hid hn'
  have HZ := Lib.hid hz
  have HZ' := Lib.hid hz'
  have HT := Lib.hid ht
  have ho := (alE_zero.1 he).ok
  have HS0 : Hid (0 < (iv ws).sum) := ho.pos
  have h0 : 0 < n := by have := (alE_zero.1 he).len0; omega
  have KI := Lib.hid (fun (u : World) (hg : Gl u) (hr : Row u A (ws.map sv)) => ideal_few (A := A) (c := c) hn h12 hk0 ht hz he u hg hr)
  have KC := contains_any (A := A') (c := c') (cap := #[]) (f := 94) (p := pbad) (l := ps) (I := fun _ => True) (fun _ _ _ _ => trivial) hn' (by omega) (fun _ _ => rfl) (fun s hs => (ck4_1 (Nat.le_trans (hz' s hs) (by omega))).i _)
  rw [hany] at KC
  have KW := whole_any (A := A') (c := c') hn' h12 hk0 hz'
  rw [hsum] at KW
  have KO := OfF (a := ⟨#[49]⟩) (x := 1) (⟨by decide, by decide⟩ : Vs ⟨#[49]⟩ 1) (by decide)
  rw [show ((1 : Int) : Rat) = (1 : Rat) from rfl] at KO
  have f1 : FitQ 1 (1 : Rat) := FitQ.int (k := 1) (z := 1) (by decide) (by decide)
  have vo := Vq.fr f1 (by decide)
  unfold FR at KO
  have HFS : Hid (Fit (k0 + 2) (iv ws).sum) := whole_fit hz (by omega)
  obtain ⟨on, hon⟩ : ∃ x, frN (1 : Rat) = x := ⟨_, rfl⟩
  obtain ⟨od, hod⟩ : ∃ x, frD (1 : Rat) = x := ⟨_, rfl⟩
  rw [hon, hod] at KO vo
  have HVO := Lib.hid vo
  have HIA : Hid (∀ i, i < n → (idL (valS t) (iv ws))[i]? = some (rat (valS t * at0 (iv ws) i) (iv ws).sum)) := fun i hi => idL_at (by rw [iv_len, hn]; exact hi)
  have HFE : Hid ((∀ i, i < n → farI (valS t) (iv ws).sum (at0 (iv ws) i) (at0 (iv ps) i) = false) → (List.range ws.length).any (fun i => farI (valS t) (iv ws).sum (at0 (iv ws) i) (at0 (iv ps) i)) = false) := fun h => by
    rw [List.any_eq_false]
    intro i hi
    rw [List.mem_range, hn] at hi
    rw [h i hi]
    decide
  have HFT : Hid (∀ i, i < n → farI (valS t) (iv ws).sum (at0 (iv ws) i) (at0 (iv ps) i) = true → (List.range ws.length).any (fun i => farI (valS t) (iv ws).sum (at0 (iv ws) i) (at0 (iv ps) i)) = true) := fun i hi h => by
    rw [List.any_eq_true]
    exact ⟨i, by rw [List.mem_range, hn]; exact hi, h⟩
  generalize (List.range ws.length).any (fun i => farI (valS t) (iv ws).sum (at0 (iv ws) i) (at0 (iv ps) i)) = FB at *
  clear hi hn hn' hz hz' ht ho he hany hsum hon hod vo f1
  go_enter Tryz.func34, Tryz.ntmps34
  go_wp2_with fail
  refine (KI.out w hs.gl HI.out.1).mono ?_
  rintro e w1 ⟨v, rfl, hov, hb1⟩
  obtain ⟨g, c1, rfl, hc1, hc2, hrow⟩ : ∃ g c, v = .slice (some ⟨g, 0, none⟩) n c ∧ n ≤ c ∧ c ≤ maxLen ∧ Row w1 (some ⟨g, 0, none⟩) (flatG qcells (idL (valS t) (iv ws))) := by
    obtain ⟨A', c', e, hr⟩ := hov.row
    rcases hov.2.2 with ⟨_, h1⟩ | ⟨g, cap, cur, rfl, e2, e3, e4, e5, e6, e7⟩
    · omega
    · injection e with e8 e9 e10
      subst e8
      exact ⟨g, cap, rfl, e4, e5, hr⟩
  replace hs := hs.on hb1
  have HG := Lib.hid hrow
  clear hov hrow hc2 hb1
  go_wp2_with fail
  refine KC.step hs ⟨HI.out.2.on hs.2, trivial⟩ ?_
  intro w2 hs hb
  replace HG := Lib.hid (HG.out.on hb)
  clear hb
  go_wp2_with fail
  refine KW.step hs (HI.out.2.on hs.2) ?_
  intro w3 hs hb
  replace HG := Lib.hid (HG.out.on hb)
  clear hb
  go_wp2_with fail
  refine KO.step hs ?_
  intro w4 hs hb
  replace HG := Lib.hid ((HG.out.on hb).on ((Below.refl _ w4).alloc (Nat.le_refl _) (.cells #[.string on, .string od] 36)))
  clear hb
  have XO := Bx.new w4 #[.string on, .string od] 36
  replace hs := hs.alloc (.cells #[.string on, .string od] 36)
  have HX := Lib.hid XO
  clear XO KC KW KO
  go_wp2_with fail
  obtain ⟨bo, hbo⟩ : ∃ b, w4.heap.size = b := ⟨_, rfl⟩
  rw [hbo] at HX ⊢
  generalize w4.alloc (.cells #[.string on, .string od] 36) = w5 at *
  clear hbo
  try go_wp2_with fail
  go_loopw [40] (fun s wr => ∃ k : Nat, k ≤ n ∧ s = .int .i64 (k : Int) ∧ St w wr ∧ Hid (Bx wr bo #[.string on, .string od] ∧ Row wr (some ⟨g, 0, none⟩) (flatG qcells (idL (valS t) (iv ws)))) ∧ Hid (∀ i, i < k → farI (valS t) (iv ws).sum (at0 (iv ws) i) (at0 (iv ps) i) = false)) (fun s _ => (n - intOf s).toNat)
  case atStart => exact ⟨0, by omega, rfl, hs, ⟨HX.out, HG.out⟩, fun i hi => by omega⟩
  case round =>
    clear hs HX HG
    obtain ⟨k, hk, rfl, hs, HB, HF⟩ := hrel
    by_cases hkn : k = n
    · subst hkn
      have q : decide ((k : Int) < (k : Int)) = false := decide_eq_false (by omega)
      have hfb := HFE.out HF.out
      subst hfb
      go_wp2_with fail
      go_ret
      exact ⟨rfl, hs.2⟩
    · have hkl : k < n := by omega
      have q : decide ((k : Int) < (n : Int)) = true := decide_eq_true (by omega)
      have qn : decide (k < n) = true := decide_eq_true hkl
      obtain ⟨sp, hsp⟩ : ∃ s, ps[k]? = some s := ⟨ps[k]'(by rw [HN'.out]; exact hkl), by simp⟩
      obtain ⟨sw, hsw⟩ : ∃ s, ws[k]? = some s := ⟨ws[k]'(by rw [HN.out]; exact hkl), by simp⟩
      obtain ⟨bp, op, hA', lp, cp⟩ := (HI.out.2.on hs.2) k (sv sp) (by rw [List.getElem?_map, hsp]; rfl)
      subst hA'
      unfold sv at cp
      have zp := HZ'.out sp (List.mem_of_getElem? hsp)
      have zw := HZ.out sw (List.mem_of_getElem? hsw)
      have zt := HT.out
      have hia := HIA.out k hkl
      rw [iv_at hsw] at hia
      obtain ⟨bg, og, hA, lg, hcells⟩ := row_at (cs := qcells) (m := 2) qcells_len (by decide) HB.out.2 hia
      injection hA with hA; injection hA with e1 e2
      subst e1 e2
      have fm := (Fit.val (k := k0) zt).mul (Fit.val (k := k0) zw)
      have fr : FitQ (k0 + k0 + 2) (rat (valS t * valS sw) (iv ws).sum) := FitQ.mono (FitQ.rat (k := k0 + k0) (m := k0 + 2) fm HFS.out (by omega)) (by omega)
      have fp : FitQ (k0 + 1) ((valS sp : Int) : Rat) := FitQ.int ((Fit.val (k := k0) zp).mono (by omega)) (by omega)
      have fd := fr.sub fp
      have KP := OfF (Vs.arg (s := sp) (by omega)) (by omega)
      have KS := SubF (Vq.fr fr (by omega)) (Vq.fr fp (by omega))
      have KN := NegF (Vq.fr fd (by omega))
      have KC1 := CmpF (Vq.fr fd (by omega)) HVO.out (fd.sub (FitQ.int (k := 1) (z := 1) (by decide) (by decide) : FitQ 1 (1 : Rat))) (by omega)
      have KC2 := CmpF (Vq.fr fd.neg (by omega)) HVO.out (fd.neg.sub (FitQ.int (k := 1) (z := 1) (by decide) (by decide) : FitQ 1 (1 : Rat))) (by omega)
      obtain ⟨q1, q2⟩ := ck4_far (T := valS t) (w := valS sw) (p := valS sp) HS0.out
      have HFK : Hid (farI (valS t) (iv ws).sum (at0 (iv ws) k) (at0 (iv ps) k) = (decide ((iv ws).sum ≤ valS t * valS sw - (iv ws).sum * valS sp) || decide ((iv ws).sum ≤ (iv ws).sum * valS sp - valS t * valS sw))) := by
        show farI _ _ _ _ = _
        rw [iv_at hsw, iv_at hsp]
        rfl
      unfold FV at KS KN KC1 KC2
      unfold FR at KP KS KN
      generalize decide ((iv ws).sum ≤ valS t * valS sw - (iv ws).sum * valS sp) = v1 at *
      generalize decide ((iv ws).sum ≤ (iv ws).sum * valS sp - valS t * valS sw) = v2 at *
      generalize cmpQ (-(rat (valS t * valS sw) (iv ws).sum - ((valS sp : Int) : Rat))) 1 = c2 at *
      generalize cmpQ (rat (valS t * valS sw) (iv ws).sum - ((valS sp : Int) : Rat)) 1 = c1' at *
      generalize frN (-(rat (valS t * valS sw) (iv ws).sum - ((valS sp : Int) : Rat))) = nn at *
      generalize frD (-(rat (valS t * valS sw) (iv ws).sum - ((valS sp : Int) : Rat))) = nd at *
      generalize frN (rat (valS t * valS sw) (iv ws).sum - ((valS sp : Int) : Rat)) = dn' at *
      generalize frD (rat (valS t * valS sw) (iv ws).sum - ((valS sp : Int) : Rat)) = dd' at *
      obtain ⟨fn, hfn⟩ : ∃ x, frN (rat (valS t * valS sw) (iv ws).sum) = x := ⟨_, rfl⟩
      obtain ⟨fd2, hfd⟩ : ∃ x, frD (rat (valS t * valS sw) (iv ws).sum) = x := ⟨_, rfl⟩
      rw [hfn, hfd] at KS
      have y0 : wr.cell? ⟨g, k * 2, none⟩ = some (.string fn) := by have := hcells 0 _ rfl; rw [hfn, Nat.zero_add, Nat.add_zero] at this; exact this
      have y1 : wr.cell? ⟨g, k * 2 + 1, none⟩ = some (.string fd2) := by have := hcells 1 _ rfl; rw [hfd, Nat.zero_add] at this; exact this
      generalize frN ((valS sp : Int) : Rat) = pn at *
      generalize frD ((valS sp : Int) : Rat) = pd at *
      have kn2 : (k : Int) < (n : Int) := by omega
      have hbw : Below wr.heap.size wr (wr.alloc (.cells #[.string fn, .string fd2] 36)) := (Below.refl _ _).alloc (Nat.le_refl _) _
      have cp2 : (wr.alloc (.cells #[.string fn, .string fd2] 36)).cell? ⟨bp, op + k, none⟩ = some (.string sp) := (hbw.cell (p := ⟨bp, op + k, none⟩) lp).trans cp
      have HCP := Lib.hid cp2
      have XF := Bx.new wr #[.string fn, .string fd2] 36
      have HB2 := Lib.hid (And.intro (HB.out.1.on hbw) (HB.out.2.on hbw))
      replace hs := hs.alloc (.cells #[.string fn, .string fd2] 36)
      clear hcells hfn hfd hia hsp hsw lp lg fm fr fp fd zp zw zt hkn cp cp2 hbw HB
      go_wp2_with fail
      clear y0 y1
      obtain ⟨bf, hbf⟩ : ∃ b, wr.heap.size = b := ⟨_, rfl⟩
      rw [hbf] at XF ⊢
      generalize wr.alloc (.cells #[.string fn, .string fd2] 36) = w6 at *
      clear hbf
      try go_wp2_with fail
      refine wp_region_fresh1 8 7 12 #[.string ⟨#[]⟩, .string ⟨#[]⟩] (by kernel_rfl) (by kernel_rfl) (by kernel_rfl) (by omega) rfl (by kernel_rfl) ⟨_, 12, _, rfl, rfl, rfl, fun _ _ => by simp [execOp, go_sem, ptrTo]; rfl⟩ ?_
      apply Exists.intro
      refine ⟨fun S W hne hk hcl => ?_, ?_⟩
      · simp only [List.take_succ_cons, List.take_zero, quietL, List.mem_cons, List.not_mem_nil, or_false, Nat.reduceAdd, Nat.reduceEqDiff, reduceIte, Nat.zero_add]
        have kk0 := XF.in hk (i := 0) (v := .string fn) rfl
        have kk1 := XF.in hk (i := 1) (v := .string fd2) rfl
        have kk2 := in_cell hk HCP.out
        repeat (go_big_quiet_step (first | (with_reducible exact KP.fresh hs hk hcl) | (with_reducible exact KS.fresh hs hk hcl)))
        exact wpQuiet_nil rfl
      intro b1 v1' hb1 hv1 hx1
      simp only [List.drop_succ_cons, List.drop_zero, ptrTo]
      have z0 := hx1.cell (i := 0) (v := .string ⟨#[]⟩) rfl
      have z1 := hx1.cell (i := 1) (v := .string ⟨#[]⟩) rfl
      have g0 := hx1.frozen 0
      have g1 := hx1.frozen 1
      go_wp2_with fail
      have hww := hs.2.size
      have low7 : Below w6.heap.size w6 ((v1'.setCell ⟨b1, 0, none⟩ (.string dn')).setCell ⟨b1, 1, none⟩ (.string dd')) := (hv1.setCell (p := ⟨b1, 0, none⟩) hb1 _).setCell (p := ⟨b1, 1, none⟩) hb1 _
      have XD : Bx ((v1'.setCell ⟨b1, 0, none⟩ (.string dn')).setCell ⟨b1, 1, none⟩ (.string dd')) b1 #[.string dn', .string dd'] := (hx1.set 0 (.string dn')).set 1 (.string dd')
      have HB3 := Lib.hid (And.intro (HB2.out.1.on low7) (HB2.out.2.on low7))
      replace hs := hs.on low7
      clear z0 z1 g0 g1 hx1 hv1 hb1 low7 XF HB2 hww KP KS
      generalize (v1'.setCell ⟨b1, 0, none⟩ (.string dn')).setCell ⟨b1, 1, none⟩ (.string dd') = w7 at *
      have d0 := XD.keeps (i := 0) (v := .string dn') rfl
      have d1 := XD.keeps (i := 1) (v := .string dd') rfl
      have o0 := HB3.out.1.keeps (i := 0) (v := .string on) rfl
      have o1 := HB3.out.1.keeps (i := 1) (v := .string od) rfl
      cases v1 with
      | true =>
        have hfb : FB = true := HFT.out k hkl (by rw [HFK.out]; rfl)
        subst hfb
        try go_wp2_with fail
        refine wp_region_kept (by kernel_rfl) (by kernel_rfl) ?_
        repeat (go_big_quiet_step (first | (with_reducible exact KC1.kept hs) | (with_reducible exact KN.kept hs) | (with_reducible exact KC2.kept hs)))
        refine wpQuiet_nil ?_
        rintro _ ⟨u, rfl⟩
        replace hs := hs.kept u
        go_wp2_with fail
        go_ret
        exact ⟨rfl, hs.2⟩
      | false =>
        cases v2 with
        | true =>
          have hfb : FB = true := HFT.out k hkl (by rw [HFK.out]; rfl)
          subst hfb
          try go_wp2_with fail
          refine wp_region_kept (by kernel_rfl) (by kernel_rfl) ?_
          repeat (go_big_quiet_step (first | (with_reducible exact KC1.kept hs) | (with_reducible exact KN.kept hs) | (with_reducible exact KC2.kept hs)))
          refine wpQuiet_nil ?_
          rintro _ ⟨u, rfl⟩
          replace hs := hs.kept u
          go_wp2_with fail
          go_ret
          exact ⟨rfl, hs.2⟩
        | false =>
          try go_wp2_with fail
          refine wp_region_kept (by kernel_rfl) (by kernel_rfl) ?_
          repeat (go_big_quiet_step (first | (with_reducible exact KC1.kept hs) | (with_reducible exact KN.kept hs) | (with_reducible exact KC2.kept hs)))
          refine wpQuiet_nil ?_
          rintro _ ⟨u, rfl⟩
          replace hs := hs.kept u
          have HB4 := Lib.hid (And.intro (HB3.out.1.kept u) (HB3.out.2.on u.low))
          go_wp2_with fail
          go_roundw
          case rel =>
            refine ⟨k + 1, by omega, by go_num, hs, HB4.out, fun i hi => ?_⟩
            by_cases e : i = k
            · subst e; rw [HFK.out]; rfl
            · exact HF.out i (by omega)
          case measure => simp [intOf]; omega
end Go.Proofs.YtpipkeplhkccoaaGreatDoor
namespace Go.Proofs.YtpipkeplhkccoaaGreatDoor
open Go.RowKit Go.Shelf Dec QQ SP

set_option maxRecDepth 100000 in
set_option maxHeartbeats 4000000 in
theorem ck4_any {A A' : Option Addr} {n n' c c' k0 : Nat} {t : ByteArray} {ws ps : List ByteArray} (hn : ws.length = n) (hn' : ps.length = n') (h12 : n ≤ 12 ∨ 1000 < n) (hm : n ≤ 4611686018427387904) (hk0 : k0 ≤ 5000) (ht : t.size ≤ k0) (hz : ∀ s ∈ ws, s.size ≤ k0) (hz' : ∀ s ∈ ps, s.size ≤ k0) :
    RetI (fun w => Row w A (ws.map sv) ∧ Row w A' (ps.map sv)) 34 #[.string t, .slice A n c, .slice A' n' c'] (.int .i64 (alC t ws ps)) := by
  intro w hg hi
  have hs := St.refl hg
  have HI := Lib.hid hi
  have KI := Lib.hid (fun (u : World) (hg : Gl u) (hr : Row u A (ws.map sv)) => ideal_any (A := A) (c := c) hn h12 hm hk0 ht hz u hg hr)
  by_cases he : alE t ws = 0
  · have hen : ¬ alE t ws ≠ 0 := by simpa using he
    have h2 := (alE_zero.1 he).len
    rw [he] at KI
    by_cases hl : n' = n
    · subst hl
      have hln : ¬ ps.length ≠ ws.length := by omega
      have KC := contains_any (A := A') (c := c') (cap := #[]) (f := 94) (p := pbad) (l := ps) (I := fun _ => True) (fun _ _ _ _ => trivial) hn' (by omega) (fun _ _ => rfl) (fun s hs => (ck4_1 (Nat.le_trans (hz' s hs) (by omega))).i _)
      cases hany : ps.any pbad with
      | true =>
        have e : alC t ws ps = 1 := by unfold alC; rw [if_neg hen, if_neg hln]; exact if_pos hany
        rw [e]
        rw [hany] at KC
        have qlen : ((n' : Int) != (n' : Int)) = false := by simp
        clear e hen hln hany he h2 hn hn' hz hz' ht hi
        go_enter Tryz.func34, Tryz.ntmps34
        go_wp2_with fail
        refine (KI.out w hs.gl HI.out.1).mono ?_
        rintro e w1 ⟨v, rfl, hov, hb1⟩
        obtain ⟨A1, c1, rfl, hrow⟩ := hov.row
        replace hs := hs.on hb1
        clear hov hrow
        go_wp2_with fail
        refine KC.step hs ⟨HI.out.2.on hs.2, trivial⟩ ?_
        intro w2 hs hb
        go_wp2_with fail
        go_ret
        exact ⟨rfl, hs.2⟩
      | false =>
        by_cases hsum : canS (iv ps).sum = t
        · have e : alC t ws ps = if (List.range ws.length).any (fun i => farI (valS t) (iv ws).sum (at0 (iv ws) i) (at0 (iv ps) i)) = true then 2 else 0 := by
            unfold alC
            rw [if_neg hen, if_neg hln, if_neg (show ¬ ps.any (fun p => chk p != 0) = true from by
              have h : ps.any (fun p => chk p != 0) = false := hany
              rw [h]; decide), if_neg (by simpa using hsum)]
          rw [e]
          exact ck4_few hn hn' (by omega) hk0 ht hz hz' he hany hsum w hg hi
        · have e : alC t ws ps = 14 := by
            unfold alC
            rw [if_neg hen, if_neg hln, if_neg (show ¬ ps.any (fun p => chk p != 0) = true from by
              have h : ps.any (fun p => chk p != 0) = false := hany
              rw [h]; decide), if_pos hsum]
          rw [e]
          rw [hany] at KC
          have KW := whole_any (A := A') (c := c') hn' (by omega) hk0 hz'
          have qs : ((canS (iv ps).sum).toList == t.toList) = false := by
            rw [beq_eq_false_iff_ne]
            exact fun h => hsum (toList_inj h)
          generalize canS (iv ps).sum = sm at *
          have qlen : ((n' : Int) != (n' : Int)) = false := by simp
          clear e hen hln hany he h2 hn hn' hz hz' ht hi hsum
          go_enter Tryz.func34, Tryz.ntmps34
          go_wp2_with fail
          refine (KI.out w hs.gl HI.out.1).mono ?_
          rintro e w1 ⟨v, rfl, hov, hb1⟩
          obtain ⟨A1, c1, rfl, hrow⟩ := hov.row
          replace hs := hs.on hb1
          clear hov hrow
          go_wp2_with fail
          refine KC.step hs ⟨HI.out.2.on hs.2, trivial⟩ ?_
          intro w2 hs hb
          go_wp2_with fail
          refine KW.step hs (HI.out.2.on hs.2) ?_
          intro w3 hs hb
          go_wp2_with fail
          go_ret
          exact ⟨rfl, hs.2⟩
    · have e : alC t ws ps = 9 := by unfold alC; rw [if_neg hen, if_pos (by omega)]
      rw [e]
      have qlen : ((n' : Int) != (n : Int)) = true := by
        rw [bne_iff_ne]
        omega
      have qlenn : (n' != n) = true := by rw [bne_iff_ne]; exact hl
      clear e hen he h2 hn hn' hz hz' ht hi hl
      go_enter Tryz.func34, Tryz.ntmps34
      go_wp2_with fail
      refine (KI.out w hs.gl HI.out.1).mono ?_
      rintro e w1 ⟨v, rfl, hov, hb1⟩
      obtain ⟨A1, c1, rfl, hrow⟩ := hov.row
      replace hs := hs.on hb1
      clear hov hrow
      go_wp2_with fail
      go_ret
      exact ⟨rfl, hs.2⟩
  · have e : alC t ws ps = alE t ws := by unfold alC; rw [if_pos he]
    rw [e]
    have q : (alE t ws != 0) = true := by simpa using he
    generalize alE t ws = ee at *
    clear e he hn hn' hz hz' ht hi
    go_enter Tryz.func34, Tryz.ntmps34
    go_wp2_with fail
    refine (KI.out w hs.gl HI.out.1).mono ?_
    rintro e w1 ⟨v, rfl, hov, hb1⟩
    obtain ⟨A1, c1, rfl, hrow⟩ := hov.row
    replace hs := hs.on hb1
    clear hov hrow
    go_wp2_with fail
    go_ret
    exact ⟨rfl, hs.2⟩
end Go.Proofs.YtpipkeplhkccoaaGreatDoor
