/- Returns over one period: the law on two points, each road. Condition: the library's table and error lie as the program's text lays them. -/
import Derived.Test.YtahpbnmbphobgaaGreatDoorTs
namespace Go.Proofs.YtahpbnmbphobgaaGreatDoor
open Go.RowKit Go.Shelf Dec QQ Go.Proofs.Q.Ev
set_option linter.unusedVariables false
set_option linter.unusedSimpArgs false
set_option linter.unusedSectionVars false

/-- where the two points lie -/
structure At (p : Pd) (W : World) (bb : Nat) : Prop where
  hb : W.heap[bb]? = some (.cells p.row.1 p.row.2.1 p.row.2.2)
  e0 : p.row.1[p.off]? = some (.int .i64 p.d0)
  e1 : p.row.1[p.off + 1]? = some (.string p.v0)
  e2 : p.row.1[p.off + 2]? = some (.string p.f0)
  e3 : p.row.1[p.off + 3]? = some (.int .i64 p.d1)
  e4 : p.row.1[p.off + 4]? = some (.string p.v1)
  e5 : p.row.1[p.off + 5]? = some (.string p.f1)
theorem var_row {P : Program} {w w' : World} {n : String} {cs : Array Value} {bb : Nat} {c : Array Value} {T : TypeId} {fz : Nat × Nat} (h : w.var? P n = some cs) (hb : w.heap[bb]? = some (.cells c T fz)) (hne : c ≠ cs) (hf : Fr (fun k => k = bb) w w') : w'.var? P n = some cs := by
  unfold World.var? at *
  cases hg : P.globalNamed n with
  | none => rw [hg] at h; cases h
  | some g =>
    rw [hg] at h
    simp only [Option.bind_some] at h ⊢
    have hlt : g < w.heap.size := by
      rcases Nat.lt_or_ge g w.heap.size with h' | h'
      · exact h'
      · rw [Array.getElem?_eq_none h'] at h; cases h
    by_cases e : g = bb
    · subst e
      rw [hb] at h
      exact absurd (Option.some.inj h) hne
    · rw [hf.block g hlt e]
      exact h
theorem gl_row {p : Pd} {w w' : World} {bb : Nat} (hg : Gl w) (ha : At p w bb) (hf : Fr (fun k => k = bb) w w') : Gl w' := by
  obtain ⟨h1, tp, q, h2⟩ := hg
  refine ⟨var_row h1 ha.hb (fun e => ?_) hf, tp, q, var_row h2 ha.hb (fun e => ?_) hf⟩
  · have := ha.e1
    rw [e] at this
    simp only [List.getElem?_toArray, List.getElem?_map] at this
    cases hz : Lib.pow10Tab[p.off + 1]? with
    | none => rw [hz] at this; cases this
    | some z => rw [hz] at this; cases this
  · have := ha.e1
    rw [e] at this
    simp at this
theorem cxL_ok {p : Pd} {a : Nat} {L : BTbl} (hL : BT p a L) (h0 : 0 ≤ p.pl) (h1 : p.pl < 256) : @CxOK (sy p a) (cxL L) := @cxR_ok (sy p a) Tryz.prog mixed (rbOf L) (rcOf CT) (@rbOf_ok (sy p a) _ L hL) (@rcOf_ok (sy p a) _ CT (CT_ok h0 h1))
theorem isR_eq {x : Res} (h : isR x = true) : ∃ H' hi, x = some (.lit (.bool true), H', hi) ∧ rowOf H' cells6 = true := by
  unfold isR at h
  split at h
  · exact ⟨_, _, rfl, h⟩
  · cases h
/-- what the law answers -/
abbrev Two (p : Pd) (W : World) (bb : Nat) : Prop := Calls Tryz.prog 3 #[.slice (some ⟨bb, p.off, none⟩) 2 p.cap, .int .u8 p.pl] W fun e W' => e = .returned (.bool true) ∧ Below W.heap.size W W'
theorem is_law : (mkFI Tryz.prog 3).isSome = true := by decide +kernel
theorem is_gr : (mkFI Tryz.prog 34).isSome = true := by decide +kernel
theorem fn_cx {P : Program} {rB : BinOp → TypeId → AV → AV → Option AV} {rC : TypeId → TypeId → AV → Option AV} {f : FuncId} (h : (mkFI P f).isSome = true) : ((cxR P rB rC).fn f).isSome = true := h
theorem fn_law (L : BTbl) : ((cxL L).fn 3).isSome = true := by unfold cxL; exact fn_cx is_law
theorem fn_gr (L : BTbl) : ((cxL L).fn 34).isSome = true := by unfold cxL; exact fn_cx is_gr
theorem cells_in6 : ∀ v ∈ cells6, v.In (fun n => n = 0) := (@inL_iff noSym _ _).1 ⟨True.intro, True.intro, True.intro, True.intro, True.intro, True.intro, True.intro⟩
theorem law_by {p : Pd} {a : Nat} {L : BTbl} {orc : CallF} (hL : BT p a L) (h0 : 0 ≤ p.pl) (h1 : p.pl < 256) (ho : @CallOKs (sy p a) (cxL L) Gl orc) (hrun : isR (runL L orc) = true) {W : World} {bb : Nat} (hg : Gl W) (ha : At p W bb) : Two p W bb := by
  obtain ⟨H', hi, he, hr⟩ := isR_eq hrun
  have hl : ∀ (i : Nat) (v : AV), cells6[i]? = some v → p.row.1[p.off + i]? = some (@conc (sy p a) (fun _ => ⟨bb, 0⟩) v) := by
    intro i v hi
    match i, hi with
    | 0, hi => cases hi; exact ha.e0
    | 1, hi => cases hi; exact ha.e1
    | 2, hi => cases hi; exact ha.e2
    | 3, hi => cases hi; exact ha.e3
    | 4, hi => cases hi; exact ha.e4
    | 5, hi => cases hi; exact ha.e5
    | i + 6, hi => cases hi
  exact @row_call (sy p a) (cxL L) Gl orc (cxL_ok hL h0 h1) ho W bb cells6 H' 3 [.rsl 0 2, .sym 6] (.lit (.bool true)) 1000 60 hi (fn_law L) he hr rfl (fun w' hf => gl_row hg ha hf) ha.hb hl
    cells_in6 ((@inL_iff noSym _ _).1 (show InL (fun n => n = 0) [.rsl 0 2, .sym 6] from ⟨rfl, True.intro, True.intro⟩))
theorem law_rules {p : Pd} {L : BTbl} {R : Rules} (hL : BT p 1 L) (h0 : 0 ≤ p.pl) (h1 : p.pl < 256) (hR : @RulesOK (sy p 1) Tryz.prog Gl R) (hrun : isR (runL L (ruleOrc R)) = true) {W : World} {bb : Nat} (hg : Gl W) (ha : At p W bb) : Two p W bb :=
  law_by hL h0 h1 (@ruleOrc_ok (sy p 1) (cxL L) Gl R hR) hrun hg ha
theorem orcM_ok {p : Pd} (h : Good p) (h4 : (p.v1.toList == []) = false) {zq : Bool} {g0 cl ml mh : Int} (hz : decide (p.fa p.q = 0) = zq) (c0 : cmpI (valS p.v0) 0 = g0) (c1 : cmpQ (p.ev (p.fa p.q)) 0 = cl) (c2 : cmpQ (p.fa p.q) p.g = ml) (c3 : cmpQ p.g (p.fa p.q) = mh) :
    @CallOKs (sy p 1) (cxL (BM zq)) Gl (orcM zq g0 cl ml mh) := by
  refine @orOrc_ok (sy p 1) _ _ _ _ (@ruleOrc_ok (sy p 1) (cxL (BM zq)) Gl _ (RM_ok h c0 c1 c2 c3)) ?_
  have hgf : ∃ fi, (cxL (BM zq)).fn 34 = some fi := Option.isSome_iff_exists.1 (fn_gr (BM zq))
  refine closOrc_ok (σ := sy p 1) (cx := cxL (BM zq)) (G := Gl) (dom := fun a => 0 < a ∧ a ≤ 2 * p.q + 2) (A := fun a => .string (canS a)) (ok := fun a => decide (a ≤ p.q)) (V := .string (canS p.q)) (cxL_ok (BM_ok h h4 hz (by omega)) h.p0 h.p1) hgf (fun a ha => ?_) (fun c cap I stay hcf KF w hg hi => ?_) ⟨fun D => trivial, fun E => rfl⟩
  · refine ⟨sy p a, sy_agree p 1 a, rfl, cxL_ok (BM_ok h h4 hz ha.1) h.p0 h.p1, ?_⟩
    have hs := h.sgn a
    by_cases q1 : p.x * p.U - (a : Int) * p.s < 0
    · rw [if_pos q1] at hs
      exact ⟨_, List.mem_cons_of_mem _ (List.mem_cons_of_mem _ List.mem_cons_self), (decide_eq_false (by rw [h.le_q]; omega)).symm, RA_ok h ha.2 hs⟩
    · rw [if_neg q1] at hs
      by_cases q2 : p.x * p.U - (a : Int) * p.s = 0
      · rw [if_pos q2] at hs
        exact ⟨_, List.mem_cons_of_mem _ List.mem_cons_self, (decide_eq_true (by rw [h.le_q]; omega)).symm, RA_ok h ha.2 hs⟩
      · rw [if_neg q2] at hs
        exact ⟨_, List.mem_cons_self, (decide_eq_true (by rw [h.le_q]; omega)).symm, RA_ok h ha.2 hs⟩
  · exact greatest_any (q := p.q) (f := c) (cap := cap) (I := I) stay (k := 75) (by omega) (by have := h.a75 (a := 2 * p.q + 2) (by omega); unfold Fit at this; simp only [Int.natAbs_natCast] at this; exact this) hcf (Lib.hid fun a h1 h2 => KF a ⟨h1, h2⟩) w hg hi
theorem law_good {p : Pd} (h : Good p) (h4 : (p.v1.toList == []) = false) {W : World} {bb : Nat} (hg : Gl W) (ha : At p W bb) : Two p W bb := by
  have hsg : cmpI (valS p.v0) 0 = 0 ∨ cmpI (valS p.v0) 0 = 1 := by
    have := h.x0
    rcases Int.lt_or_eq_of_le this with e | e
    · exact .inr (cmpI_pos e)
    · rw [← e]; exact .inl rfl
  have go : ∀ (zq : Bool) (g0 cl ml mh : Int), decide (p.fa p.q = 0) = zq → cmpI (valS p.v0) 0 = g0 → cmpQ (p.ev (p.fa p.q)) 0 = cl → cmpQ (p.fa p.q) p.g = ml → cmpQ p.g (p.fa p.q) = mh → isR (runL (BM zq) (orcM zq g0 cl ml mh)) = true → Two p W bb := fun zq g0 cl ml mh a1 a2 a3 a4 a5 hr =>
    law_by (BM_ok h h4 a1 (by omega)) h.p0 h.p1 (orcM_ok h h4 a1 a2 a3 a4 a5) hr hg ha
  have q1 := h.qs
  have s1 := h.sgn p.q
  have s2 := h.cmpa p.q
  have s3 := h.cmpg p.q
  rw [if_neg (by omega)] at s1
  by_cases hx : p.x * p.U - (p.q : Int) * p.s = 0
  · have hne : decide (p.fa p.q = 0) = false := decide_eq_false (by
      rw [h.fa0]
      intro e
      have e1 := Int.mul_pos h.x1 h.U0
      rw [e] at hx
      omega)
    rw [if_pos hx] at s1
    rw [if_neg (by omega), if_pos (by omega)] at s2
    rw [if_neg (by omega), if_pos (by omega)] at s3
    rcases hsg with e | e
    · exact go _ _ _ _ _ hne e s1 s2 s3 run_same0
    · exact go _ _ _ _ _ hne e s1 s2 s3 run_same1
  · rw [if_neg hx] at s1
    rw [if_pos (by omega)] at s2
    rw [if_neg (by omega), if_neg (by omega)] at s3
    cases hz : decide (p.fa p.q = 0) with
    | false =>
      rcases hsg with e | e
      · exact go _ _ _ _ _ hz e s1 s2 s3 run_main0
      · exact go _ _ _ _ _ hz e s1 s2 s3 run_main1
    | true =>
      rcases hsg with e | e
      · exact go _ _ _ _ _ hz e s1 s2 s3 run_zero0
      · exact go _ _ _ _ _ hz e s1 s2 s3 run_zero1

def RP_r_gr1 : Rules := [(15, [.sym 1], .lit (.bool true)),
  (6, [], .lit (.bool true))]
def BP_r_gr1 : BTbl := []
set_option maxRecDepth 1000000 in
theorem run_r_gr1_0 : isR (runL BP_r_gr1 (ruleOrc (RP_r_gr1))) = true := by decide +kernel
def RP_r_gr2 : Rules := [(15, [.sym 1], .lit (.bool false)),
  (15, [.sym 2], .lit (.bool true)),
  (6, [], .lit (.bool true))]
def BP_r_gr2 : BTbl := []
set_option maxRecDepth 1000000 in
theorem run_r_gr2_0 : isR (runL BP_r_gr2 (ruleOrc (RP_r_gr2))) = true := by decide +kernel
def RP_r_gr4 : Rules := [(15, [.sym 1], .lit (.bool false)),
  (15, [.sym 2], .lit (.bool false)),
  (15, [.sym 4], .lit (.bool true)),
  (6, [], .lit (.bool true))]
def BP_r_gr4 : BTbl := []
set_option maxRecDepth 1000000 in
theorem run_r_gr4_0 : isR (runL BP_r_gr4 (ruleOrc (RP_r_gr4))) = true := by decide +kernel
def RP_r_gr5 : Rules := [(15, [.sym 1], .lit (.bool false)),
  (15, [.sym 2], .lit (.bool false)),
  (15, [.sym 4], .lit (.bool false)),
  (15, [.sym 5], .lit (.bool true)),
  (6, [], .lit (.bool true))]
def BP_r_gr5 : BTbl := []
set_option maxRecDepth 1000000 in
theorem run_r_gr5_0 : isR (runL BP_r_gr5 (ruleOrc (RP_r_gr5))) = true := by decide +kernel
def RP_r_dy0 : Rules := [(15, [.sym 1], .lit (.bool false)),
  (15, [.sym 2], .lit (.bool false)),
  (15, [.sym 4], .lit (.bool false)),
  (15, [.sym 5], .lit (.bool false)),
  (16, [.sym 0], .lit (.int .i64 (13))),
  (6, [], .lit (.bool true))]
def BP_r_dy0 : BTbl := []
set_option maxRecDepth 1000000 in
theorem run_r_dy0_0 : isR (runL BP_r_dy0 (ruleOrc (RP_r_dy0))) = true := by decide +kernel
def RP_r_ck1 : Rules := [(15, [.sym 1], .lit (.bool false)),
  (15, [.sym 2], .lit (.bool false)),
  (15, [.sym 4], .lit (.bool false)),
  (15, [.sym 5], .lit (.bool false)),
  (16, [.sym 0], .lit (.int .i64 (0))),
  (17, [.sym 1], .lit (.int .i64 (1))),
  (6, [], .lit (.bool true))]
def BP_r_ck1 : BTbl := []
set_option maxRecDepth 1000000 in
theorem run_r_ck1_0 : isR (runL BP_r_ck1 (ruleOrc (RP_r_ck1))) = true := by decide +kernel
def RP_r_ck2 : Rules := [(15, [.sym 1], .lit (.bool false)),
  (15, [.sym 2], .lit (.bool false)),
  (15, [.sym 4], .lit (.bool false)),
  (15, [.sym 5], .lit (.bool false)),
  (16, [.sym 0], .lit (.int .i64 (0))),
  (17, [.sym 1], .lit (.int .i64 (0))),
  (17, [.sym 2], .lit (.int .i64 (1))),
  (6, [], .lit (.bool true))]
def BP_r_ck2 : BTbl := []
set_option maxRecDepth 1000000 in
theorem run_r_ck2_0 : isR (runL BP_r_ck2 (ruleOrc (RP_r_ck2))) = true := by decide +kernel
def RP_b_dg1 : Rules := [(15, [.sym 1], .lit (.bool false)),
  (15, [.sym 2], .lit (.bool false)),
  (15, [.sym 4], .lit (.bool false)),
  (15, [.sym 5], .lit (.bool false)),
  (16, [.sym 0], .lit (.int .i64 (0))),
  (17, [.sym 1], .lit (.int .i64 (0))),
  (17, [.sym 2], .lit (.int .i64 (0))),
  (18, [.sym 1], .sym 51),
  (6, [], .lit (.bool true))]
def BP_b_dg1 : BTbl := [(.gtr, 3, .sym 51, .lit (.int .i64 (40)), .lit (.bool true))]
set_option maxRecDepth 1000000 in
theorem run_b_dg1_0 : isR (runL BP_b_dg1 (ruleOrc (RP_b_dg1))) = true := by decide +kernel
def RP_b_dg2 : Rules := [(15, [.sym 1], .lit (.bool false)),
  (15, [.sym 2], .lit (.bool false)),
  (15, [.sym 4], .lit (.bool false)),
  (15, [.sym 5], .lit (.bool false)),
  (16, [.sym 0], .lit (.int .i64 (0))),
  (17, [.sym 1], .lit (.int .i64 (0))),
  (17, [.sym 2], .lit (.int .i64 (0))),
  (18, [.sym 1], .sym 51),
  (18, [.sym 2], .sym 52),
  (6, [], .lit (.bool true))]
def BP_b_dg2 : BTbl := [(.gtr, 3, .sym 51, .lit (.int .i64 (40)), .lit (.bool false)), (.gtr, 3, .sym 52, .lit (.int .i64 (40)), .lit (.bool true))]
set_option maxRecDepth 1000000 in
theorem run_b_dg2_0 : isR (runL BP_b_dg2 (ruleOrc (RP_b_dg2))) = true := by decide +kernel
def RP_r_sg1 : Rules := [(15, [.sym 1], .lit (.bool false)),
  (15, [.sym 2], .lit (.bool false)),
  (15, [.sym 4], .lit (.bool false)),
  (15, [.sym 5], .lit (.bool false)),
  (16, [.sym 0], .lit (.int .i64 (0))),
  (17, [.sym 1], .lit (.int .i64 (0))),
  (17, [.sym 2], .lit (.int .i64 (0))),
  (18, [.sym 1], .sym 51),
  (18, [.sym 2], .sym 52),
  (19, [.sym 1], .lit (.int .i64 (-1))),
  (6, [], .lit (.bool true))]
def BP_r_sg1 : BTbl := [(.gtr, 3, .sym 51, .lit (.int .i64 (40)), .lit (.bool false)), (.gtr, 3, .sym 52, .lit (.int .i64 (40)), .lit (.bool false))]
set_option maxRecDepth 1000000 in
theorem run_r_sg1_0 : isR (runL BP_r_sg1 (ruleOrc (RP_r_sg1))) = true := by decide +kernel
def RP_r_sg10 (g0 : Int) (g1 : Int) : Rules := [(15, [.sym 1], .lit (.bool false)),
  (15, [.sym 2], .lit (.bool false)),
  (15, [.sym 4], .lit (.bool false)),
  (15, [.sym 5], .lit (.bool false)),
  (16, [.sym 0], .lit (.int .i64 (0))),
  (17, [.sym 1], .lit (.int .i64 (0))),
  (17, [.sym 2], .lit (.int .i64 (0))),
  (18, [.sym 1], .sym 51),
  (18, [.sym 2], .sym 52),
  (19, [.sym 1], .lit (.int .i64 (g0))),
  (20, [.sym 1, .sym 2], .sym 10),
  (19, [.sym 10], .lit (.int .i64 (g1))),
  (6, [], .lit (.bool true))]
def BP_r_sg10 : BTbl := [(.gtr, 3, .sym 51, .lit (.int .i64 (40)), .lit (.bool false)), (.gtr, 3, .sym 52, .lit (.int .i64 (40)), .lit (.bool false))]
set_option maxRecDepth 1000000 in
theorem run_r_sg10_0 : isR (runL BP_r_sg10 (ruleOrc (RP_r_sg10 0 0))) = true := by decide +kernel
set_option maxRecDepth 1000000 in
theorem run_r_sg10_1 : isR (runL BP_r_sg10 (ruleOrc (RP_r_sg10 0 (-1)))) = true := by decide +kernel
set_option maxRecDepth 1000000 in
theorem run_r_sg10_2 : isR (runL BP_r_sg10 (ruleOrc (RP_r_sg10 1 0))) = true := by decide +kernel
set_option maxRecDepth 1000000 in
theorem run_r_sg10_3 : isR (runL BP_r_sg10 (ruleOrc (RP_r_sg10 1 (-1)))) = true := by decide +kernel
def RP_r_dy3 (g0 : Int) : Rules := [(15, [.sym 1], .lit (.bool false)),
  (15, [.sym 2], .lit (.bool false)),
  (15, [.sym 4], .lit (.bool false)),
  (15, [.sym 5], .lit (.bool false)),
  (16, [.sym 0], .lit (.int .i64 (0))),
  (17, [.sym 1], .lit (.int .i64 (0))),
  (17, [.sym 2], .lit (.int .i64 (0))),
  (18, [.sym 1], .sym 51),
  (18, [.sym 2], .sym 52),
  (19, [.sym 1], .lit (.int .i64 (g0))),
  (20, [.sym 1, .sym 2], .sym 10),
  (19, [.sym 10], .lit (.int .i64 (1))),
  (16, [.sym 3], .lit (.int .i64 (13))),
  (6, [], .lit (.bool true))]
def BP_r_dy3 : BTbl := [(.gtr, 3, .sym 51, .lit (.int .i64 (40)), .lit (.bool false)), (.gtr, 3, .sym 52, .lit (.int .i64 (40)), .lit (.bool false))]
set_option maxRecDepth 1000000 in
theorem run_r_dy3_0 : isR (runL BP_r_dy3 (ruleOrc (RP_r_dy3 0))) = true := by decide +kernel
set_option maxRecDepth 1000000 in
theorem run_r_dy3_1 : isR (runL BP_r_dy3 (ruleOrc (RP_r_dy3 1))) = true := by decide +kernel
def RP_r_ck4 (g0 : Int) : Rules := [(15, [.sym 1], .lit (.bool false)),
  (15, [.sym 2], .lit (.bool false)),
  (15, [.sym 4], .lit (.bool false)),
  (15, [.sym 5], .lit (.bool false)),
  (16, [.sym 0], .lit (.int .i64 (0))),
  (17, [.sym 1], .lit (.int .i64 (0))),
  (17, [.sym 2], .lit (.int .i64 (0))),
  (18, [.sym 1], .sym 51),
  (18, [.sym 2], .sym 52),
  (19, [.sym 1], .lit (.int .i64 (g0))),
  (20, [.sym 1, .sym 2], .sym 10),
  (19, [.sym 10], .lit (.int .i64 (1))),
  (16, [.sym 3], .lit (.int .i64 (0))),
  (17, [.sym 4], .lit (.int .i64 (1))),
  (6, [], .lit (.bool true))]
def BP_r_ck4 : BTbl := [(.gtr, 3, .sym 51, .lit (.int .i64 (40)), .lit (.bool false)), (.gtr, 3, .sym 52, .lit (.int .i64 (40)), .lit (.bool false))]
set_option maxRecDepth 1000000 in
theorem run_r_ck4_0 : isR (runL BP_r_ck4 (ruleOrc (RP_r_ck4 0))) = true := by decide +kernel
set_option maxRecDepth 1000000 in
theorem run_r_ck4_1 : isR (runL BP_r_ck4 (ruleOrc (RP_r_ck4 1))) = true := by decide +kernel
def RP_r_ck5 (g0 : Int) : Rules := [(15, [.sym 1], .lit (.bool false)),
  (15, [.sym 2], .lit (.bool false)),
  (15, [.sym 4], .lit (.bool false)),
  (15, [.sym 5], .lit (.bool false)),
  (16, [.sym 0], .lit (.int .i64 (0))),
  (17, [.sym 1], .lit (.int .i64 (0))),
  (17, [.sym 2], .lit (.int .i64 (0))),
  (18, [.sym 1], .sym 51),
  (18, [.sym 2], .sym 52),
  (19, [.sym 1], .lit (.int .i64 (g0))),
  (20, [.sym 1, .sym 2], .sym 10),
  (19, [.sym 10], .lit (.int .i64 (1))),
  (16, [.sym 3], .lit (.int .i64 (0))),
  (17, [.sym 4], .lit (.int .i64 (0))),
  (17, [.sym 5], .lit (.int .i64 (1))),
  (6, [], .lit (.bool true))]
def BP_r_ck5 : BTbl := [(.gtr, 3, .sym 51, .lit (.int .i64 (40)), .lit (.bool false)), (.gtr, 3, .sym 52, .lit (.int .i64 (40)), .lit (.bool false))]
set_option maxRecDepth 1000000 in
theorem run_r_ck5_0 : isR (runL BP_r_ck5 (ruleOrc (RP_r_ck5 0))) = true := by decide +kernel
set_option maxRecDepth 1000000 in
theorem run_r_ck5_1 : isR (runL BP_r_ck5 (ruleOrc (RP_r_ck5 1))) = true := by decide +kernel
def RP_b_dg4 (g0 : Int) : Rules := [(15, [.sym 1], .lit (.bool false)),
  (15, [.sym 2], .lit (.bool false)),
  (15, [.sym 4], .lit (.bool false)),
  (15, [.sym 5], .lit (.bool false)),
  (16, [.sym 0], .lit (.int .i64 (0))),
  (17, [.sym 1], .lit (.int .i64 (0))),
  (17, [.sym 2], .lit (.int .i64 (0))),
  (18, [.sym 1], .sym 51),
  (18, [.sym 2], .sym 52),
  (19, [.sym 1], .lit (.int .i64 (g0))),
  (20, [.sym 1, .sym 2], .sym 10),
  (19, [.sym 10], .lit (.int .i64 (1))),
  (16, [.sym 3], .lit (.int .i64 (0))),
  (17, [.sym 4], .lit (.int .i64 (0))),
  (17, [.sym 5], .lit (.int .i64 (0))),
  (18, [.sym 4], .sym 54),
  (6, [], .lit (.bool true))]
def BP_b_dg4 : BTbl := [(.gtr, 3, .sym 51, .lit (.int .i64 (40)), .lit (.bool false)), (.gtr, 3, .sym 52, .lit (.int .i64 (40)), .lit (.bool false)), (.gtr, 3, .sym 54, .lit (.int .i64 (40)), .lit (.bool true))]
set_option maxRecDepth 1000000 in
theorem run_b_dg4_0 : isR (runL BP_b_dg4 (ruleOrc (RP_b_dg4 0))) = true := by decide +kernel
set_option maxRecDepth 1000000 in
theorem run_b_dg4_1 : isR (runL BP_b_dg4 (ruleOrc (RP_b_dg4 1))) = true := by decide +kernel
def RP_b_dg5 (g0 : Int) : Rules := [(15, [.sym 1], .lit (.bool false)),
  (15, [.sym 2], .lit (.bool false)),
  (15, [.sym 4], .lit (.bool false)),
  (15, [.sym 5], .lit (.bool false)),
  (16, [.sym 0], .lit (.int .i64 (0))),
  (17, [.sym 1], .lit (.int .i64 (0))),
  (17, [.sym 2], .lit (.int .i64 (0))),
  (18, [.sym 1], .sym 51),
  (18, [.sym 2], .sym 52),
  (19, [.sym 1], .lit (.int .i64 (g0))),
  (20, [.sym 1, .sym 2], .sym 10),
  (19, [.sym 10], .lit (.int .i64 (1))),
  (16, [.sym 3], .lit (.int .i64 (0))),
  (17, [.sym 4], .lit (.int .i64 (0))),
  (17, [.sym 5], .lit (.int .i64 (0))),
  (18, [.sym 4], .sym 54),
  (18, [.sym 5], .sym 55),
  (6, [], .lit (.bool true))]
def BP_b_dg5 : BTbl := [(.gtr, 3, .sym 51, .lit (.int .i64 (40)), .lit (.bool false)), (.gtr, 3, .sym 52, .lit (.int .i64 (40)), .lit (.bool false)), (.gtr, 3, .sym 54, .lit (.int .i64 (40)), .lit (.bool false)), (.gtr, 3, .sym 55, .lit (.int .i64 (40)), .lit (.bool true))]
set_option maxRecDepth 1000000 in
theorem run_b_dg5_0 : isR (runL BP_b_dg5 (ruleOrc (RP_b_dg5 0))) = true := by decide +kernel
set_option maxRecDepth 1000000 in
theorem run_b_dg5_1 : isR (runL BP_b_dg5 (ruleOrc (RP_b_dg5 1))) = true := by decide +kernel
def RP_b_or (g0 : Int) : Rules := [(15, [.sym 1], .lit (.bool false)),
  (15, [.sym 2], .lit (.bool false)),
  (15, [.sym 4], .lit (.bool false)),
  (15, [.sym 5], .lit (.bool false)),
  (16, [.sym 0], .lit (.int .i64 (0))),
  (17, [.sym 1], .lit (.int .i64 (0))),
  (17, [.sym 2], .lit (.int .i64 (0))),
  (18, [.sym 1], .sym 51),
  (18, [.sym 2], .sym 52),
  (19, [.sym 1], .lit (.int .i64 (g0))),
  (20, [.sym 1, .sym 2], .sym 10),
  (19, [.sym 10], .lit (.int .i64 (1))),
  (16, [.sym 3], .lit (.int .i64 (0))),
  (17, [.sym 4], .lit (.int .i64 (0))),
  (17, [.sym 5], .lit (.int .i64 (0))),
  (18, [.sym 4], .sym 54),
  (18, [.sym 5], .sym 55),
  (6, [], .lit (.bool true))]
def BP_b_or : BTbl := [(.gtr, 3, .sym 51, .lit (.int .i64 (40)), .lit (.bool false)), (.gtr, 3, .sym 52, .lit (.int .i64 (40)), .lit (.bool false)), (.gtr, 3, .sym 54, .lit (.int .i64 (40)), .lit (.bool false)), (.gtr, 3, .sym 55, .lit (.int .i64 (40)), .lit (.bool false)), (.geq, 26, .sym 0, .sym 3, .lit (.bool true))]
set_option maxRecDepth 1000000 in
theorem run_b_or_0 : isR (runL BP_b_or (ruleOrc (RP_b_or 0))) = true := by decide +kernel
set_option maxRecDepth 1000000 in
theorem run_b_or_1 : isR (runL BP_b_or (ruleOrc (RP_b_or 1))) = true := by decide +kernel
def RP_r_sg4 (g0 : Int) : Rules := [(15, [.sym 1], .lit (.bool false)),
  (15, [.sym 2], .lit (.bool false)),
  (15, [.sym 4], .lit (.bool false)),
  (15, [.sym 5], .lit (.bool false)),
  (16, [.sym 0], .lit (.int .i64 (0))),
  (17, [.sym 1], .lit (.int .i64 (0))),
  (17, [.sym 2], .lit (.int .i64 (0))),
  (18, [.sym 1], .sym 51),
  (18, [.sym 2], .sym 52),
  (19, [.sym 1], .lit (.int .i64 (g0))),
  (20, [.sym 1, .sym 2], .sym 10),
  (19, [.sym 10], .lit (.int .i64 (1))),
  (16, [.sym 3], .lit (.int .i64 (0))),
  (17, [.sym 4], .lit (.int .i64 (0))),
  (17, [.sym 5], .lit (.int .i64 (0))),
  (18, [.sym 4], .sym 54),
  (18, [.sym 5], .sym 55),
  (19, [.sym 4], .lit (.int .i64 (-1))),
  (6, [], .lit (.bool true))]
def BP_r_sg4 : BTbl := [(.gtr, 3, .sym 51, .lit (.int .i64 (40)), .lit (.bool false)), (.gtr, 3, .sym 52, .lit (.int .i64 (40)), .lit (.bool false)), (.gtr, 3, .sym 54, .lit (.int .i64 (40)), .lit (.bool false)), (.gtr, 3, .sym 55, .lit (.int .i64 (40)), .lit (.bool false)), (.geq, 26, .sym 0, .sym 3, .lit (.bool false))]
set_option maxRecDepth 1000000 in
theorem run_r_sg4_0 : isR (runL BP_r_sg4 (ruleOrc (RP_r_sg4 0))) = true := by decide +kernel
set_option maxRecDepth 1000000 in
theorem run_r_sg4_1 : isR (runL BP_r_sg4 (ruleOrc (RP_r_sg4 1))) = true := by decide +kernel
def RP_b_e4 (g0 : Int) : Rules := [(15, [.sym 1], .lit (.bool false)),
  (15, [.sym 2], .lit (.bool false)),
  (15, [.sym 4], .lit (.bool false)),
  (15, [.sym 5], .lit (.bool false)),
  (16, [.sym 0], .lit (.int .i64 (0))),
  (17, [.sym 1], .lit (.int .i64 (0))),
  (17, [.sym 2], .lit (.int .i64 (0))),
  (18, [.sym 1], .sym 51),
  (18, [.sym 2], .sym 52),
  (19, [.sym 1], .lit (.int .i64 (g0))),
  (20, [.sym 1, .sym 2], .sym 10),
  (19, [.sym 10], .lit (.int .i64 (1))),
  (16, [.sym 3], .lit (.int .i64 (0))),
  (17, [.sym 4], .lit (.int .i64 (0))),
  (17, [.sym 5], .lit (.int .i64 (0))),
  (18, [.sym 4], .sym 54),
  (18, [.sym 5], .sym 55),
  (19, [.sym 4], .lit (.int .i64 (0))),
  (6, [], .lit (.bool true))]
def BP_b_e4 : BTbl := [(.gtr, 3, .sym 51, .lit (.int .i64 (40)), .lit (.bool false)), (.gtr, 3, .sym 52, .lit (.int .i64 (40)), .lit (.bool false)), (.gtr, 3, .sym 54, .lit (.int .i64 (40)), .lit (.bool false)), (.gtr, 3, .sym 55, .lit (.int .i64 (40)), .lit (.bool false)), (.geq, 26, .sym 0, .sym 3, .lit (.bool false)), (.eql, 27, .sym 4, .lit (.string ⟨#[]⟩), .lit (.bool true))]
set_option maxRecDepth 1000000 in
theorem run_b_e4_0 : isR (runL BP_b_e4 (ruleOrc (RP_b_e4 0))) = true := by decide +kernel
set_option maxRecDepth 1000000 in
theorem run_b_e4_1 : isR (runL BP_b_e4 (ruleOrc (RP_b_e4 1))) = true := by decide +kernel
theorem law_r_gr1 {p : Pd} (G1 : p.v0.size ≤ 9223372036854775807) (G2 : p.f0.size ≤ 9223372036854775807) (G4 : p.v1.size ≤ 9223372036854775807) (G5 : p.f1.size ≤ 9223372036854775807)  (Hrgr1 : big p.v0 = true) (p0 : 0 ≤ p.pl) (p1 : p.pl < 256) {W : World} {bb : Nat} (hg : Gl W) (ha : At p W bb) : Two p W bb := by
  refine law_rules (L := BP_r_gr1) (R := RP_r_gr1) obn p0 p1 (oc (r_gr1 G1 Hrgr1) (oc r_tp ocn)) ?_ hg ha
  exact run_r_gr1_0
theorem law_r_gr2 {p : Pd} (G1 : p.v0.size ≤ 9223372036854775807) (G2 : p.f0.size ≤ 9223372036854775807) (G4 : p.v1.size ≤ 9223372036854775807) (G5 : p.f1.size ≤ 9223372036854775807)  (Hrgr1 : big p.v0 = false) (Hrgr2 : big p.f0 = true) (p0 : 0 ≤ p.pl) (p1 : p.pl < 256) {W : World} {bb : Nat} (hg : Gl W) (ha : At p W bb) : Two p W bb := by
  refine law_rules (L := BP_r_gr2) (R := RP_r_gr2) obn p0 p1 (oc (r_gr1 G1 Hrgr1) (oc (r_gr2 G2 Hrgr2) (oc r_tp ocn))) ?_ hg ha
  exact run_r_gr2_0
theorem law_r_gr4 {p : Pd} (G1 : p.v0.size ≤ 9223372036854775807) (G2 : p.f0.size ≤ 9223372036854775807) (G4 : p.v1.size ≤ 9223372036854775807) (G5 : p.f1.size ≤ 9223372036854775807)  (Hrgr1 : big p.v0 = false) (Hrgr2 : big p.f0 = false) (Hrgr4 : big p.v1 = true) (p0 : 0 ≤ p.pl) (p1 : p.pl < 256) {W : World} {bb : Nat} (hg : Gl W) (ha : At p W bb) : Two p W bb := by
  refine law_rules (L := BP_r_gr4) (R := RP_r_gr4) obn p0 p1 (oc (r_gr1 G1 Hrgr1) (oc (r_gr2 G2 Hrgr2) (oc (r_gr4 G4 Hrgr4) (oc r_tp ocn)))) ?_ hg ha
  exact run_r_gr4_0
theorem law_r_gr5 {p : Pd} (G1 : p.v0.size ≤ 9223372036854775807) (G2 : p.f0.size ≤ 9223372036854775807) (G4 : p.v1.size ≤ 9223372036854775807) (G5 : p.f1.size ≤ 9223372036854775807)  (Hrgr1 : big p.v0 = false) (Hrgr2 : big p.f0 = false) (Hrgr4 : big p.v1 = false) (Hrgr5 : big p.f1 = true) (p0 : 0 ≤ p.pl) (p1 : p.pl < 256) {W : World} {bb : Nat} (hg : Gl W) (ha : At p W bb) : Two p W bb := by
  refine law_rules (L := BP_r_gr5) (R := RP_r_gr5) obn p0 p1 (oc (r_gr1 G1 Hrgr1) (oc (r_gr2 G2 Hrgr2) (oc (r_gr4 G4 Hrgr4) (oc (r_gr5 G5 Hrgr5) (oc r_tp ocn))))) ?_ hg ha
  exact run_r_gr5_0
theorem law_r_dy0 {p : Pd} (G1 : p.v0.size ≤ 9223372036854775807) (G2 : p.f0.size ≤ 9223372036854775807) (G4 : p.v1.size ≤ 9223372036854775807) (G5 : p.f1.size ≤ 9223372036854775807) (z1 : p.v0.size ≤ 60) (z2 : p.f0.size ≤ 60) (z4 : p.v1.size ≤ 60) (z5 : p.f1.size ≤ 60) (Hrgr1 : big p.v0 = false) (Hrgr2 : big p.f0 = false) (Hrgr4 : big p.v1 = false) (Hrgr5 : big p.f1 = false) (Hrdy0 : (if notDay p.d0 = true then 13 else 0 : Int) = 13) (p0 : 0 ≤ p.pl) (p1 : p.pl < 256) {W : World} {bb : Nat} (hg : Gl W) (ha : At p W bb) : Two p W bb := by
  refine law_rules (L := BP_r_dy0) (R := RP_r_dy0) obn p0 p1 (oc (r_gr1 G1 Hrgr1) (oc (r_gr2 G2 Hrgr2) (oc (r_gr4 G4 Hrgr4) (oc (r_gr5 G5 Hrgr5) (oc (r_dy0 Hrdy0) (oc r_tp ocn)))))) ?_ hg ha
  exact run_r_dy0_0
theorem law_r_ck1 {p : Pd} (G1 : p.v0.size ≤ 9223372036854775807) (G2 : p.f0.size ≤ 9223372036854775807) (G4 : p.v1.size ≤ 9223372036854775807) (G5 : p.f1.size ≤ 9223372036854775807) (z1 : p.v0.size ≤ 60) (z2 : p.f0.size ≤ 60) (z4 : p.v1.size ≤ 60) (z5 : p.f1.size ≤ 60) (Hrgr1 : big p.v0 = false) (Hrgr2 : big p.f0 = false) (Hrgr4 : big p.v1 = false) (Hrgr5 : big p.f1 = false) (Hrdy0 : (if notDay p.d0 = true then 13 else 0 : Int) = 0) (Hrck1 : chk p.v0 = 1) (p0 : 0 ≤ p.pl) (p1 : p.pl < 256) {W : World} {bb : Nat} (hg : Gl W) (ha : At p W bb) : Two p W bb := by
  refine law_rules (L := BP_r_ck1) (R := RP_r_ck1) obn p0 p1 (oc (r_gr1 G1 Hrgr1) (oc (r_gr2 G2 Hrgr2) (oc (r_gr4 G4 Hrgr4) (oc (r_gr5 G5 Hrgr5) (oc (r_dy0 Hrdy0) (oc (r_ck1 z1 Hrck1) (oc r_tp ocn))))))) ?_ hg ha
  exact run_r_ck1_0
theorem law_r_ck2 {p : Pd} (G1 : p.v0.size ≤ 9223372036854775807) (G2 : p.f0.size ≤ 9223372036854775807) (G4 : p.v1.size ≤ 9223372036854775807) (G5 : p.f1.size ≤ 9223372036854775807) (z1 : p.v0.size ≤ 60) (z2 : p.f0.size ≤ 60) (z4 : p.v1.size ≤ 60) (z5 : p.f1.size ≤ 60) (Hrgr1 : big p.v0 = false) (Hrgr2 : big p.f0 = false) (Hrgr4 : big p.v1 = false) (Hrgr5 : big p.f1 = false) (Hrdy0 : (if notDay p.d0 = true then 13 else 0 : Int) = 0) (Hrck1 : chk p.v0 = 0) (Hrck2 : chk p.f0 = 1) (p0 : 0 ≤ p.pl) (p1 : p.pl < 256) {W : World} {bb : Nat} (hg : Gl W) (ha : At p W bb) : Two p W bb := by
  refine law_rules (L := BP_r_ck2) (R := RP_r_ck2) obn p0 p1 (oc (r_gr1 G1 Hrgr1) (oc (r_gr2 G2 Hrgr2) (oc (r_gr4 G4 Hrgr4) (oc (r_gr5 G5 Hrgr5) (oc (r_dy0 Hrdy0) (oc (r_ck1 z1 Hrck1) (oc (r_ck2 z2 Hrck2) (oc r_tp ocn)))))))) ?_ hg ha
  exact run_r_ck2_0
theorem law_b_dg1 {p : Pd} (G1 : p.v0.size ≤ 9223372036854775807) (G2 : p.f0.size ≤ 9223372036854775807) (G4 : p.v1.size ≤ 9223372036854775807) (G5 : p.f1.size ≤ 9223372036854775807) (z1 : p.v0.size ≤ 60) (z2 : p.f0.size ≤ 60) (z4 : p.v1.size ≤ 60) (z5 : p.f1.size ≤ 60) (Hrgr1 : big p.v0 = false) (Hrgr2 : big p.f0 = false) (Hrgr4 : big p.v1 = false) (Hrgr5 : big p.f1 = false) (Hrdy0 : (if notDay p.d0 = true then 13 else 0 : Int) = 0) (Hrck1 : chk p.v0 = 0) (Hrck2 : chk p.f0 = 0) (Hbdg1 : decide (40 < dgN p.v0) = true) (p0 : 0 ≤ p.pl) (p1 : p.pl < 256) {W : World} {bb : Nat} (hg : Gl W) (ha : At p W bb) : Two p W bb := by
  refine law_rules (L := BP_b_dg1) (R := RP_b_dg1) (ob (t_dg1 Hbdg1) obn) p0 p1 (oc (r_gr1 G1 Hrgr1) (oc (r_gr2 G2 Hrgr2) (oc (r_gr4 G4 Hrgr4) (oc (r_gr5 G5 Hrgr5) (oc (r_dy0 Hrdy0) (oc (r_ck1 z1 Hrck1) (oc (r_ck2 z2 Hrck2) (oc (r_dg1 z1) (oc r_tp ocn))))))))) ?_ hg ha
  exact run_b_dg1_0
theorem law_b_dg2 {p : Pd} (G1 : p.v0.size ≤ 9223372036854775807) (G2 : p.f0.size ≤ 9223372036854775807) (G4 : p.v1.size ≤ 9223372036854775807) (G5 : p.f1.size ≤ 9223372036854775807) (z1 : p.v0.size ≤ 60) (z2 : p.f0.size ≤ 60) (z4 : p.v1.size ≤ 60) (z5 : p.f1.size ≤ 60) (Hrgr1 : big p.v0 = false) (Hrgr2 : big p.f0 = false) (Hrgr4 : big p.v1 = false) (Hrgr5 : big p.f1 = false) (Hrdy0 : (if notDay p.d0 = true then 13 else 0 : Int) = 0) (Hrck1 : chk p.v0 = 0) (Hrck2 : chk p.f0 = 0) (Hbdg1 : decide (40 < dgN p.v0) = false) (Hbdg2 : decide (40 < dgN p.f0) = true) (p0 : 0 ≤ p.pl) (p1 : p.pl < 256) {W : World} {bb : Nat} (hg : Gl W) (ha : At p W bb) : Two p W bb := by
  refine law_rules (L := BP_b_dg2) (R := RP_b_dg2) (ob (t_dg1 Hbdg1) (ob (t_dg2 Hbdg2) obn)) p0 p1 (oc (r_gr1 G1 Hrgr1) (oc (r_gr2 G2 Hrgr2) (oc (r_gr4 G4 Hrgr4) (oc (r_gr5 G5 Hrgr5) (oc (r_dy0 Hrdy0) (oc (r_ck1 z1 Hrck1) (oc (r_ck2 z2 Hrck2) (oc (r_dg1 z1) (oc (r_dg2 z2) (oc r_tp ocn)))))))))) ?_ hg ha
  exact run_b_dg2_0
theorem law_r_sg1 {p : Pd} (G1 : p.v0.size ≤ 9223372036854775807) (G2 : p.f0.size ≤ 9223372036854775807) (G4 : p.v1.size ≤ 9223372036854775807) (G5 : p.f1.size ≤ 9223372036854775807) (z1 : p.v0.size ≤ 60) (z2 : p.f0.size ≤ 60) (z4 : p.v1.size ≤ 60) (z5 : p.f1.size ≤ 60) (Hrgr1 : big p.v0 = false) (Hrgr2 : big p.f0 = false) (Hrgr4 : big p.v1 = false) (Hrgr5 : big p.f1 = false) (Hrdy0 : (if notDay p.d0 = true then 13 else 0 : Int) = 0) (Hrck1 : chk p.v0 = 0) (Hrck2 : chk p.f0 = 0) (Hbdg1 : decide (40 < dgN p.v0) = false) (Hbdg2 : decide (40 < dgN p.f0) = false) (Hrsg1 : cmpI (valS p.v0) 0 = (-1)) (p0 : 0 ≤ p.pl) (p1 : p.pl < 256) {W : World} {bb : Nat} (hg : Gl W) (ha : At p W bb) : Two p W bb := by
  refine law_rules (L := BP_r_sg1) (R := RP_r_sg1) (ob (t_dg1 Hbdg1) (ob (t_dg2 Hbdg2) obn)) p0 p1 (oc (r_gr1 G1 Hrgr1) (oc (r_gr2 G2 Hrgr2) (oc (r_gr4 G4 Hrgr4) (oc (r_gr5 G5 Hrgr5) (oc (r_dy0 Hrdy0) (oc (r_ck1 z1 Hrck1) (oc (r_ck2 z2 Hrck2) (oc (r_dg1 z1) (oc (r_dg2 z2) (oc (r_sg1 z1 Hrsg1) (oc r_tp ocn))))))))))) ?_ hg ha
  exact run_r_sg1_0
theorem law_r_sg10 {p : Pd} (G1 : p.v0.size ≤ 9223372036854775807) (G2 : p.f0.size ≤ 9223372036854775807) (G4 : p.v1.size ≤ 9223372036854775807) (G5 : p.f1.size ≤ 9223372036854775807) (z1 : p.v0.size ≤ 60) (z2 : p.f0.size ≤ 60) (z4 : p.v1.size ≤ 60) (z5 : p.f1.size ≤ 60) {g0 : Int} {g1 : Int} (Hrgr1 : big p.v0 = false) (Hrgr2 : big p.f0 = false) (Hrgr4 : big p.v1 = false) (Hrgr5 : big p.f1 = false) (Hrdy0 : (if notDay p.d0 = true then 13 else 0 : Int) = 0) (Hrck1 : chk p.v0 = 0) (Hrck2 : chk p.f0 = 0) (Hbdg1 : decide (40 < dgN p.v0) = false) (Hbdg2 : decide (40 < dgN p.f0) = false) (Hrsg1 : cmpI (valS p.v0) 0 = g0) (Hrsg10 : cmpI p.s 0 = g1) (hg0 : g0 = 0 ∨ g0 = 1) (hg1 : g1 = 0 ∨ g1 = -1) (p0 : 0 ≤ p.pl) (p1 : p.pl < 256) {W : World} {bb : Nat} (hg : Gl W) (ha : At p W bb) : Two p W bb := by
  refine law_rules (L := BP_r_sg10) (R := RP_r_sg10 g0 g1) (ob (t_dg1 Hbdg1) (ob (t_dg2 Hbdg2) obn)) p0 p1 (oc (r_gr1 G1 Hrgr1) (oc (r_gr2 G2 Hrgr2) (oc (r_gr4 G4 Hrgr4) (oc (r_gr5 G5 Hrgr5) (oc (r_dy0 Hrdy0) (oc (r_ck1 z1 Hrck1) (oc (r_ck2 z2 Hrck2) (oc (r_dg1 z1) (oc (r_dg2 z2) (oc (r_sg1 z1 Hrsg1) (oc (r_ad0 z1 z2) (oc (r_sg10 z1 z2 Hrsg10) (oc r_tp ocn))))))))))))) ?_ hg ha
  rcases hg0 with rfl | rfl <;> rcases hg1 with rfl | rfl
  · exact run_r_sg10_0
  · exact run_r_sg10_1
  · exact run_r_sg10_2
  · exact run_r_sg10_3
theorem law_r_dy3 {p : Pd} (G1 : p.v0.size ≤ 9223372036854775807) (G2 : p.f0.size ≤ 9223372036854775807) (G4 : p.v1.size ≤ 9223372036854775807) (G5 : p.f1.size ≤ 9223372036854775807) (z1 : p.v0.size ≤ 60) (z2 : p.f0.size ≤ 60) (z4 : p.v1.size ≤ 60) (z5 : p.f1.size ≤ 60) {g0 : Int} (Hrgr1 : big p.v0 = false) (Hrgr2 : big p.f0 = false) (Hrgr4 : big p.v1 = false) (Hrgr5 : big p.f1 = false) (Hrdy0 : (if notDay p.d0 = true then 13 else 0 : Int) = 0) (Hrck1 : chk p.v0 = 0) (Hrck2 : chk p.f0 = 0) (Hbdg1 : decide (40 < dgN p.v0) = false) (Hbdg2 : decide (40 < dgN p.f0) = false) (Hrsg1 : cmpI (valS p.v0) 0 = g0) (Hrsg10 : cmpI p.s 0 = 1) (Hrdy3 : (if notDay p.d1 = true then 13 else 0 : Int) = 13) (hg0 : g0 = 0 ∨ g0 = 1) (p0 : 0 ≤ p.pl) (p1 : p.pl < 256) {W : World} {bb : Nat} (hg : Gl W) (ha : At p W bb) : Two p W bb := by
  refine law_rules (L := BP_r_dy3) (R := RP_r_dy3 g0) (ob (t_dg1 Hbdg1) (ob (t_dg2 Hbdg2) obn)) p0 p1 (oc (r_gr1 G1 Hrgr1) (oc (r_gr2 G2 Hrgr2) (oc (r_gr4 G4 Hrgr4) (oc (r_gr5 G5 Hrgr5) (oc (r_dy0 Hrdy0) (oc (r_ck1 z1 Hrck1) (oc (r_ck2 z2 Hrck2) (oc (r_dg1 z1) (oc (r_dg2 z2) (oc (r_sg1 z1 Hrsg1) (oc (r_ad0 z1 z2) (oc (r_sg10 z1 z2 Hrsg10) (oc (r_dy3 Hrdy3) (oc r_tp ocn)))))))))))))) ?_ hg ha
  rcases hg0 with rfl | rfl
  · exact run_r_dy3_0
  · exact run_r_dy3_1
theorem law_r_ck4 {p : Pd} (G1 : p.v0.size ≤ 9223372036854775807) (G2 : p.f0.size ≤ 9223372036854775807) (G4 : p.v1.size ≤ 9223372036854775807) (G5 : p.f1.size ≤ 9223372036854775807) (z1 : p.v0.size ≤ 60) (z2 : p.f0.size ≤ 60) (z4 : p.v1.size ≤ 60) (z5 : p.f1.size ≤ 60) {g0 : Int} (Hrgr1 : big p.v0 = false) (Hrgr2 : big p.f0 = false) (Hrgr4 : big p.v1 = false) (Hrgr5 : big p.f1 = false) (Hrdy0 : (if notDay p.d0 = true then 13 else 0 : Int) = 0) (Hrck1 : chk p.v0 = 0) (Hrck2 : chk p.f0 = 0) (Hbdg1 : decide (40 < dgN p.v0) = false) (Hbdg2 : decide (40 < dgN p.f0) = false) (Hrsg1 : cmpI (valS p.v0) 0 = g0) (Hrsg10 : cmpI p.s 0 = 1) (Hrdy3 : (if notDay p.d1 = true then 13 else 0 : Int) = 0) (Hrck4 : chk p.v1 = 1) (hg0 : g0 = 0 ∨ g0 = 1) (p0 : 0 ≤ p.pl) (p1 : p.pl < 256) {W : World} {bb : Nat} (hg : Gl W) (ha : At p W bb) : Two p W bb := by
  refine law_rules (L := BP_r_ck4) (R := RP_r_ck4 g0) (ob (t_dg1 Hbdg1) (ob (t_dg2 Hbdg2) obn)) p0 p1 (oc (r_gr1 G1 Hrgr1) (oc (r_gr2 G2 Hrgr2) (oc (r_gr4 G4 Hrgr4) (oc (r_gr5 G5 Hrgr5) (oc (r_dy0 Hrdy0) (oc (r_ck1 z1 Hrck1) (oc (r_ck2 z2 Hrck2) (oc (r_dg1 z1) (oc (r_dg2 z2) (oc (r_sg1 z1 Hrsg1) (oc (r_ad0 z1 z2) (oc (r_sg10 z1 z2 Hrsg10) (oc (r_dy3 Hrdy3) (oc (r_ck4 z4 Hrck4) (oc r_tp ocn))))))))))))))) ?_ hg ha
  rcases hg0 with rfl | rfl
  · exact run_r_ck4_0
  · exact run_r_ck4_1
theorem law_r_ck5 {p : Pd} (G1 : p.v0.size ≤ 9223372036854775807) (G2 : p.f0.size ≤ 9223372036854775807) (G4 : p.v1.size ≤ 9223372036854775807) (G5 : p.f1.size ≤ 9223372036854775807) (z1 : p.v0.size ≤ 60) (z2 : p.f0.size ≤ 60) (z4 : p.v1.size ≤ 60) (z5 : p.f1.size ≤ 60) {g0 : Int} (Hrgr1 : big p.v0 = false) (Hrgr2 : big p.f0 = false) (Hrgr4 : big p.v1 = false) (Hrgr5 : big p.f1 = false) (Hrdy0 : (if notDay p.d0 = true then 13 else 0 : Int) = 0) (Hrck1 : chk p.v0 = 0) (Hrck2 : chk p.f0 = 0) (Hbdg1 : decide (40 < dgN p.v0) = false) (Hbdg2 : decide (40 < dgN p.f0) = false) (Hrsg1 : cmpI (valS p.v0) 0 = g0) (Hrsg10 : cmpI p.s 0 = 1) (Hrdy3 : (if notDay p.d1 = true then 13 else 0 : Int) = 0) (Hrck4 : chk p.v1 = 0) (Hrck5 : chk p.f1 = 1) (hg0 : g0 = 0 ∨ g0 = 1) (p0 : 0 ≤ p.pl) (p1 : p.pl < 256) {W : World} {bb : Nat} (hg : Gl W) (ha : At p W bb) : Two p W bb := by
  refine law_rules (L := BP_r_ck5) (R := RP_r_ck5 g0) (ob (t_dg1 Hbdg1) (ob (t_dg2 Hbdg2) obn)) p0 p1 (oc (r_gr1 G1 Hrgr1) (oc (r_gr2 G2 Hrgr2) (oc (r_gr4 G4 Hrgr4) (oc (r_gr5 G5 Hrgr5) (oc (r_dy0 Hrdy0) (oc (r_ck1 z1 Hrck1) (oc (r_ck2 z2 Hrck2) (oc (r_dg1 z1) (oc (r_dg2 z2) (oc (r_sg1 z1 Hrsg1) (oc (r_ad0 z1 z2) (oc (r_sg10 z1 z2 Hrsg10) (oc (r_dy3 Hrdy3) (oc (r_ck4 z4 Hrck4) (oc (r_ck5 z5 Hrck5) (oc r_tp ocn)))))))))))))))) ?_ hg ha
  rcases hg0 with rfl | rfl
  · exact run_r_ck5_0
  · exact run_r_ck5_1
theorem law_b_dg4 {p : Pd} (G1 : p.v0.size ≤ 9223372036854775807) (G2 : p.f0.size ≤ 9223372036854775807) (G4 : p.v1.size ≤ 9223372036854775807) (G5 : p.f1.size ≤ 9223372036854775807) (z1 : p.v0.size ≤ 60) (z2 : p.f0.size ≤ 60) (z4 : p.v1.size ≤ 60) (z5 : p.f1.size ≤ 60) {g0 : Int} (Hrgr1 : big p.v0 = false) (Hrgr2 : big p.f0 = false) (Hrgr4 : big p.v1 = false) (Hrgr5 : big p.f1 = false) (Hrdy0 : (if notDay p.d0 = true then 13 else 0 : Int) = 0) (Hrck1 : chk p.v0 = 0) (Hrck2 : chk p.f0 = 0) (Hbdg1 : decide (40 < dgN p.v0) = false) (Hbdg2 : decide (40 < dgN p.f0) = false) (Hrsg1 : cmpI (valS p.v0) 0 = g0) (Hrsg10 : cmpI p.s 0 = 1) (Hrdy3 : (if notDay p.d1 = true then 13 else 0 : Int) = 0) (Hrck4 : chk p.v1 = 0) (Hrck5 : chk p.f1 = 0) (Hbdg4 : decide (40 < dgN p.v1) = true) (hg0 : g0 = 0 ∨ g0 = 1) (p0 : 0 ≤ p.pl) (p1 : p.pl < 256) {W : World} {bb : Nat} (hg : Gl W) (ha : At p W bb) : Two p W bb := by
  refine law_rules (L := BP_b_dg4) (R := RP_b_dg4 g0) (ob (t_dg1 Hbdg1) (ob (t_dg2 Hbdg2) (ob (t_dg4 Hbdg4) obn))) p0 p1 (oc (r_gr1 G1 Hrgr1) (oc (r_gr2 G2 Hrgr2) (oc (r_gr4 G4 Hrgr4) (oc (r_gr5 G5 Hrgr5) (oc (r_dy0 Hrdy0) (oc (r_ck1 z1 Hrck1) (oc (r_ck2 z2 Hrck2) (oc (r_dg1 z1) (oc (r_dg2 z2) (oc (r_sg1 z1 Hrsg1) (oc (r_ad0 z1 z2) (oc (r_sg10 z1 z2 Hrsg10) (oc (r_dy3 Hrdy3) (oc (r_ck4 z4 Hrck4) (oc (r_ck5 z5 Hrck5) (oc (r_dg4 z4) (oc r_tp ocn))))))))))))))))) ?_ hg ha
  rcases hg0 with rfl | rfl
  · exact run_b_dg4_0
  · exact run_b_dg4_1
theorem law_b_dg5 {p : Pd} (G1 : p.v0.size ≤ 9223372036854775807) (G2 : p.f0.size ≤ 9223372036854775807) (G4 : p.v1.size ≤ 9223372036854775807) (G5 : p.f1.size ≤ 9223372036854775807) (z1 : p.v0.size ≤ 60) (z2 : p.f0.size ≤ 60) (z4 : p.v1.size ≤ 60) (z5 : p.f1.size ≤ 60) {g0 : Int} (Hrgr1 : big p.v0 = false) (Hrgr2 : big p.f0 = false) (Hrgr4 : big p.v1 = false) (Hrgr5 : big p.f1 = false) (Hrdy0 : (if notDay p.d0 = true then 13 else 0 : Int) = 0) (Hrck1 : chk p.v0 = 0) (Hrck2 : chk p.f0 = 0) (Hbdg1 : decide (40 < dgN p.v0) = false) (Hbdg2 : decide (40 < dgN p.f0) = false) (Hrsg1 : cmpI (valS p.v0) 0 = g0) (Hrsg10 : cmpI p.s 0 = 1) (Hrdy3 : (if notDay p.d1 = true then 13 else 0 : Int) = 0) (Hrck4 : chk p.v1 = 0) (Hrck5 : chk p.f1 = 0) (Hbdg4 : decide (40 < dgN p.v1) = false) (Hbdg5 : decide (40 < dgN p.f1) = true) (hg0 : g0 = 0 ∨ g0 = 1) (p0 : 0 ≤ p.pl) (p1 : p.pl < 256) {W : World} {bb : Nat} (hg : Gl W) (ha : At p W bb) : Two p W bb := by
  refine law_rules (L := BP_b_dg5) (R := RP_b_dg5 g0) (ob (t_dg1 Hbdg1) (ob (t_dg2 Hbdg2) (ob (t_dg4 Hbdg4) (ob (t_dg5 Hbdg5) obn)))) p0 p1 (oc (r_gr1 G1 Hrgr1) (oc (r_gr2 G2 Hrgr2) (oc (r_gr4 G4 Hrgr4) (oc (r_gr5 G5 Hrgr5) (oc (r_dy0 Hrdy0) (oc (r_ck1 z1 Hrck1) (oc (r_ck2 z2 Hrck2) (oc (r_dg1 z1) (oc (r_dg2 z2) (oc (r_sg1 z1 Hrsg1) (oc (r_ad0 z1 z2) (oc (r_sg10 z1 z2 Hrsg10) (oc (r_dy3 Hrdy3) (oc (r_ck4 z4 Hrck4) (oc (r_ck5 z5 Hrck5) (oc (r_dg4 z4) (oc (r_dg5 z5) (oc r_tp ocn)))))))))))))))))) ?_ hg ha
  rcases hg0 with rfl | rfl
  · exact run_b_dg5_0
  · exact run_b_dg5_1
theorem law_b_or {p : Pd} (G1 : p.v0.size ≤ 9223372036854775807) (G2 : p.f0.size ≤ 9223372036854775807) (G4 : p.v1.size ≤ 9223372036854775807) (G5 : p.f1.size ≤ 9223372036854775807) (z1 : p.v0.size ≤ 60) (z2 : p.f0.size ≤ 60) (z4 : p.v1.size ≤ 60) (z5 : p.f1.size ≤ 60) {g0 : Int} (Hrgr1 : big p.v0 = false) (Hrgr2 : big p.f0 = false) (Hrgr4 : big p.v1 = false) (Hrgr5 : big p.f1 = false) (Hrdy0 : (if notDay p.d0 = true then 13 else 0 : Int) = 0) (Hrck1 : chk p.v0 = 0) (Hrck2 : chk p.f0 = 0) (Hbdg1 : decide (40 < dgN p.v0) = false) (Hbdg2 : decide (40 < dgN p.f0) = false) (Hrsg1 : cmpI (valS p.v0) 0 = g0) (Hrsg10 : cmpI p.s 0 = 1) (Hrdy3 : (if notDay p.d1 = true then 13 else 0 : Int) = 0) (Hrck4 : chk p.v1 = 0) (Hrck5 : chk p.f1 = 0) (Hbdg4 : decide (40 < dgN p.v1) = false) (Hbdg5 : decide (40 < dgN p.f1) = false) (Hbor : decide (p.d1 ≤ p.d0) = true) (hg0 : g0 = 0 ∨ g0 = 1) (p0 : 0 ≤ p.pl) (p1 : p.pl < 256) {W : World} {bb : Nat} (hg : Gl W) (ha : At p W bb) : Two p W bb := by
  refine law_rules (L := BP_b_or) (R := RP_b_or g0) (ob (t_dg1 Hbdg1) (ob (t_dg2 Hbdg2) (ob (t_dg4 Hbdg4) (ob (t_dg5 Hbdg5) (ob (t_or Hbor) obn))))) p0 p1 (oc (r_gr1 G1 Hrgr1) (oc (r_gr2 G2 Hrgr2) (oc (r_gr4 G4 Hrgr4) (oc (r_gr5 G5 Hrgr5) (oc (r_dy0 Hrdy0) (oc (r_ck1 z1 Hrck1) (oc (r_ck2 z2 Hrck2) (oc (r_dg1 z1) (oc (r_dg2 z2) (oc (r_sg1 z1 Hrsg1) (oc (r_ad0 z1 z2) (oc (r_sg10 z1 z2 Hrsg10) (oc (r_dy3 Hrdy3) (oc (r_ck4 z4 Hrck4) (oc (r_ck5 z5 Hrck5) (oc (r_dg4 z4) (oc (r_dg5 z5) (oc r_tp ocn)))))))))))))))))) ?_ hg ha
  rcases hg0 with rfl | rfl
  · exact run_b_or_0
  · exact run_b_or_1
theorem law_r_sg4 {p : Pd} (G1 : p.v0.size ≤ 9223372036854775807) (G2 : p.f0.size ≤ 9223372036854775807) (G4 : p.v1.size ≤ 9223372036854775807) (G5 : p.f1.size ≤ 9223372036854775807) (z1 : p.v0.size ≤ 60) (z2 : p.f0.size ≤ 60) (z4 : p.v1.size ≤ 60) (z5 : p.f1.size ≤ 60) {g0 : Int} (Hrgr1 : big p.v0 = false) (Hrgr2 : big p.f0 = false) (Hrgr4 : big p.v1 = false) (Hrgr5 : big p.f1 = false) (Hrdy0 : (if notDay p.d0 = true then 13 else 0 : Int) = 0) (Hrck1 : chk p.v0 = 0) (Hrck2 : chk p.f0 = 0) (Hbdg1 : decide (40 < dgN p.v0) = false) (Hbdg2 : decide (40 < dgN p.f0) = false) (Hrsg1 : cmpI (valS p.v0) 0 = g0) (Hrsg10 : cmpI p.s 0 = 1) (Hrdy3 : (if notDay p.d1 = true then 13 else 0 : Int) = 0) (Hrck4 : chk p.v1 = 0) (Hrck5 : chk p.f1 = 0) (Hbdg4 : decide (40 < dgN p.v1) = false) (Hbdg5 : decide (40 < dgN p.f1) = false) (Hbor : decide (p.d1 ≤ p.d0) = false) (Hrsg4 : cmpI (valS p.v1) 0 = (-1)) (hg0 : g0 = 0 ∨ g0 = 1) (p0 : 0 ≤ p.pl) (p1 : p.pl < 256) {W : World} {bb : Nat} (hg : Gl W) (ha : At p W bb) : Two p W bb := by
  refine law_rules (L := BP_r_sg4) (R := RP_r_sg4 g0) (ob (t_dg1 Hbdg1) (ob (t_dg2 Hbdg2) (ob (t_dg4 Hbdg4) (ob (t_dg5 Hbdg5) (ob (t_or Hbor) obn))))) p0 p1 (oc (r_gr1 G1 Hrgr1) (oc (r_gr2 G2 Hrgr2) (oc (r_gr4 G4 Hrgr4) (oc (r_gr5 G5 Hrgr5) (oc (r_dy0 Hrdy0) (oc (r_ck1 z1 Hrck1) (oc (r_ck2 z2 Hrck2) (oc (r_dg1 z1) (oc (r_dg2 z2) (oc (r_sg1 z1 Hrsg1) (oc (r_ad0 z1 z2) (oc (r_sg10 z1 z2 Hrsg10) (oc (r_dy3 Hrdy3) (oc (r_ck4 z4 Hrck4) (oc (r_ck5 z5 Hrck5) (oc (r_dg4 z4) (oc (r_dg5 z5) (oc (r_sg4 z4 Hrsg4) (oc r_tp ocn))))))))))))))))))) ?_ hg ha
  rcases hg0 with rfl | rfl
  · exact run_r_sg4_0
  · exact run_r_sg4_1
theorem law_b_e4 {p : Pd} (G1 : p.v0.size ≤ 9223372036854775807) (G2 : p.f0.size ≤ 9223372036854775807) (G4 : p.v1.size ≤ 9223372036854775807) (G5 : p.f1.size ≤ 9223372036854775807) (z1 : p.v0.size ≤ 60) (z2 : p.f0.size ≤ 60) (z4 : p.v1.size ≤ 60) (z5 : p.f1.size ≤ 60) {g0 : Int} (Hrgr1 : big p.v0 = false) (Hrgr2 : big p.f0 = false) (Hrgr4 : big p.v1 = false) (Hrgr5 : big p.f1 = false) (Hrdy0 : (if notDay p.d0 = true then 13 else 0 : Int) = 0) (Hrck1 : chk p.v0 = 0) (Hrck2 : chk p.f0 = 0) (Hbdg1 : decide (40 < dgN p.v0) = false) (Hbdg2 : decide (40 < dgN p.f0) = false) (Hrsg1 : cmpI (valS p.v0) 0 = g0) (Hrsg10 : cmpI p.s 0 = 1) (Hrdy3 : (if notDay p.d1 = true then 13 else 0 : Int) = 0) (Hrck4 : chk p.v1 = 0) (Hrck5 : chk p.f1 = 0) (Hbdg4 : decide (40 < dgN p.v1) = false) (Hbdg5 : decide (40 < dgN p.f1) = false) (Hbor : decide (p.d1 ≤ p.d0) = false) (Hrsg4 : cmpI (valS p.v1) 0 = 0) (Hbe4 : (p.v1.toList == []) = true) (hg0 : g0 = 0 ∨ g0 = 1) (p0 : 0 ≤ p.pl) (p1 : p.pl < 256) {W : World} {bb : Nat} (hg : Gl W) (ha : At p W bb) : Two p W bb := by
  refine law_rules (L := BP_b_e4) (R := RP_b_e4 g0) (ob (t_dg1 Hbdg1) (ob (t_dg2 Hbdg2) (ob (t_dg4 Hbdg4) (ob (t_dg5 Hbdg5) (ob (t_or Hbor) (ob (t_e4 Hbe4) obn)))))) p0 p1 (oc (r_gr1 G1 Hrgr1) (oc (r_gr2 G2 Hrgr2) (oc (r_gr4 G4 Hrgr4) (oc (r_gr5 G5 Hrgr5) (oc (r_dy0 Hrdy0) (oc (r_ck1 z1 Hrck1) (oc (r_ck2 z2 Hrck2) (oc (r_dg1 z1) (oc (r_dg2 z2) (oc (r_sg1 z1 Hrsg1) (oc (r_ad0 z1 z2) (oc (r_sg10 z1 z2 Hrsg10) (oc (r_dy3 Hrdy3) (oc (r_ck4 z4 Hrck4) (oc (r_ck5 z5 Hrck5) (oc (r_dg4 z4) (oc (r_dg5 z5) (oc (r_sg4 z4 Hrsg4) (oc r_tp ocn))))))))))))))))))) ?_ hg ha
  rcases hg0 with rfl | rfl
  · exact run_b_e4_0
  · exact run_b_e4_1
theorem chk_two (v : ByteArray) : chk v = 1 ∨ chk v = 0 := by unfold chk; split; exact .inr rfl; exact .inl rfl
theorem cmpI_up {z : Int} (h : ¬ z < 0) : ∃ g, cmpI z 0 = g ∧ (g = 0 ∨ g = 1) := by
  unfold cmpI
  rw [if_neg h]
  split
  · exact ⟨0, rfl, .inl rfl⟩
  · exact ⟨1, rfl, .inr rfl⟩
theorem cmpI_down {z : Int} (h : z ≤ 0) : ∃ g, cmpI z 0 = g ∧ (g = 0 ∨ g = -1) := by
  unfold cmpI
  split
  · exact ⟨-1, rfl, .inr rfl⟩
  · exact ⟨0, by rw [if_pos (by omega)], .inl rfl⟩
theorem big_le {v : ByteArray} (h : big v = false) : v.size ≤ 60 := by unfold big at h; have := of_decide_eq_false h; omega
theorem chk_can0 {v : ByteArray} (h : chk v = 0) : v = canS (valS v) := by
  unfold chk at h
  split at h
  · assumption
  · cases h
theorem val_nil {v : ByteArray} (h : chk v = 0) (h4 : (v.toList == []) = true) : valS v = 0 := by
  rw [chk_can0 h, nil_eq] at h4
  exact of_decide_eq_true h4
theorem nil_val {v : ByteArray} (h : chk v = 0) (e : valS v = 0) : (v.toList == []) = true := by
  rw [chk_can0 h, nil_eq]
  exact decide_eq_true e
/-- THE LAW ON TWO POINTS -/
theorem law_two {p : Pd} (G1 : p.v0.size ≤ 9223372036854775807) (G2 : p.f0.size ≤ 9223372036854775807) (G4 : p.v1.size ≤ 9223372036854775807) (G5 : p.f1.size ≤ 9223372036854775807) (p0 : 0 ≤ p.pl) (p1 : p.pl < 256) {W : World} {bb : Nat} (hg : Gl W) (ha : At p W bb) : Two p W bb := by
  cases Hrgr1 : big p.v0 with
  | true => exact law_r_gr1 G1 G2 G4 G5 Hrgr1 p0 p1 hg ha
  | false =>
  cases Hrgr2 : big p.f0 with
  | true => exact law_r_gr2 G1 G2 G4 G5 Hrgr1 Hrgr2 p0 p1 hg ha
  | false =>
  cases Hrgr4 : big p.v1 with
  | true => exact law_r_gr4 G1 G2 G4 G5 Hrgr1 Hrgr2 Hrgr4 p0 p1 hg ha
  | false =>
  cases Hrgr5 : big p.f1 with
  | true => exact law_r_gr5 G1 G2 G4 G5 Hrgr1 Hrgr2 Hrgr4 Hrgr5 p0 p1 hg ha
  | false =>
  have z1 := big_le Hrgr1
  have z2 := big_le Hrgr2
  have z4 := big_le Hrgr4
  have z5 := big_le Hrgr5
  by_cases Ddy0 : notDay p.d0 = true
  · have Hrdy0 : (if notDay p.d0 = true then 13 else 0 : Int) = 13 := if_pos Ddy0
    exact law_r_dy0 G1 G2 G4 G5 z1 z2 z4 z5 Hrgr1 Hrgr2 Hrgr4 Hrgr5 Hrdy0 p0 p1 hg ha
  have Hrdy0 : (if notDay p.d0 = true then 13 else 0 : Int) = 0 := if_neg Ddy0
  rcases chk_two p.v0 with Hrck1 | Hrck1
  · skip
    exact law_r_ck1 G1 G2 G4 G5 z1 z2 z4 z5 Hrgr1 Hrgr2 Hrgr4 Hrgr5 Hrdy0 Hrck1 p0 p1 hg ha
  rcases chk_two p.f0 with Hrck2 | Hrck2
  · skip
    exact law_r_ck2 G1 G2 G4 G5 z1 z2 z4 z5 Hrgr1 Hrgr2 Hrgr4 Hrgr5 Hrdy0 Hrck1 Hrck2 p0 p1 hg ha
  cases Hbdg1 : decide (40 < dgN p.v0) with
  | true => exact law_b_dg1 G1 G2 G4 G5 z1 z2 z4 z5 Hrgr1 Hrgr2 Hrgr4 Hrgr5 Hrdy0 Hrck1 Hrck2 Hbdg1 p0 p1 hg ha
  | false =>
  cases Hbdg2 : decide (40 < dgN p.f0) with
  | true => exact law_b_dg2 G1 G2 G4 G5 z1 z2 z4 z5 Hrgr1 Hrgr2 Hrgr4 Hrgr5 Hrdy0 Hrck1 Hrck2 Hbdg1 Hbdg2 p0 p1 hg ha
  | false =>
  by_cases N1 : valS p.v0 < 0
  · have Hrsg1 : cmpI (valS p.v0) 0 = -1 := cmpI_neg N1
    exact law_r_sg1 G1 G2 G4 G5 z1 z2 z4 z5 Hrgr1 Hrgr2 Hrgr4 Hrgr5 Hrdy0 Hrck1 Hrck2 Hbdg1 Hbdg2 Hrsg1 p0 p1 hg ha
  obtain ⟨g0, Hrsg1, hg0⟩ : ∃ g0, cmpI (valS p.v0) 0 = g0 ∧ (g0 = 0 ∨ g0 = 1) := cmpI_up N1
  by_cases N10 : p.s ≤ 0
  · obtain ⟨g1', Hrsg10, hg1'⟩ : ∃ g1, cmpI p.s 0 = g1 ∧ (g1 = 0 ∨ g1 = -1) := cmpI_down N10
    exact law_r_sg10 G1 G2 G4 G5 z1 z2 z4 z5 Hrgr1 Hrgr2 Hrgr4 Hrgr5 Hrdy0 Hrck1 Hrck2 Hbdg1 Hbdg2 Hrsg1 Hrsg10 hg0 hg1' p0 p1 hg ha
  have Hrsg10 : cmpI p.s 0 = 1 := cmpI_pos (by omega)
  by_cases Ddy3 : notDay p.d1 = true
  · have Hrdy3 : (if notDay p.d1 = true then 13 else 0 : Int) = 13 := if_pos Ddy3
    exact law_r_dy3 G1 G2 G4 G5 z1 z2 z4 z5 Hrgr1 Hrgr2 Hrgr4 Hrgr5 Hrdy0 Hrck1 Hrck2 Hbdg1 Hbdg2 Hrsg1 Hrsg10 Hrdy3 hg0 p0 p1 hg ha
  have Hrdy3 : (if notDay p.d1 = true then 13 else 0 : Int) = 0 := if_neg Ddy3
  rcases chk_two p.v1 with Hrck4 | Hrck4
  · skip
    exact law_r_ck4 G1 G2 G4 G5 z1 z2 z4 z5 Hrgr1 Hrgr2 Hrgr4 Hrgr5 Hrdy0 Hrck1 Hrck2 Hbdg1 Hbdg2 Hrsg1 Hrsg10 Hrdy3 Hrck4 hg0 p0 p1 hg ha
  rcases chk_two p.f1 with Hrck5 | Hrck5
  · skip
    exact law_r_ck5 G1 G2 G4 G5 z1 z2 z4 z5 Hrgr1 Hrgr2 Hrgr4 Hrgr5 Hrdy0 Hrck1 Hrck2 Hbdg1 Hbdg2 Hrsg1 Hrsg10 Hrdy3 Hrck4 Hrck5 hg0 p0 p1 hg ha
  cases Hbdg4 : decide (40 < dgN p.v1) with
  | true => exact law_b_dg4 G1 G2 G4 G5 z1 z2 z4 z5 Hrgr1 Hrgr2 Hrgr4 Hrgr5 Hrdy0 Hrck1 Hrck2 Hbdg1 Hbdg2 Hrsg1 Hrsg10 Hrdy3 Hrck4 Hrck5 Hbdg4 hg0 p0 p1 hg ha
  | false =>
  cases Hbdg5 : decide (40 < dgN p.f1) with
  | true => exact law_b_dg5 G1 G2 G4 G5 z1 z2 z4 z5 Hrgr1 Hrgr2 Hrgr4 Hrgr5 Hrdy0 Hrck1 Hrck2 Hbdg1 Hbdg2 Hrsg1 Hrsg10 Hrdy3 Hrck4 Hrck5 Hbdg4 Hbdg5 hg0 p0 p1 hg ha
  | false =>
  cases Hbor : decide (p.d1 ≤ p.d0) with
  | true => exact law_b_or G1 G2 G4 G5 z1 z2 z4 z5 Hrgr1 Hrgr2 Hrgr4 Hrgr5 Hrdy0 Hrck1 Hrck2 Hbdg1 Hbdg2 Hrsg1 Hrsg10 Hrdy3 Hrck4 Hrck5 Hbdg4 Hbdg5 Hbor hg0 p0 p1 hg ha
  | false =>
  by_cases N4 : valS p.v1 < 0
  · have Hrsg4 : cmpI (valS p.v1) 0 = -1 := cmpI_neg N4
    exact law_r_sg4 G1 G2 G4 G5 z1 z2 z4 z5 Hrgr1 Hrgr2 Hrgr4 Hrgr5 Hrdy0 Hrck1 Hrck2 Hbdg1 Hbdg2 Hrsg1 Hrsg10 Hrdy3 Hrck4 Hrck5 Hbdg4 Hbdg5 Hbor Hrsg4 hg0 p0 p1 hg ha
  cases H4 : (p.v1.toList == []) with
  | true =>
    have hz : valS p.v1 = 0 := val_nil Hrck4 H4
    have Hrsg4 : cmpI (valS p.v1) 0 = 0 := by rw [hz]; rfl
    have Hbe4 := H4
    exact law_b_e4 G1 G2 G4 G5 z1 z2 z4 z5 Hrgr1 Hrgr2 Hrgr4 Hrgr5 Hrdy0 Hrck1 Hrck2 Hbdg1 Hbdg2 Hrsg1 Hrsg10 Hrdy3 Hrck4 Hrck5 Hbdg4 Hbdg5 Hbor Hrsg4 Hbe4 hg0 p0 p1 hg ha
  | false =>
    have hz : valS p.v1 ≠ 0 := fun e => by rw [nil_val Hrck4 e] at H4; cases H4
    refine law_good ⟨z1, z2, z4, z5, by simpa using Ddy0, by simpa using Ddy3, Hrck1, Hrck2, Hrck4, Hrck5, by simpa using Hbdg1, by simpa using Hbdg2, by simpa using Hbdg4, by simpa using Hbdg5, by simpa using Hbor, by omega, by omega, ?_, p0, p1⟩ H4 hg ha
    show 0 < valS p.v1
    omega
end Go.Proofs.YtahpbnmbphobgaaGreatDoor
