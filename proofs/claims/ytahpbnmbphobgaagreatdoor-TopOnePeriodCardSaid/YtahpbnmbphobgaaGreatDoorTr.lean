/- Returns over one period: the contracts of what is called, as rules. Condition: the library's table and error lie as the program's text lays them. -/
import Derived.Test.YtahpbnmbphobgaaGreatDoorTq
import Derived.Test.YtahpbnmbphobgaaGreatDoorT48
namespace Go.Proofs.YtahpbnmbphobgaaGreatDoor
open Go.RowKit Go.Shelf Dec QQ Go.Proofs.Q.Ev
set_option linter.unusedVariables false
set_option linter.unusedSimpArgs false
set_option linter.unusedSectionVars false

abbrev RO (p : Pd) (a : Nat) (f : FuncId) (args : List AV) (v : AV) : Prop := @RuleOK (sy p a) Tryz.prog Gl (f, args, v)
theorem ro {p : Pd} {a : Nat} {f : FuncId} {args : List AV} {v : AV} {vs : Array Value} {V : Value} (hf : (mkFI Tryz.prog f).isSome = true) (hcl : v.names = []) (h : Ret f vs V)
    (ha : ∀ E, (args.map (@conc (sy p a) E)).toArray = vs) (hv : ∀ E, @conc (sy p a) E v = V) : RO p a f args v := @rule_of (sy p a) Tryz.prog Gl mixed f args v vs V hf hcl h ha hv
theorem fit_s {p : Pd} (hz : p.v0.size ≤ 60) (hz2 : p.f0.size ≤ 60) : Fit 61 p.s := (Fit.val hz).add (Fit.val hz2)
theorem chkF_fr (q : Rat) : chkF (frN q) (frD q) = 0 := by unfold chkF; rw [if_pos ⟨by rw [ratV_fr], by rw [ratV_fr]⟩]
theorem cmpI_pos {z : Int} (h : 0 < z) : cmpI z 0 = 1 := by unfold cmpI; rw [if_neg (by omega), if_neg (by omega)]
theorem cmpI_neg {z : Int} (h : z < 0) : cmpI z 0 = -1 := by unfold cmpI; rw [if_pos h]
theorem cmpQ_pos {q : Rat} (h : 0 < q) : cmpQ q 0 = 1 := by unfold cmpQ; rw [if_neg (by grind), if_neg (by grind)]
theorem cmpQ_m1 {q : Rat} (h : q < 0) : cmpQ q 0 = -1 := cmpQ_m h
  where cmpQ_m {q : Rat} (h : q < 0) : cmpQ q 0 = -1 := by unfold cmpQ; rw [if_pos h]
theorem cmpQ_self (q : Rat) : cmpQ q q = 0 := by unfold cmpQ; rw [if_neg (by grind), if_pos rfl]
theorem FRint (z : Int) : FR (z : Rat) = .agg #[.string (canS z), .string ⟨#[]⟩] := by
  unfold FR frN frD
  rw [if_pos (show ((z : Rat)).den = 1 from rfl)]
  rfl
theorem FR0 : FR 0 = .agg #[.string ⟨#[]⟩, .string ⟨#[]⟩] := by unfold FR; rw [frN_zero, frD_zero]
theorem FRone : FR 1 = .agg #[.string ⟨#[49]⟩, .string ⟨#[]⟩] := by
  have := FRint 1
  rw [show canS 1 = ⟨#[49]⟩ by decide +kernel] at this
  exact this
theorem fit_zero : FitQ 1 (0 : Rat) := ⟨by decide, by decide⟩
theorem QZ : Vq ⟨#[]⟩ ⟨#[]⟩ 0 := by have := Vq.fr fit_zero (by omega); rw [frN_zero, frD_zero] at this; exact this
theorem Q1 : Vq ⟨#[49]⟩ ⟨#[]⟩ 1 := ⟨by decide +kernel, by decide, by decide⟩
theorem Qint {k : Nat} {z : Int} (h : Fit k z) (hk : 1 ≤ k) (hk2 : k ≤ 9000) : Vq (canS z) ⟨#[]⟩ (z : Rat) := by
  have := Vq.fr (FitQ.int h hk) (by omega)
  have e := FRint z
  unfold FR at e
  have e1 : frN (z : Rat) = canS z := rfl
  have e2 : frD (z : Rat) = ⟨#[]⟩ := by unfold frD; rw [if_pos (show ((z : Rat)).den = 1 from rfl)]
  rw [e1, e2] at this
  exact this
section
variable {p : Pd} (h : Good p)
include h
theorem Good.V1 : Vs p.v0 (valS p.v0) := Vs.arg (by have := h.z1; omega)
theorem Good.V2 : Vs p.f0 (valS p.f0) := Vs.arg (by have := h.z2; omega)
theorem Good.V4 : Vs p.v1 p.x := Vs.arg (by have := h.z4; omega)
theorem Good.V5 : Vs p.f1 (valS p.f1) := Vs.arg (by have := h.z5; omega)
theorem Good.fn : Fit 61 (-p.s) := by show (-p.s).natAbs < _; rw [Int.natAbs_neg]; exact h.fs
theorem Good.f24 : Fit 75 (p.q : Int) := h.a75 (by omega)
theorem Good.f27 : Fit 75 ((p.q + 1 : Nat) : Int) := h.a75 (by omega)
theorem Good.V10 : Vs (canS p.s) p.s := Vs.can h.fs (by omega)
theorem Good.V11 : Vs (canS (-p.s)) (-p.s) := Vs.can h.fn (by omega)
theorem Good.V9 : Vs (canS p.U) p.U := Vs.can h.fU (by omega)
theorem Good.V24 : Vs (canS p.q) p.q := Vs.can h.f24 (by omega)
theorem Good.V27 : Vs (canS (p.q + 1 : Nat)) ((p.q + 1 : Nat) : Int) := Vs.can h.f27 (by omega)
theorem Good.V61 {a : Nat} (ha : a ≤ 2 * p.q + 2) : Vs (canS a) a := Vs.can (h.a75 ha) (by omega)
theorem Good.S10 : (canS p.s).size ≤ 62 := size_canS h.fs
theorem Good.S11 : (canS (-p.s)).size ≤ 62 := size_canS h.fn
theorem Good.S9 : (canS p.U).size ≤ 14 := size_canS h.fU
theorem Good.S24 : (canS p.q).size ≤ 76 := size_canS h.f24
theorem Good.S27 : (canS (p.q + 1 : Nat)).size ≤ 76 := size_canS h.f27
theorem Good.S61 {a : Nat} (ha : a ≤ 2 * p.q + 2) : (canS a).size ≤ 76 := size_canS (h.a75 ha)
theorem Good.fL : FitQ 75 (p.fa p.q) := h.ffa (by omega)
theorem Good.fH : FitQ 75 (p.fa (p.q + 1)) := h.ffa (by omega)
theorem Good.QG : Vq (frN p.g) (frD p.g) p.g := Vq.fr h.fg (by omega)
theorem Good.QR : Vq (frN (p.g - 1)) (frD (p.g - 1)) (p.g - 1) := Vq.fr h.fgm (by omega)
theorem Good.QM : Vq (frN (p.g + 1)) (frD (p.g + 1)) (p.g + 1) := Vq.fr h.fg1 (by omega)
theorem Good.QL : Vq (frN (p.fa p.q)) (frD (p.fa p.q)) (p.fa p.q) := Vq.fr h.fL (by omega)
theorem Good.QH : Vq (frN (p.fa (p.q + 1))) (frD (p.fa (p.q + 1))) (p.fa (p.q + 1)) := Vq.fr h.fH (by omega)
theorem Good.QA {a : Nat} (ha : a ≤ 2 * p.q + 2) : Vq (frN (p.fa a)) (frD (p.fa a)) (p.fa a) := Vq.fr (h.ffa ha) (by omega)
theorem Good.can4 : canS p.x = p.v1 := by
  have := h.c4
  unfold chk at this
  split at this
  · rename_i e; exact e.symm
  · cases this
theorem Good.QN : Vq (canS (-p.s)) ⟨#[]⟩ ((-p.s : Int) : Rat) := Qint h.fn (by omega) (by omega)
theorem Good.QV : Vq p.v1 ⟨#[]⟩ (p.x : Rat) := by have := Qint h.fx (by omega) (by omega); rw [h.can4] at this; exact this
theorem Good.ev1neg : p.ev (p.g + 1) < 0 := by
  rw [h.evg1]
  have : ((-p.s : Int) : Rat) < ((0 : Int) : Rat) := Rat.intCast_lt_intCast.2 (by have := h.s0; omega)
  exact this
end
section
variable {p : Pd} {a : Nat}
theorem r_gr1 {b : Bool} (hz : p.v0.size ≤ 9223372036854775807) (hb : big p.v0 = b) : RO p a 15 [.sym 1] (.lit (.bool b)) := ro (by decide +kernel) rfl (by have := Gt60 hz; rw [hb] at this; exact this) (fun E => rfl) (fun E => rfl)
theorem r_ck1 {c : Int} (hz : p.v0.size ≤ 60) (hc : chk p.v0 = c) : RO p a 17 [.sym 1] (.lit (.int .i64 (c))) := ro (by decide +kernel) rfl (by have := rchkR (a := p.v0) (by omega); rw [hc] at this; exact this) (fun E => rfl) (fun E => rfl)
theorem r_dg1 (hz : p.v0.size ≤ 60) : RO p a 18 [.sym 1] (.sym 51) := ro (by decide +kernel) rfl (rdigN (a := p.v0) (by omega)) (fun E => rfl) (fun E => rfl)
theorem r_gr2 {b : Bool} (hz : p.f0.size ≤ 9223372036854775807) (hb : big p.f0 = b) : RO p a 15 [.sym 2] (.lit (.bool b)) := ro (by decide +kernel) rfl (by have := Gt60 hz; rw [hb] at this; exact this) (fun E => rfl) (fun E => rfl)
theorem r_ck2 {c : Int} (hz : p.f0.size ≤ 60) (hc : chk p.f0 = c) : RO p a 17 [.sym 2] (.lit (.int .i64 (c))) := ro (by decide +kernel) rfl (by have := rchkR (a := p.f0) (by omega); rw [hc] at this; exact this) (fun E => rfl) (fun E => rfl)
theorem r_dg2 (hz : p.f0.size ≤ 60) : RO p a 18 [.sym 2] (.sym 52) := ro (by decide +kernel) rfl (rdigN (a := p.f0) (by omega)) (fun E => rfl) (fun E => rfl)
theorem r_gr4 {b : Bool} (hz : p.v1.size ≤ 9223372036854775807) (hb : big p.v1 = b) : RO p a 15 [.sym 4] (.lit (.bool b)) := ro (by decide +kernel) rfl (by have := Gt60 hz; rw [hb] at this; exact this) (fun E => rfl) (fun E => rfl)
theorem r_ck4 {c : Int} (hz : p.v1.size ≤ 60) (hc : chk p.v1 = c) : RO p a 17 [.sym 4] (.lit (.int .i64 (c))) := ro (by decide +kernel) rfl (by have := rchkR (a := p.v1) (by omega); rw [hc] at this; exact this) (fun E => rfl) (fun E => rfl)
theorem r_dg4 (hz : p.v1.size ≤ 60) : RO p a 18 [.sym 4] (.sym 54) := ro (by decide +kernel) rfl (rdigN (a := p.v1) (by omega)) (fun E => rfl) (fun E => rfl)
theorem r_gr5 {b : Bool} (hz : p.f1.size ≤ 9223372036854775807) (hb : big p.f1 = b) : RO p a 15 [.sym 5] (.lit (.bool b)) := ro (by decide +kernel) rfl (by have := Gt60 hz; rw [hb] at this; exact this) (fun E => rfl) (fun E => rfl)
theorem r_ck5 {c : Int} (hz : p.f1.size ≤ 60) (hc : chk p.f1 = c) : RO p a 17 [.sym 5] (.lit (.int .i64 (c))) := ro (by decide +kernel) rfl (by have := rchkR (a := p.f1) (by omega); rw [hc] at this; exact this) (fun E => rfl) (fun E => rfl)
theorem r_dg5 (hz : p.f1.size ≤ 60) : RO p a 18 [.sym 5] (.sym 55) := ro (by decide +kernel) rfl (rdigN (a := p.f1) (by omega)) (fun E => rfl) (fun E => rfl)
theorem r_dy0 {e : Int} (he : (if notDay p.d0 = true then 13 else 0 : Int) = e) : RO p a 16 [.sym 0] (.lit (.int .i64 (e))) := ro (by decide +kernel) rfl (by have := rdcheck_any p.d0; rw [he] at this; exact this) (fun E => rfl) (fun E => rfl)
theorem r_dy3 {e : Int} (he : (if notDay p.d1 = true then 13 else 0 : Int) = e) : RO p a 16 [.sym 3] (.lit (.int .i64 (e))) := ro (by decide +kernel) rfl (by have := rdcheck_any p.d1; rw [he] at this; exact this) (fun E => rfl) (fun E => rfl)
theorem r_sg1 {c : Int} (hz : p.v0.size ≤ 60) (hc : cmpI (valS p.v0) 0 = c) : RO p a 19 [.sym 1] (.lit (.int .i64 (c))) := ro (by decide +kernel) rfl (by have := rsignR (a := p.v0) (by omega); rw [hc] at this; exact this) (fun E => rfl) (fun E => rfl)
theorem r_sg4 {c : Int} (hz : p.v1.size ≤ 60) (hc : cmpI (valS p.v1) 0 = c) : RO p a 19 [.sym 4] (.lit (.int .i64 (c))) := ro (by decide +kernel) rfl (by have := rsignR (a := p.v1) (by omega); rw [hc] at this; exact this) (fun E => rfl) (fun E => rfl)
theorem r_ad0 (hz : p.v0.size ≤ 60) (hz2 : p.f0.size ≤ 60) : RO p a 20 [.sym 1, .sym 2] (.sym 10) := ro (by decide +kernel) rfl (rAddR (a := p.v0) (b := p.f0) (by omega) (by omega)) (fun E => rfl) (fun E => rfl)
theorem r_sg10 {c : Int} (hz : p.v0.size ≤ 60) (hz2 : p.f0.size ≤ 60) (hc : cmpI p.s 0 = c) : RO p a 19 [.sym 10] (.lit (.int .i64 (c))) := ro (by decide +kernel) rfl (by have := rsignR (a := canS p.s) (by have := (fit_s hz hz2).size; omega); rw [valS_canS, hc] at this; exact this) (fun E => rfl) (fun E => rfl)
theorem r_tp  : RO p a 6 [] (.lit (.bool true)) := ro (by decide +kernel) rfl (top48R) (fun E => rfl) (fun E => rfl)
theorem r_aw  : RO p a 14 [] (.lit (.bool true)) := ro (by decide +kernel) rfl (Aw44) (fun E => rfl) (fun E => rfl)
theorem r_ic1 (h : Good p)  : RO p a 60 [.sym 1] (.lit (.int .i64 (0))) := ro (by decide +kernel) rfl (by have := ChkR (a := p.v0) (by have := h.z1; omega); rw [h.c1] at this; exact this) (fun E => rfl) (fun E => rfl)
theorem r_lg1 (h : Good p)  : RO p a 61 [.sym 1] (.lit (.bool false)) := ro (by decide +kernel) rfl (by have := longN (a := p.v0) (by have := h.z1; omega); rw [decide_eq_false (by have := h.l1; omega)] at this; exact this) (fun E => rfl) (fun E => rfl)
theorem r_ic2 (h : Good p)  : RO p a 60 [.sym 2] (.lit (.int .i64 (0))) := ro (by decide +kernel) rfl (by have := ChkR (a := p.f0) (by have := h.z2; omega); rw [h.c2] at this; exact this) (fun E => rfl) (fun E => rfl)
theorem r_lg2 (h : Good p)  : RO p a 61 [.sym 2] (.lit (.bool false)) := ro (by decide +kernel) rfl (by have := longN (a := p.f0) (by have := h.z2; omega); rw [decide_eq_false (by have := h.l2; omega)] at this; exact this) (fun E => rfl) (fun E => rfl)
theorem r_ic4 (h : Good p)  : RO p a 60 [.sym 4] (.lit (.int .i64 (0))) := ro (by decide +kernel) rfl (by have := ChkR (a := p.v1) (by have := h.z4; omega); rw [h.c4] at this; exact this) (fun E => rfl) (fun E => rfl)
theorem r_lg4 (h : Good p)  : RO p a 61 [.sym 4] (.lit (.bool false)) := ro (by decide +kernel) rfl (by have := longN (a := p.v1) (by have := h.z4; omega); rw [decide_eq_false (by have := h.l4; omega)] at this; exact this) (fun E => rfl) (fun E => rfl)
theorem r_ic5 (h : Good p)  : RO p a 60 [.sym 5] (.lit (.int .i64 (0))) := ro (by decide +kernel) rfl (by have := ChkR (a := p.f1) (by have := h.z5; omega); rw [h.c5] at this; exact this) (fun E => rfl) (fun E => rfl)
theorem r_lg5 (h : Good p)  : RO p a 61 [.sym 5] (.lit (.bool false)) := ro (by decide +kernel) rfl (by have := longN (a := p.f1) (by have := h.z5; omega); rw [decide_eq_false (by have := h.l5; omega)] at this; exact this) (fun E => rfl) (fun E => rfl)
theorem r_ic11 (h : Good p)  : RO p a 60 [.sym 11] (.lit (.int .i64 (0))) := ro (by decide +kernel) rfl (by have := ChkR (a := canS (-p.s)) (by have := h.V11.2; omega); rw [chk_can] at this; exact this) (fun E => rfl) (fun E => rfl)
theorem r_cp1 (h : Good p) {c : Int} (hc : cmpI (valS p.v0) 0 = c) : RO p a 41 [.sym 1, .lit (.string ⟨#[]⟩)] (.lit (.int .i64 (c))) := ro (by decide +kernel) rfl (by have := CmpR h.V1 Vs.nil; rw [hc] at this; exact this) (fun E => rfl) (fun E => rfl)
theorem r_cp10 (h : Good p)  : RO p a 41 [.sym 10, .lit (.string ⟨#[]⟩)] (.lit (.int .i64 (1))) := ro (by decide +kernel) rfl (by have := CmpR h.V10 Vs.nil; rw [cmpI_pos h.s0] at this; exact this) (fun E => rfl) (fun E => rfl)
theorem r_cp4 (h : Good p)  : RO p a 41 [.sym 4, .lit (.string ⟨#[]⟩)] (.lit (.int .i64 (1))) := ro (by decide +kernel) rfl (by have := CmpR h.V4 Vs.nil; rw [cmpI_pos h.x1] at this; exact this) (fun E => rfl) (fun E => rfl)
theorem r_cp11 (h : Good p)  : RO p a 41 [.sym 11, .lit (.string ⟨#[]⟩)] (.lit (.int .i64 (-1))) := ro (by decide +kernel) rfl (by have := CmpR h.V11 Vs.nil; rw [cmpI_neg (by have := h.s0; omega)] at this; exact this) (fun E => rfl) (fun E => rfl)
theorem r_ad (h : Good p)  : RO p a 28 [.sym 1, .sym 2] (.sym 10) := ro (by decide +kernel) rfl (AddR h.V1 h.V2) (fun E => rfl) (fun E => rfl)
theorem r_ng2 (h : Good p)  : RO p a 27 [.sym 2] (.sym 41) := ro (by decide +kernel) rfl (NegR h.V2) (fun E => rfl) (fun E => rfl)
theorem r_ng5 (h : Good p)  : RO p a 27 [.sym 5] (.sym 42) := ro (by decide +kernel) rfl (NegR h.V5) (fun E => rfl) (fun E => rfl)
theorem r_ng10 (h : Good p)  : RO p a 27 [.sym 10] (.sym 11) := ro (by decide +kernel) rfl (NegR h.V10) (fun E => rfl) (fun E => rfl)
theorem r_of0 (h : Good p)  : RO p a 71 [.lit (.int .i64 (0))] (.lit (.string ⟨#[]⟩)) := ro (by decide +kernel) rfl (by have := OfR (n := 0) (by omega) (by omega); rw [show canS 0 = ⟨#[]⟩ by decide +kernel] at this; exact this) (fun E => rfl) (fun E => rfl)
theorem r_of1 (h : Good p)  : RO p a 71 [.lit (.int .i64 (1))] (.lit (.string ⟨#[49]⟩)) := ro (by decide +kernel) rfl (by have := OfR (n := 1) (by omega) (by omega); rw [show canS 1 = ⟨#[49]⟩ by decide +kernel] at this; exact this) (fun E => rfl) (fun E => rfl)
theorem r_az11 (h : Good p)  : RO p a 28 [.lit (.string ⟨#[]⟩), .sym 11] (.sym 11) := ro (by decide +kernel) rfl (by have := AddR Vs.nil h.V11; rw [Int.zero_add] at this; exact this) (fun E => rfl) (fun E => rfl)
theorem r_az4 (h : Good p)  : RO p a 28 [.lit (.string ⟨#[]⟩), .sym 4] (.sym 4) := ro (by decide +kernel) rfl (by have := AddR Vs.nil h.V4; rw [Int.zero_add, h.can4] at this; exact this) (fun E => rfl) (fun E => rfl)
theorem r_pw (h : Good p)  : RO p a 31 [.lit (.string ⟨#[49, 48]⟩), .sym 8] (.tup [.sym 9, .lit (.int .i64 (0))]) := ro (by decide +kernel) rfl (by have := PowR (a := ⟨#[49, 48]⟩) (x := 10) ⟨by decide +kernel, by decide⟩ (n := p.k) (by have := h.k12; omega); rw [h.kk] at this; exact this) (fun E => rfl) (fun E => rfl)
theorem r_fo1 (h : Good p)  : RO p a 11 [.lit (.string ⟨#[49]⟩)] (.agg [.lit (.string ⟨#[49]⟩), .lit (.string ⟨#[]⟩)]) := ro (by decide +kernel) rfl (by have := OfF (a := ⟨#[49]⟩) (x := 1) ⟨by decide +kernel, by decide⟩ (by decide); rw [FRint, show canS 1 = ⟨#[49]⟩ by decide +kernel] at this; exact this) (fun E => rfl) (fun E => rfl)
theorem r_nwg (h : Good p)  : RO p a 33 [.sym 4, .sym 10] (.tup [.agg [.sym 12, .sym 13], .lit (.int .i64 (0))]) := ro (by decide +kernel) rfl (NewF h.V4 h.V10 (by have := h.z4; omega) (by have := h.S10; omega) (by have := h.s0; omega)) (fun E => rfl) (fun E => rfl)
theorem r_ml1 (h : Good p)  : RO p a 63 [.agg [.lit (.string ⟨#[49]⟩), .lit (.string ⟨#[]⟩)], .agg [.sym 12, .sym 13]] (.agg [.sym 12, .sym 13]) := ro (by decide +kernel) rfl (by have := MulF Q1 h.QG; rw [Rat.one_mul] at this; exact this) (fun E => rfl) (fun E => rfl)
theorem r_sbg (h : Good p)  : RO p a 24 [.agg [.sym 12, .sym 13], .agg [.lit (.string ⟨#[49]⟩), .lit (.string ⟨#[]⟩)]] (.agg [.sym 14, .sym 15]) := ro (by decide +kernel) rfl (SubF h.QG Q1) (fun E => rfl) (fun E => rfl)
theorem r_adr (h : Good p)  : RO p a 10 [.agg [.sym 14, .sym 15], .agg [.lit (.string ⟨#[49]⟩), .lit (.string ⟨#[]⟩)]] (.agg [.sym 12, .sym 13]) := ro (by decide +kernel) rfl (by have := AddF h.QR Q1; rw [show p.g - 1 + 1 = p.g by grind] at this; exact this) (fun E => rfl) (fun E => rfl)
theorem r_adg (h : Good p)  : RO p a 10 [.agg [.sym 12, .sym 13], .agg [.lit (.string ⟨#[49]⟩), .lit (.string ⟨#[]⟩)]] (.agg [.sym 16, .sym 17]) := ro (by decide +kernel) rfl (AddF h.QG Q1) (fun E => rfl) (fun E => rfl)
theorem r_mzz (h : Good p)  : RO p a 63 [.agg [.lit (.string ⟨#[]⟩), .lit (.string ⟨#[]⟩)], .agg [.lit (.string ⟨#[49]⟩), .lit (.string ⟨#[]⟩)]] (.agg [.lit (.string ⟨#[]⟩), .lit (.string ⟨#[]⟩)]) := ro (by decide +kernel) rfl (by have := MulF QZ Q1; rw [Rat.zero_mul] at this; exact this) (fun E => rfl) (fun E => FR0.symm)
theorem r_fo11 (h : Good p)  : RO p a 11 [.sym 11] (.agg [.sym 11, .lit (.string ⟨#[]⟩)]) := ro (by decide +kernel) rfl (OfF h.V11 (by have := h.S11; omega)) (fun E => rfl) (fun E => (FRint _).symm)
theorem r_fo4 (h : Good p)  : RO p a 11 [.sym 4] (.agg [.sym 4, .lit (.string ⟨#[]⟩)]) := ro (by decide +kernel) rfl (by have := OfF h.V4 (by have := h.z4; omega); rw [FRint, h.can4] at this; exact this) (fun E => rfl) (fun E => rfl)
theorem r_azn (h : Good p)  : RO p a 10 [.agg [.lit (.string ⟨#[]⟩), .lit (.string ⟨#[]⟩)], .agg [.sym 11, .lit (.string ⟨#[]⟩)]] (.agg [.sym 11, .lit (.string ⟨#[]⟩)]) := ro (by decide +kernel) rfl (by have := AddF QZ h.QN; rw [Rat.zero_add] at this; exact this) (fun E => rfl) (fun E => (FRint _).symm)
theorem r_p0A (h : Good p) (ha : a ≤ 2 * p.q + 2) : RO p a 119 [.agg [.sym 62, .sym 63], .lit (.int .i64 (0))] (.tup [.agg [.lit (.string ⟨#[49]⟩), .lit (.string ⟨#[]⟩)], .lit (.int .i64 (0))]) := ro (by decide +kernel) rfl (by have := PowF (k := 0) (r := 1) (h.QA ha) (h.ffa ha) (by omega) (by omega) (by simp [rat_one]); rw [FRone] at this; exact this) (fun E => rfl) (fun E => rfl)
theorem r_p1A (h : Good p) (ha : a ≤ 2 * p.q + 2) : RO p a 119 [.agg [.sym 62, .sym 63], .lit (.int .i64 (1))] (.tup [.agg [.sym 62, .sym 63], .lit (.int .i64 (0))]) := ro (by decide +kernel) rfl (PowF (k := 1) (h.QA ha) (h.ffa ha) (by omega) (by omega) (by rw [pow1, pow1, rat_num_den])) (fun E => rfl) (fun E => rfl)
theorem r_mmA (h : Good p) (ha : a ≤ 2 * p.q + 2) : RO p a 63 [.agg [.sym 11, .lit (.string ⟨#[]⟩)], .agg [.sym 62, .sym 63]] (.agg [.sym 64, .sym 65]) := ro (by decide +kernel) rfl (MulF h.QN (h.QA ha)) (fun E => rfl) (fun E => rfl)
theorem r_avA (h : Good p) (ha : a ≤ 2 * p.q + 2) : RO p a 10 [.agg [.sym 64, .sym 65], .agg [.sym 4, .lit (.string ⟨#[]⟩)]] (.agg [.sym 66, .sym 67]) := ro (by decide +kernel) rfl (AddF (Vq.fr (h.fm (h.ffa ha)) (by omega)) h.QV) (fun E => rfl) (fun E => rfl)
theorem r_cvA (h : Good p) (ha : a ≤ 2 * p.q + 2) {c : Int} (hc : cmpQ (p.ev (p.fa a)) 0 = c) : RO p a 12 [.agg [.sym 66, .sym 67], .agg [.lit (.string ⟨#[]⟩), .lit (.string ⟨#[]⟩)]] (.lit (.int .i64 (c))) := ro (by decide +kernel) rfl (by have := CmpF (Vq.fr (h.fev (h.ffa ha)) (by omega)) QZ ((h.fev (h.ffa ha)).sub fit_zero) (by omega); rw [hc] at this; exact this) (fun E => rfl) (fun E => rfl)
theorem r_nwA (h : Good p) (ha : a ≤ 2 * p.q + 2) : RO p a 33 [.sym 61, .sym 9] (.tup [.agg [.sym 62, .sym 63], .lit (.int .i64 (0))]) := ro (by decide +kernel) rfl (NewF (h.V61 ha) h.V9 (by have := h.S61 ha; omega) (by have := h.S9; omega) (by have := h.U0; omega)) (fun E => rfl) (fun E => rfl)
theorem r_p0L (h : Good p)  : RO p a 119 [.agg [.sym 25, .sym 26], .lit (.int .i64 (0))] (.tup [.agg [.lit (.string ⟨#[49]⟩), .lit (.string ⟨#[]⟩)], .lit (.int .i64 (0))]) := ro (by decide +kernel) rfl (by have := PowF (k := 0) (r := 1) (h.QL) (h.fL) (by omega) (by omega) (by simp [rat_one]); rw [FRone] at this; exact this) (fun E => rfl) (fun E => rfl)
theorem r_p1L (h : Good p)  : RO p a 119 [.agg [.sym 25, .sym 26], .lit (.int .i64 (1))] (.tup [.agg [.sym 25, .sym 26], .lit (.int .i64 (0))]) := ro (by decide +kernel) rfl (PowF (k := 1) (h.QL) (h.fL) (by omega) (by omega) (by rw [pow1, pow1, rat_num_den])) (fun E => rfl) (fun E => rfl)
theorem r_mmL (h : Good p)  : RO p a 63 [.agg [.sym 11, .lit (.string ⟨#[]⟩)], .agg [.sym 25, .sym 26]] (.agg [.sym 32, .sym 33]) := ro (by decide +kernel) rfl (MulF h.QN (h.QL)) (fun E => rfl) (fun E => rfl)
theorem r_avL (h : Good p)  : RO p a 10 [.agg [.sym 32, .sym 33], .agg [.sym 4, .lit (.string ⟨#[]⟩)]] (.agg [.sym 30, .sym 31]) := ro (by decide +kernel) rfl (AddF (Vq.fr (h.fm h.fL) (by omega)) h.QV) (fun E => rfl) (fun E => rfl)
theorem r_cvL (h : Good p) {c : Int} (hc : cmpQ (p.ev (p.fa p.q)) 0 = c) : RO p a 12 [.agg [.sym 30, .sym 31], .agg [.lit (.string ⟨#[]⟩), .lit (.string ⟨#[]⟩)]] (.lit (.int .i64 (c))) := ro (by decide +kernel) rfl (by have := CmpF (Vq.fr (h.fev h.fL) (by omega)) QZ ((h.fev h.fL).sub fit_zero) (by omega); rw [hc] at this; exact this) (fun E => rfl) (fun E => rfl)
theorem r_nwL (h : Good p)  : RO p a 33 [.sym 24, .sym 9] (.tup [.agg [.sym 25, .sym 26], .lit (.int .i64 (0))]) := ro (by decide +kernel) rfl (NewF h.V24 h.V9 (by have := h.S24; omega) (by have := h.S9; omega) (by have := h.U0; omega)) (fun E => rfl) (fun E => rfl)
theorem r_aq (h : Good p)  : RO p a 28 [.sym 24, .lit (.string ⟨#[49]⟩)] (.sym 27) := ro (by decide +kernel) rfl (AddR h.V24 (b := ⟨#[49]⟩) (y := 1) ⟨by decide +kernel, by decide⟩) (fun E => rfl) (fun E => rfl)
theorem r_nwH (h : Good p)  : RO p a 33 [.sym 27, .sym 9] (.tup [.agg [.sym 28, .sym 29], .lit (.int .i64 (0))]) := ro (by decide +kernel) rfl (NewF h.V27 h.V9 (by have := h.S27; omega) (by have := h.S9; omega) (by have := h.U0; omega)) (fun E => rfl) (fun E => rfl)
theorem r_cLG (h : Good p) {c : Int} (hc : cmpQ (p.fa p.q) p.g = c) : RO p a 12 [.agg [.sym 25, .sym 26], .agg [.sym 12, .sym 13]] (.lit (.int .i64 (c))) := ro (by decide +kernel) rfl (by have := CmpF h.QL h.QG (h.fL.sub h.fg) (by omega); rw [hc] at this; exact this) (fun E => rfl) (fun E => rfl)
theorem r_cGL (h : Good p) {c : Int} (hc : cmpQ p.g (p.fa p.q) = c) : RO p a 12 [.agg [.sym 12, .sym 13], .agg [.sym 25, .sym 26]] (.lit (.int .i64 (c))) := ro (by decide +kernel) rfl (by have := CmpF h.QG h.QL (h.fg.sub h.fL) (by omega); rw [hc] at this; exact this) (fun E => rfl) (fun E => rfl)
theorem r_cGH (h : Good p)  : RO p a 12 [.agg [.sym 12, .sym 13], .agg [.sym 28, .sym 29]] (.lit (.int .i64 (-1))) := ro (by decide +kernel) rfl (by have := CmpF h.QG h.QH (h.fg.sub h.fH) (by omega); rw [h.cmpg, if_pos h.qs.2] at this; exact this) (fun E => rfl) (fun E => rfl)
theorem r_kG (h : Good p)  : RO p a 42 [.agg [.sym 12, .sym 13]] (.lit (.int .i64 (0))) := ro (by decide +kernel) rfl (by have := ChkF h.QG.2.1 h.QG.2.2; rw [chkF_fr] at this; exact this) (fun E => rfl) (fun E => rfl)
theorem r_kM (h : Good p)  : RO p a 42 [.agg [.sym 16, .sym 17]] (.lit (.int .i64 (0))) := ro (by decide +kernel) rfl (by have := ChkF h.QM.2.1 h.QM.2.2; rw [chkF_fr] at this; exact this) (fun E => rfl) (fun E => rfl)
theorem r_cGZ (h : Good p)  : RO p a 12 [.agg [.sym 12, .sym 13], .agg [.lit (.string ⟨#[]⟩), .lit (.string ⟨#[]⟩)]] (.lit (.int .i64 (1))) := ro (by decide +kernel) rfl (by have := CmpF h.QG QZ (h.fg.sub fit_zero) (by omega); rw [cmpQ_pos h.gpos.1] at this; exact this) (fun E => rfl) (fun E => rfl)
theorem r_cMZ (h : Good p)  : RO p a 12 [.agg [.sym 16, .sym 17], .agg [.lit (.string ⟨#[]⟩), .lit (.string ⟨#[]⟩)]] (.lit (.int .i64 (1))) := ro (by decide +kernel) rfl (by have := CmpF h.QM QZ (h.fg1.sub fit_zero) (by omega); rw [cmpQ_pos h.gpos.2] at this; exact this) (fun E => rfl) (fun E => rfl)
theorem r_cGG (h : Good p)  : RO p a 12 [.agg [.sym 12, .sym 13], .agg [.sym 12, .sym 13]] (.lit (.int .i64 (0))) := ro (by decide +kernel) rfl (by have := CmpF h.QG h.QG (h.fg.sub h.fg) (by omega); rw [cmpQ_self] at this; exact this) (fun E => rfl) (fun E => rfl)
theorem r_cMM (h : Good p)  : RO p a 12 [.agg [.sym 16, .sym 17], .agg [.sym 16, .sym 17]] (.lit (.int .i64 (0))) := ro (by decide +kernel) rfl (by have := CmpF h.QM h.QM (h.fg1.sub h.fg1) (by omega); rw [cmpQ_self] at this; exact this) (fun E => rfl) (fun E => rfl)
theorem r_p0G (h : Good p)  : RO p a 119 [.agg [.sym 12, .sym 13], .lit (.int .i64 (0))] (.tup [.agg [.lit (.string ⟨#[49]⟩), .lit (.string ⟨#[]⟩)], .lit (.int .i64 (0))]) := ro (by decide +kernel) rfl (by have := PowF (k := 0) (r := 1) (h.QG) (h.fg) (by omega) (by omega) (by simp [rat_one]); rw [FRone] at this; exact this) (fun E => rfl) (fun E => rfl)
theorem r_p1G (h : Good p)  : RO p a 119 [.agg [.sym 12, .sym 13], .lit (.int .i64 (1))] (.tup [.agg [.sym 12, .sym 13], .lit (.int .i64 (0))]) := ro (by decide +kernel) rfl (PowF (k := 1) (h.QG) (h.fg) (by omega) (by omega) (by rw [pow1, pow1, rat_num_den])) (fun E => rfl) (fun E => rfl)
theorem r_mmG (h : Good p)  : RO p a 63 [.agg [.sym 11, .lit (.string ⟨#[]⟩)], .agg [.sym 12, .sym 13]] (.agg [.sym 34, .sym 35]) := ro (by decide +kernel) rfl (MulF h.QN (h.QG)) (fun E => rfl) (fun E => rfl)
theorem r_avG (h : Good p)  : RO p a 10 [.agg [.sym 34, .sym 35], .agg [.sym 4, .lit (.string ⟨#[]⟩)]] (.agg [.lit (.string ⟨#[]⟩), .lit (.string ⟨#[]⟩)]) := ro (by decide +kernel) rfl (by have := AddF (Vq.fr (h.fm h.fg) (by omega)) h.QV; rw [show p.m p.g + (p.x : Rat) = 0 from h.evg] at this; exact this) (fun E => rfl) (fun E => FR0.symm)
theorem r_cZZ (h : Good p)  : RO p a 12 [.agg [.lit (.string ⟨#[]⟩), .lit (.string ⟨#[]⟩)], .agg [.lit (.string ⟨#[]⟩), .lit (.string ⟨#[]⟩)]] (.lit (.int .i64 (0))) := ro (by decide +kernel) rfl (by have := CmpF QZ QZ (fit_zero.sub fit_zero) (by omega); rw [cmpQ_self] at this; exact this) (fun E => rfl) (fun E => rfl)
theorem r_p0M (h : Good p)  : RO p a 119 [.agg [.sym 16, .sym 17], .lit (.int .i64 (0))] (.tup [.agg [.lit (.string ⟨#[49]⟩), .lit (.string ⟨#[]⟩)], .lit (.int .i64 (0))]) := ro (by decide +kernel) rfl (by have := PowF (k := 0) (r := 1) (h.QM) (h.fg1) (by omega) (by omega) (by simp [rat_one]); rw [FRone] at this; exact this) (fun E => rfl) (fun E => rfl)
theorem r_p1M (h : Good p)  : RO p a 119 [.agg [.sym 16, .sym 17], .lit (.int .i64 (1))] (.tup [.agg [.sym 16, .sym 17], .lit (.int .i64 (0))]) := ro (by decide +kernel) rfl (PowF (k := 1) (h.QM) (h.fg1) (by omega) (by omega) (by rw [pow1, pow1, rat_num_den])) (fun E => rfl) (fun E => rfl)
theorem r_mmM (h : Good p)  : RO p a 63 [.agg [.sym 11, .lit (.string ⟨#[]⟩)], .agg [.sym 16, .sym 17]] (.agg [.sym 36, .sym 37]) := ro (by decide +kernel) rfl (MulF h.QN (h.QM)) (fun E => rfl) (fun E => rfl)
theorem r_avM (h : Good p)  : RO p a 10 [.agg [.sym 36, .sym 37], .agg [.sym 4, .lit (.string ⟨#[]⟩)]] (.agg [.sym 38, .sym 39]) := ro (by decide +kernel) rfl (AddF (Vq.fr (h.fm h.fg1) (by omega)) h.QV) (fun E => rfl) (fun E => rfl)
theorem r_cvM (h : Good p)  : RO p a 12 [.agg [.sym 38, .sym 39], .agg [.lit (.string ⟨#[]⟩), .lit (.string ⟨#[]⟩)]] (.lit (.int .i64 (-1))) := ro (by decide +kernel) rfl (by have := CmpF (Vq.fr (h.fev h.fg1) (by omega)) QZ ((h.fev h.fg1).sub fit_zero) (by omega); rw [cmpQ_m1 h.ev1neg] at this; exact this) (fun E => rfl) (fun E => rfl)
end
end Go.Proofs.YtahpbnmbphobgaaGreatDoor
