/- Fees: the iterator over the charges of a series. Conditions: up to eight points with numbers of up to 13 bytes. -/
import Derived.Deep.RegionHeld3
import Derived.RangeFuncNested
import Derived.RangeFuncBound
import Derived.RangeFuncCalls
import Derived.RangeFuncLeaves
import Derived.Shelf.Abstract
import Derived.Shelf.RegionOpen
import Derived.OwnWalkIn
import Derived.TacticsInMore
import Derived.LoopNIn
import Derived.LoopIn
import Derived.Sort.LoopGhostIn
import Derived.Test.YticfdeaphiifeaaGreatDoorFe13
import Derived.Test.YticfdeaphiifeaaGreatDoorGr
set_option maxHeartbeats 4000000
set_option maxRecDepth 100000
namespace Go.Proofs.YticfdeaphiifeaaGreatDoor
open Go.RowKit Go.Shelf Dec QQ
theorem fecS {w : World} {t u x y : Nat} {T U X Y : Array Value} {v0 v1 v2 v3 v4 v5 v6 v7 : Value} (h1 : Bx w t T) (h2 : Bx w u U) (h3 : Bx w x X) (h4 : Bx w y Y) (e0 : T[0]? = some v0) (e1 : T[1]? = some v1) (e2 : T[2]? = some v2) (e3 : T[3]? = some v3) (e4 : T[4]? = some v4) (e5 : U[0]? = some v5) (e6 : X[1]? = some v6) (e7 : Y[1]? = some v7) :
  w.cell? ⟨t, 0, none⟩ = some v0 ∧ w.cell? ⟨t, 1, none⟩ = some v1 ∧ w.cell? ⟨t, 2, none⟩ = some v2 ∧ w.cell? ⟨t, 3, none⟩ = some v3 ∧ w.cell? ⟨t, 4, none⟩ = some v4 ∧ w.cell? ⟨u, 0, none⟩ = some v5 ∧ w.cell? ⟨x, 1, none⟩ = some v6 ∧ w.cell? ⟨y, 1, none⟩ = some v7 :=
 ⟨h1.cell e0, h1.cell e1, h1.cell e2, h1.cell e3, h1.cell e4, h2.cell e5, h3.cell e6, h4.cell e7⟩
attribute [local go_sem] Oper.semAt_some
theorem ptcells_len45 (c : PtS) : (ptcells c).length = 3 := rfl
def chVal (c : ChS) : Value := .agg #[.int .i64 c.day, .string c.mg, .string c.pf, .string c.mn, .string c.md]
def FewPt (L : List PtS) : Prop := L.length ≤ 8 ∧ ∀ p ∈ L, p.v.size ≤ 13 ∧ p.f.size ≤ 13
structure RunOk (T : TermS) (u : ByteArray) (mk : Rat) (L : List PtS) : Prop where
 t : T.le 13
 us : u.size ≤ 13
 up : 0 < valS u
 few : FewPt L
 mf : FitQ 900 mk
theorem pfM_fit {v : Int} {p : Rat} {u : Int} {mk : Rat} {km : Nat} (hv : Fit 41 v) (hp : FitQ 13 p) (hu : Fit 13 u) (hk : FitQ km mk) (hk1 : 1 ≤ km) : FitQ (km + 100) (pfM v p u mk) := by
 have fv : FitQ 41 (v : Rat) := FitQ.int hv (by omega)
 have fu : FitQ 13 (u : Rat) := FitQ.int hu (by omega)
 have fo := hp.mul (fv.sub (hk.mul fu))
 have fX : Fit (13 + (41 + (km + 13) + 1) + 1) (pfI v p u mk) := by
  unfold pfI
  split
  ·exact rnd_fit 1 fo
  ·exact Nat.pow_pos (show 0 < 10 by decide)
 have fR := Fit.subI hv fX (by omega)
 unfold pfM
 split
 ·exact (FitQ.rat fR hu (by omega)).mono (by omega)
 ·exact hk.mono (by omega)
theorem mgI_fit {T : TermS} (ht : T.le 13) {v : ByteArray} (hv : v.size ≤ 13) (A B : Int) : Fit 40 (mgI (valS v) T.m T.cnt A B) := by
 have fv : FitQ 13 ((valS v : Int) : Rat) := FitQ.int (Fit.val hv) (by omega)
 have fm : FitQ 13 T.m := FitQ.arg ht.1 ht.2.1 (by omega)
 unfold mgI
 split
 ·exact Nat.pow_pos (show 0 < 10 by decide)
 ·exact rnd_fit 1 (fv.mul (fm.mul (frac_fit T.cnt A B)))
theorem RunOk.marks' {T : TermS} {u : ByteArray} {mk : Rat} {L : List PtS} (h : RunOk T u mk L) {k0 : Nat} (hm : FitQ k0 mk) : ∀ k, FitQ (k0 + 100 * k) (markK T (valS u) mk L k) := by
 intro k
 have h1 := hm.pos
 induction k with
 | zero => exact hm
 | succ k ih =>
  by_cases hk : k + 1 < L.length
  ·have ho : L[k]? = some L[k] := List.getElem?_eq_getElem (by omega)
   have hp : L[k + 1]? = some L[k + 1] := List.getElem?_eq_getElem hk
   rw [markK_step ho hp]
   have z1 := h.few.2 _ (List.mem_of_getElem? ho)
   have z2 := h.few.2 _ (List.mem_of_getElem? hp)
   have hv : Fit 41 (valS L[k + 1].v - mgI (valS L[k].v) T.m T.cnt L[k].day L[k + 1].day) := Fit.subI (k := 13) (m := 40) (Fit.val z2.1) (mgI_fit h.t z1.1 _ _) (by omega)
   exact (pfM_fit hv (FitQ.arg h.t.2.2.1 h.t.2.2.2 (by omega)) (Fit.val h.us) ih (by omega)).mono (by omega)
  ·have e : markK T (valS u) mk L (k + 1) = markK T (valS u) mk L k := by
    conv => lhs; unfold markK
    rw [List.getElem?_eq_none (l := L) (i := k + 1) (by omega)]
    cases L[k]? <;> rfl
   rw [e]
   exact ih.mono (by omega)
theorem RunOk.marks {T : TermS} {u : ByteArray} {mk : Rat} {L : List PtS} (h : RunOk T u mk L) : ∀ k, FitQ (900 + 100 * k) (markK T (valS u) mk L k) := h.marks' h.mf
theorem charges_any (T : TermS) (u kn kd : ByteArray) (A : Option Addr) (n c : Nat) (w : World) :
  Calls Tryz.prog 62 #[tval T, .string u, .agg #[.string kn, .string kd], .slice A n c] w fun e w' => e = .returned (.func (.func 117) #[] #[.pointer (some ⟨w.heap.size + 3, 0, none⟩), .pointer (some ⟨w.heap.size, 0, none⟩), .pointer (some ⟨w.heap.size + 1, 0, none⟩), .pointer (some ⟨w.heap.size + 2, 0, none⟩)])
   ∧ w' = (((w.alloc (.cells (tcells T) 44)).alloc (.cells #[.string u] 32)).alloc (.cells #[.string kn, .string kd] 34)).alloc (.cells #[.slice A n c] 45) := by
 obtain ⟨mn, md, pn, pd, ct⟩ := T
 unfold tval tcells
 dsimp only
 go_enter Tryz.func62, Tryz.ntmps62
 go_wp2
 go_ret
 exact ⟨rfl, rfl⟩
theorem below_both {B : Nat} {w w' : World} (h : Below B w w') (p : Addr) (v : Value) : Below B (w.setCell p v) (w'.setCell p v) := by
 refine ⟨h.os, h.tape, h.output, ?_, fun k hk => ?_⟩
 ·have := h.size
  simp [World.setCell]
  omega
 ·by_cases e : k = p.block
  ·subst e
   have := h.block p.block hk
   simp [World.setCell, Array.getElem?_modify, this]
  ·rw [Below.heap_setCell w' p v k e, Below.heap_setCell w p v k e]
   exact h.block k hk
structure ChRead (T : TermS) (u : ByteArray) (mk : Rat) (L : List PtS) (A : Option Addr) (n c Bl Bt Bu Bm j : Nat) (W : World) : Prop where
 gl : Gl W
 row : Row W A (flatG ptcells L)
 bl : Boxed W Bl 45 (.slice A n c)
 bt : Bx W Bt (tcells T)
 bu : Bx W Bu #[.string u]
 bm : Bx W Bm #[.string (frN (markK T (valS u) mk L j)), .string (frD (markK T (valS u) mk L j))]
 nt : Bt ≠ Bm
 nu : Bu ≠ Bm
theorem charges_in {T : TermS} {u : ByteArray} {mk : Rat} {L : List PtS} {A : Option Addr} {N c : Nat} (l0 Bl Bt Bu Bm : Nat) (hn : L.length = N + 1) (hc : N + 1 ≤ c) (hR : RunOk T u mk L) (Inv : Nat → Nat → World → Prop)
  (hG : ∀ k j W, Inv k j W → ChRead T u mk L A (N + 1) c Bl Bt Bu Bm j W) (hU : ∀ k j W W', Inv k j W → Below W.heap.size W W' → Inv k j W')
  (hM : ∀ k W, k < N → Inv k k W → Inv k (k + 1) ((W.setCell ⟨Bm, 0, none⟩ (.string (frN (markK T (valS u) mk L (k + 1))))).setCell ⟨Bm, 1, none⟩ (.string (frD (markK T (valS u) mk L (k + 1))))))
  (hY : ∀ k W1, k < N → Inv k (k + 1) W1 → YieldAt Fence.wide 4 Tryz.prog l0 #[chVal (chK T (valS u) mk L k)] W1 fun e W' => e = .returned (.bool true) ∧ Inv (k + 1) (k + 1) W')
  (W : World) (h0 : Inv 0 0 W) :
  CallsIn Fence.wide 5 Tryz.prog 117 #[.func (.yield l0) #[] #[], .pointer (some ⟨Bl, 0, none⟩), .pointer (some ⟨Bt, 0, none⟩), .pointer (some ⟨Bu, 0, none⟩), .pointer (some ⟨Bm, 0, none⟩)] W fun en W' => (∃ v, en = .returned v) ∧ Inv N N W' := by
 have HG := Lib.hid hG
 have HU := Lib.hid hU
 have HM := Lib.hid hM
 have HY := Lib.hid hY
 have HN := Lib.hid hn
 have HR := Lib.hid hR
 have H0 := Lib.hid h0
 have c0 := (hG 0 0 W h0).bl.cell
 have h8 : N ≤ 7 := by have := hR.few.1; omega
 obtain ⟨mn, md, pn, pd, ct⟩ := T
 obtain ⟨b, o, rfl⟩ : ∃ b o, A = some ⟨b, o, none⟩ := by
  obtain ⟨b, o, hA, _, _⟩ := row_at (cs := ptcells) (m := 3) ptcells_len45 (by decide) (hG 0 0 W h0).row (List.getElem?_eq_getElem (l := L) (i := 0) (by omega))
  exact ⟨b, o, hA⟩
 clear hG hU hM hY hn hR h0
 refine callsIn_of_wp Tryz.func117 rfl trivial ?_ rfl
 simp only [Tryz.ntmps117, List.size_toArray, List.length_cons, List.length_nil, Nat.reduceAdd, Nat.reduceSub, Array.replicate_succ, Array.replicate_zero, List.push_toArray, List.append_toArray, List.nil_append, List.cons_append]
 have hadd : (⟨b, o, none⟩ : Addr).add (1 * 3) = ⟨b, o + 3, none⟩ := rfl
 have hadd3 : (⟨b, o, none⟩ : Addr).add 3 = ⟨b, o + 3, none⟩ := rfl
 by_cases hc1 : c = 1
 ·obtain rfl : N = 0 := by omega
  subst hc1
  gi_wp2_with fail
  gi_loopw [12] (fun s wr => s = .int .i64 0 ∧ Hid (Inv 0 0 wr)) (fun _ _ => 0)
  case atStart => exact ⟨rfl, H0.out⟩
  case round =>
   obtain ⟨rfl, H⟩ := hrel
   gi_wp2_with fail
   go_end0
   exact ⟨⟨_, rfl⟩, H.out⟩
 ·have hc2 : ¬ c = 1 := hc1
  gi_wp2_with fail
  gi_loopw [12] (fun s wr => ∃ k : Nat, k ≤ N ∧ s = .int .i64 (k : Int) ∧ Hid (Inv k k wr)) (fun s _ => (N - intOf s).toNat)
  case atStart => exact ⟨0, by omega, rfl, H0.out⟩
  case round =>
   obtain ⟨k, hk, rfl, H⟩ := hrel
   by_cases hkn : k = N
   ·subst hkn
    have q : decide ((k : Int) < (k : Int)) = false := decide_eq_false (by omega)
    gi_wp2_with fail
    go_end0
    exact ⟨⟨_, rfl⟩, H.out⟩
   ·have hkl : k < N := by omega
    have q : decide ((k : Int) < (N : Int)) = true := decide_eq_true (by omega)
    have qn : decide (k < N) = true := decide_eq_true hkl
    have q1 : decide ((k : Int) < ((N : Int) + 1)) = true := decide_eq_true (by omega)
    have q1n : decide (k < N + 1) = true := decide_eq_true (by omega)
    obtain ⟨od, hod⟩ : ∃ d, L[k]? = some d := ⟨L[k]'(by rw [HN.out]; omega), by simp⟩
    obtain ⟨pt, hpt⟩ : ∃ d, L[k + 1]? = some d := ⟨L[k + 1]'(by rw [HN.out]; omega), by simp⟩
    obtain ⟨b', o', hA, hb, hcO⟩ := row_at (cs := ptcells) (m := 3) ptcells_len45 (by decide) (HG.out k k wr H.out).row hod
    obtain ⟨rfl, rfl⟩ : b = b' ∧ o = o' := by injection hA with hA; injection hA with h1 h2; exact ⟨h1, h2⟩
    obtain ⟨b', o', hA2, _, hcP⟩ := row_at (cs := ptcells) (m := 3) ptcells_len45 (by decide) (HG.out k k wr H.out).row hpt
    obtain ⟨rfl, rfl⟩ : b = b' ∧ o = o' := by injection hA2 with hA2; injection hA2 with h1 h2; exact ⟨h1, h2⟩
    have zo := HR.out.few.2 od (List.mem_of_getElem? hod)
    have zp := HR.out.few.2 pt (List.mem_of_getElem? hpt)
    have hz := HR.out.t
    have fM := mgI_fit hz zo.1 od.day pt.day
    have KM := mgmt_any hz (v := od.v) (by omega) od.day pt.day
    have KS := SubR (Vs.arg (s := pt.v) (by omega)) (Vs.can fM (by omega))
    have fS := Fit.subI (k := 13) (m := 40) (Fit.val zp.1) fM (by omega)
    have zS := fS.size
    have KP := perf_any hz (v := canS (valS pt.v - mgI (valS od.v) (TermS.m ⟨mn, md, pn, pd, ct⟩) ct od.day pt.day)) (u := u) (Nat.le_trans zS (by omega)) (by have := HR.out.us; omega) HR.out.up (HR.out.marks k) (by omega)
    rw [valS_canS] at KP
    have hst := markK_step (T := ⟨mn, md, pn, pd, ct⟩) (u := valS u) (mk := mk) hod hpt
    have HYK := HY.out k
    have hck : chVal (chK ⟨mn, md, pn, pd, ct⟩ (valS u) mk L k) = .agg #[.int .i64 pt.day, .string (canS (mgI (valS od.v) (TermS.m ⟨mn, md, pn, pd, ct⟩) ct od.day pt.day)), .string (canS (pfI (valS pt.v - mgI (valS od.v) (TermS.m ⟨mn, md, pn, pd, ct⟩) ct od.day pt.day) (TermS.p ⟨mn, md, pn, pd, ct⟩) (valS u) (markK ⟨mn, md, pn, pd, ct⟩ (valS u) mk L k))), .string (frN (markK ⟨mn, md, pn, pd, ct⟩ (valS u) mk L (k + 1))), .string (frD (markK ⟨mn, md, pn, pd, ct⟩ (valS u) mk L (k + 1)))] := by
     rw [chK_at hod hpt, hst]
     rfl
    have HYD := Lib.hid (fun W1 h => HYK W1 hkl h)
    rw [hck] at HYD
    have HMK := Lib.hid (fun W h => HM.out k W hkl h)
    have HGK := Lib.hid (fun W h => HG.out k k W h)
    dsimp only at KM KS KP hst
    rw [← hst] at KP
    unfold tval FR at *
    dsimp only at KM KP
    clear hck hst HYK fM fS zS zo zp hz hod hpt hA hA2 hkn
    generalize canS (pfI (valS pt.v - mgI (valS od.v) (TermS.m ⟨mn, md, pn, pd, ct⟩) ct od.day pt.day) (TermS.p ⟨mn, md, pn, pd, ct⟩) (valS u) (markK ⟨mn, md, pn, pd, ct⟩ (valS u) mk L k)) = pf at *
    generalize canS (valS pt.v - mgI (valS od.v) (TermS.m ⟨mn, md, pn, pd, ct⟩) ct od.day pt.day) = rs at *
    generalize canS (mgI (valS od.v) (TermS.m ⟨mn, md, pn, pd, ct⟩) ct od.day pt.day) = mg at *
    obtain ⟨an, han⟩ : ∃ x, frN (markK ⟨mn, md, pn, pd, ct⟩ (valS u) mk L k) = x := ⟨_, rfl⟩
    obtain ⟨ad, had⟩ : ∃ x, frD (markK ⟨mn, md, pn, pd, ct⟩ (valS u) mk L k) = x := ⟨_, rfl⟩
    obtain ⟨cn, hcn⟩ : ∃ x, frN (markK ⟨mn, md, pn, pd, ct⟩ (valS u) mk L (k + 1)) = x := ⟨_, rfl⟩
    obtain ⟨cd, hcd⟩ : ∃ x, frD (markK ⟨mn, md, pn, pd, ct⟩ (valS u) mk L (k + 1)) = x := ⟨_, rfl⟩
    rw [han, had, hcn, hcd] at KP
    rw [hcn, hcd] at HYD HMK
    have HAN : Hid (∀ W, ChRead ⟨mn, md, pn, pd, ct⟩ u mk L (some ⟨b, o, none⟩) (N + 1) c Bl Bt Bu Bm k W → Bx W Bm #[.string an, .string ad]) := fun W h => by
     have := h.bm
     rwa [han, had] at this
    clear han had hcn hcd
    obtain ⟨o0, o1, o2⟩ := od
    obtain ⟨e0, e1, e2⟩ := pt
    have x0 : wr.cell? ⟨b, o + 3 + k * 3, none⟩ = some (.int .i64 e0) := by have := hcP 0 _ rfl; rwa [show o + ((k + 1) * 3 + 0) = o + 3 + k * 3 by omega] at this
    have x1 : wr.cell? ⟨b, o + 3 + k * 3 + 1, none⟩ = some (.string e1) := by have := hcP 1 _ rfl; rwa [show o + ((k + 1) * 3 + 1) = o + 3 + k * 3 + 1 by omega] at this
    have x2 : wr.cell? ⟨b, o + 3 + k * 3 + 2, none⟩ = some (.string e2) := by have := hcP 2 _ rfl; rwa [show o + ((k + 1) * 3 + 2) = o + 3 + k * 3 + 2 by omega] at this
    have r0 : wr.cell? ⟨b, o + k * 3, none⟩ = some (.int .i64 o0) := hcO 0 _ rfl
    have r1 : wr.cell? ⟨b, o + k * 3 + 1, none⟩ = some (.string o1) := hcO 1 _ rfl
    have HC := Lib.hid (And.intro r0 r1)
    clear hcO hcP r0 r1
    dsimp only at KM KS KP HYD
    have lMb := (HGK.out _ H.out).bm.lt
    have hba : Below wr.heap.size wr (wr.alloc (.cells #[.int .i64 e0, .string e1, .string e2] 63)) := (Below.refl _ _).alloc (Nat.le_refl _) _
    have XD := Bx.new wr #[.int .i64 e0, .string e1, .string e2] 63
    have hi := HU.out k k _ _ H.out hba
    have hrd := HGK.out _ hi
    have HCA : Hid (World.cell? (wr.alloc (.cells #[.int .i64 e0, .string e1, .string e2] 63)) ⟨b, o + k * 3, none⟩ = some (.int .i64 o0) ∧ World.cell? (wr.alloc (.cells #[.int .i64 e0, .string e1, .string e2] 63)) ⟨b, o + k * 3 + 1, none⟩ = some (.string o1)) := ⟨(hba.cell (p := ⟨b, o + k * 3, none⟩) hb).trans HC.out.1, (hba.cell (p := ⟨b, o + k * 3 + 1, none⟩) hb).trans HC.out.2⟩
    gi_wp2_with fail
    refine wpIn_wide.2 ?_
    obtain ⟨W3, hW3⟩ : ∃ W3, wr.alloc (.cells #[.int .i64 e0, .string e1, .string e2] 63) = W3 := ⟨_, rfl⟩
    rw [hW3] at XD hi hrd HCA hba ⊢
    have hbW : b < W3.heap.size := Nat.lt_of_lt_of_le hb hba.size
    have hs3 := St.refl hrd.gl
    have HI3 := Lib.hid hi
    have BLx : Bx W3 Bl #[.slice (some ⟨b, o, none⟩) (N + 1) c] := ⟨_, hrd.bl⟩
    have BTx : Bx W3 Bt #[.string mn, .string md, .string pn, .string pd, .int .i64 ct] := hrd.bt
    have BUx := hrd.bu
    have BMx := HAN.out _ hrd
    clear hW3 x0 x1 x2 hi H hba HC
    generalize wr.heap.size = bx at *
    refine wp_region_fresh1 19 18 8 #[.int .i64 0, .string ⟨#[]⟩, .string ⟨#[]⟩, .string ⟨#[]⟩, .string ⟨#[]⟩] (by kernel_rfl) (by kernel_rfl) (by kernel_rfl) (by omega) rfl (by kernel_rfl) ⟨_, 8, _, rfl, rfl, rfl, fun _ _ => by simp [execOp, go_sem, ptrTo]; rfl⟩ ?_
    apply Exists.intro
    refine ⟨fun S W hne hk hcl => ?_, ?_⟩
    ·simp only [List.take_succ_cons, List.take_zero, quietL, List.mem_cons, List.not_mem_nil, or_false, Nat.reduceAdd, Nat.reduceEqDiff, reduceIte, Nat.zero_add]
     have kk0 := XD.in hk (i := 0) (v := .int .i64 e0) rfl
     have kk1 := BTx.in hk (i := 0) (v := .string mn) rfl
     have kk2 := BTx.in hk (i := 1) (v := .string md) rfl
     have kk3 := BTx.in hk (i := 2) (v := .string pn) rfl
     have kk4 := BTx.in hk (i := 3) (v := .string pd) rfl
     have kk5 := BTx.in hk (i := 4) (v := .int .i64 ct) rfl
     have kk6 := BLx.in hk (i := 0) (v := .slice (some ⟨b, o, none⟩) (N + 1) c) rfl
     have kk7 : ∀ u, (W u).cell? ⟨b, o + k * 3, none⟩ = some (.int .i64 o0) := fun u => ((hk u).cell (p := ⟨b, o + k * 3, none⟩) hbW).trans HCA.out.1
     have kk8 : ∀ u, (W u).cell? ⟨b, o + k * 3 + 1, none⟩ = some (.string o1) := fun u => ((hk u).cell (p := ⟨b, o + k * 3 + 1, none⟩) hbW).trans HCA.out.2
     repeat (go_big_quiet_step (first | (with_reducible exact KM.fresh hs3 hk hcl)))
     exact wpQuiet_nil rfl
    intro b8 v1 hb8 hv1 hx8
    simp only [List.drop_succ_cons, List.drop_zero, ptrTo]
    have c0 := hx8.cell (i := 0) (v := .int .i64 0) rfl
    have c1 := hx8.cell (i := 1) (v := .string ⟨#[]⟩) rfl
    have c2 := hx8.cell (i := 2) (v := .string ⟨#[]⟩) rfl
    have c3 := hx8.cell (i := 3) (v := .string ⟨#[]⟩) rfl
    have c4 := hx8.cell (i := 4) (v := .string ⟨#[]⟩) rfl
    have f0 := hx8.frozen 0
    have f1 := hx8.frozen 1
    have f2 := hx8.frozen 2
    have f3 := hx8.frozen 3
    have f4 := hx8.frozen 4
    go_wp2_with fail
    obtain ⟨W4, hW4, X8, XD4, HL4⟩ : ∃ W4, (((((v1.setCell ⟨b8, 0, none⟩ (.int .i64 e0)).setCell ⟨b8, 1, none⟩ (.string mg)).setCell ⟨b8, 2, none⟩ (.string ⟨#[]⟩)).setCell ⟨b8, 3, none⟩ (.string ⟨#[]⟩)).setCell ⟨b8, 4, none⟩ (.string ⟨#[]⟩)) = W4 ∧ Bx W4 b8 #[.int .i64 e0, .string mg, .string ⟨#[]⟩, .string ⟨#[]⟩, .string ⟨#[]⟩] ∧ Bx W4 bx #[.int .i64 e0, .string e1, .string e2] ∧ Below W3.heap.size W3 W4 := by
     have h1 : bx ≠ b8 := by have := XD.lt; omega
     exact ⟨_, rfl, ((((hx8.set 0 (.int .i64 e0)).set 1 (.string mg)).set 2 (.string ⟨#[]⟩)).set 3 (.string ⟨#[]⟩)).set 4 (.string ⟨#[]⟩), ((((((XD.on hv1).other h1 0 _).other h1 1 _).other h1 2 _).other h1 3 _).other h1 4 _), (((((hv1.setCell (p := ⟨b8, 0, none⟩) hb8 _).setCell (p := ⟨b8, 1, none⟩) hb8 _).setCell (p := ⟨b8, 2, none⟩) hb8 _).setCell (p := ⟨b8, 3, none⟩) hb8 _).setCell (p := ⟨b8, 4, none⟩) hb8 _)⟩
    rw [hW4]
    have BT4 := BTx.on HL4
    have BU4 := BUx.on HL4
    have BM4 := BMx.on HL4
    have lM := BMx.lt
    have lT := BTx.lt
    have lU := BUx.lt
    have lX := XD.lt
    have hGl4 : Gl W4 := hrd.gl.below HL4
    have hs4 := St.refl hGl4
    clear c0 c1 c2 c3 c4 f0 f1 f2 f3 f4 hx8 hv1 hW4 XD BLx BTx BUx hs3
    gi_wp2_with fail
    refine wpIn_wide.2 ?_
    have HSOK : Hid (∀ w' : World, Below W4.heap.size W4 w' → w'.cell? ⟨Bt, 0, none⟩ = some (.string mn) ∧ w'.cell? ⟨Bt, 1, none⟩ = some (.string md) ∧ w'.cell? ⟨Bt, 2, none⟩ = some (.string pn) ∧ w'.cell? ⟨Bt, 3, none⟩ = some (.string pd) ∧ w'.cell? ⟨Bt, 4, none⟩ = some (.int .i64 ct) ∧ w'.cell? ⟨Bu, 0, none⟩ = some (.string u) ∧ w'.cell? ⟨b8, 1, none⟩ = some (.string mg) ∧ w'.cell? ⟨bx, 1, none⟩ = some (.string e1)) := fun w' hb => ⟨(BT4.on hb).cell (i := 0) rfl, (BT4.on hb).cell (i := 1) rfl, (BT4.on hb).cell (i := 2) rfl, (BT4.on hb).cell (i := 3) rfl, (BT4.on hb).cell (i := 4) rfl, (BU4.on hb).cell (i := 0) rfl, (X8.on hb).cell (i := 1) rfl, (XD4.on hb).cell (i := 1) rfl⟩
    have h8b : b8 ≠ Bm := by omega
    have hxb : bx ≠ Bm := by omega
    have h8t : Bt ≠ b8 := by omega
    have h8u : Bu ≠ b8 := by omega
    have h8x : bx ≠ b8 := by have := lX; omega
    have low0 : Below W4.heap.size W4 W4 := Below.refl _ _
    have sX := HSOK.out _ low0
    have mm0 := BM4.cell (i := 0) (v := .string an) rfl
    have mm1 := BM4.cell (i := 1) (v := .string ad) rfl
    have n1 : ¬ b8 = Bm := h8b
    have n2 : ¬ Bm = b8 := fun e => h8b e.symm
    refine wp_region_noPanic ?_
    refine wp_region_held_drew (S := fun w' => w'.cell? ⟨Bt, 0, none⟩ = some (.string mn) ∧ w'.cell? ⟨Bt, 1, none⟩ = some (.string md) ∧ w'.cell? ⟨Bt, 2, none⟩ = some (.string pn) ∧ w'.cell? ⟨Bt, 3, none⟩ = some (.string pd) ∧ w'.cell? ⟨Bt, 4, none⟩ = some (.int .i64 ct) ∧ w'.cell? ⟨Bu, 0, none⟩ = some (.string u) ∧ w'.cell? ⟨b8, 1, none⟩ = some (.string mg) ∧ w'.cell? ⟨bx, 1, none⟩ = some (.string e1)) (by kernel_rfl) ?_ (fun hHeld => ?_)
    ·try dsimp only
     exact HSOK.out _ low0.drew
    refine wpAnyH_take (i := 0) (v := ?vv1) rfl (by kernel_rfl) (by kernel_rfl) (by kernel_rfl) (fun _ _ _ h => h) (Or.inl ⟨by rfl, ?hy1⟩) (by assumption) ?rest1
    case hy1 =>
     intro w hSw
     try dsimp only at hSw
     go_simp
     try with_reducible rfl
    try simp only [Act.put]
    try simp only [List.setIfInBounds_toArray]
    try simp only [List.set_cons_succ]
    try simp only [List.set_cons_zero]
    refine wpAnyH_take (i := 1) (v := ?vv2) rfl (by kernel_rfl) (by kernel_rfl) (by kernel_rfl) (fun _ _ _ h => h) (Or.inl ⟨by rfl, ?hy2⟩) (by assumption) ?rest2
    case hy2 =>
     intro w hSw
     try dsimp only at hSw
     go_simp
     try with_reducible rfl
    try simp only [Act.put]
    try simp only [List.setIfInBounds_toArray]
    try simp only [List.set_cons_succ]
    try simp only [List.set_cons_zero]
    refine wpAnyH_take (i := 2) (v := ?vv3) rfl (by kernel_rfl) (by kernel_rfl) (by kernel_rfl) (fun _ _ _ h => h) (Or.inl ⟨by rfl, ?hy3⟩) (by assumption) ?rest3
    case hy3 =>
     intro w hSw
     try dsimp only at hSw
     go_simp
     try with_reducible rfl
    try simp only [Act.put]
    try simp only [List.setIfInBounds_toArray]
    try simp only [List.set_cons_succ]
    try simp only [List.set_cons_zero]
    refine wpAnyH_take (i := 3) (v := ?vv4) rfl (by kernel_rfl) (by kernel_rfl) (by kernel_rfl) (fun _ _ _ h => h) (Or.inl ⟨by rfl, ?hy4⟩) (by assumption) ?rest4
    case hy4 =>
     intro w hSw
     try dsimp only at hSw
     go_simp
     try with_reducible rfl
    try simp only [Act.put]
    try simp only [List.setIfInBounds_toArray]
    try simp only [List.set_cons_succ]
    try simp only [List.set_cons_zero]
    refine wpAnyH_take (i := 4) (v := ?vv5) rfl (by kernel_rfl) (by kernel_rfl) (by kernel_rfl) (fun _ _ _ h => h) (Or.inl ⟨by rfl, ?hy5⟩) (by assumption) ?rest5
    case hy5 =>
     intro w hSw
     try dsimp only at hSw
     go_simp
     try with_reducible rfl
    try simp only [Act.put]
    try simp only [List.setIfInBounds_toArray]
    try simp only [List.set_cons_succ]
    try simp only [List.set_cons_zero]
    refine wpAnyH_take (i := 6) (v := ?vv6) rfl (by kernel_rfl) (by kernel_rfl) (by kernel_rfl) (fun _ _ _ h => h) (Or.inl ⟨by rfl, ?hy6⟩) (by assumption) ?rest6
    case hy6 =>
     intro w hSw
     try dsimp only at hSw
     go_simp
     try with_reducible rfl
    try simp only [Act.put]
    try simp only [List.setIfInBounds_toArray]
    try simp only [List.set_cons_succ]
    try simp only [List.set_cons_zero]
    refine wpAnyH_ready (rs := [5, 7]) (by kernel_rfl) (by simp) ?_
    refine AllReadyH.cons rfl (fun K hK => ?_) (AllReadyH.cons rfl (fun K hK => ?_) AllReadyH.nil)
    ·skip
     go_simp
     with_reducible refine KS.step (by first | with_reducible exact hs4.drew | with_reducible exact hs4) ?_
     intro wA hsA hbA
     have lowA : Below W4.heap.size W4 wA := (by first | with_reducible exact hbA | exact (Below.refl _ W4).drew.trans hbA)
     have sA := HSOK.out _ lowA
     have ma0 := (BM4.on lowA).cell (i := 0) (v := .string an) rfl
     have ma1 := (BM4.on lowA).cell (i := 1) (v := .string ad) rfl
     try go_wp2_with fail
     refine hK.out _ _ ?_ (fun hHeld => ?_)
     ·try dsimp only
      (first
       | (with_reducible exact sB)
       | (with_reducible exact sA)
       | (with_reducible exact sX)
       | exact HSOK.out _ lowB.drew
       | exact HSOK.out _ lowA.drew
       | exact HSOK.out _ low0.drew
       | exact fecS ((BT4.on lowB).other h8t 2 (.string pf)) ((BU4.on lowB).other h8u 2 (.string pf)) ((X8.on lowB).set 2 (.string pf)) ((XD4.on lowB).other h8x 2 (.string pf)) rfl rfl rfl rfl rfl rfl rfl rfl
       | exact fecS (((BT4.on lowB).other h8t 2 (.string pf)).drew) (((BU4.on lowB).other h8u 2 (.string pf)).drew) (((X8.on lowB).set 2 (.string pf)).drew) (((XD4.on lowB).other h8x 2 (.string pf)).drew) rfl rfl rfl rfl rfl rfl rfl rfl
       | exact fecS ((((BT4.on lowB).other h8t 2 (.string pf)).other hrd.nt 0 (.string cn)).other hrd.nt 1 (.string cd)) ((((BU4.on lowB).other h8u 2 (.string pf)).other hrd.nu 0 (.string cn)).other hrd.nu 1 (.string cd)) ((((X8.on lowB).set 2 (.string pf)).other h8b 0 (.string cn)).other h8b 1 (.string cd)) ((((XD4.on lowB).other h8x 2 (.string pf)).other hxb 0 (.string cn)).other hxb 1 (.string cd)) rfl rfl rfl rfl rfl rfl rfl rfl
       | exact fecS (((((BT4.on lowB).other h8t 2 (.string pf)).other hrd.nt 0 (.string cn)).other hrd.nt 1 (.string cd)).drew) (((((BU4.on lowB).other h8u 2 (.string pf)).other hrd.nu 0 (.string cn)).other hrd.nu 1 (.string cd)).drew) (((((X8.on lowB).set 2 (.string pf)).other h8b 0 (.string cn)).other h8b 1 (.string cd)).drew) (((((XD4.on lowB).other h8x 2 (.string pf)).other hxb 0 (.string cn)).other hxb 1 (.string cd)).drew) rfl rfl rfl rfl rfl rfl rfl rfl)
     clear hK K
     try simp only [Act.put]
     try simp only [List.setIfInBounds_toArray]
     try simp only [List.set_cons_succ]
     try simp only [List.set_cons_zero]
     refine wpAnyH_ready (rs := [7]) (by kernel_rfl) (by simp) ?_
     refine AllReadyH.cons rfl (fun K hK => ?_) AllReadyH.nil
     go_simp
     refine hK.out _ _ ?_ (fun hHeld => ?_)
     ·try dsimp only
      (first
       | (with_reducible exact sB)
       | (with_reducible exact sA)
       | (with_reducible exact sX)
       | exact HSOK.out _ lowB.drew
       | exact HSOK.out _ lowA.drew
       | exact HSOK.out _ low0.drew
       | exact fecS ((BT4.on lowB).other h8t 2 (.string pf)) ((BU4.on lowB).other h8u 2 (.string pf)) ((X8.on lowB).set 2 (.string pf)) ((XD4.on lowB).other h8x 2 (.string pf)) rfl rfl rfl rfl rfl rfl rfl rfl
       | exact fecS (((BT4.on lowB).other h8t 2 (.string pf)).drew) (((BU4.on lowB).other h8u 2 (.string pf)).drew) (((X8.on lowB).set 2 (.string pf)).drew) (((XD4.on lowB).other h8x 2 (.string pf)).drew) rfl rfl rfl rfl rfl rfl rfl rfl
       | exact fecS ((((BT4.on lowB).other h8t 2 (.string pf)).other hrd.nt 0 (.string cn)).other hrd.nt 1 (.string cd)) ((((BU4.on lowB).other h8u 2 (.string pf)).other hrd.nu 0 (.string cn)).other hrd.nu 1 (.string cd)) ((((X8.on lowB).set 2 (.string pf)).other h8b 0 (.string cn)).other h8b 1 (.string cd)) ((((XD4.on lowB).other h8x 2 (.string pf)).other hxb 0 (.string cn)).other hxb 1 (.string cd)) rfl rfl rfl rfl rfl rfl rfl rfl
       | exact fecS (((((BT4.on lowB).other h8t 2 (.string pf)).other hrd.nt 0 (.string cn)).other hrd.nt 1 (.string cd)).drew) (((((BU4.on lowB).other h8u 2 (.string pf)).other hrd.nu 0 (.string cn)).other hrd.nu 1 (.string cd)).drew) (((((X8.on lowB).set 2 (.string pf)).other h8b 0 (.string cn)).other h8b 1 (.string cd)).drew) (((((XD4.on lowB).other h8x 2 (.string pf)).other hxb 0 (.string cn)).other hxb 1 (.string cd)).drew) rfl rfl rfl rfl rfl rfl rfl rfl)
     clear hK K
     try simp only [Act.put]
     try simp only [List.setIfInBounds_toArray]
     try simp only [List.set_cons_succ]
     try simp only [List.set_cons_zero]
     refine wpAnyH_ready (rs := [8]) (by kernel_rfl) (by simp) ?_
     refine AllReadyH.cons rfl (fun K hK => ?_) AllReadyH.nil
     go_simp
     with_reducible refine KP.step (by first | with_reducible exact hsA.drew | with_reducible exact hsA) ?_
     intro wB hsB hbB
     have lowB : Below W4.heap.size W4 wB := (by first | exact lowA.trans (hbB.mono lowA.size) | exact lowA.drew.trans (hbB.mono lowA.drew.size))
     have sB := HSOK.out _ lowB
     have mb0 := (BM4.on lowB).cell (i := 0) (v := .string an) rfl
     have mb1 := (BM4.on lowB).cell (i := 1) (v := .string ad) rfl
     have g0 := (BM4.on lowB).frozen 0
     have g1 := (BM4.on lowB).frozen 1
     have c2 := (X8.on lowB).cell (i := 2) (v := .string ⟨#[]⟩) rfl
     have f2 := (X8.on lowB).frozen 2
     try go_wp2_with fail
     refine hK.out _ _ ?_ (fun hHeld => ?_)
     ·try dsimp only
      (first
       | (with_reducible exact sB)
       | (with_reducible exact sA)
       | (with_reducible exact sX)
       | exact HSOK.out _ lowB.drew
       | exact HSOK.out _ lowA.drew
       | exact HSOK.out _ low0.drew
       | exact fecS ((BT4.on lowB).other h8t 2 (.string pf)) ((BU4.on lowB).other h8u 2 (.string pf)) ((X8.on lowB).set 2 (.string pf)) ((XD4.on lowB).other h8x 2 (.string pf)) rfl rfl rfl rfl rfl rfl rfl rfl
       | exact fecS (((BT4.on lowB).other h8t 2 (.string pf)).drew) (((BU4.on lowB).other h8u 2 (.string pf)).drew) (((X8.on lowB).set 2 (.string pf)).drew) (((XD4.on lowB).other h8x 2 (.string pf)).drew) rfl rfl rfl rfl rfl rfl rfl rfl
       | exact fecS ((((BT4.on lowB).other h8t 2 (.string pf)).other hrd.nt 0 (.string cn)).other hrd.nt 1 (.string cd)) ((((BU4.on lowB).other h8u 2 (.string pf)).other hrd.nu 0 (.string cn)).other hrd.nu 1 (.string cd)) ((((X8.on lowB).set 2 (.string pf)).other h8b 0 (.string cn)).other h8b 1 (.string cd)) ((((XD4.on lowB).other h8x 2 (.string pf)).other hxb 0 (.string cn)).other hxb 1 (.string cd)) rfl rfl rfl rfl rfl rfl rfl rfl
       | exact fecS (((((BT4.on lowB).other h8t 2 (.string pf)).other hrd.nt 0 (.string cn)).other hrd.nt 1 (.string cd)).drew) (((((BU4.on lowB).other h8u 2 (.string pf)).other hrd.nu 0 (.string cn)).other hrd.nu 1 (.string cd)).drew) (((((X8.on lowB).set 2 (.string pf)).other h8b 0 (.string cn)).other h8b 1 (.string cd)).drew) (((((XD4.on lowB).other h8x 2 (.string pf)).other hxb 0 (.string cn)).other hxb 1 (.string cd)).drew) rfl rfl rfl rfl rfl rfl rfl rfl)
     clear hK K
     try simp only [Act.put]
     try simp only [List.setIfInBounds_toArray]
     try simp only [List.set_cons_succ]
     try simp only [List.set_cons_zero]
     refine wpAnyH_take (i := 9) (v := ?vv7) rfl (by kernel_rfl) (by kernel_rfl) (by kernel_rfl) (fun _ _ _ h => h) (Or.inl ⟨by rfl, ?hy7⟩) (by assumption) ?rest7
     case hy7 =>
      intro w hSw
      try dsimp only at hSw
      go_simp
      try with_reducible rfl
     try simp only [Act.put]
     try simp only [List.setIfInBounds_toArray]
     try simp only [List.set_cons_succ]
     try simp only [List.set_cons_zero]
     refine wpAnyH_take (i := 10) (v := ?vv8) rfl (by kernel_rfl) (by kernel_rfl) (by kernel_rfl) (fun _ _ _ h => h) (Or.inl ⟨by rfl, ?hy8⟩) (by assumption) ?rest8
     case hy8 =>
      intro w hSw
      try dsimp only at hSw
      go_simp
      try with_reducible rfl
     try simp only [Act.put]
     try simp only [List.setIfInBounds_toArray]
     try simp only [List.set_cons_succ]
     try simp only [List.set_cons_zero]
     refine wpAnyH_take (i := 11) (v := ?vv9) rfl (by kernel_rfl) (by kernel_rfl) (by kernel_rfl) (fun _ _ _ h => h) (Or.inl ⟨by rfl, ?hy9⟩) (by assumption) ?rest9
     case hy9 =>
      intro w hSw
      try dsimp only at hSw
      go_simp
      try with_reducible rfl
     try simp only [Act.put]
     try simp only [List.setIfInBounds_toArray]
     try simp only [List.set_cons_succ]
     try simp only [List.set_cons_zero]
     refine wpAnyH_take (i := 12) (v := ?vv10) rfl (by kernel_rfl) (by kernel_rfl) (by kernel_rfl) (fun _ _ _ h => h) (Or.inl ⟨by rfl, ?hy10⟩) (by assumption) ?rest10
     case hy10 =>
      intro w hSw
      try dsimp only at hSw
      go_simp
      try with_reducible rfl
     try simp only [Act.put]
     try simp only [List.setIfInBounds_toArray]
     try simp only [List.set_cons_succ]
     try simp only [List.set_cons_zero]
     refine wpAnyH_ready (rs := [13]) (by kernel_rfl) (by simp) ?_
     refine AllReadyH.cons rfl (fun K hK => ?_) AllReadyH.nil
     go_simp
     refine hK.out _ _ ?_ (fun hHeld => ?_)
     ·try dsimp only
      (first
       | (with_reducible exact sB)
       | (with_reducible exact sA)
       | (with_reducible exact sX)
       | exact HSOK.out _ lowB.drew
       | exact HSOK.out _ lowA.drew
       | exact HSOK.out _ low0.drew
       | exact fecS ((BT4.on lowB).other h8t 2 (.string pf)) ((BU4.on lowB).other h8u 2 (.string pf)) ((X8.on lowB).set 2 (.string pf)) ((XD4.on lowB).other h8x 2 (.string pf)) rfl rfl rfl rfl rfl rfl rfl rfl
       | exact fecS (((BT4.on lowB).other h8t 2 (.string pf)).drew) (((BU4.on lowB).other h8u 2 (.string pf)).drew) (((X8.on lowB).set 2 (.string pf)).drew) (((XD4.on lowB).other h8x 2 (.string pf)).drew) rfl rfl rfl rfl rfl rfl rfl rfl
       | exact fecS ((((BT4.on lowB).other h8t 2 (.string pf)).other hrd.nt 0 (.string cn)).other hrd.nt 1 (.string cd)) ((((BU4.on lowB).other h8u 2 (.string pf)).other hrd.nu 0 (.string cn)).other hrd.nu 1 (.string cd)) ((((X8.on lowB).set 2 (.string pf)).other h8b 0 (.string cn)).other h8b 1 (.string cd)) ((((XD4.on lowB).other h8x 2 (.string pf)).other hxb 0 (.string cn)).other hxb 1 (.string cd)) rfl rfl rfl rfl rfl rfl rfl rfl
       | exact fecS (((((BT4.on lowB).other h8t 2 (.string pf)).other hrd.nt 0 (.string cn)).other hrd.nt 1 (.string cd)).drew) (((((BU4.on lowB).other h8u 2 (.string pf)).other hrd.nu 0 (.string cn)).other hrd.nu 1 (.string cd)).drew) (((((X8.on lowB).set 2 (.string pf)).other h8b 0 (.string cn)).other h8b 1 (.string cd)).drew) (((((XD4.on lowB).other h8x 2 (.string pf)).other hxb 0 (.string cn)).other hxb 1 (.string cd)).drew) rfl rfl rfl rfl rfl rfl rfl rfl)
     clear hK K
     try simp only [Act.put]
     try simp only [List.setIfInBounds_toArray]
     try simp only [List.set_cons_succ]
     try simp only [List.set_cons_zero]
     refine wpAnyH_ready (rs := [14]) (by kernel_rfl) (by simp) ?_
     refine AllReadyH.cons rfl (fun K hK => ?_) AllReadyH.nil
     go_simp
     refine hK.out _ _ ?_ (fun hHeld => ?_)
     ·try dsimp only
      (first
       | (with_reducible exact sB)
       | (with_reducible exact sA)
       | (with_reducible exact sX)
       | exact HSOK.out _ lowB.drew
       | exact HSOK.out _ lowA.drew
       | exact HSOK.out _ low0.drew
       | exact fecS ((BT4.on lowB).other h8t 2 (.string pf)) ((BU4.on lowB).other h8u 2 (.string pf)) ((X8.on lowB).set 2 (.string pf)) ((XD4.on lowB).other h8x 2 (.string pf)) rfl rfl rfl rfl rfl rfl rfl rfl
       | exact fecS (((BT4.on lowB).other h8t 2 (.string pf)).drew) (((BU4.on lowB).other h8u 2 (.string pf)).drew) (((X8.on lowB).set 2 (.string pf)).drew) (((XD4.on lowB).other h8x 2 (.string pf)).drew) rfl rfl rfl rfl rfl rfl rfl rfl
       | exact fecS ((((BT4.on lowB).other h8t 2 (.string pf)).other hrd.nt 0 (.string cn)).other hrd.nt 1 (.string cd)) ((((BU4.on lowB).other h8u 2 (.string pf)).other hrd.nu 0 (.string cn)).other hrd.nu 1 (.string cd)) ((((X8.on lowB).set 2 (.string pf)).other h8b 0 (.string cn)).other h8b 1 (.string cd)) ((((XD4.on lowB).other h8x 2 (.string pf)).other hxb 0 (.string cn)).other hxb 1 (.string cd)) rfl rfl rfl rfl rfl rfl rfl rfl
       | exact fecS (((((BT4.on lowB).other h8t 2 (.string pf)).other hrd.nt 0 (.string cn)).other hrd.nt 1 (.string cd)).drew) (((((BU4.on lowB).other h8u 2 (.string pf)).other hrd.nu 0 (.string cn)).other hrd.nu 1 (.string cd)).drew) (((((X8.on lowB).set 2 (.string pf)).other h8b 0 (.string cn)).other h8b 1 (.string cd)).drew) (((((XD4.on lowB).other h8x 2 (.string pf)).other hxb 0 (.string cn)).other hxb 1 (.string cd)).drew) rfl rfl rfl rfl rfl rfl rfl rfl)
     clear hK K
     try simp only [Act.put]
     try simp only [List.setIfInBounds_toArray]
     try simp only [List.set_cons_succ]
     try simp only [List.set_cons_zero]
     refine wpAnyH_done (by kernel_rfl) ?_ _
     refine NoPanic.normal ?_
     go_wp2_with fail
     have X9 : Bx ((((wB.setCell ⟨b8, 2, none⟩ (.string pf)).setCell ⟨Bm, 0, none⟩ (.string cn)).setCell ⟨Bm, 1, none⟩ (.string cd))) b8 #[.int .i64 e0, .string mg, .string pf, .string ⟨#[]⟩, .string ⟨#[]⟩] := (((X8.on lowB).set 2 (.string pf)).other h8b 0 (.string cn)).other h8b 1 (.string cd)
     have M9 : Bx ((((wB.setCell ⟨b8, 2, none⟩ (.string pf)).setCell ⟨Bm, 0, none⟩ (.string cn)).setCell ⟨Bm, 1, none⟩ (.string cd))) Bm #[.string cn, .string cd] := ((((BM4.on lowB).other n2 2 (.string pf)).set 0 (.string cn)).set 1 (.string cd))
     have hB9 : Below W3.heap.size W3 (wB.setCell ⟨b8, 2, none⟩ (.string pf)) := (HL4.trans (lowB.mono HL4.size)).setCell (p := ⟨b8, 2, none⟩) hb8 _
     have hV9 := below_both (below_both hB9 ⟨Bm, 0, none⟩ (.string cn)) ⟨Bm, 1, none⟩ (.string cd)
     have hiV := HMK.out W3 HI3.out
     have HZ9 : Hid (Inv k (k + 1) ((((wB.setCell ⟨b8, 2, none⟩ (.string pf)).setCell ⟨Bm, 0, none⟩ (.string cn)).setCell ⟨Bm, 1, none⟩ (.string cd)).setCell ⟨b8, 3, none⟩ (.string cn) |>.setCell ⟨b8, 4, none⟩ (.string cd))) := by
      refine HU.out k (k + 1) _ _ hiV ?_
      have e : ((W3.setCell ⟨Bm, 0, none⟩ (.string cn)).setCell ⟨Bm, 1, none⟩ (.string cd)).heap.size = W3.heap.size := by simp [World.setCell]
      rw [e]
      exact (hV9.setCell (p := ⟨b8, 3, none⟩) hb8 _).setCell (p := ⟨b8, 4, none⟩) hb8 _
     generalize ((wB.setCell ⟨b8, 2, none⟩ (.string pf)).setCell ⟨Bm, 0, none⟩ (.string cn)).setCell ⟨Bm, 1, none⟩ (.string cd) = W9 at *
     have q0 := X9.cell (i := 0) (v := .int .i64 e0) rfl
     have q1' := X9.cell (i := 1) (v := .string mg) rfl
     have q2 := X9.cell (i := 2) (v := .string pf) rfl
     have q3 := X9.cell (i := 3) (v := .string ⟨#[]⟩) rfl
     have q4 := X9.cell (i := 4) (v := .string ⟨#[]⟩) rfl
     have w3 := X9.frozen 3
     have w4 := X9.frozen 4
     have p0 := M9.cell (i := 0) (v := .string cn) rfl
     have p1 := M9.cell (i := 1) (v := .string cd) rfl
     obtain ⟨fn, tmps, assign, body, hy, hRR⟩ := HYD.out _ HZ9.out
     have HRR := Lib.hid hRR
     clear hRR
     gi_wp2_with fail
     refine HRR.out.mono ?_
     rintro e W6 ⟨rfl, hn6⟩
     have HN6 := Lib.hid hn6
     clear hn6
     gi_wp2_with fail
     go_roundw
     case rel => exact ⟨k + 1, by omega, by go_num, HN6.out⟩
     case measure => simp [intOf]; omega
    ·skip
     go_simp
     refine hK.out _ _ ?_ (fun hHeld => ?_)
     ·try dsimp only
      (first
       | (with_reducible exact sB)
       | (with_reducible exact sA)
       | (with_reducible exact sX)
       | exact HSOK.out _ lowB.drew
       | exact HSOK.out _ lowA.drew
       | exact HSOK.out _ low0.drew
       | exact fecS ((BT4.on lowB).other h8t 2 (.string pf)) ((BU4.on lowB).other h8u 2 (.string pf)) ((X8.on lowB).set 2 (.string pf)) ((XD4.on lowB).other h8x 2 (.string pf)) rfl rfl rfl rfl rfl rfl rfl rfl
       | exact fecS (((BT4.on lowB).other h8t 2 (.string pf)).drew) (((BU4.on lowB).other h8u 2 (.string pf)).drew) (((X8.on lowB).set 2 (.string pf)).drew) (((XD4.on lowB).other h8x 2 (.string pf)).drew) rfl rfl rfl rfl rfl rfl rfl rfl
       | exact fecS ((((BT4.on lowB).other h8t 2 (.string pf)).other hrd.nt 0 (.string cn)).other hrd.nt 1 (.string cd)) ((((BU4.on lowB).other h8u 2 (.string pf)).other hrd.nu 0 (.string cn)).other hrd.nu 1 (.string cd)) ((((X8.on lowB).set 2 (.string pf)).other h8b 0 (.string cn)).other h8b 1 (.string cd)) ((((XD4.on lowB).other h8x 2 (.string pf)).other hxb 0 (.string cn)).other hxb 1 (.string cd)) rfl rfl rfl rfl rfl rfl rfl rfl
       | exact fecS (((((BT4.on lowB).other h8t 2 (.string pf)).other hrd.nt 0 (.string cn)).other hrd.nt 1 (.string cd)).drew) (((((BU4.on lowB).other h8u 2 (.string pf)).other hrd.nu 0 (.string cn)).other hrd.nu 1 (.string cd)).drew) (((((X8.on lowB).set 2 (.string pf)).other h8b 0 (.string cn)).other h8b 1 (.string cd)).drew) (((((XD4.on lowB).other h8x 2 (.string pf)).other hxb 0 (.string cn)).other hxb 1 (.string cd)).drew) rfl rfl rfl rfl rfl rfl rfl rfl)
     clear hK K
     try simp only [Act.put]
     try simp only [List.setIfInBounds_toArray]
     try simp only [List.set_cons_succ]
     try simp only [List.set_cons_zero]
     refine wpAnyH_ready (rs := [5]) (by kernel_rfl) (by simp) ?_
     refine AllReadyH.cons rfl (fun K hK => ?_) AllReadyH.nil
     go_simp
     with_reducible refine KS.step (by first | with_reducible exact hs4.drew | with_reducible exact hs4) ?_
     intro wA hsA hbA
     have lowA : Below W4.heap.size W4 wA := (by first | with_reducible exact hbA | exact (Below.refl _ W4).drew.trans hbA)
     have sA := HSOK.out _ lowA
     have ma0 := (BM4.on lowA).cell (i := 0) (v := .string an) rfl
     have ma1 := (BM4.on lowA).cell (i := 1) (v := .string ad) rfl
     try go_wp2_with fail
     refine hK.out _ _ ?_ (fun hHeld => ?_)
     ·try dsimp only
      (first
       | (with_reducible exact sB)
       | (with_reducible exact sA)
       | (with_reducible exact sX)
       | exact HSOK.out _ lowB.drew
       | exact HSOK.out _ lowA.drew
       | exact HSOK.out _ low0.drew
       | exact fecS ((BT4.on lowB).other h8t 2 (.string pf)) ((BU4.on lowB).other h8u 2 (.string pf)) ((X8.on lowB).set 2 (.string pf)) ((XD4.on lowB).other h8x 2 (.string pf)) rfl rfl rfl rfl rfl rfl rfl rfl
       | exact fecS (((BT4.on lowB).other h8t 2 (.string pf)).drew) (((BU4.on lowB).other h8u 2 (.string pf)).drew) (((X8.on lowB).set 2 (.string pf)).drew) (((XD4.on lowB).other h8x 2 (.string pf)).drew) rfl rfl rfl rfl rfl rfl rfl rfl
       | exact fecS ((((BT4.on lowB).other h8t 2 (.string pf)).other hrd.nt 0 (.string cn)).other hrd.nt 1 (.string cd)) ((((BU4.on lowB).other h8u 2 (.string pf)).other hrd.nu 0 (.string cn)).other hrd.nu 1 (.string cd)) ((((X8.on lowB).set 2 (.string pf)).other h8b 0 (.string cn)).other h8b 1 (.string cd)) ((((XD4.on lowB).other h8x 2 (.string pf)).other hxb 0 (.string cn)).other hxb 1 (.string cd)) rfl rfl rfl rfl rfl rfl rfl rfl
       | exact fecS (((((BT4.on lowB).other h8t 2 (.string pf)).other hrd.nt 0 (.string cn)).other hrd.nt 1 (.string cd)).drew) (((((BU4.on lowB).other h8u 2 (.string pf)).other hrd.nu 0 (.string cn)).other hrd.nu 1 (.string cd)).drew) (((((X8.on lowB).set 2 (.string pf)).other h8b 0 (.string cn)).other h8b 1 (.string cd)).drew) (((((XD4.on lowB).other h8x 2 (.string pf)).other hxb 0 (.string cn)).other hxb 1 (.string cd)).drew) rfl rfl rfl rfl rfl rfl rfl rfl)
     clear hK K
     try simp only [Act.put]
     try simp only [List.setIfInBounds_toArray]
     try simp only [List.set_cons_succ]
     try simp only [List.set_cons_zero]
     refine wpAnyH_ready (rs := [8]) (by kernel_rfl) (by simp) ?_
     refine AllReadyH.cons rfl (fun K hK => ?_) AllReadyH.nil
     go_simp
     with_reducible refine KP.step (by first | with_reducible exact hsA.drew | with_reducible exact hsA) ?_
     intro wB hsB hbB
     have lowB : Below W4.heap.size W4 wB := (by first | exact lowA.trans (hbB.mono lowA.size) | exact lowA.drew.trans (hbB.mono lowA.drew.size))
     have sB := HSOK.out _ lowB
     have mb0 := (BM4.on lowB).cell (i := 0) (v := .string an) rfl
     have mb1 := (BM4.on lowB).cell (i := 1) (v := .string ad) rfl
     have g0 := (BM4.on lowB).frozen 0
     have g1 := (BM4.on lowB).frozen 1
     have c2 := (X8.on lowB).cell (i := 2) (v := .string ⟨#[]⟩) rfl
     have f2 := (X8.on lowB).frozen 2
     try go_wp2_with fail
     refine hK.out _ _ ?_ (fun hHeld => ?_)
     ·try dsimp only
      (first
       | (with_reducible exact sB)
       | (with_reducible exact sA)
       | (with_reducible exact sX)
       | exact HSOK.out _ lowB.drew
       | exact HSOK.out _ lowA.drew
       | exact HSOK.out _ low0.drew
       | exact fecS ((BT4.on lowB).other h8t 2 (.string pf)) ((BU4.on lowB).other h8u 2 (.string pf)) ((X8.on lowB).set 2 (.string pf)) ((XD4.on lowB).other h8x 2 (.string pf)) rfl rfl rfl rfl rfl rfl rfl rfl
       | exact fecS (((BT4.on lowB).other h8t 2 (.string pf)).drew) (((BU4.on lowB).other h8u 2 (.string pf)).drew) (((X8.on lowB).set 2 (.string pf)).drew) (((XD4.on lowB).other h8x 2 (.string pf)).drew) rfl rfl rfl rfl rfl rfl rfl rfl
       | exact fecS ((((BT4.on lowB).other h8t 2 (.string pf)).other hrd.nt 0 (.string cn)).other hrd.nt 1 (.string cd)) ((((BU4.on lowB).other h8u 2 (.string pf)).other hrd.nu 0 (.string cn)).other hrd.nu 1 (.string cd)) ((((X8.on lowB).set 2 (.string pf)).other h8b 0 (.string cn)).other h8b 1 (.string cd)) ((((XD4.on lowB).other h8x 2 (.string pf)).other hxb 0 (.string cn)).other hxb 1 (.string cd)) rfl rfl rfl rfl rfl rfl rfl rfl
       | exact fecS (((((BT4.on lowB).other h8t 2 (.string pf)).other hrd.nt 0 (.string cn)).other hrd.nt 1 (.string cd)).drew) (((((BU4.on lowB).other h8u 2 (.string pf)).other hrd.nu 0 (.string cn)).other hrd.nu 1 (.string cd)).drew) (((((X8.on lowB).set 2 (.string pf)).other h8b 0 (.string cn)).other h8b 1 (.string cd)).drew) (((((XD4.on lowB).other h8x 2 (.string pf)).other hxb 0 (.string cn)).other hxb 1 (.string cd)).drew) rfl rfl rfl rfl rfl rfl rfl rfl)
     clear hK K
     try simp only [Act.put]
     try simp only [List.setIfInBounds_toArray]
     try simp only [List.set_cons_succ]
     try simp only [List.set_cons_zero]
     refine wpAnyH_take (i := 9) (v := ?vv11) rfl (by kernel_rfl) (by kernel_rfl) (by kernel_rfl) (fun _ _ _ h => h) (Or.inl ⟨by rfl, ?hy11⟩) (by assumption) ?rest11
     case hy11 =>
      intro w hSw
      try dsimp only at hSw
      go_simp
      try with_reducible rfl
     try simp only [Act.put]
     try simp only [List.setIfInBounds_toArray]
     try simp only [List.set_cons_succ]
     try simp only [List.set_cons_zero]
     refine wpAnyH_take (i := 10) (v := ?vv12) rfl (by kernel_rfl) (by kernel_rfl) (by kernel_rfl) (fun _ _ _ h => h) (Or.inl ⟨by rfl, ?hy12⟩) (by assumption) ?rest12
     case hy12 =>
      intro w hSw
      try dsimp only at hSw
      go_simp
      try with_reducible rfl
     try simp only [Act.put]
     try simp only [List.setIfInBounds_toArray]
     try simp only [List.set_cons_succ]
     try simp only [List.set_cons_zero]
     refine wpAnyH_take (i := 11) (v := ?vv13) rfl (by kernel_rfl) (by kernel_rfl) (by kernel_rfl) (fun _ _ _ h => h) (Or.inl ⟨by rfl, ?hy13⟩) (by assumption) ?rest13
     case hy13 =>
      intro w hSw
      try dsimp only at hSw
      go_simp
      try with_reducible rfl
     try simp only [Act.put]
     try simp only [List.setIfInBounds_toArray]
     try simp only [List.set_cons_succ]
     try simp only [List.set_cons_zero]
     refine wpAnyH_take (i := 12) (v := ?vv14) rfl (by kernel_rfl) (by kernel_rfl) (by kernel_rfl) (fun _ _ _ h => h) (Or.inl ⟨by rfl, ?hy14⟩) (by assumption) ?rest14
     case hy14 =>
      intro w hSw
      try dsimp only at hSw
      go_simp
      try with_reducible rfl
     try simp only [Act.put]
     try simp only [List.setIfInBounds_toArray]
     try simp only [List.set_cons_succ]
     try simp only [List.set_cons_zero]
     refine wpAnyH_ready (rs := [13]) (by kernel_rfl) (by simp) ?_
     refine AllReadyH.cons rfl (fun K hK => ?_) AllReadyH.nil
     go_simp
     refine hK.out _ _ ?_ (fun hHeld => ?_)
     ·try dsimp only
      (first
       | (with_reducible exact sB)
       | (with_reducible exact sA)
       | (with_reducible exact sX)
       | exact HSOK.out _ lowB.drew
       | exact HSOK.out _ lowA.drew
       | exact HSOK.out _ low0.drew
       | exact fecS ((BT4.on lowB).other h8t 2 (.string pf)) ((BU4.on lowB).other h8u 2 (.string pf)) ((X8.on lowB).set 2 (.string pf)) ((XD4.on lowB).other h8x 2 (.string pf)) rfl rfl rfl rfl rfl rfl rfl rfl
       | exact fecS (((BT4.on lowB).other h8t 2 (.string pf)).drew) (((BU4.on lowB).other h8u 2 (.string pf)).drew) (((X8.on lowB).set 2 (.string pf)).drew) (((XD4.on lowB).other h8x 2 (.string pf)).drew) rfl rfl rfl rfl rfl rfl rfl rfl
       | exact fecS ((((BT4.on lowB).other h8t 2 (.string pf)).other hrd.nt 0 (.string cn)).other hrd.nt 1 (.string cd)) ((((BU4.on lowB).other h8u 2 (.string pf)).other hrd.nu 0 (.string cn)).other hrd.nu 1 (.string cd)) ((((X8.on lowB).set 2 (.string pf)).other h8b 0 (.string cn)).other h8b 1 (.string cd)) ((((XD4.on lowB).other h8x 2 (.string pf)).other hxb 0 (.string cn)).other hxb 1 (.string cd)) rfl rfl rfl rfl rfl rfl rfl rfl
       | exact fecS (((((BT4.on lowB).other h8t 2 (.string pf)).other hrd.nt 0 (.string cn)).other hrd.nt 1 (.string cd)).drew) (((((BU4.on lowB).other h8u 2 (.string pf)).other hrd.nu 0 (.string cn)).other hrd.nu 1 (.string cd)).drew) (((((X8.on lowB).set 2 (.string pf)).other h8b 0 (.string cn)).other h8b 1 (.string cd)).drew) (((((XD4.on lowB).other h8x 2 (.string pf)).other hxb 0 (.string cn)).other hxb 1 (.string cd)).drew) rfl rfl rfl rfl rfl rfl rfl rfl)
     clear hK K
     try simp only [Act.put]
     try simp only [List.setIfInBounds_toArray]
     try simp only [List.set_cons_succ]
     try simp only [List.set_cons_zero]
     refine wpAnyH_ready (rs := [14]) (by kernel_rfl) (by simp) ?_
     refine AllReadyH.cons rfl (fun K hK => ?_) AllReadyH.nil
     go_simp
     refine hK.out _ _ ?_ (fun hHeld => ?_)
     ·try dsimp only
      (first
       | (with_reducible exact sB)
       | (with_reducible exact sA)
       | (with_reducible exact sX)
       | exact HSOK.out _ lowB.drew
       | exact HSOK.out _ lowA.drew
       | exact HSOK.out _ low0.drew
       | exact fecS ((BT4.on lowB).other h8t 2 (.string pf)) ((BU4.on lowB).other h8u 2 (.string pf)) ((X8.on lowB).set 2 (.string pf)) ((XD4.on lowB).other h8x 2 (.string pf)) rfl rfl rfl rfl rfl rfl rfl rfl
       | exact fecS (((BT4.on lowB).other h8t 2 (.string pf)).drew) (((BU4.on lowB).other h8u 2 (.string pf)).drew) (((X8.on lowB).set 2 (.string pf)).drew) (((XD4.on lowB).other h8x 2 (.string pf)).drew) rfl rfl rfl rfl rfl rfl rfl rfl
       | exact fecS ((((BT4.on lowB).other h8t 2 (.string pf)).other hrd.nt 0 (.string cn)).other hrd.nt 1 (.string cd)) ((((BU4.on lowB).other h8u 2 (.string pf)).other hrd.nu 0 (.string cn)).other hrd.nu 1 (.string cd)) ((((X8.on lowB).set 2 (.string pf)).other h8b 0 (.string cn)).other h8b 1 (.string cd)) ((((XD4.on lowB).other h8x 2 (.string pf)).other hxb 0 (.string cn)).other hxb 1 (.string cd)) rfl rfl rfl rfl rfl rfl rfl rfl
       | exact fecS (((((BT4.on lowB).other h8t 2 (.string pf)).other hrd.nt 0 (.string cn)).other hrd.nt 1 (.string cd)).drew) (((((BU4.on lowB).other h8u 2 (.string pf)).other hrd.nu 0 (.string cn)).other hrd.nu 1 (.string cd)).drew) (((((X8.on lowB).set 2 (.string pf)).other h8b 0 (.string cn)).other h8b 1 (.string cd)).drew) (((((XD4.on lowB).other h8x 2 (.string pf)).other hxb 0 (.string cn)).other hxb 1 (.string cd)).drew) rfl rfl rfl rfl rfl rfl rfl rfl)
     clear hK K
     try simp only [Act.put]
     try simp only [List.setIfInBounds_toArray]
     try simp only [List.set_cons_succ]
     try simp only [List.set_cons_zero]
     refine wpAnyH_done (by kernel_rfl) ?_ _
     refine NoPanic.normal ?_
     go_wp2_with fail
     have X9 : Bx ((((wB.setCell ⟨b8, 2, none⟩ (.string pf)).setCell ⟨Bm, 0, none⟩ (.string cn)).setCell ⟨Bm, 1, none⟩ (.string cd))) b8 #[.int .i64 e0, .string mg, .string pf, .string ⟨#[]⟩, .string ⟨#[]⟩] := (((X8.on lowB).set 2 (.string pf)).other h8b 0 (.string cn)).other h8b 1 (.string cd)
     have M9 : Bx ((((wB.setCell ⟨b8, 2, none⟩ (.string pf)).setCell ⟨Bm, 0, none⟩ (.string cn)).setCell ⟨Bm, 1, none⟩ (.string cd))) Bm #[.string cn, .string cd] := ((((BM4.on lowB).other n2 2 (.string pf)).set 0 (.string cn)).set 1 (.string cd))
     have hB9 : Below W3.heap.size W3 (wB.setCell ⟨b8, 2, none⟩ (.string pf)) := (HL4.trans (lowB.mono HL4.size)).setCell (p := ⟨b8, 2, none⟩) hb8 _
     have hV9 := below_both (below_both hB9 ⟨Bm, 0, none⟩ (.string cn)) ⟨Bm, 1, none⟩ (.string cd)
     have hiV := HMK.out W3 HI3.out
     have HZ9 : Hid (Inv k (k + 1) ((((wB.setCell ⟨b8, 2, none⟩ (.string pf)).setCell ⟨Bm, 0, none⟩ (.string cn)).setCell ⟨Bm, 1, none⟩ (.string cd)).setCell ⟨b8, 3, none⟩ (.string cn) |>.setCell ⟨b8, 4, none⟩ (.string cd))) := by
      refine HU.out k (k + 1) _ _ hiV ?_
      have e : ((W3.setCell ⟨Bm, 0, none⟩ (.string cn)).setCell ⟨Bm, 1, none⟩ (.string cd)).heap.size = W3.heap.size := by simp [World.setCell]
      rw [e]
      exact (hV9.setCell (p := ⟨b8, 3, none⟩) hb8 _).setCell (p := ⟨b8, 4, none⟩) hb8 _
     generalize ((wB.setCell ⟨b8, 2, none⟩ (.string pf)).setCell ⟨Bm, 0, none⟩ (.string cn)).setCell ⟨Bm, 1, none⟩ (.string cd) = W9 at *
     have q0 := X9.cell (i := 0) (v := .int .i64 e0) rfl
     have q1' := X9.cell (i := 1) (v := .string mg) rfl
     have q2 := X9.cell (i := 2) (v := .string pf) rfl
     have q3 := X9.cell (i := 3) (v := .string ⟨#[]⟩) rfl
     have q4 := X9.cell (i := 4) (v := .string ⟨#[]⟩) rfl
     have w3 := X9.frozen 3
     have w4 := X9.frozen 4
     have p0 := M9.cell (i := 0) (v := .string cn) rfl
     have p1 := M9.cell (i := 1) (v := .string cd) rfl
     obtain ⟨fn, tmps, assign, body, hy, hRR⟩ := HYD.out _ HZ9.out
     have HRR := Lib.hid hRR
     clear hRR
     gi_wp2_with fail
     refine HRR.out.mono ?_
     rintro e W6 ⟨rfl, hn6⟩
     have HN6 := Lib.hid hn6
     clear hn6
     gi_wp2_with fail
     go_roundw
     case rel => exact ⟨k + 1, by omega, by go_num, HN6.out⟩
     case measure => simp [intOf]; omega
end Go.Proofs.YticfdeaphiifeaaGreatDoor
