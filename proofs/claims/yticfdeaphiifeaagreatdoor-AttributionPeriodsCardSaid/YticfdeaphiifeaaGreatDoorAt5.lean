/- Attribution: the iterator over what sectors contribute. Conditions: up to five sectors with numbers of bounded length. -/
import Derived.RangeFuncNested
import Derived.RangeFuncBound
import Derived.RangeFuncCalls
import Derived.RangeFuncLeaves
import Derived.Shelf.Abstract
import Derived.Shelf.RegionOpen
import Derived.OwnWalkIn
import Derived.TacticsInMore
import Derived.LoopNIn
import Derived.LoopIn
import Derived.Sort.LoopGhostIn
import Derived.Test.YticfdeaphiifeaaGreatDoorFd
import Derived.Test.YticfdeaphiifeaaGreatDoorAt4
set_option maxHeartbeats 4000000
set_option maxRecDepth 100000
namespace Go.Proofs.YticfdeaphiifeaaGreatDoor
open Go.RowKit Go.Shelf Dec QQ
attribute [local go_sem] Oper.semAt_some
theorem contributions_any (A : Option Addr) (n c : Nat) (w : World) :
  Calls Tryz.prog 43 #[.slice A n c] w fun e w' => e = .returned (.func (.func 96) #[] #[.pointer (some ⟨w.heap.size, 0, none⟩)]) ∧ w' = w.alloc (.cells #[.slice A n c] 24) := by
 go_enter Tryz.func43, Tryz.ntmps43
 go_wp2
 go_ret
 exact ⟨rfl, rfl⟩
def BF (w : World) (b : Nat) (cs : Array Value) : Prop := w.heap[b]? = some (.cells cs 34 (0, 0))
theorem BF.bx {w : World} {b : Nat} {cs : Array Value} (h : BF w b cs) : Bx w b cs := ⟨_, h⟩
theorem BF.other {w : World} {b c : Nat} {cs : Array Value} (h : BF w b cs) (hc : b ≠ c) (i : Nat) (v : Value) : BF (w.setCell ⟨c, i, none⟩ v) b cs := (Below.heap_setCell _ _ v b hc).trans h
theorem BF.on {w w' : World} {b : Nat} {cs : Array Value} (h : BF w b cs) (hb : Below w.heap.size w w') : BF w' b cs := (hb.block b (Array.getElem?_eq_some_iff.1 h).1).trans h
def KeepF (w w' : World) : Prop := ∀ b cs, BF w b cs → BF w' b cs
theorem FewS.part {k0 : Nat} {l : List SecS} (h : FewS k0 l) {s : SecS} (hs : s ∈ l) : FitQ (2 * k0 + 1) (s.w - s.v) ∧ FitQ (2 * k0 + 1) (s.r - s.b) ∧ FitQ (k0 + (5 * (2 * k0 + 1) + 1) + 1) (s.b - benQ l) := by
 have f := h.fit hs
 exact ⟨(f.1.sub f.2.2.1).mono (by omega), (f.2.1.sub f.2.2.2).mono (by omega), f.2.2.2.sub h.q.2.2.2⟩
theorem contrib_in {A : Option Addr} {n c k0 : Nat} {L : List SecS} (l0 Bl : Nat) (hn : L.length = n) (hl : FewS k0 L) (Inv : Nat → World → Prop)
  (hG : ∀ k W, Inv k W → Gl W ∧ Row W A (flatG scells L) ∧ Boxed W Bl 24 (.slice A n c)) (hU : ∀ k W W', Inv k W → Below W.heap.size W W' → Inv k W')
  (hY : ∀ k W1 s, k < n → L[k]? = some s → Inv k W1 → YieldAt Fence.wide 4 Tryz.prog l0 #[.int .i64 (k : Int), prtV (partS (benQ L) s)] W1 fun e W' => e = .returned (.bool true) ∧ Inv (k + 1) W' ∧ KeepF W1 W')
  (W : World) (h0 : Inv 0 W) :
  CallsIn Fence.wide 5 Tryz.prog 96 #[.func (.yield l0) #[] #[], .pointer (some ⟨Bl, 0, none⟩)] W fun en W' => (∃ v, en = .returned v) ∧ Inv n W' := by
 have HG := Lib.hid hG
 have HU := Lib.hid hU
 have HY := Lib.hid hY
 have HN := Lib.hid hn
 have HL := Lib.hid hl
 have H0 := Lib.hid h0
 have c0 := (hG 0 W h0).2.2.cell
 have KR := returns_any (A := A) (c := c) hn hl
 have h5 : n ≤ 5 := by have := hl.1; omega
 have hk3 : k0 ≤ 3000 := hl.2.1
 have HQ := Lib.hid (hl.q)
 unfold FR at KR
 clear hG hU hY hn hl h0
 obtain ⟨an, han⟩ : ∃ x, frN (ownQ L) = x := ⟨_, rfl⟩
 obtain ⟨ad, had⟩ : ∃ x, frD (ownQ L) = x := ⟨_, rfl⟩
 obtain ⟨bn, hbn⟩ : ∃ x, frN (benQ L) = x := ⟨_, rfl⟩
 obtain ⟨bd, hbd⟩ : ∃ x, frD (benQ L) = x := ⟨_, rfl⟩
 have VB : Hid (Vq bn bd (benQ L)) := by
  have := Vq.fr HQ.out.2.2.2 (by omega)
  rw [hbn, hbd] at this
  exact this
 rw [han, had, hbn, hbd] at KR
 clear han had hbn hbd
 refine callsIn_of_wp Tryz.func96 rfl trivial ?_ rfl
 simp only [Tryz.ntmps96, List.size_toArray, List.length_cons, List.length_nil, Nat.reduceAdd, Nat.reduceSub, Array.replicate_succ, Array.replicate_zero, List.push_toArray, List.append_toArray, List.nil_append, List.cons_append]
 gi_wp2_with fail
 refine ⟨trivial, (callsIn_wide.2 (KR W (HG.out 0 W H0.out).1 (HG.out 0 W H0.out).2.1)).mono ?_⟩
 rintro e w1 ⟨rfl, hb1⟩
 have hi1 := HU.out 0 W w1 H0.out hb1
 have hb2 : Below w1.heap.size w1 ((w1.alloc (.cells #[.string an, .string ad] 34)).alloc (.cells #[.string bn, .string bd] 34)) := ((Below.refl _ w1).alloc (Nat.le_refl _) _).alloc (by simp) _
 have HB2 : Hid (BF ((w1.alloc (.cells #[.string an, .string ad] 34)).alloc (.cells #[.string bn, .string bd] 34)) (w1.heap.size + 1) #[.string bn, .string bd]) := by
  have := heap_new (w1.alloc (.cells #[.string an, .string ad] 34)) (.cells #[.string bn, .string bd] 34)
  rwa [World.size_alloc] at this
 have hi2 := HU.out 0 _ _ hi1 hb2
 have H2 := Lib.hid hi2
 have c1 := (HG.out 0 w1 hi1).2.2.cell
 have c2 := (HG.out 0 _ hi2).2.2.cell
 clear hi1 hi2 c0 hb2
 gi_wp2_with fail
 generalize (w1.alloc (.cells #[.string an, .string ad] 34)).alloc (.cells #[.string bn, .string bd] 34) = W2 at *
 gi_loopw [17] (fun s wr => ∃ k : Nat, k ≤ n ∧ s = .int .i64 (k : Int) ∧ Hid (Inv k wr ∧ BF wr (w1.heap.size + 1) #[.string bn, .string bd])) (fun s _ => (n - intOf s).toNat)
 case atStart => exact ⟨0, by omega, rfl, H2.out, HB2.out⟩
 case round =>
  obtain ⟨k, hk, rfl, H⟩ := hrel
  by_cases hkn : k = n
  ·subst hkn
   have q : decide ((k : Int) < (k : Int)) = false := decide_eq_false (by omega)
   gi_wp2_with fail
   go_end0
   exact ⟨⟨_, rfl⟩, H.out.1⟩
  ·have hkl : k < n := by omega
   have q : decide ((k : Int) < (n : Int)) = true := decide_eq_true (by omega)
   have qn : decide (k < n) = true := decide_eq_true hkl
   obtain ⟨d, hd⟩ : ∃ d, L[k]? = some d := ⟨L[k]'(by rw [HN.out]; exact hkl), by simp⟩
   obtain ⟨b, o, hA, hb, hcells⟩ := row_at (cs := scells) (m := 9) scells_len (by decide) (HG.out k wr H.out.1).2.1 hd
   have hdz := HL.out.2.2.2 d (List.mem_of_getElem? hd)
   have hp := HL.out.part (List.mem_of_getElem? hd)
   unfold SecS.le at hdz
   have K1 := SubF (Vq.arg (n := d.wn) (d := d.wd) (by omega) (by omega)) (Vq.arg (n := d.vn) (d := d.vd) (by omega) (by omega))
   have K2 := SubF (Vq.arg (n := d.rn) (d := d.rd) (by omega) (by omega)) (Vq.arg (n := d.bn) (d := d.bd) (by omega) (by omega))
   have K3 := SubF (Vq.arg (n := d.bn) (d := d.bd) (by omega) (by omega)) VB.out
   change Ret _ _ (FR (d.w - d.v)) at K1
   change Ret _ _ (FR (d.r - d.b)) at K2
   change Ret _ _ (FR (d.b - benQ L)) at K3
   have K4 := MulF (Vq.fr hp.1 (by omega)) (Vq.fr hp.2.2 (by omega))
   have K5 := MulF (Vq.arg (n := d.vn) (d := d.vd) (by omega) (by omega)) (Vq.fr hp.2.1 (by omega))
   have K6 := MulF (Vq.fr hp.1 (by omega)) (Vq.fr hp.2.1 (by omega))
   change Ret _ _ (FR (d.v * (d.r - d.b))) at K5
   have HYK := HY.out k
   have HPV : Hid (prtV (partS (benQ L) d) = .agg #[.string d.nm, .string (frN ((d.w - d.v) * (d.b - benQ L))), .string (frD ((d.w - d.v) * (d.b - benQ L))), .string (frN (d.v * (d.r - d.b))), .string (frD (d.v * (d.r - d.b))), .string (frN ((d.w - d.v) * (d.r - d.b))), .string (frD ((d.w - d.v) * (d.r - d.b)))]) := rfl
   have HYD := Lib.hid (fun W1 h => HYK W1 d hkl hd h)
   subst hA
   unfold FR at K1 K2 K3 K4 K5 K6
   unfold FV at K1 K2 K3 K4 K5 K6
   clear hd hkn hdz hp HYK
   generalize frN (d.w - d.v) = wn1 at *
   generalize frD (d.w - d.v) = wd1 at *
   generalize frN (d.r - d.b) = rn1 at *
   generalize frD (d.r - d.b) = rd1 at *
   generalize frN (d.b - benQ L) = gn1 at *
   generalize frD (d.b - benQ L) = gd1 at *
   generalize frN ((d.w - d.v) * (d.b - benQ L)) = pa at *
   generalize frD ((d.w - d.v) * (d.b - benQ L)) = pb at *
   generalize frN (d.v * (d.r - d.b)) = pc at *
   generalize frD (d.v * (d.r - d.b)) = pd at *
   generalize frN ((d.w - d.v) * (d.r - d.b)) = pe at *
   generalize frD ((d.w - d.v) * (d.r - d.b)) = pf at *
   generalize prtV (partS (benQ L) d) = PV at *
   have hpv := HPV.out
   subst hpv
   obtain ⟨f0, f1, f2, f3, f4, f5, f6, f7, f8⟩ := d
   have x0 : wr.cell? ⟨b, o + k * 9, none⟩ = some (.string f0) := hcells 0 _ rfl
   have x1 : wr.cell? ⟨b, o + k * 9 + 1, none⟩ = some (.string f1) := hcells 1 _ rfl
   have x2 : wr.cell? ⟨b, o + k * 9 + 2, none⟩ = some (.string f2) := hcells 2 _ rfl
   have x3 : wr.cell? ⟨b, o + k * 9 + 3, none⟩ = some (.string f3) := hcells 3 _ rfl
   have x4 : wr.cell? ⟨b, o + k * 9 + 4, none⟩ = some (.string f4) := hcells 4 _ rfl
   have x5 : wr.cell? ⟨b, o + k * 9 + 5, none⟩ = some (.string f5) := hcells 5 _ rfl
   have x6 : wr.cell? ⟨b, o + k * 9 + 6, none⟩ = some (.string f6) := hcells 6 _ rfl
   have x7 : wr.cell? ⟨b, o + k * 9 + 7, none⟩ = some (.string f7) := hcells 7 _ rfl
   have x8 : wr.cell? ⟨b, o + k * 9 + 8, none⟩ = some (.string f8) := hcells 8 _ rfl
   clear hcells
   dsimp only at K1 K2 K3 K4 K5 K6 HYD
   have hba : Below wr.heap.size wr (wr.alloc (.cells #[.string f0, .string f1, .string f2, .string f3, .string f4, .string f5, .string f6, .string f7, .string f8] 73)) := (Below.refl _ _).alloc (Nat.le_refl _) _
   have BD := Bx.new wr #[.string f0, .string f1, .string f2, .string f3, .string f4, .string f5, .string f6, .string f7, .string f8] 73
   have BB := H.out.2.on hba
   have hi := HU.out k _ _ H.out.1 hba
   have hGl : Gl (wr.alloc (.cells #[.string f0, .string f1, .string f2, .string f3, .string f4, .string f5, .string f6, .string f7, .string f8] 73)) := (HG.out k _ hi).1
   gi_wp2_with fail
   refine wpIn_wide.2 ?_
   obtain ⟨W3, hW3⟩ : ∃ W3, wr.alloc (.cells #[.string f0, .string f1, .string f2, .string f3, .string f4, .string f5, .string f6, .string f7, .string f8] 73) = W3 := ⟨_, rfl⟩
   rw [hW3] at BD BB hi hGl ⊢
   generalize wr.heap.size = bx at *
   have hs3 := St.refl hGl
   refine wp_region_fresh2 12 10 7 11 8 #[.string ⟨#[]⟩, .string ⟨#[]⟩] #[.string ⟨#[]⟩, .string ⟨#[]⟩] (by kernel_rfl) (by kernel_rfl) (by kernel_rfl) (by omega) (by omega) (by omega) rfl rfl (by kernel_rfl) ⟨_, 7, _, rfl, rfl, rfl, fun _ _ => by simp [execOp, go_sem, ptrTo]; rfl⟩ ⟨_, 8, _, rfl, rfl, rfl, fun _ _ => by simp [execOp, go_sem, ptrTo]; rfl⟩ ?_
   apply Exists.intro
   refine ⟨fun S W hne hk hcl => ?_, ?_⟩
   ·simp only [List.take_succ_cons, List.take_zero, quietL, List.mem_cons, List.not_mem_nil, or_false, Nat.reduceAdd, Nat.reduceEqDiff, reduceIte, Nat.zero_add]
    have kk0 := BD.in hk (i := 0) (v := .string f0) rfl
    have kk1 := BD.in hk (i := 1) (v := .string f1) rfl
    have kk2 := BD.in hk (i := 2) (v := .string f2) rfl
    have kk3 := BD.in hk (i := 3) (v := .string f3) rfl
    have kk4 := BD.in hk (i := 4) (v := .string f4) rfl
    have kk5 := BD.in hk (i := 5) (v := .string f5) rfl
    have kk6 := BD.in hk (i := 6) (v := .string f6) rfl
    have kk7 := BD.in hk (i := 7) (v := .string f7) rfl
    have kk8 := BD.in hk (i := 8) (v := .string f8) rfl
    repeat (go_big_quiet_step (first | (with_reducible exact K1.fresh hs3 hk hcl) | (with_reducible exact K2.fresh hs3 hk hcl)))
    exact wpQuiet_nil rfl
   intro b7 b8 v hb7 hb8 hne hv hx7 hx8
   simp only [List.drop_succ_cons, List.drop_zero, ptrTo]
   have e0 := hx7.cell (i := 0) (v := .string ⟨#[]⟩) rfl
   have e1 := hx7.cell (i := 1) (v := .string ⟨#[]⟩) rfl
   have e2 := hx8.cell (i := 0) (v := .string ⟨#[]⟩) rfl
   have e3 := hx8.cell (i := 1) (v := .string ⟨#[]⟩) rfl
   have g0 := hx7.frozen 0
   have g1 := hx7.frozen 1
   have g2 := hx8.frozen 0
   have g3 := hx8.frozen 1
   have hne' : ¬ b8 = b7 := fun e => hne e.symm
   have hne2 : ¬ b7 = b8 := hne
   go_wp2_with fail
   obtain ⟨W4, hW4, X7, X8, BD4, BB4, hi4⟩ : ∃ W4, ((((v.setCell ⟨b7, 0, none⟩ (.string wn1)).setCell ⟨b7, 1, none⟩ (.string wd1)).setCell ⟨b8, 0, none⟩ (.string rn1)).setCell ⟨b8, 1, none⟩ (.string rd1)) = W4 ∧ Bx W4 b7 #[.string wn1, .string wd1] ∧ Bx W4 b8 #[.string rn1, .string rd1] ∧ Bx W4 bx #[.string f0, .string f1, .string f2, .string f3, .string f4, .string f5, .string f6, .string f7, .string f8] ∧ BF W4 (w1.heap.size + 1) #[.string bn, .string bd] ∧ Inv k W4 := by
    have h1 : bx ≠ b7 := by have := BD.lt; omega
    have h2 : bx ≠ b8 := by have := BD.lt; omega
    have h3 : w1.heap.size + 1 ≠ b7 := by have := BB.bx.lt; omega
    have h4 : w1.heap.size + 1 ≠ b8 := by have := BB.bx.lt; omega
    refine ⟨_, rfl, (((hx7.set 0 (.string wn1)).set 1 (.string wd1)).other hne2 0 _).other hne2 1 _, (((hx8.other hne' 0 _).other hne' 1 _).set 0 (.string rn1)).set 1 (.string rd1), ((((BD.on hv).other h1 0 _).other h1 1 _).other h2 0 _).other h2 1 _, ((((BB.on hv).other h3 0 _).other h3 1 _).other h4 0 _).other h4 1 _, HU.out k _ _ hi ((((hv.setCell (p := ⟨b7, 0, none⟩) hb7 _).setCell (p := ⟨b7, 1, none⟩) hb7 _).setCell (p := ⟨b8, 0, none⟩) hb8 _).setCell (p := ⟨b8, 1, none⟩) hb8 _)⟩
   rw [hW4]
   clear e0 e1 e2 e3 g0 g1 g2 g3 hne' hne2 hne hx7 hx8 hv hW4 BD BB hi
   have hGl4 : Gl W4 := (HG.out k _ hi4).1
   have hs4 := St.refl hGl4
   gi_wp2_with fail
   refine wpIn_wide.2 ?_
   refine wp_region_fresh1 17 16 9 #[.string ⟨#[]⟩, .string ⟨#[]⟩, .string ⟨#[]⟩, .string ⟨#[]⟩, .string ⟨#[]⟩, .string ⟨#[]⟩, .string ⟨#[]⟩] (by kernel_rfl) (by kernel_rfl) (by kernel_rfl) (by omega) rfl (by kernel_rfl) ⟨_, 9, _, rfl, rfl, rfl, fun _ _ => by simp [execOp, go_sem, ptrTo]; rfl⟩ ?_
   apply Exists.intro
   refine ⟨fun S W hne hk hcl => ?_, ?_⟩
   ·simp only [List.take_succ_cons, List.take_zero, quietL, List.mem_cons, List.not_mem_nil, or_false, Nat.reduceAdd, Nat.reduceEqDiff, reduceIte, Nat.zero_add]
    have kk0 := BD4.in hk (i := 0) (v := .string f0) rfl
    have kk1 := BD4.in hk (i := 1) (v := .string f1) rfl
    have kk2 := BD4.in hk (i := 2) (v := .string f2) rfl
    have kk3 := BD4.in hk (i := 3) (v := .string f3) rfl
    have kk4 := BD4.in hk (i := 4) (v := .string f4) rfl
    have kk5 := BD4.in hk (i := 5) (v := .string f5) rfl
    have kk6 := BD4.in hk (i := 6) (v := .string f6) rfl
    have kk7 := BD4.in hk (i := 7) (v := .string f7) rfl
    have kk8 := BD4.in hk (i := 8) (v := .string f8) rfl
    have ka0 := X7.in hk (i := 0) (v := .string wn1) rfl
    have ka1 := X7.in hk (i := 1) (v := .string wd1) rfl
    have ka2 := X8.in hk (i := 0) (v := .string rn1) rfl
    have ka3 := X8.in hk (i := 1) (v := .string rd1) rfl
    have ka4 := BB4.bx.in hk (i := 0) (v := .string bn) rfl
    have ka5 := BB4.bx.in hk (i := 1) (v := .string bd) rfl
    repeat (go_big_quiet_step (first | (with_reducible exact K3.fresh hs4 hk hcl) | (with_reducible exact K4.fresh hs4 hk hcl) | (with_reducible exact K5.fresh hs4 hk hcl) | (with_reducible exact K6.fresh hs4 hk hcl)))
    exact wpQuiet_nil rfl
   intro b9 v hb9 hv hx9
   simp only [List.drop_succ_cons, List.drop_zero, ptrTo]
   have e0 := hx9.cell (i := 0) (v := .string ⟨#[]⟩) rfl
   have g0 := hx9.frozen 0
   have e1 := hx9.cell (i := 1) (v := .string ⟨#[]⟩) rfl
   have g1 := hx9.frozen 1
   have e2 := hx9.cell (i := 2) (v := .string ⟨#[]⟩) rfl
   have g2 := hx9.frozen 2
   have e3 := hx9.cell (i := 3) (v := .string ⟨#[]⟩) rfl
   have g3 := hx9.frozen 3
   have e4 := hx9.cell (i := 4) (v := .string ⟨#[]⟩) rfl
   have g4 := hx9.frozen 4
   have e5 := hx9.cell (i := 5) (v := .string ⟨#[]⟩) rfl
   have g5 := hx9.frozen 5
   have e6 := hx9.cell (i := 6) (v := .string ⟨#[]⟩) rfl
   have g6 := hx9.frozen 6
   go_wp2_with fail
   obtain ⟨W5, hW5, X9, BB5, hi5⟩ : ∃ W5, (((((((v.setCell ⟨b9, 0, none⟩ (.string f0)).setCell ⟨b9, 1, none⟩ (.string pa)).setCell ⟨b9, 2, none⟩ (.string pb)).setCell ⟨b9, 3, none⟩ (.string pc)).setCell ⟨b9, 4, none⟩ (.string pd)).setCell ⟨b9, 5, none⟩ (.string pe)).setCell ⟨b9, 6, none⟩ (.string pf)) = W5 ∧ Bx W5 b9 #[.string f0, .string pa, .string pb, .string pc, .string pd, .string pe, .string pf] ∧ BF W5 (w1.heap.size + 1) #[.string bn, .string bd] ∧ Inv k W5 := by
    have h3 : w1.heap.size + 1 ≠ b9 := by have := BB4.bx.lt; omega
    refine ⟨_, rfl, ((((((hx9.set 0 (.string f0)).set 1 (.string pa)).set 2 (.string pb)).set 3 (.string pc)).set 4 (.string pd)).set 5 (.string pe)).set 6 (.string pf), (((((((BB4.on hv).other h3 0 _).other h3 1 _).other h3 2 _).other h3 3 _).other h3 4 _).other h3 5 _).other h3 6 _, HU.out k _ _ hi4 (((((((hv.setCell (p := ⟨b9, 0, none⟩) hb9 _).setCell (p := ⟨b9, 1, none⟩) hb9 _).setCell (p := ⟨b9, 2, none⟩) hb9 _).setCell (p := ⟨b9, 3, none⟩) hb9 _).setCell (p := ⟨b9, 4, none⟩) hb9 _).setCell (p := ⟨b9, 5, none⟩) hb9 _).setCell (p := ⟨b9, 6, none⟩) hb9 _)⟩
   rw [hW5]
   clear e0 e1 e2 e3 e4 e5 e6 g0 g1 g2 g3 g4 g5 g6 hx9 hv hW5 BD4 BB4 hi4 X7 X8
   have z0 := X9.cell (i := 0) (v := .string f0) rfl
   have z1 := X9.cell (i := 1) (v := .string pa) rfl
   have z2 := X9.cell (i := 2) (v := .string pb) rfl
   have z3 := X9.cell (i := 3) (v := .string pc) rfl
   have z4 := X9.cell (i := 4) (v := .string pd) rfl
   have z5 := X9.cell (i := 5) (v := .string pe) rfl
   have z6 := X9.cell (i := 6) (v := .string pf) rfl
   obtain ⟨fn, tmps, assign, body, hy, hR⟩ := HYD.out W5 hi5
   have HRR := Lib.hid hR
   clear hR
   gi_wp2_with fail
   refine HRR.out.mono ?_
   rintro e W6 ⟨rfl, hn6, hkeep⟩
   have HN6 : Hid (Inv (k + 1) W6 ∧ BF W6 (w1.heap.size + 1) #[.string bn, .string bd]) := ⟨hn6, hkeep _ _ BB5⟩
   clear hn6 hkeep
   gi_wp2_with fail
   go_roundw
   case rel => exact ⟨k + 1, by omega, by go_num, HN6.out⟩
   case measure => simp [intOf]; omega
end Go.Proofs.YticfdeaphiifeaaGreatDoor
