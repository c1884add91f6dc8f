/- Fees: the greatest price of a unit. Conditions: up to eight points with numbers of up to 13 bytes. -/
import Derived.Test.YticfdeaphiifeaaGreatDoorFeE
set_option maxHeartbeats 4000000
set_option maxRecDepth 100000
namespace Go.Proofs.YticfdeaphiifeaaGreatDoor
open Go.RowKit Go.Shelf Dec QQ
def ptV (p : PtS) : Value := .agg #[.int .i64 p.day, .string p.v, .string p.f]
theorem mark1_any {u : ByteArray} {B : Nat} (hu : u.size ≤ 13) (h0 : valS u ≠ 0) (p : PtS) (hp : p.v.size ≤ 13) : RetI (fun w => Bx w B #[.string u]) 69 (#[ptV p] ++ #[.pointer (some ⟨B, 0, none⟩)]) (FR (rat (valS p.v) (valS u))) := by
 intro w hg hi
 have K := NewF (Vs.arg (s := p.v) (by omega)) (Vs.arg (s := u) (by omega)) (by omega) (by omega) h0
 unfold FR at K ⊢
 obtain ⟨f0, f1, f2⟩ := p
 dsimp only [ptV] at *
 generalize frN (rat (valS f1) (valS u)) = rn at *
 generalize frD (rat (valS f1) (valS u)) = rd at *
 have hs := ((St.refl hg).alloc (.cells #[.int .i64 f0, .string f1, .string f2] 63)).alloc (.cells #[.string ⟨#[]⟩, .string ⟨#[]⟩] 34)
 have XP := (Bx.new w #[.int .i64 f0, .string f1, .string f2] 63).alloc (.cells #[.string ⟨#[]⟩, .string ⟨#[]⟩] 34)
 have XU := (hi.alloc (.cells #[.int .i64 f0, .string f1, .string f2] 63)).alloc (.cells #[.string ⟨#[]⟩, .string ⟨#[]⟩] 34)
 have XZ := Bx.new1 w (.cells #[.int .i64 f0, .string f1, .string f2] 63) #[.string ⟨#[]⟩, .string ⟨#[]⟩] 34
 have lU := hi.lt
 have p1 := XP.cell (i := 1) (v := .string f1) rfl
 have u0 := XU.cell (i := 0) (v := .string u) rfl
 show Calls _ _ #[_, _] _ _
 go_enter Tryz.func69, Tryz.ntmps69
 go_wp2_with fail
 refine K.step hs ?_
 intro w3 hs hb
 have B := (XZ.on hb).alloc (.cells #[.string rn, .string rd] 34)
 have hs := hs.alloc (.cells #[.string rn, .string rd] 34)
 have ce0 := B.cell (i := 0) (v := .string ⟨#[]⟩) rfl
 have ce1 := B.cell (i := 1) (v := .string ⟨#[]⟩) rfl
 have cg0 := B.frozen 0
 have cg1 := B.frozen 1
 clear p1 u0
 go_wp2_with fail
 obtain ⟨W, hW, y0, y1, hbe⟩ := ret_frac hs (by omega) B rn rd
 rw [hW]
 exact bodyPost_ret (v := .agg #[.string rn, .string rd]) (by simp [results, Tryz.results69, go_sem, y0, y1]) rfl ⟨rfl, hbe⟩
theorem mark2_any {p q : Rat} {k m : Nat} (h1 : FitQ k p) (h2 : FitQ m q) (hk : k + m ≤ 90000) : Ret 72 #[FR p, FR q] (.bool (decide (p < q))) := by
 intro w hg
 have K := CmpF (Vq.fr h1 (by omega)) (Vq.fr h2 (by omega)) (h1.sub h2) (by omega)
 have q1 : decide (cmpQ p q < 0) = decide (p < q) := decide_eq_decide.2 cmpQ_neg
 unfold FV at K
 unfold FR
 generalize frN p = a at *
 generalize frD p = b at *
 generalize frN q = c at *
 generalize frD q = d at *
 generalize cmpQ p q = cc at *
 generalize decide (p < q) = v at *
 have hs := ((St.refl hg).alloc (.cells #[.string a, .string b] 34)).alloc (.cells #[.string c, .string d] 34)
 have X1 := (Bx.new w #[.string a, .string b] 34).alloc (.cells #[.string c, .string d] 34)
 have x0 := X1.cell (i := 0) (v := .string a) rfl
 have x1 := X1.cell (i := 1) (v := .string b) rfl
 go_enter Tryz.func72, Tryz.ntmps72
 go_wp2_with fail
 refine K.step hs ?_
 intro w1 hs hb
 go_wp2_with fail
 go_ret
 exact ⟨rfl, hs.2⟩
theorem greatest_any {A : Option Addr} {N c : Nat} {L : List PtS} {U : Int} {f g : FuncId} {cap : Array Value} {I : World → Prop} (hI : Stays I) (hn : L.length = N + 1) (hc : N + 1 ≤ c) (h8 : N ≤ 7)
  (hcf : ∀ (args : Array Value) (u : World), (callFunc f args).run Tryz.prog u = .ok (.enter f args) u) (hcg : ∀ (args : Array Value) (u : World), (callFunc g args).run Tryz.prog u = .ok (.enter g args) u)
  (KF : Hid (∀ s ∈ L, RetI I f (#[ptV s] ++ cap) (FR (rat (valS s.v) U)))) (KG : Hid (∀ k j, k ≤ N → j ≤ N → Ret g #[FR (bestK U L k), FR (rat (valS (ptAt L j).v) U)] (.bool (decide (bestK U L k < rat (valS (ptAt L j).v) U))))) :
  RetI (fun w => Row w A (flatG ptcells L) ∧ I w) 71 #[.slice A (N + 1) c, .func (.func f) #[] cap, .func (.func g) #[] #[]] (FR (bestK U L N)) := by
 intro w hg hi
 have HN := Lib.hid hn
 have HI := Lib.hid hI
 have Hi := Lib.hid hi
 have hs := (St.refl hg).alloc (.cells #[.string ⟨#[]⟩, .string ⟨#[]⟩] 34)
 have XZ := Bx.new w #[.string ⟨#[]⟩, .string ⟨#[]⟩] 34
 obtain ⟨d, hd⟩ : ∃ d, L[0]? = some d := ⟨L[0]'(by omega), by simp⟩
 obtain ⟨b, o, hA, hb, hc0⟩ := row_at (cs := ptcells) (m := 3) ptcells_lenS (by decide) hi.1 hd
 subst hA
 have K0 := KF.out d (List.mem_of_getElem? hd)
 have HB0 : Hid (bestK U L 0 = rat (valS d.v) U) := by show _ = _; unfold bestK; rw [ptAt_some hd]
 have hbw : Below w.heap.size w (w.alloc (.cells #[.string ⟨#[]⟩, .string ⟨#[]⟩] 34)) := (Below.refl _ _).alloc (Nat.le_refl _) _
 obtain ⟨f0, f1, f2⟩ := d
 dsimp only [ptV] at K0 HB0
 rw [← HB0.out] at K0
 have z0 := hc0 0 _ rfl
 have z1 := hc0 1 _ rfl
 have z2 := hc0 2 _ rfl
 simp only [Nat.zero_mul, Nat.add_zero, Nat.zero_add] at z0 z1 z2
 replace z0 := (hbw.cell (p := ⟨b, o, none⟩) hb).trans z0
 replace z1 := (hbw.cell (p := ⟨b, o + 1, none⟩) hb).trans z1
 replace z2 := (hbw.cell (p := ⟨b, o + 2, none⟩) hb).trans z2
 have qn0 : decide ((0 : Int) < ((N : Int) + 1)) = true := decide_eq_true (by omega)
 have qn1 : decide (0 < N + 1) = true := decide_eq_true (by omega)
 clear hc0 hd hn hI
 unfold FR at K0
 obtain ⟨an, han⟩ : ∃ x, frN (bestK U L 0) = x := ⟨_, rfl⟩
 obtain ⟨ad, had⟩ : ∃ x, frD (bestK U L 0) = x := ⟨_, rfl⟩
 rw [han, had] at K0
 have HAN : Hid (frN (bestK U L 0) = an ∧ frD (bestK U L 0) = ad) := ⟨han, had⟩
 clear han had hi
 go_enter Tryz.func71, Tryz.ntmps71
 go_wp2_with fail
 refine K0.step hs (HI.out _ _ Hi.out.2 hbw) ?_
 intro w1 hs hb1
 clear z0 z1 z2 hbw
 have B7 := Bx.new w1 #[.string an, .string ad] 34
 have XZ7 := (XZ.on hb1).alloc (.cells #[.string an, .string ad] 34)
 have hs := hs.alloc (.cells #[.string an, .string ad] 34)
 have HW1 : Hid (w.heap.size < w1.heap.size) := by have := hb1.size; simp at this; show _ < _; omega
 have hadd : (⟨b, o, none⟩ : Addr).add (1 * 3) = ⟨b, o + 3, none⟩ := rfl
 have hadd3 : (⟨b, o, none⟩ : Addr).add 3 = ⟨b, o + 3, none⟩ := rfl
 by_cases hc1 : c = 1
 ·obtain rfl : N = 0 := by omega
  subst hc1
  go_wp2_with fail
  go_loopw [19] (fun s wr => s = .int .i64 0 ∧ St w wr ∧ Bx wr w.heap.size #[.string ⟨#[]⟩, .string ⟨#[]⟩] ∧ Bx wr w1.heap.size #[.string an, .string ad]) (fun _ _ => 0)
  case atStart => exact ⟨rfl, hs, XZ7, B7⟩
  case round =>
   obtain ⟨rfl, hs, XZ, B7⟩ := hrel
   have ce0 := XZ.cell (i := 0) (v := .string ⟨#[]⟩) rfl
   have ce1 := XZ.cell (i := 1) (v := .string ⟨#[]⟩) rfl
   have cg0 := XZ.frozen 0
   have cg1 := XZ.frozen 1
   have z0 := B7.cell (i := 0) (v := .string an) rfl
   have z1 := B7.cell (i := 1) (v := .string ad) rfl
   have HNE : Hid (w.heap.size ≠ w1.heap.size) := by have := HW1.out; show _ ≠ _; omega
   go_wp2_with fail
   obtain ⟨W, hW, y0, y1, hbe⟩ := ret_frac hs (Nat.le_refl _) XZ an ad
   rw [hW]
   exact bodyPost_ret (v := .agg #[.string an, .string ad]) (by simp [results, Tryz.results71, go_sem, y0, y1]) rfl ⟨by unfold FR; rw [HAN.out.1, HAN.out.2], hbe⟩
 ·have hc2 : ¬ c = 1 := hc1
  go_wp2_with fail
  go_loopw [19] (fun s wr => ∃ k : Nat, k ≤ N ∧ s = .int .i64 (k : Int) ∧ St w wr ∧ Bx wr w.heap.size #[.string ⟨#[]⟩, .string ⟨#[]⟩] ∧ (∃ an ad, Hid (frN (bestK U L k) = an ∧ frD (bestK U L k) = ad) ∧ Bx wr w1.heap.size #[.string an, .string ad])) (fun s _ => (N - intOf s).toNat)
  case atStart => exact ⟨0, by omega, rfl, hs, XZ7, an, ad, HAN, B7⟩
  case round =>
   clear HAN XZ7 B7 hs
   obtain ⟨k, hk, rfl, hs, XZ, an, ad, HAN, B7⟩ := hrel
   by_cases hkn : k = N
   ·subst hkn
    have q : decide ((k : Int) < (k : Int)) = false := decide_eq_false (by omega)
    have ce0 := XZ.cell (i := 0) (v := .string ⟨#[]⟩) rfl
    have ce1 := XZ.cell (i := 1) (v := .string ⟨#[]⟩) rfl
    have cg0 := XZ.frozen 0
    have cg1 := XZ.frozen 1
    have z0 := B7.cell (i := 0) (v := .string an) rfl
    have z1 := B7.cell (i := 1) (v := .string ad) rfl
    have HNE : Hid (w.heap.size ≠ w1.heap.size) := by have := HW1.out; show _ ≠ _; omega
    go_wp2_with fail
    obtain ⟨W, hW, y0, y1, hbe⟩ := ret_frac hs (Nat.le_refl _) XZ an ad
    rw [hW]
    exact bodyPost_ret (v := .agg #[.string an, .string ad]) (by simp [results, Tryz.results71, go_sem, y0, y1]) rfl ⟨by unfold FR; rw [HAN.out.1, HAN.out.2], hbe⟩
   ·have hkl : k < N := by omega
    have q : decide ((k : Int) < (N : Int)) = true := decide_eq_true (by omega)
    have qn : decide (k < N) = true := decide_eq_true hkl
    obtain ⟨pt, hpt⟩ : ∃ d, L[k + 1]? = some d := ⟨L[k + 1]'(by rw [HN.out]; omega), by simp⟩
    obtain ⟨b', o', hA2, _, hcP⟩ := row_at (cs := ptcells) (m := 3) ptcells_lenS (by decide) (Hi.out.1.on hs.2) hpt
    obtain ⟨rfl, rfl⟩ : b = b' ∧ o = o' := by injection hA2 with hA2; injection hA2 with h1 h2; exact ⟨h1, h2⟩
    have KM := KF.out pt (List.mem_of_getElem? hpt)
    have KC := KG.out k (k + 1) (by omega) (by omega)
    have HBN : Hid (bestK U L (k + 1) = if bestK U L k < rat (valS (ptAt L (k + 1)).v) U then rat (valS (ptAt L (k + 1)).v) U else bestK U L k) := rfl
    rw [ptAt_some hpt] at KC HBN
    obtain ⟨e0, e1, e2⟩ := pt
    dsimp only [ptV] at KM KC HBN
    unfold FR at KM KC
    rw [HAN.out.1, HAN.out.2] at KC
    obtain ⟨pn, hpn⟩ : ∃ x, frN (rat (valS e1) U) = x := ⟨_, rfl⟩
    obtain ⟨pd, hpd⟩ : ∃ x, frD (rat (valS e1) U) = x := ⟨_, rfl⟩
    rw [hpn, hpd] at KM KC
    have HPN : Hid (frN (rat (valS e1) U) = pn ∧ frD (rat (valS e1) U) = pd) := ⟨hpn, hpd⟩
    obtain ⟨t, ht⟩ : ∃ t, decide (bestK U L k < rat (valS e1) U) = t := ⟨_, rfl⟩
    rw [ht] at KC
    have HT : Hid (decide (bestK U L k < rat (valS e1) U) = t) := ht
    have x0 : wr.cell? ⟨b, o + 3 + k * 3, none⟩ = some (.int .i64 e0) := by have := hcP 0 _ rfl; rwa [show o + ((k + 1) * 3 + 0) = o + 3 + k * 3 by omega] at this
    have x1 : wr.cell? ⟨b, o + 3 + k * 3 + 1, none⟩ = some (.string e1) := by have := hcP 1 _ rfl; rwa [show o + ((k + 1) * 3 + 1) = o + 3 + k * 3 + 1 by omega] at this
    have x2 : wr.cell? ⟨b, o + 3 + k * 3 + 2, none⟩ = some (.string e2) := by have := hcP 2 _ rfl; rwa [show o + ((k + 1) * 3 + 2) = o + 3 + k * 3 + 2 by omega] at this
    clear hcP hpt hA2 hkn hpn hpd ht
    have XD := Bx.new wr #[.int .i64 e0, .string e1, .string e2] 63
    have XZ := XZ.alloc (.cells #[.int .i64 e0, .string e1, .string e2] 63)
    have B7 := B7.alloc (.cells #[.int .i64 e0, .string e1, .string e2] 63)
    have hs := hs.alloc (.cells #[.int .i64 e0, .string e1, .string e2] 63)
    have d0 := XD.cell (i := 0) (v := .int .i64 e0) rfl
    have d1 := XD.cell (i := 1) (v := .string e1) rfl
    have d2 := XD.cell (i := 2) (v := .string e2) rfl
    go_wp2_with fail
    refine KM.step hs (HI.out _ _ Hi.out.2 hs.2) ?_
    intro w2 hs hb2
    clear d0 d1 d2 x0 x1 x2 hadd hadd3 q qn
    have X10 := Bx.new w2 #[.string pn, .string pd] 34
    have XZ := (XZ.on hb2).alloc (.cells #[.string pn, .string pd] 34)
    have B7 := (B7.on hb2).alloc (.cells #[.string pn, .string pd] 34)
    have hs := hs.alloc (.cells #[.string pn, .string pd] 34)
    have p0 := X10.cell (i := 0) (v := .string pn) rfl
    have p1 := X10.cell (i := 1) (v := .string pd) rfl
    have z0 := B7.cell (i := 0) (v := .string an) rfl
    have z1 := B7.cell (i := 1) (v := .string ad) rfl
    go_wp2_with fail
    refine KC.step hs ?_
    intro w3 hs hb3
    clear p0 p1 z0 z1
    have X10 := X10.on hb3
    have XZ := XZ.on hb3
    have B7 := B7.on hb3
    have p0 := X10.cell (i := 0) (v := .string pn) rfl
    have p1 := X10.cell (i := 1) (v := .string pd) rfl
    have z0 := B7.cell (i := 0) (v := .string an) rfl
    have z1 := B7.cell (i := 1) (v := .string ad) rfl
    have f0 := B7.frozen 0
    have f1 := B7.frozen 1
    cases t with
    | false =>
     go_wp2_with fail
     go_roundw
     case rel =>
      have e : bestK U L (k + 1) = bestK U L k := by rw [HBN.out, if_neg (of_decide_eq_false HT.out)]
      exact ⟨k + 1, by omega, by go_num, hs, XZ, an, ad, by rw [e]; exact HAN, B7⟩
     case measure => simp [intOf]; omega
    | true =>
     go_wp2_with fail
     go_roundw
     case rel =>
      have e : bestK U L (k + 1) = rat (valS e1) U := by rw [HBN.out, if_pos (of_decide_eq_true HT.out)]
      have hne : w.heap.size ≠ w1.heap.size := by have := HW1.out; omega
      have hle : w.heap.size ≤ w1.heap.size := by have := HW1.out; omega
      exact ⟨k + 1, by omega, by go_num, (hs.set hle 0 (.string pn)).set hle 1 (.string pd), (XZ.other hne 0 (.string pn)).other hne 1 (.string pd), pn, pd, by rw [e]; exact HPN, (B7.set 0 (.string pn)).set 1 (.string pd)⟩
     case measure => simp [intOf]; omega
theorem best_fit {u : Int} {L : List PtS} (hl : ∀ p ∈ L, p.v.size ≤ 13) (hu : Fit 13 u) (_h0 : u ≠ 0) : ∀ k, FitQ 60 (bestK u L k) := by
 have h : ∀ j, FitQ 60 (rat (valS (ptAt L j).v) u) := by
  intro j
  have e : (ptAt L j).v.size ≤ 13 := by
   unfold ptAt
   rcases Nat.lt_or_ge j L.length with h | h
   ·rw [List.getElem?_eq_getElem h]
    exact hl _ (List.getElem_mem h)
   ·rw [List.getElem?_eq_none h]
    decide
  exact (FitQ.rat (Fit.val e) hu (by omega)).mono (by omega)
 intro k
 induction k with
 | zero => exact h 0
 | succ k ih =>
  unfold bestK
  split
  ·exact h (k + 1)
  ·exact ih
theorem rat_fit {u : Int} {L : List PtS} (hl : ∀ p ∈ L, p.v.size ≤ 13) (hu : Fit 13 u) (_h0 : u ≠ 0) (j : Nat) : FitQ 60 (rat (valS (ptAt L j).v) u) := by
 have e : (ptAt L j).v.size ≤ 13 := by
  unfold ptAt
  rcases Nat.lt_or_ge j L.length with h | h
  ·rw [List.getElem?_eq_getElem h]
   exact hl _ (List.getElem_mem h)
  ·rw [List.getElem?_eq_none h]
   decide
 exact (FitQ.rat (Fit.val e) hu (by omega)).mono (by omega)
theorem Mark_any {u : ByteArray} {L : List PtS} {A : Option Addr} {n c : Nat} (hn : L.length = n) (hc : n ≤ c) (hm : n ≤ 4611686018427387904) (hu : u.size ≤ 13) (hl : ∀ p ∈ L, p.v.size ≤ 13 ∧ p.f.size ≤ 13) (h8 : n ≤ 8 ∨ 400 < n) :
  RetI (fun w => Row w A (flatG ptcells L)) 25 #[.string u, .slice A n c] (.tuple #[FR (mrkQ u L), .int .i64 (mrkE u L)]) := by
 intro w hg hi
 have HI := Lib.hid hi
 have K1 := cntU_any (u := u) (kn := ⟨#[]⟩) (kd := ⟨#[]⟩) (by omega) (by decide) (by decide)
 have K2 := ser_any (A := A) (c := c) hn hm (fun p hp => ⟨by have := (hl p hp).1; omega, by have := (hl p hp).2; omega⟩)
 unfold FV at K1
 have HE : Hid (∀ e : Int, mrkE u L = e → e ≠ 0 → mrkQ u L = 0) := fun e h h0 => if_neg (by rw [h]; exact h0)
 have HRE : Hid (mrkE u L = if cntE u ⟨#[]⟩ ⟨#[]⟩ ≠ 0 then cntE u ⟨#[]⟩ ⟨#[]⟩ else serE L) := rfl
 have hs := ((St.refl hg).alloc (.cells #[.string u] 32)).alloc (.cells #[.string ⟨#[]⟩, .string ⟨#[]⟩] 34)
 have XU := (Bx.new w #[.string u] 32).alloc (.cells #[.string ⟨#[]⟩, .string ⟨#[]⟩] 34)
 have XZ := Bx.new1 w (.cells #[.string u] 32) #[.string ⟨#[]⟩, .string ⟨#[]⟩] 34
 by_cases h1 : cntE u ⟨#[]⟩ ⟨#[]⟩ = 0
 ·have e := HRE.out
  rw [if_neg (by simpa using h1)] at e
  rw [h1] at K1
  by_cases h2 : serE L = 0
  ·obtain ⟨g1, g2, _⟩ := ser_zero h2
   obtain ⟨c1, c2, c3, c4⟩ := cnt_zero h1
   obtain ⟨N, hN⟩ : ∃ N, n = N + 1 := ⟨n - 1, by omega⟩
   subst hN
   rw [h2] at e K2
   have eQ : mrkQ u L = bestK (valS u) L N := by
    unfold mrkQ
    rw [if_pos e, hn, Nat.add_sub_cancel]
   rw [eQ, e]
   have hz := fun p hp => (hl p hp).1
   have K3 := greatest_any (A := A) (c := c) (U := valS u) (f := 69) (g := 72) (cap := #[.pointer (some ⟨w.heap.size, 0, none⟩)]) (I := fun W => Bx W w.heap.size #[.string u]) (fun _ _ h hb => h.on hb) hn hc (by omega) (fun _ _ => rfl) (fun _ _ => rfl)
    (fun s hs => mark1_any hu (by omega) s (hz s hs)) (fun k j _ _ => mark2_any (best_fit hz (Fit.val hu) (by omega) k) (rat_fit hz (Fit.val hu) (by omega) j) (by omega))
   unfold FR at K3 ⊢
   generalize frN (bestK (valS u) L N) = rn at *
   generalize frD (bestK (valS u) L N) = rd at *
   clear HE HRE h1 h2 e eQ hz hl hn g1 g2 hi
   have t0 := XU.cell (i := 0) (v := .string u) rfl
   have e0 := XZ.cell (i := 0) (v := .string ⟨#[]⟩) rfl
   have e1 := XZ.cell (i := 1) (v := .string ⟨#[]⟩) rfl
   have f0 := XZ.frozen 0
   have f1 := XZ.frozen 1
   go_enter Tryz.func25, Tryz.ntmps25
   go_wp2_with fail
   refine K1.step hs ?_
   intro w2 hs hb
   clear t0 e0 e1 f0 f1
   replace XU := XU.on hb
   replace XZ := XZ.on hb
   have t0 := XU.cell (i := 0) (v := .string u) rfl
   have e0 := XZ.cell (i := 0) (v := .string ⟨#[]⟩) rfl
   have e1 := XZ.cell (i := 1) (v := .string ⟨#[]⟩) rfl
   have f0 := XZ.frozen 0
   have f1 := XZ.frozen 1
   go_wp2_with fail
   refine K2.step hs (HI.out.on hs.2) ?_
   intro w2 hs hb
   clear t0 e0 e1 f0 f1
   replace XU := XU.on hb
   replace XZ := XZ.on hb
   have t0 := XU.cell (i := 0) (v := .string u) rfl
   have e0 := XZ.cell (i := 0) (v := .string ⟨#[]⟩) rfl
   have e1 := XZ.cell (i := 1) (v := .string ⟨#[]⟩) rfl
   have f0 := XZ.frozen 0
   have f1 := XZ.frozen 1
   go_wp2_with fail
   refine K3.step hs ⟨HI.out.on hs.2, XU⟩ ?_
   intro w2 hs hb
   clear t0 e0 e1 f0 f1
   replace XU := XU.on hb
   replace XZ := XZ.on hb
   have t0 := XU.cell (i := 0) (v := .string u) rfl
   have e0 := XZ.cell (i := 0) (v := .string ⟨#[]⟩) rfl
   have e1 := XZ.cell (i := 1) (v := .string ⟨#[]⟩) rfl
   have f0 := XZ.frozen 0
   have f1 := XZ.frozen 1
   go_wp2_with fail
   obtain ⟨W, hW, y0, y1, hbe⟩ := ret_frac hs (by omega) XZ rn rd
   rw [hW]
   exact bodyPost_ret (v := .tuple #[.agg #[.string rn, .string rd], .int .i64 0]) (by simp [results, Tryz.results25, go_sem, y0, y1]) rfl ⟨rfl, hbe⟩
  ·rw [HE.out _ e h2, e, FR_zero]
   have q : (serE L != 0) = true := by simpa using h2
   generalize serE L = se at *
   clear HE HRE h1 h2 e hl hn hi
   have t0 := XU.cell (i := 0) (v := .string u) rfl
   have e0 := XZ.cell (i := 0) (v := .string ⟨#[]⟩) rfl
   have e1 := XZ.cell (i := 1) (v := .string ⟨#[]⟩) rfl
   have f0 := XZ.frozen 0
   have f1 := XZ.frozen 1
   go_enter Tryz.func25, Tryz.ntmps25
   go_wp2_with fail
   refine K1.step hs ?_
   intro w2 hs hb
   clear t0 e0 e1 f0 f1
   replace XU := XU.on hb
   replace XZ := XZ.on hb
   have t0 := XU.cell (i := 0) (v := .string u) rfl
   have e0 := XZ.cell (i := 0) (v := .string ⟨#[]⟩) rfl
   have e1 := XZ.cell (i := 1) (v := .string ⟨#[]⟩) rfl
   have f0 := XZ.frozen 0
   have f1 := XZ.frozen 1
   go_wp2_with fail
   refine K2.step hs (HI.out.on hs.2) ?_
   intro w2 hs hb
   clear t0 e0 e1 f0 f1
   replace XU := XU.on hb
   replace XZ := XZ.on hb
   have t0 := XU.cell (i := 0) (v := .string u) rfl
   have e0 := XZ.cell (i := 0) (v := .string ⟨#[]⟩) rfl
   have e1 := XZ.cell (i := 1) (v := .string ⟨#[]⟩) rfl
   have f0 := XZ.frozen 0
   have f1 := XZ.frozen 1
   go_wp2_with fail
   obtain ⟨W, hW, y0, y1, hbe⟩ := ret_frac hs (by omega) XZ ⟨#[]⟩ ⟨#[]⟩
   rw [hW]
   exact bodyPost_ret (v := .tuple #[.agg #[.string ⟨#[]⟩, .string ⟨#[]⟩], .int .i64 se]) (by simp [results, Tryz.results25, go_sem, y0, y1]) rfl ⟨rfl, hbe⟩
 ·have e := HRE.out
  rw [if_pos (by simpa using h1)] at e
  rw [HE.out _ e h1, e, FR_zero]
  have q : (cntE u ⟨#[]⟩ ⟨#[]⟩ != 0) = true := by simpa using h1
  generalize cntE u ⟨#[]⟩ ⟨#[]⟩ = se at *
  clear HE HRE h1 e hl hn hi K2
  have t0 := XU.cell (i := 0) (v := .string u) rfl
  have e0 := XZ.cell (i := 0) (v := .string ⟨#[]⟩) rfl
  have e1 := XZ.cell (i := 1) (v := .string ⟨#[]⟩) rfl
  have f0 := XZ.frozen 0
  have f1 := XZ.frozen 1
  go_enter Tryz.func25, Tryz.ntmps25
  go_wp2_with fail
  refine K1.step hs ?_
  intro w2 hs hb
  clear t0 e0 e1 f0 f1
  replace XU := XU.on hb
  replace XZ := XZ.on hb
  have t0 := XU.cell (i := 0) (v := .string u) rfl
  have e0 := XZ.cell (i := 0) (v := .string ⟨#[]⟩) rfl
  have e1 := XZ.cell (i := 1) (v := .string ⟨#[]⟩) rfl
  have f0 := XZ.frozen 0
  have f1 := XZ.frozen 1
  go_wp2_with fail
  obtain ⟨W, hW, y0, y1, hbe⟩ := ret_frac hs (by omega) XZ ⟨#[]⟩ ⟨#[]⟩
  rw [hW]
  exact bodyPost_ret (v := .tuple #[.agg #[.string ⟨#[]⟩, .string ⟨#[]⟩], .int .i64 se]) (by simp [results, Tryz.results25, go_sem, y0, y1]) rfl ⟨rfl, hbe⟩
end Go.Proofs.YticfdeaphiifeaaGreatDoor
