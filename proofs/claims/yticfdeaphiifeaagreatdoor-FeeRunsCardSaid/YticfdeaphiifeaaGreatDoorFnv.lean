/- Fees, the reference: the greatest price of a unit. Conditions: up to eight points, or more than 400, with numbers of up to 13 bytes. Fees, the reference: Run. Conditions: up to eight points, or more than 400, with numbers of up to 13 bytes. Fees: the walk of FeeRuns: for every input it returns true. Condition: the library's table and error lie as the program's text lays them. -/
import Derived.Deep.RegionHeld3
import Derived.Test.YticfdeaphiifeaaGreatDoorFeG
import Derived.Test.YticfdeaphiifeaaGreatDoorFeK
import Derived.Test.YticfdeaphiifeaaGreatDoorFeR
import Derived.Test.YticfdeaphiifeaaGreatDoorFeQ
import Derived.Test.YticfdeaphiifeaaGreatDoorFeU
import Derived.Test.YticfdeaphiifeaaGreatDoorLw45
import Derived.Test.YticfdeaphiifeaaGreatDoorFhe
set_option maxHeartbeats 4000000
set_option maxRecDepth 100000
namespace Go.Proofs.YticfdeaphiifeaaGreatDoor
open Go.RowKit Go.Shelf Dec QQ
theorem rcmpFR {p q : Rat} (h1 : FitQ 60 p) (h2 : FitQ 60 q) : Ret 75 #[FR p, FR q] (.int .i64 (cmpQ p q)) := by
 have a := FitQ.sizes h1
 have b := FitQ.sizes h2
 have K := rcmpF (a := frN p) (b := frD p) (c := frN q) (d := frD q) (by omega) (by omega) (by omega) (by omega)
 rw [ratV_fr, ratV_fr] at K
 exact K
theorem rMark_any {u : ByteArray} {L : List PtS} {A : Option Addr} {n c : Nat} (hn : L.length = n) (hm : n ≤ 4611686018427387904) (hu : u.size ≤ 13) (hl : ∀ p ∈ L, p.v.size ≤ 13 ∧ p.f.size ≤ 13) (h8 : n ≤ 8 ∨ 400 < n) :
  RetI (fun w => Row w A (flatG ptcells L)) 26 #[.string u, .slice A n c] (.tuple #[FR (mrkQ u L), .int .i64 (mrkE u L)]) := by
 intro w hg hi
 have HI := Lib.hid hi
 have K1 := rcntU_any (u := u) (kn := ⟨#[]⟩) (kd := ⟨#[]⟩) (by omega) (by decide) (by decide)
 have K2 := rser_any (A := A) (c := c) hn hm (fun p hp => ⟨by have := (hl p hp).1; omega, by have := (hl p hp).2; omega⟩)
 unfold FV at K1
 have HE : Hid (∀ e : Int, mrkE u L = e → e ≠ 0 → mrkQ u L = 0) := fun e h h0 => if_neg (by rw [h]; exact h0)
 have HRE : Hid (mrkE u L = if cntE u ⟨#[]⟩ ⟨#[]⟩ ≠ 0 then cntE u ⟨#[]⟩ ⟨#[]⟩ else serE L) := rfl
 have hs := (St.refl hg).alloc (.cells #[.string ⟨#[]⟩, .string ⟨#[]⟩] 34)
 have XZ := Bx.new w #[.string ⟨#[]⟩, .string ⟨#[]⟩] 34
 by_cases h1 : cntE u ⟨#[]⟩ ⟨#[]⟩ = 0
 ·have e := HRE.out
  rw [if_neg (by simpa using h1)] at e
  rw [h1] at K1
  by_cases h2 : serE L = 0
  ·obtain ⟨g1, g2, _⟩ := ser_zero h2
   obtain ⟨c1, c2, c3, c4⟩ := cnt_zero h1
   obtain ⟨N, hN⟩ : ∃ N, n = N + 1 := ⟨n - 1, by omega⟩
   subst hN
   rw [h2] at e K2
   have eQ : mrkQ u L = bestK (valS u) L N := by
    unfold mrkQ
    rw [if_pos e, hn, Nat.add_sub_cancel]
   rw [eQ, e]
   have hz := fun p hp => (hl p hp).1
   have hN7 : N ≤ 7 := by omega
   have HP : Hid (∀ p ∈ L, Ret 74 #[.string p.v, .string u] (FR (rat (valS p.v) (valS u)))) := fun p hp => rprice_any (by have := hz p hp; omega) (by omega) (by omega)
   have HC : Hid (∀ k j, Ret 75 #[FR (rat (valS (ptAt L j).v) (valS u)), FR (bestK (valS u) L k)] (.int .i64 (cmpQ (rat (valS (ptAt L j).v) (valS u)) (bestK (valS u) L k)))) := fun k j => rcmpFR (rat_fit hz (Fit.val hu) (by omega) j) (best_fit hz (Fit.val hu) (by omega) k)
   have HN := Lib.hid hn
   generalize valS u = U at *
   obtain ⟨d, hd⟩ : ∃ d, L[0]? = some d := ⟨L[0]'(by omega), by simp⟩
   obtain ⟨b, o, hA, hb, hc0⟩ := row_at (cs := ptcells) (m := 3) ptcells_lenS (by decide) hi hd
   subst hA
   have K0 := HP.out d (List.mem_of_getElem? hd)
   have HB0 : Hid (bestK U L 0 = rat (valS d.v) U) := by show _ = _; unfold bestK; rw [ptAt_some hd]
   obtain ⟨d0, d1, d2⟩ := d
   dsimp only at K0 HB0
   rw [← HB0.out] at K0
   unfold FR at K0
   obtain ⟨an, han⟩ : ∃ x, frN (bestK U L 0) = x := ⟨_, rfl⟩
   obtain ⟨ad, had⟩ : ∃ x, frD (bestK U L 0) = x := ⟨_, rfl⟩
   rw [han, had] at K0
   have HAN : Hid (frN (bestK U L 0) = an ∧ frD (bestK U L 0) = ad) := ⟨han, had⟩
   have HV := Lib.hid (show w.cell? ⟨b, o + 1, none⟩ = some (.string d1) by have := hc0 1 _ rfl; simpa using this)
   have qn0 : decide ((0 : Int) < ((N : Int) + 1)) = true := decide_eq_true (by omega)
   have qn1 : decide (0 < N + 1) = true := decide_eq_true (by omega)
   have HBW := Lib.hid hb
   clear HE HRE h1 h2 e eQ hz hl hn g1 g2 hi han had hc0 hd hb hu c1 c2 c3 c4 h8 hm
   have e0 := XZ.cell (i := 0) (v := .string ⟨#[]⟩) rfl
   have e1 := XZ.cell (i := 1) (v := .string ⟨#[]⟩) rfl
   have f0 := XZ.frozen 0
   have f1 := XZ.frozen 1
   go_enter Tryz.func26, Tryz.ntmps26
   go_wp2_with fail
   refine K1.step hs ?_
   intro w2 hs hb
   clear e0 e1 f0 f1
   replace XZ := XZ.on hb
   have e0 := XZ.cell (i := 0) (v := .string ⟨#[]⟩) rfl
   have e1 := XZ.cell (i := 1) (v := .string ⟨#[]⟩) rfl
   have f0 := XZ.frozen 0
   have f1 := XZ.frozen 1
   go_wp2_with fail
   refine K2.step hs (HI.out.on hs.2) ?_
   intro w2 hs hb
   clear e0 e1 f0 f1
   replace XZ := XZ.on hb
   have e0 := XZ.cell (i := 0) (v := .string ⟨#[]⟩) rfl
   have e1 := XZ.cell (i := 1) (v := .string ⟨#[]⟩) rfl
   have f0 := XZ.frozen 0
   have f1 := XZ.frozen 1
   have v0 : w2.cell? ⟨b, o + 1, none⟩ = some (.string d1) := (hs.2.cell (p := ⟨b, o + 1, none⟩) HBW.out).trans HV.out
   go_wp2_with fail
   clear e0 e1 f0 f1
   refine K0.step hs ?_
   intro w3 hs hb3
   clear v0
   have B8 := Bx.new w3 #[.string an, .string ad] 34
   have HW3 : Hid (w.heap.size < w3.heap.size) := (XZ.on hb3).lt
   replace XZ := (XZ.on hb3).alloc (.cells #[.string an, .string ad] 34)
   replace hs := hs.alloc (.cells #[.string an, .string ad] 34)
   go_wp2_with fail
   go_loopw [9] (fun s wr => ∃ k : Nat, k ≤ N ∧ s = .int .i64 ((k + 1 : Nat) : Int) ∧ St w wr ∧ Bx wr w.heap.size #[.string ⟨#[]⟩, .string ⟨#[]⟩] ∧ (∃ an ad, Hid (frN (bestK U L k) = an ∧ frD (bestK U L k) = ad) ∧ Bx wr w3.heap.size #[.string an, .string ad])) (fun s _ => (N + 1 - intOf s).toNat)
   case atStart => exact ⟨0, by omega, rfl, hs, XZ, an, ad, HAN, B8⟩
   case round =>
    clear HAN XZ B8 hs
    obtain ⟨k, hk, rfl, hs, XZ, an, ad, HAN, B7⟩ := hrel
    have z0 := B7.cell (i := 0) (v := .string an) rfl
    have z1 := B7.cell (i := 1) (v := .string ad) rfl
    by_cases hkn : k = N
    ·subst hkn
     have q : decide (((k + 1 : Nat) : Int) < ((k : Int) + 1)) = false := decide_eq_false (by omega)
     have e0 := XZ.cell (i := 0) (v := .string ⟨#[]⟩) rfl
     have e1 := XZ.cell (i := 1) (v := .string ⟨#[]⟩) rfl
     have f0 := XZ.frozen 0
     have f1 := XZ.frozen 1
     have HNE : Hid (w.heap.size ≠ w3.heap.size) := by have := HW3.out; show _ ≠ _; omega
     go_wp2_with fail
     obtain ⟨W, hW, y0, y1, hbe⟩ := ret_frac hs (Nat.le_refl _) XZ an ad
     rw [hW]
     exact bodyPost_ret (v := .tuple #[.agg #[.string an, .string ad], .int .i64 0]) (by simp [results, Tryz.results26, go_sem, y0, y1]) rfl ⟨by unfold FR; rw [HAN.out.1, HAN.out.2], hbe⟩
    ·have hkl : k < N := by omega
     have q : decide (((k + 1 : Nat) : Int) < ((N : Int) + 1)) = true := decide_eq_true (by omega)
     have q2 : decide ((k : Int) + 1 < ((N : Int) + 1)) = true := decide_eq_true (by omega)
     have qn : decide (k + 1 < N + 1) = true := decide_eq_true (by omega)
     have q3 : decide (k < N) = true := decide_eq_true (by omega)
     obtain ⟨pt, hpt⟩ : ∃ d, L[k + 1]? = some d := ⟨L[k + 1]'(by rw [HN.out]; omega), by simp⟩
     obtain ⟨b', o', hA2, _, hcP⟩ := row_at (cs := ptcells) (m := 3) ptcells_lenS (by decide) (HI.out.on hs.2) hpt
     obtain ⟨rfl, rfl⟩ : b = b' ∧ o = o' := by injection hA2 with hA2; injection hA2 with h1 h2; exact ⟨h1, h2⟩
     have KM := HP.out pt (List.mem_of_getElem? hpt)
     have KC := HC.out k (k + 1)
     have HBN : Hid (bestK U L (k + 1) = if bestK U L k < rat (valS (ptAt L (k + 1)).v) U then rat (valS (ptAt L (k + 1)).v) U else bestK U L k) := rfl
     rw [ptAt_some hpt] at KC HBN
     obtain ⟨e0, e1, e2⟩ := pt
     dsimp only at KM KC HBN
     unfold FR at KM KC
     rw [HAN.out.1, HAN.out.2] at KC
     obtain ⟨pn, hpn⟩ : ∃ x, frN (rat (valS e1) U) = x := ⟨_, rfl⟩
     obtain ⟨pd, hpd⟩ : ∃ x, frD (rat (valS e1) U) = x := ⟨_, rfl⟩
     rw [hpn, hpd] at KM KC
     have HPN : Hid (frN (rat (valS e1) U) = pn ∧ frD (rat (valS e1) U) = pd) := ⟨hpn, hpd⟩
     obtain ⟨t, ht⟩ : ∃ t, decide (bestK U L k < rat (valS e1) U) = t := ⟨_, rfl⟩
     have HT : Hid (decide (bestK U L k < rat (valS e1) U) = t) := ht
     have qc : decide (0 < cmpQ (rat (valS e1) U) (bestK U L k)) = t := by rw [cmpQ_pos]; exact ht
     generalize cmpQ (rat (valS e1) U) (bestK U L k) = cc at *
     have x1 : wr.cell? ⟨b, o + (k + 1) * 3 + 1, none⟩ = some (.string e1) := hcP 1 _ rfl
     clear hcP hpt hA2 hkn hpn hpd ht
     go_wp2_with fail
     refine KM.step hs ?_
     intro w4 hs hb2
     clear x1 q qn q2 q3 z0 z1
     have X10 := Bx.new w4 #[.string pn, .string pd] 34
     have XZ := (XZ.on hb2).alloc (.cells #[.string pn, .string pd] 34)
     have B7 := (B7.on hb2).alloc (.cells #[.string pn, .string pd] 34)
     have hs := hs.alloc (.cells #[.string pn, .string pd] 34)
     have p0 := X10.cell (i := 0) (v := .string pn) rfl
     have p1 := X10.cell (i := 1) (v := .string pd) rfl
     have z0 := B7.cell (i := 0) (v := .string an) rfl
     have z1 := B7.cell (i := 1) (v := .string ad) rfl
     go_wp2_with fail
     refine KC.step hs ?_
     intro w5 hs hb3
     clear p0 p1 z0 z1
     have X10 := X10.on hb3
     have XZ := XZ.on hb3
     have B7 := B7.on hb3
     have p0 := X10.cell (i := 0) (v := .string pn) rfl
     have p1 := X10.cell (i := 1) (v := .string pd) rfl
     have z0 := B7.cell (i := 0) (v := .string an) rfl
     have z1 := B7.cell (i := 1) (v := .string ad) rfl
     have f0 := B7.frozen 0
     have f1 := B7.frozen 1
     cases t with
     | false =>
      go_wp2_with fail
      go_roundw
      case rel =>
       have e : bestK U L (k + 1) = bestK U L k := by rw [HBN.out, if_neg (of_decide_eq_false HT.out)]
       exact ⟨k + 1, by omega, by go_num, hs, XZ, an, ad, by rw [e]; exact HAN, B7⟩
      case measure => simp [intOf]; omega
     | true =>
      go_wp2_with fail
      go_roundw
      case rel =>
       have e : bestK U L (k + 1) = rat (valS e1) U := by rw [HBN.out, if_pos (of_decide_eq_true HT.out)]
       have hne : w.heap.size ≠ w3.heap.size := by have := HW3.out; omega
       have hle : w.heap.size ≤ w3.heap.size := by have := HW3.out; omega
       exact ⟨k + 1, by omega, by go_num, (hs.set hle 0 (.string pn)).set hle 1 (.string pd), (XZ.other hne 0 (.string pn)).other hne 1 (.string pd), pn, pd, by rw [e]; exact HPN, (B7.set 0 (.string pn)).set 1 (.string pd)⟩
      case measure => simp [intOf]; omega
  ·rw [HE.out _ e h2, e, FR_zero]
   have q : (serE L != 0) = true := by simpa using h2
   generalize serE L = se at *
   clear HE HRE h1 h2 e hl hn hi
   have e0 := XZ.cell (i := 0) (v := .string ⟨#[]⟩) rfl
   have e1 := XZ.cell (i := 1) (v := .string ⟨#[]⟩) rfl
   have f0 := XZ.frozen 0
   have f1 := XZ.frozen 1
   go_enter Tryz.func26, Tryz.ntmps26
   go_wp2_with fail
   refine K1.step hs ?_
   intro w2 hs hb
   clear e0 e1 f0 f1
   replace XZ := XZ.on hb
   have e0 := XZ.cell (i := 0) (v := .string ⟨#[]⟩) rfl
   have e1 := XZ.cell (i := 1) (v := .string ⟨#[]⟩) rfl
   have f0 := XZ.frozen 0
   have f1 := XZ.frozen 1
   go_wp2_with fail
   refine K2.step hs (HI.out.on hs.2) ?_
   intro w2 hs hb
   clear e0 e1 f0 f1
   replace XZ := XZ.on hb
   have e0 := XZ.cell (i := 0) (v := .string ⟨#[]⟩) rfl
   have e1 := XZ.cell (i := 1) (v := .string ⟨#[]⟩) rfl
   have f0 := XZ.frozen 0
   have f1 := XZ.frozen 1
   go_wp2_with fail
   obtain ⟨W, hW, y0, y1, hbe⟩ := ret_frac hs (by omega) XZ ⟨#[]⟩ ⟨#[]⟩
   rw [hW]
   exact bodyPost_ret (v := .tuple #[.agg #[.string ⟨#[]⟩, .string ⟨#[]⟩], .int .i64 se]) (by simp [results, Tryz.results26, go_sem, y0, y1]) rfl ⟨rfl, hbe⟩
 ·have e := HRE.out
  rw [if_pos (by simpa using h1)] at e
  rw [HE.out _ e h1, e, FR_zero]
  have q : (cntE u ⟨#[]⟩ ⟨#[]⟩ != 0) = true := by simpa using h1
  generalize cntE u ⟨#[]⟩ ⟨#[]⟩ = se at *
  clear HE HRE h1 e hl hn hi K2
  have e0 := XZ.cell (i := 0) (v := .string ⟨#[]⟩) rfl
  have e1 := XZ.cell (i := 1) (v := .string ⟨#[]⟩) rfl
  have f0 := XZ.frozen 0
  have f1 := XZ.frozen 1
  go_enter Tryz.func26, Tryz.ntmps26
  go_wp2_with fail
  refine K1.step hs ?_
  intro w2 hs hb
  clear e0 e1 f0 f1
  replace XZ := XZ.on hb
  have e0 := XZ.cell (i := 0) (v := .string ⟨#[]⟩) rfl
  have e1 := XZ.cell (i := 1) (v := .string ⟨#[]⟩) rfl
  have f0 := XZ.frozen 0
  have f1 := XZ.frozen 1
  go_wp2_with fail
  obtain ⟨W, hW, y0, y1, hbe⟩ := ret_frac hs (by omega) XZ ⟨#[]⟩ ⟨#[]⟩
  rw [hW]
  exact bodyPost_ret (v := .tuple #[.agg #[.string ⟨#[]⟩, .string ⟨#[]⟩], .int .i64 se]) (by simp [results, Tryz.results26, go_sem, y0, y1]) rfl ⟨rfl, hbe⟩
end Go.Proofs.YticfdeaphiifeaaGreatDoor
namespace Go.Proofs.YticfdeaphiifeaaGreatDoor
open Go.RowKit Go.Shelf Dec QQ
theorem rrun_few {mn md pn pd u kn kd : ByteArray} {ct : Int} {mk : Rat} {L : List PtS} {A : Option Addr} {N c : Nat} (hn : L.length = N + 1) (hR : RunOk (⟨mn, md, pn, pd, ct⟩ : TermS) u mk L) (h13 : FitQ 13 mk) (ht0 : termE (⟨mn, md, pn, pd, ct⟩ : TermS) = 0) (hs0 : serE L = 0) (hkn : kn = frN mk) (hkd : kd = frD mk)
    (K1 : Ret 63 #[.agg #[.string mn, .string md, .string pn, .string pd, .int .i64 ct]] (.int .i64 0)) (K2 : Ret 64 #[.string u, .agg #[.string kn, .string kd]] (.int .i64 0)) (K3 : RetI (fun w => Row w A (flatG ptcells L)) 65 #[.slice A (N + 1) c] (.int .i64 0))
    (w : World) (hg : Gl w) (hr : Row w A (flatG ptcells L)) :
    Calls Tryz.prog 24 #[.agg #[.string mn, .string md, .string pn, .string pd, .int .i64 ct], .string u, .agg #[.string kn, .string kd], .slice A (N + 1) c] w fun e w' => ∃ v, e = .returned (.tuple #[v, .int .i64 0]) ∧ OutG chcells 57 5 w.heap.size w' v N (chsL (⟨mn, md, pn, pd, ct⟩ : TermS) (valS u) mk L N) ∧ Below w.heap.size w w' := by
  have HR := Lib.hid hr
  have HN := Lib.hid hn
  have HRk := Lib.hid hR
  have H13 := Lib.hid h13
  have HT0 := Lib.hid ht0
  have HS0 := Lib.hid hs0
  have HKM : Hid (kn = frN mk ∧ kd = frD mk) := ⟨hkn, hkd⟩
  have h8 : N ≤ 7 := by have := hR.few.1; omega
  obtain ⟨b, o, rfl⟩ : ∃ b o, A = some ⟨b, o, none⟩ := by
    obtain ⟨b, o, hA, _, _⟩ := row_at (cs := ptcells) (m := 3) ptcells_len45 (by decide) hr (List.getElem?_eq_getElem (l := L) (i := 0) (by omega))
    exact ⟨b, o, hA⟩
  have hs := ((St.refl hg).alloc (.cells #[.string mn, .string md, .string pn, .string pd, .int .i64 ct] 44)).alloc (.cells #[.string kn, .string kd] 34)
  have XT := (Bx.new w #[.string mn, .string md, .string pn, .string pd, .int .i64 ct] 44).alloc (.cells #[.string kn, .string kd] 34)
  have CM : CellsAt ((w.alloc (.cells #[.string mn, .string md, .string pn, .string pd, .int .i64 ct] 44)).alloc (.cells #[.string kn, .string kd] 34)) (w.heap.size + 1) #[.string kn, .string kd] 34 := by
    have := heap_new (w.alloc (.cells #[.string mn, .string md, .string pn, .string pd, .int .i64 ct] 44)) (.cells #[.string kn, .string kd] 34)
    rwa [World.size_alloc] at this
  have XM := CM.bx
  have HCM := Lib.hid CM
  clear CM hg hr hn hR h13 ht0 hs0 hkn hkd
  have t0 := XT.cell (i := 0) (v := .string mn) rfl
  have t1 := XT.cell (i := 1) (v := .string md) rfl
  have t2 := XT.cell (i := 2) (v := .string pn) rfl
  have t3 := XT.cell (i := 3) (v := .string pd) rfl
  have t4 := XT.cell (i := 4) (v := .int .i64 ct) rfl
  have m0 := XM.cell (i := 0) (v := .string kn) rfl
  have m1 := XM.cell (i := 1) (v := .string kd) rfl
  go_enter Tryz.func24, Tryz.ntmps24
  go_wp2_with fail
  refine K1.step hs ?_
  intro w1 hs hb
  clear t0 t1 t2 t3 t4 m0 m1
  have HCM := Lib.hid (HCM.out.on hb)
  replace XT := XT.on hb
  replace XM := XM.on hb
  have t0 := XT.cell (i := 0) (v := .string mn) rfl
  have t1 := XT.cell (i := 1) (v := .string md) rfl
  have t2 := XT.cell (i := 2) (v := .string pn) rfl
  have t3 := XT.cell (i := 3) (v := .string pd) rfl
  have t4 := XT.cell (i := 4) (v := .int .i64 ct) rfl
  have m0 := XM.cell (i := 0) (v := .string kn) rfl
  have m1 := XM.cell (i := 1) (v := .string kd) rfl
  go_wp2_with fail
  refine K2.step hs ?_
  intro w2 hs hb
  clear t0 t1 t2 t3 t4 m0 m1
  have HCM := Lib.hid (HCM.out.on hb)
  replace XT := XT.on hb
  replace XM := XM.on hb
  have t0 := XT.cell (i := 0) (v := .string mn) rfl
  have t1 := XT.cell (i := 1) (v := .string md) rfl
  have t2 := XT.cell (i := 2) (v := .string pn) rfl
  have t3 := XT.cell (i := 3) (v := .string pd) rfl
  have t4 := XT.cell (i := 4) (v := .int .i64 ct) rfl
  have m0 := XM.cell (i := 0) (v := .string kn) rfl
  have m1 := XM.cell (i := 1) (v := .string kd) rfl
  go_wp2_with fail
  refine K3.step hs (HR.out.on hs.2) ?_
  intro w3 hs hb
  clear t0 t1 t2 t3 t4 m0 m1
  have HCM := Lib.hid (HCM.out.on hb)
  replace XT := XT.on hb
  replace XM := XM.on hb
  have t0 := XT.cell (i := 0) (v := .string mn) rfl
  have t1 := XT.cell (i := 1) (v := .string md) rfl
  have t2 := XT.cell (i := 2) (v := .string pn) rfl
  have t3 := XT.cell (i := 3) (v := .string pd) rfl
  have t4 := XT.cell (i := 4) (v := .int .i64 ct) rfl
  have m0 := XM.cell (i := 0) (v := .string kn) rfl
  have m1 := XM.cell (i := 1) (v := .string kd) rfl
  have HW4 : Hid (w.heap.size + 2 ≤ w3.heap.size) := by have := XM.lt; show _ ≤ _; omega
  have HOW : Hid (World.ownsRow (w3.alloc (.cells #[] 57)) w3.heap.size 57 5 (.slice (some ⟨w3.heap.size, 0, none⟩) 0 0) 0 (flatG chcells (chsL (⟨mn, md, pn, pd, ct⟩ : TermS) (valS u) mk L 0))) := World.ownsRow_lit w3 #[] 0 (Nat.le_refl _) (by unfold maxLen; omega) rfl
  have HCM : Hid (CellsAt (w3.alloc (.cells #[] 57)) (w.heap.size + 1) #[.string (frN (markK (⟨mn, md, pn, pd, ct⟩ : TermS) (valS u) mk L 0)), .string (frD (markK (⟨mn, md, pn, pd, ct⟩ : TermS) (valS u) mk L 0))] 34) := by
    have := HCM.out.on ((Below.refl w3.heap.size w3).alloc (Nat.le_refl _) (.cells #[] 57))
    rw [HKM.out.1, HKM.out.2] at this
    exact this
  have hs := hs.alloc (.cells #[] 57)
  have XT := XT.alloc (.cells #[] 57)
  have HZ4 : Hid (w3.heap.size ≤ (w3.alloc (.cells #[] 57)).heap.size) := by show _ ≤ _; simp
  clear t0 t1 t2 t3 t4 m0 m1 XM hb
  go_wp2_with fail
  generalize w3.alloc (.cells #[] 57) = w4 at *
  generalize w3.heap.size = B4 at *
  go_loopw [13, 12] (fun s vo wr => ∃ k : Nat, k ≤ N ∧ s = .int .i64 ((k + 1 : Nat) : Int) ∧ St w wr ∧ Bx wr w.heap.size #[.string mn, .string md, .string pn, .string pd, .int .i64 ct] ∧ CellsAt wr (w.heap.size + 1) #[.string (frN (markK (⟨mn, md, pn, pd, ct⟩ : TermS) (valS u) mk L k)), .string (frD (markK (⟨mn, md, pn, pd, ct⟩ : TermS) (valS u) mk L k))] 34 ∧ Hid (B4 ≤ wr.heap.size) ∧ Hid (World.ownsRow wr B4 57 5 vo k (flatG chcells (chsL (⟨mn, md, pn, pd, ct⟩ : TermS) (valS u) mk L k)))) (fun s _ _ => (N + 1 - intOf s).toNat)
  case atStart => exact ⟨0, by omega, rfl, hs, XT, HCM.out, HZ4, HOW⟩
  case round =>
    clear hs XT HCM HZ4 HOW
    obtain ⟨k, hk, rfl, hs, XT, CM, HB4, HO⟩ := hrel
    by_cases hkn : k = N
    · subst hkn
      have q : decide (((k + 1 : Nat) : Int) < ((k : Int) + 1)) = false := decide_eq_false (by omega)
      clear CM
      go_wp2_with fail
      go_ret2
      exact ⟨_, rfl, ⟨chsL_len _ _ _ _ _, own_low HO.out (by have := HW4.out; omega)⟩, hs.2⟩
    · have hkl : k < N := by omega
      obtain ⟨od, hod⟩ : ∃ d, L[k]? = some d := ⟨L[k]'(by rw [HN.out]; omega), by simp⟩
      obtain ⟨pt, hpt⟩ : ∃ d, L[k + 1]? = some d := ⟨L[k + 1]'(by rw [HN.out]; omega), by simp⟩
      obtain ⟨b', o', hA, hb, hcO⟩ := row_at (cs := ptcells) (m := 3) ptcells_len45 (by decide) HR.out hod
      obtain ⟨rfl, rfl⟩ : b = b' ∧ o = o' := by injection hA with hA; injection hA with h1 h2; exact ⟨h1, h2⟩
      obtain ⟨b', o', hA2, _, hcP⟩ := row_at (cs := ptcells) (m := 3) ptcells_len45 (by decide) HR.out hpt
      obtain ⟨rfl, rfl⟩ : b = b' ∧ o = o' := by injection hA2 with hA2; injection hA2 with h1 h2; exact ⟨h1, h2⟩
      have zo := HRk.out.few.2 od (List.mem_of_getElem? hod)
      have zp := HRk.out.few.2 pt (List.mem_of_getElem? hpt)
      have hz := HRk.out.t
      obtain ⟨⟨n1, d1⟩, ⟨n2, d2⟩, v1, v2, lt⟩ := ser_pair HS0.out hod hpt
      obtain ⟨r1, _, c1, c5⟩ := term_zero HT0.out
      have fM := mgI_fit hz zo.1 od.day pt.day
      have KM := rmgmt_any hz (v := od.v) (by omega) (A := od.day) (B := pt.day) (rate_zero r1).1 v1 (by rw [fracR_in c1 c5 d1 d2 (by omega)])
      have KS := rSubR (a := pt.v) (b := canS (mgI (valS od.v) (TermS.m (⟨mn, md, pn, pd, ct⟩ : TermS)) ct od.day pt.day)) (by omega) (Nat.le_trans fM.size (by omega))
      rw [valS_canS] at KS
      have fS := Fit.subI (k := 13) (m := 40) (Fit.val zp.1) fM (by omega)
      have zS := fS.size
      have KP := rperf_any hz (v := canS (valS pt.v - mgI (valS od.v) (TermS.m (⟨mn, md, pn, pd, ct⟩ : TermS)) ct od.day pt.day)) (u := u) (Nat.le_trans zS (by omega)) (by have := HRk.out.us; omega) HRk.out.up (HRk.out.marks' H13.out k) (by omega)
      rw [valS_canS] at KP
      have hst := markK_step (T := (⟨mn, md, pn, pd, ct⟩ : TermS)) (u := valS u) (mk := mk) hod hpt
      have HCL : Hid (chsL (⟨mn, md, pn, pd, ct⟩ : TermS) (valS u) mk L (k + 1) = chsL (⟨mn, md, pn, pd, ct⟩ : TermS) (valS u) mk L k ++ [chOf (⟨mn, md, pn, pd, ct⟩ : TermS) (valS u) od pt (markK (⟨mn, md, pn, pd, ct⟩ : TermS) (valS u) mk L k)]) := by
        show _ = _
        rw [chsL_succ, chK_at hod hpt]
      unfold chOf at HCL
      rw [← hst] at KP HCL
      unfold tval FR at *
      dsimp only at KM KS KP HCL
      clear hst fM fS zS zo zp hz hod hpt hA hA2 hkn d1 d2 v1 v2 lt r1 c1 c5
      generalize canS (pfI (valS pt.v - mgI (valS od.v) (TermS.m (⟨mn, md, pn, pd, ct⟩ : TermS)) ct od.day pt.day) (TermS.p (⟨mn, md, pn, pd, ct⟩ : TermS)) (valS u) (markK (⟨mn, md, pn, pd, ct⟩ : TermS) (valS u) mk L k)) = pf at *
      generalize canS (valS pt.v - mgI (valS od.v) (TermS.m (⟨mn, md, pn, pd, ct⟩ : TermS)) ct od.day pt.day) = rs at *
      generalize canS (mgI (valS od.v) (TermS.m (⟨mn, md, pn, pd, ct⟩ : TermS)) ct od.day pt.day) = mg at *
      generalize chsL (⟨mn, md, pn, pd, ct⟩ : TermS) (valS u) mk L k = CL at *
      obtain ⟨cn, hcn⟩ : ∃ x, frN (markK (⟨mn, md, pn, pd, ct⟩ : TermS) (valS u) mk L (k + 1)) = x := ⟨_, rfl⟩
      obtain ⟨cd, hcd⟩ : ∃ x, frD (markK (⟨mn, md, pn, pd, ct⟩ : TermS) (valS u) mk L (k + 1)) = x := ⟨_, rfl⟩
      rw [hcn, hcd] at KP HCL
      have HMN : Hid (frN (markK (⟨mn, md, pn, pd, ct⟩ : TermS) (valS u) mk L (k + 1)) = cn ∧ frD (markK (⟨mn, md, pn, pd, ct⟩ : TermS) (valS u) mk L (k + 1)) = cd) := ⟨hcn, hcd⟩
      clear hcn hcd
      generalize frN (markK (⟨mn, md, pn, pd, ct⟩ : TermS) (valS u) mk L k) = an at *
      generalize frD (markK (⟨mn, md, pn, pd, ct⟩ : TermS) (valS u) mk L k) = ad at *
      obtain ⟨o0, o1, o2⟩ := od
      obtain ⟨e0, e1, e2⟩ := pt
      dsimp only at KM KS KP HCL
      have HCO : Hid (∀ W, St w W → W.cell? ⟨b, o + k * 3, none⟩ = some (.int .i64 o0) ∧ W.cell? ⟨b, o + k * 3 + 1, none⟩ = some (.string o1) ∧ W.cell? ⟨b, o + (k + 1) * 3, none⟩ = some (.int .i64 e0) ∧ W.cell? ⟨b, o + (k + 1) * 3 + 1, none⟩ = some (.string e1)) := fun W hW =>
        ⟨(hW.2.cell (p := ⟨b, o + k * 3, none⟩) hb).trans (hcO 0 _ rfl), (hW.2.cell (p := ⟨b, o + k * 3 + 1, none⟩) hb).trans (hcO 1 _ rfl), (hW.2.cell (p := ⟨b, o + (k + 1) * 3, none⟩) hb).trans (hcP 0 _ rfl), (hW.2.cell (p := ⟨b, o + (k + 1) * 3 + 1, none⟩) hb).trans (hcP 1 _ rfl)⟩
      clear hcO hcP
      have q : decide (((k + 1 : Nat) : Int) < ((N : Int) + 1)) = true := decide_eq_true (by omega)
      have q2 : decide ((k : Int) + 1 < ((N : Int) + 1)) = true := decide_eq_true (by omega)
      have qn : decide (k + 1 < N + 1) = true := decide_eq_true (by omega)
      have qn2 : decide (k < N) = true := decide_eq_true (by omega)
      have qn3 : decide (k < N + 1) = true := decide_eq_true (by omega)
      have q4 : decide ((k : Int) < ((N : Int) + 1)) = true := decide_eq_true (by omega)
      have ek : ((k + 1 : Nat) : Int) - 1 = (k : Int) := by omega
      have ek2 : (k : Int) + 1 - 1 = (k : Int) := by omega
      have x0 := (HCO.out _ hs).2.2.1
      have ltT := XT.lt
      go_wp2_with fail
      clear x0
      have X14 := Bx.new wr #[.int .i64 e0, .string ⟨#[]⟩, .string ⟨#[]⟩, .string ⟨#[]⟩, .string ⟨#[]⟩] 57
      have hs3 := hs.alloc (.cells #[.int .i64 e0, .string ⟨#[]⟩, .string ⟨#[]⟩, .string ⟨#[]⟩, .string ⟨#[]⟩] 57)
      have BT3 := XT.alloc (.cells #[.int .i64 e0, .string ⟨#[]⟩, .string ⟨#[]⟩, .string ⟨#[]⟩, .string ⟨#[]⟩] 57)
      have HCM3 := Lib.hid (CM.on ((Below.refl wr.heap.size wr).alloc (Nat.le_refl _) (.cells #[.int .i64 e0, .string ⟨#[]⟩, .string ⟨#[]⟩, .string ⟨#[]⟩, .string ⟨#[]⟩] 57)))
      have HO3 : Hid (World.ownsRow (wr.alloc (.cells #[.int .i64 e0, .string ⟨#[]⟩, .string ⟨#[]⟩, .string ⟨#[]⟩, .string ⟨#[]⟩] 57)) B4 57 5 u12 k (flatG chcells CL)) := HO.out.alloc _
      have HNE : Hid (u12.ownBlock ≠ some wr.heap.size ∧ u12.ownBlock ≠ some (w.heap.size + 1)) := by
        refine ⟨fun e => ?_, fun e => ?_⟩
        · have := (HO.out.lt _ e).2; omega
        · have := (HO.out.lt _ e).1; have := HW4.out; omega
      have hb14 : w.heap.size ≤ wr.heap.size := hs.2.size
      have HB5 : Hid (B4 ≤ (wr.alloc (.cells #[.int .i64 e0, .string ⟨#[]⟩, .string ⟨#[]⟩, .string ⟨#[]⟩, .string ⟨#[]⟩] 57)).heap.size) := by have := HB4.out; show _ ≤ _; simp; omega
      have h8b : wr.heap.size ≠ w.heap.size + 1 := by have := (Array.getElem?_eq_some_iff.1 CM).1; omega
      have h8t : w.heap.size ≠ wr.heap.size := by omega
      have htb : w.heap.size ≠ w.heap.size + 1 := by omega
      have n2 : w.heap.size + 1 ≠ wr.heap.size := fun e => h8b e.symm
      clear CM XT HO hs HB4
      generalize wr.alloc (.cells #[.int .i64 e0, .string ⟨#[]⟩, .string ⟨#[]⟩, .string ⟨#[]⟩, .string ⟨#[]⟩] 57) = W3 at *
      generalize wr.heap.size = b14 at *
      have hk1 := fun u : Kept W3 => (HCO.out _ (hs3.kept u)).1
      have hk2 := fun u : Kept W3 => (HCO.out _ (hs3.kept u)).2.1
      have hk3 := fun u : Kept W3 => (HCO.out _ (hs3.kept u)).2.2.1
      have kt0 := BT3.keeps (i := 0) (v := .string mn) rfl
      have kt1 := BT3.keeps (i := 1) (v := .string md) rfl
      have kt2 := BT3.keeps (i := 2) (v := .string pn) rfl
      have kt3 := BT3.keeps (i := 3) (v := .string pd) rfl
      have kt4 := BT3.keeps (i := 4) (v := .int .i64 ct) rfl
      refine wp_region_kept_tail 21 (by kernel_rfl) (by kernel_rfl) ?_
      simp only [List.take_succ_cons, List.take_zero, List.drop_succ_cons, List.drop_zero]
      repeat (go_big_quiet_step (first | (with_reducible exact KM.kept hs3)))
      refine wpQuiet_nil ?_
      rintro _ ⟨u_, rfl⟩
      have X14u := X14.kept u_
      have c1 := X14u.cell (i := 1) (v := .string ⟨#[]⟩) rfl
      have f1 := X14u.frozen 1
      go_wp2_with fail
      have X4 : Bx (u_.W.setCell ⟨b14, 1, none⟩ (.string mg)) b14 #[.int .i64 e0, .string mg, .string ⟨#[]⟩, .string ⟨#[]⟩, .string ⟨#[]⟩] := X14u.set 1 (.string mg)
      have BT4 : Bx (u_.W.setCell ⟨b14, 1, none⟩ (.string mg)) w.heap.size #[.string mn, .string md, .string pn, .string pd, .int .i64 ct] := (BT3.kept u_).other h8t 1 _
      have CM4 : CellsAt (u_.W.setCell ⟨b14, 1, none⟩ (.string mg)) (w.heap.size + 1) #[.string an, .string ad] 34 := (HCM3.out.on u_.low).other n2 1 _
      have hs4 : St w (u_.W.setCell ⟨b14, 1, none⟩ (.string mg)) := (hs3.kept u_).set hb14 1 _
      have HO4 : Hid (World.ownsRow (u_.W.setCell ⟨b14, 1, none⟩ (.string mg)) B4 57 5 u12 k (flatG chcells CL)) := (own_below HO3.out u_.low).kept (grown_cell _ b14 1 _) (.inr HNE.out.1)
      have HB4 : Hid (B4 ≤ (u_.W.setCell ⟨b14, 1, none⟩ (.string mg)).heap.size) := by
        have := u_.low.size
        have := HB5.out
        show _ ≤ _
        simp [World.setCell]
        omega
      clear X14u c1 f1 hk1 hk2 hk3 kt0 kt1 kt2 kt3 kt4 HO3 HCM3 BT3 X14 hs3 HB5
      generalize u_.W.setCell ⟨b14, 1, none⟩ (.string mg) = W4 at *
      clear u_
      have BM4 := CM4.bx
      have mm0 := BM4.cell (i := 0) (v := .string an) rfl
      have mm1 := BM4.cell (i := 1) (v := .string ad) rfl
      have low0 : Below W4.heap.size W4 W4 := Below.refl _ _
      have HSOK : Hid (∀ W, Below W4.heap.size W4 W → W.cell? ⟨w.heap.size, 0, none⟩ = some (.string mn) ∧ W.cell? ⟨w.heap.size, 1, none⟩ = some (.string md) ∧ W.cell? ⟨w.heap.size, 2, none⟩ = some (.string pn) ∧ W.cell? ⟨w.heap.size, 3, none⟩ = some (.string pd) ∧ W.cell? ⟨w.heap.size, 4, none⟩ = some (.int .i64 ct) ∧ W.cell? ⟨b14, 1, none⟩ = some (.string mg) ∧ W.cell? ⟨b, o + (k + 1) * 3 + 1, none⟩ = some (.string e1)) := fun W h =>
        ⟨(BT4.on h).cell (i := 0) rfl, (BT4.on h).cell (i := 1) rfl, (BT4.on h).cell (i := 2) rfl, (BT4.on h).cell (i := 3) rfl, (BT4.on h).cell (i := 4) rfl, (X4.on h).cell (i := 1) rfl, (HCO.out _ (hs4.on h)).2.2.2⟩
      have SW := fun W (hT : Bx W w.heap.size #[.string mn, .string md, .string pn, .string pd, .int .i64 ct]) (hX : Bx W b14 #[.int .i64 e0, .string mg, .string pf, .string ⟨#[]⟩, .string ⟨#[]⟩]) (hs : St w W) => (⟨hT.cell (i := 0) rfl, hT.cell (i := 1) rfl, hT.cell (i := 2) rfl, hT.cell (i := 3) rfl, hT.cell (i := 4) rfl, hX.cell (i := 1) rfl, (HCO.out _ hs).2.2.2⟩ : W.cell? ⟨w.heap.size, 0, none⟩ = some (.string mn) ∧ W.cell? ⟨w.heap.size, 1, none⟩ = some (.string md) ∧ W.cell? ⟨w.heap.size, 2, none⟩ = some (.string pn) ∧ W.cell? ⟨w.heap.size, 3, none⟩ = some (.string pd) ∧ W.cell? ⟨w.heap.size, 4, none⟩ = some (.int .i64 ct) ∧ W.cell? ⟨b14, 1, none⟩ = some (.string mg) ∧ W.cell? ⟨b, o + (k + 1) * 3 + 1, none⟩ = some (.string e1))
      have HS1 : Hid (∀ W, Below W4.heap.size W4 W → St w W → ∀ P : World → Prop, (∀ W, Bx W w.heap.size #[.string mn, .string md, .string pn, .string pd, .int .i64 ct] → Bx W b14 #[.int .i64 e0, .string mg, .string pf, .string ⟨#[]⟩, .string ⟨#[]⟩] → St w W → P W) → P (W.setCell ⟨b14, 2, none⟩ (.string pf)) ∧ P (((W.setCell ⟨b14, 2, none⟩ (.string pf)).setCell ⟨w.heap.size + 1, 0, none⟩ (.string cn)).setCell ⟨w.heap.size + 1, 1, none⟩ (.string cd))) := fun W h hs P hP =>
        ⟨hP _ ((BT4.on h).other h8t 2 _) ((X4.on h).set 2 _) (hs.set hb14 2 _),
         hP _ ((((BT4.on h).other h8t 2 _).other htb 0 _).other htb 1 _) ((((X4.on h).set 2 _).other h8b 0 _).other h8b 1 _) (((hs.set hb14 2 _).set (Nat.le_succ _) 0 _).set (Nat.le_succ _) 1 _)⟩
      have HSW := Lib.hid SW
      clear SW
      have wk : IntKind.i64.wrap (k : Int) = (k : Int) := IntWalk.i64_in _ (by omega)
      have wk1 : IntKind.i64.wrap ((k : Int) + 1) = (k : Int) + 1 := IntWalk.i64_in _ (by omega)
      have p1 : (0 : Int) ≤ (k : Int) + 1 := by omega
      have p2 : (k : Int) + 1 < (N : Int) + 1 := by omega
      have p3 : k + 1 < N + 1 := by omega
      have p4 : (k : Int) < (N : Int) := by omega
      refine wp_region_noPanic ?_
      refine wp_region_held_drew (S := fun w' => w'.cell? ⟨w.heap.size, 0, none⟩ = some (.string mn) ∧ w'.cell? ⟨w.heap.size, 1, none⟩ = some (.string md) ∧ w'.cell? ⟨w.heap.size, 2, none⟩ = some (.string pn) ∧ w'.cell? ⟨w.heap.size, 3, none⟩ = some (.string pd) ∧ w'.cell? ⟨w.heap.size, 4, none⟩ = some (.int .i64 ct) ∧ w'.cell? ⟨b14, 1, none⟩ = some (.string mg) ∧ w'.cell? ⟨b, o + (k + 1) * 3 + 1, none⟩ = some (.string e1)) (by kernel_rfl) ?_ (fun hHeld => ?_)
      · try dsimp only
        exact HSOK.out _ low0.drew
      refine wpAnyH_take (i := 0) (v := ?vv1) rfl (by kernel_rfl) (by kernel_rfl) (by kernel_rfl) (fun _ _ _ h => h) (Or.inl ⟨by rfl, ?hy1⟩) (by assumption) ?rest1
      case hy1 =>
        intro w hSw
        try dsimp only at hSw
        go_simp
        try with_reducible rfl
      try simp only [Act.put]
      try simp only [List.setIfInBounds_toArray]
      try simp only [List.set_cons_succ]
      try simp only [List.set_cons_zero]
      refine wpAnyH_take (i := 1) (v := ?vv2) rfl (by kernel_rfl) (by kernel_rfl) (by kernel_rfl) (fun _ _ _ h => h) (Or.inl ⟨by rfl, ?hy2⟩) (by assumption) ?rest2
      case hy2 =>
        intro w hSw
        try dsimp only at hSw
        go_simp
        try with_reducible rfl
      try simp only [Act.put]
      try simp only [List.setIfInBounds_toArray]
      try simp only [List.set_cons_succ]
      try simp only [List.set_cons_zero]
      refine wpAnyH_take (i := 2) (v := ?vv3) rfl (by kernel_rfl) (by kernel_rfl) (by kernel_rfl) (fun _ _ _ h => h) (Or.inl ⟨by rfl, ?hy3⟩) (by assumption) ?rest3
      case hy3 =>
        intro w hSw
        try dsimp only at hSw
        go_simp
        try with_reducible rfl
      try simp only [Act.put]
      try simp only [List.setIfInBounds_toArray]
      try simp only [List.set_cons_succ]
      try simp only [List.set_cons_zero]
      refine wpAnyH_take (i := 3) (v := ?vv4) rfl (by kernel_rfl) (by kernel_rfl) (by kernel_rfl) (fun _ _ _ h => h) (Or.inl ⟨by rfl, ?hy4⟩) (by assumption) ?rest4
      case hy4 =>
        intro w hSw
        try dsimp only at hSw
        go_simp
        try with_reducible rfl
      try simp only [Act.put]
      try simp only [List.setIfInBounds_toArray]
      try simp only [List.set_cons_succ]
      try simp only [List.set_cons_zero]
      refine wpAnyH_take (i := 4) (v := ?vv5) rfl (by kernel_rfl) (by kernel_rfl) (by kernel_rfl) (fun _ _ _ h => h) (Or.inl ⟨by rfl, ?hy5⟩) (by assumption) ?rest5
      case hy5 =>
        intro w hSw
        try dsimp only at hSw
        go_simp
        try with_reducible rfl
      try simp only [Act.put]
      try simp only [List.setIfInBounds_toArray]
      try simp only [List.set_cons_succ]
      try simp only [List.set_cons_zero]
      refine wpAnyH_take (i := 5) (v := ?vv6) rfl (by kernel_rfl) (by kernel_rfl) (by kernel_rfl) (fun _ _ _ h => h) (Or.inl ⟨by rfl, ?hy6⟩) (by assumption) ?rest6
      case hy6 =>
        intro w hSw
        try dsimp only at hSw
        go_simp
        try with_reducible rfl
      try simp only [Act.put]
      try simp only [List.setIfInBounds_toArray]
      try simp only [List.set_cons_succ]
      try simp only [List.set_cons_zero]
      refine wpAnyH_take (i := 6) (v := ?vv7) rfl (by kernel_rfl) (by kernel_rfl) (by kernel_rfl) (fun _ _ _ h => h) (Or.inl ⟨by rfl, ?hy7⟩) (by assumption) ?rest7
      case hy7 =>
        intro w hSw
        try dsimp only at hSw
        go_simp
        try with_reducible rfl
      try simp only [Act.put]
      try simp only [List.setIfInBounds_toArray]
      try simp only [List.set_cons_succ]
      try simp only [List.set_cons_zero]
      refine wpAnyH_take (i := 7) (v := ?vv8) rfl (by kernel_rfl) (by kernel_rfl) (by kernel_rfl) (fun _ _ _ h => h) (Or.inl ⟨by rfl, ?hy8⟩) (by assumption) ?rest8
      case hy8 =>
        intro w hSw
        try dsimp only at hSw
        go_simp
        try with_reducible rfl
      try simp only [Act.put]
      try simp only [List.setIfInBounds_toArray]
      try simp only [List.set_cons_succ]
      try simp only [List.set_cons_zero]
      refine wpAnyH_take (i := 9) (v := ?vv9) rfl (by kernel_rfl) (by kernel_rfl) (by kernel_rfl) (fun _ _ _ h => h) (Or.inl ⟨by rfl, ?hy9⟩) (by assumption) ?rest9
      case hy9 =>
        intro w hSw
        try dsimp only at hSw
        go_simp
        try with_reducible rfl
      try simp only [Act.put]
      try simp only [List.setIfInBounds_toArray]
      try simp only [List.set_cons_succ]
      try simp only [List.set_cons_zero]
      refine wpAnyH_ready (rs := [8, 10]) (by kernel_rfl) (by simp) ?_
      refine AllReadyH.cons rfl (fun K hK => ?_) (AllReadyH.cons rfl (fun K hK => ?_) AllReadyH.nil)
      · skip
        go_simp
        with_reducible refine KS.step (by first | with_reducible exact hs4.drew | with_reducible exact hs4) ?_
        intro wA hsA hbA
        have lowA : Below W4.heap.size W4 wA := (by first | with_reducible exact hbA | exact (Below.refl _ W4).drew.trans hbA)
        have ma0 := (BM4.on lowA).cell (i := 0) (v := .string an) rfl
        have ma1 := (BM4.on lowA).cell (i := 1) (v := .string ad) rfl
        try go_wp2_with fail
        refine hK.out _ _ ?_ (fun hHeld => ?_)
        · try dsimp only
          first | exact HSOK.out _ lowA | exact HSOK.out _ lowA.drew
        clear hK K
        try simp only [Act.put]
        try simp only [List.setIfInBounds_toArray]
        try simp only [List.set_cons_succ]
        try simp only [List.set_cons_zero]
        refine wpAnyH_ready (rs := [10]) (by kernel_rfl) (by simp) ?_
        refine AllReadyH.cons rfl (fun K hK => ?_) AllReadyH.nil
        go_simp
        refine hK.out _ _ ?_ (fun hHeld => ?_)
        · try dsimp only
          first | exact HSOK.out _ lowA | exact HSOK.out _ lowA.drew
        clear hK K
        try simp only [Act.put]
        try simp only [List.setIfInBounds_toArray]
        try simp only [List.set_cons_succ]
        try simp only [List.set_cons_zero]
        refine wpAnyH_ready (rs := [11]) (by kernel_rfl) (by simp) ?_
        refine AllReadyH.cons rfl (fun K hK => ?_) AllReadyH.nil
        go_simp
        with_reducible refine KP.step (by first | with_reducible exact hsA.drew | with_reducible exact hsA) ?_
        intro wB hsB hbB
        have lowB : Below W4.heap.size W4 wB := (by first | exact lowA.trans (hbB.mono lowA.size) | exact lowA.drew.trans (hbB.mono lowA.drew.size))
        have g0 := (BM4.on lowB).frozen 0
        have g1 := (BM4.on lowB).frozen 1
        have mb0 := (BM4.on lowB).cell (i := 0) (v := .string an) rfl
        have mb1 := (BM4.on lowB).cell (i := 1) (v := .string ad) rfl
        have c2 := (X4.on lowB).cell (i := 2) (v := .string ⟨#[]⟩) rfl
        have f2 := (X4.on lowB).frozen 2
        try go_wp2_with fail
        refine hK.out _ _ ?_ (fun hHeld => ?_)
        · try dsimp only
          first | exact HSOK.out _ lowB | exact HSOK.out _ lowB.drew
        clear hK K
        try simp only [Act.put]
        try simp only [List.setIfInBounds_toArray]
        try simp only [List.set_cons_succ]
        try simp only [List.set_cons_zero]
        refine wpAnyH_take (i := 12) (v := ?vv10) rfl (by kernel_rfl) (by kernel_rfl) (by kernel_rfl) (fun _ _ _ h => h) (Or.inl ⟨by rfl, ?hy10⟩) (by assumption) ?rest10
        case hy10 =>
          intro w hSw
          try dsimp only at hSw
          go_simp
          try with_reducible rfl
        try simp only [Act.put]
        try simp only [List.setIfInBounds_toArray]
        try simp only [List.set_cons_succ]
        try simp only [List.set_cons_zero]
        refine wpAnyH_take (i := 13) (v := ?vv11) rfl (by kernel_rfl) (by kernel_rfl) (by kernel_rfl) (fun _ _ _ h => h) (Or.inl ⟨by rfl, ?hy11⟩) (by assumption) ?rest11
        case hy11 =>
          intro w hSw
          try dsimp only at hSw
          go_simp
          try with_reducible rfl
        try simp only [Act.put]
        try simp only [List.setIfInBounds_toArray]
        try simp only [List.set_cons_succ]
        try simp only [List.set_cons_zero]
        refine wpAnyH_take (i := 14) (v := ?vv12) rfl (by kernel_rfl) (by kernel_rfl) (by kernel_rfl) (fun _ _ _ h => h) (Or.inl ⟨by rfl, ?hy12⟩) (by assumption) ?rest12
        case hy12 =>
          intro w hSw
          try dsimp only at hSw
          go_simp
          try with_reducible rfl
        try simp only [Act.put]
        try simp only [List.setIfInBounds_toArray]
        try simp only [List.set_cons_succ]
        try simp only [List.set_cons_zero]
        refine wpAnyH_take (i := 15) (v := ?vv13) rfl (by kernel_rfl) (by kernel_rfl) (by kernel_rfl) (fun _ _ _ h => h) (Or.inl ⟨by rfl, ?hy13⟩) (by assumption) ?rest13
        case hy13 =>
          intro w hSw
          try dsimp only at hSw
          go_simp
          try with_reducible rfl
        try simp only [Act.put]
        try simp only [List.setIfInBounds_toArray]
        try simp only [List.set_cons_succ]
        try simp only [List.set_cons_zero]
        refine wpAnyH_ready (rs := [16]) (by kernel_rfl) (by simp) ?_
        refine AllReadyH.cons rfl (fun K hK => ?_) AllReadyH.nil
        go_simp
        refine hK.out _ _ ?_ (fun hHeld => ?_)
        · try dsimp only
          first | exact (HS1.out _ lowB hsB _ HSW.out).1 | exact (HS1.out _ lowB.drew hsB.drew _ HSW.out).1
        clear hK K
        try simp only [Act.put]
        try simp only [List.setIfInBounds_toArray]
        try simp only [List.set_cons_succ]
        try simp only [List.set_cons_zero]
        refine wpAnyH_ready (rs := [17]) (by kernel_rfl) (by simp) ?_
        refine AllReadyH.cons rfl (fun K hK => ?_) AllReadyH.nil
        go_simp
        refine hK.out _ _ ?_ (fun hHeld => ?_)
        · try dsimp only
          first | exact (HS1.out _ lowB hsB _ HSW.out).2 | exact (HS1.out _ lowB.drew hsB.drew _ HSW.out).2
        clear hK K
        try simp only [Act.put]
        try simp only [List.setIfInBounds_toArray]
        try simp only [List.set_cons_succ]
        try simp only [List.set_cons_zero]
        refine wpAnyH_done (by kernel_rfl) ?_ _
        refine NoPanic.normal ?_
        have X5 : Bx (((wB.setCell ⟨b14, 2, none⟩ (.string pf)).setCell ⟨w.heap.size + 1, 0, none⟩ (.string cn)).setCell ⟨w.heap.size + 1, 1, none⟩ (.string cd)) b14 #[.int .i64 e0, .string mg, .string pf, .string ⟨#[]⟩, .string ⟨#[]⟩] := (((X4.on lowB).set 2 (.string pf)).other h8b 0 (.string cn)).other h8b 1 (.string cd)
        have T5 : Bx (((wB.setCell ⟨b14, 2, none⟩ (.string pf)).setCell ⟨w.heap.size + 1, 0, none⟩ (.string cn)).setCell ⟨w.heap.size + 1, 1, none⟩ (.string cd)) w.heap.size #[.string mn, .string md, .string pn, .string pd, .int .i64 ct] := (((BT4.on lowB).other h8t 2 (.string pf)).other htb 0 (.string cn)).other htb 1 (.string cd)
        have C5 : CellsAt (((wB.setCell ⟨b14, 2, none⟩ (.string pf)).setCell ⟨w.heap.size + 1, 0, none⟩ (.string cn)).setCell ⟨w.heap.size + 1, 1, none⟩ (.string cd)) (w.heap.size + 1) #[.string cn, .string cd] 34 := (((CM4.on lowB).other n2 2 (.string pf)).set 0 (.string cn)).set 1 (.string cd)
        have hs5 : St w (((wB.setCell ⟨b14, 2, none⟩ (.string pf)).setCell ⟨w.heap.size + 1, 0, none⟩ (.string cn)).setCell ⟨w.heap.size + 1, 1, none⟩ (.string cd)) := ((hsB.set hb14 2 (.string pf)).set (Nat.le_succ _) 0 (.string cn)).set (Nat.le_succ _) 1 (.string cd)
        have HO5 : Hid (World.ownsRow (((wB.setCell ⟨b14, 2, none⟩ (.string pf)).setCell ⟨w.heap.size + 1, 0, none⟩ (.string cn)).setCell ⟨w.heap.size + 1, 1, none⟩ (.string cd)) B4 57 5 u12 k (flatG chcells CL)) := (((own_below HO4.out lowB).kept (grown_cell _ b14 2 _) (.inr HNE.out.1)).kept (grown_cell _ (w.heap.size + 1) 0 _) (.inr HNE.out.2)).kept (grown_cell _ (w.heap.size + 1) 1 _) (.inr HNE.out.2)
        have hz5 : B4 ≤ (((wB.setCell ⟨b14, 2, none⟩ (.string pf)).setCell ⟨w.heap.size + 1, 0, none⟩ (.string cn)).setCell ⟨w.heap.size + 1, 1, none⟩ (.string cd)).heap.size := by
          have := lowB.size
          have := HB4.out
          simp [World.setCell]
          omega
        generalize (((wB.setCell ⟨b14, 2, none⟩ (.string pf)).setCell ⟨w.heap.size + 1, 0, none⟩ (.string cn)).setCell ⟨w.heap.size + 1, 1, none⟩ (.string cd)) = W5 at *
        have p0 := C5.bx.cell (i := 0) (v := .string cn) rfl
        have p1 := C5.bx.cell (i := 1) (v := .string cd) rfl
        have z0 := X5.cell (i := 0) (v := .int .i64 e0) rfl
        have z1 := X5.cell (i := 1) (v := .string mg) rfl
        have z2 := X5.cell (i := 2) (v := .string pf) rfl
        have z3 := X5.cell (i := 3) (v := .string ⟨#[]⟩) rfl
        have z4 := X5.cell (i := 4) (v := .string ⟨#[]⟩) rfl
        have y3 := X5.frozen 3
        have y4 := X5.frozen 4
        have T6 := (T5.other h8t 3 (.string cn)).other h8t 4 (.string cd)
        have C6 := (C5.other n2 3 (.string cn)).other n2 4 (.string cd)
        have hs6 := (hs5.set hb14 3 (.string cn)).set hb14 4 (.string cd)
        have HO6 : Hid (World.ownsRow ((W5.setCell ⟨b14, 3, none⟩ (.string cn)).setCell ⟨b14, 4, none⟩ (.string cd)) B4 57 5 u12 k (flatG chcells CL)) := (HO5.out.kept (grown_cell _ b14 3 _) (.inr HNE.out.1)).kept (grown_cell _ b14 4 _) (.inr HNE.out.1)
        have hz6 : B4 ≤ ((W5.setCell ⟨b14, 3, none⟩ (.string cn)).setCell ⟨b14, 4, none⟩ (.string cd)).heap.size := by
          simp [World.setCell]
          omega
        have HT6 := Lib.hid T6
        have HC6 := Lib.hid C6
        have HS6 := Lib.hid hs6
        clear T6 C6 hs6 T5 C5 hs5
        have X6 := (X5.set 3 (.string cn)).set 4 (.string cd)
        go_upto_region 17 with (fail)
        clear p0 p1 z0 z1 z2 z3 z4 y3 y4 hz5 X5
        generalize (W5.setCell ⟨b14, 3, none⟩ (.string cn)).setCell ⟨b14, 4, none⟩ (.string cd) = W6 at *
        have z0 := X6.cell (i := 0) (v := .int .i64 e0) rfl
        have z1 := X6.cell (i := 1) (v := .string mg) rfl
        have z2 := X6.cell (i := 2) (v := .string pf) rfl
        have z3 := X6.cell (i := 3) (v := .string cn) rfl
        have z4 := X6.cell (i := 4) (v := .string cd) rfl
        obtain ⟨i0, hi, hz0, hz1, hz2⟩ := info_parts infoC
        have Hi := Lib.hid hi
        have Hz0 := Lib.hid hz0
        have Hz1 := Lib.hid hz1
        have Hz2 := Lib.hid hz2
        clear hi hz0 hz1 hz2
        go_wp2_with (at_builtin; refine wpList_append_any _ rfl (.tmp 81) (.tmp 83) 49 rfl B4 57 i0 (.agg #[.int .i64 0, .string ⟨#[]⟩, .string ⟨#[]⟩, .string ⟨#[]⟩, .string ⟨#[]⟩]) 5 72 (by kernel_rfl) Hi.out Hz0.out Hz1.out Hz2.out rfl (by omega) _ k (flatG chcells CL) rfl (HO6.out.alloc _) (W6.heap.size + 1) (some ⟨W6.heap.size, 0, none⟩) 1 1 (chcells ⟨e0, mg, pf, cn, cd⟩) rfl (reads_row W6 57 _) (chcells_one _) (by unfold maxLen; omega) (by omega) (by simp; omega) ?_; intro v7 w7 hown7 hg7 _; have HO7 := Lib.hid hown7; have HG7 := Lib.hid hg7; clear hown7 hg7)
        go_roundw
        case rel =>
          refine ⟨k + 1, by omega, by go_num, ⟨HS6.out.1, (HS6.out.2.alloc HS6.out.2.size _).grown HG7.out (by have := HS6.out.2.size; simp; omega) (fun g hg => by have := (HO6.out.lt g hg).1; have := HW4.out; omega)⟩, (HT6.out.alloc _).grown HG7.out (fun e => by have := (HO6.out.lt _ e.symm).1; have := HW4.out; omega), ?_, ?_, ?_⟩
          · have hc := HC6.out.on ((Below.refl _ _).alloc (Nat.le_refl _) (.cells (chcells ⟨e0, mg, pf, cn, cd⟩).toArray 57))
            refine (HG7.out.block _ (Array.getElem?_eq_some_iff.1 hc).1 (fun e => by have := (HO6.out.lt _ e.symm).1; have := HW4.out; omega)).trans ?_
            rw [HMN.out.1, HMN.out.2]
            exact hc
          · have := HG7.out.size
            rw [World.size_alloc] at this
            show _ ≤ _
            omega
          · show World.ownsRow _ _ _ _ _ _ _
            rw [HCL.out, flatG_snoc]
            exact HO7.out
        case measure => simp [intOf]; omega
      · skip
        go_simp
        refine hK.out _ _ ?_ (fun hHeld => ?_)
        · try dsimp only
          first | exact HSOK.out _ low0 | exact HSOK.out _ low0.drew
        clear hK K
        try simp only [Act.put]
        try simp only [List.setIfInBounds_toArray]
        try simp only [List.set_cons_succ]
        try simp only [List.set_cons_zero]
        refine wpAnyH_ready (rs := [8]) (by kernel_rfl) (by simp) ?_
        refine AllReadyH.cons rfl (fun K hK => ?_) AllReadyH.nil
        go_simp
        with_reducible refine KS.step (by first | with_reducible exact hs4.drew | with_reducible exact hs4) ?_
        intro wA hsA hbA
        have lowA : Below W4.heap.size W4 wA := (by first | with_reducible exact hbA | exact (Below.refl _ W4).drew.trans hbA)
        have ma0 := (BM4.on lowA).cell (i := 0) (v := .string an) rfl
        have ma1 := (BM4.on lowA).cell (i := 1) (v := .string ad) rfl
        try go_wp2_with fail
        refine hK.out _ _ ?_ (fun hHeld => ?_)
        · try dsimp only
          first | exact HSOK.out _ lowA | exact HSOK.out _ lowA.drew
        clear hK K
        try simp only [Act.put]
        try simp only [List.setIfInBounds_toArray]
        try simp only [List.set_cons_succ]
        try simp only [List.set_cons_zero]
        refine wpAnyH_ready (rs := [11]) (by kernel_rfl) (by simp) ?_
        refine AllReadyH.cons rfl (fun K hK => ?_) AllReadyH.nil
        go_simp
        with_reducible refine KP.step (by first | with_reducible exact hsA.drew | with_reducible exact hsA) ?_
        intro wB hsB hbB
        have lowB : Below W4.heap.size W4 wB := (by first | exact lowA.trans (hbB.mono lowA.size) | exact lowA.drew.trans (hbB.mono lowA.drew.size))
        have g0 := (BM4.on lowB).frozen 0
        have g1 := (BM4.on lowB).frozen 1
        have mb0 := (BM4.on lowB).cell (i := 0) (v := .string an) rfl
        have mb1 := (BM4.on lowB).cell (i := 1) (v := .string ad) rfl
        have c2 := (X4.on lowB).cell (i := 2) (v := .string ⟨#[]⟩) rfl
        have f2 := (X4.on lowB).frozen 2
        try go_wp2_with fail
        refine hK.out _ _ ?_ (fun hHeld => ?_)
        · try dsimp only
          first | exact HSOK.out _ lowB | exact HSOK.out _ lowB.drew
        clear hK K
        try simp only [Act.put]
        try simp only [List.setIfInBounds_toArray]
        try simp only [List.set_cons_succ]
        try simp only [List.set_cons_zero]
        refine wpAnyH_take (i := 12) (v := ?vv14) rfl (by kernel_rfl) (by kernel_rfl) (by kernel_rfl) (fun _ _ _ h => h) (Or.inl ⟨by rfl, ?hy14⟩) (by assumption) ?rest14
        case hy14 =>
          intro w hSw
          try dsimp only at hSw
          go_simp
          try with_reducible rfl
        try simp only [Act.put]
        try simp only [List.setIfInBounds_toArray]
        try simp only [List.set_cons_succ]
        try simp only [List.set_cons_zero]
        refine wpAnyH_take (i := 13) (v := ?vv15) rfl (by kernel_rfl) (by kernel_rfl) (by kernel_rfl) (fun _ _ _ h => h) (Or.inl ⟨by rfl, ?hy15⟩) (by assumption) ?rest15
        case hy15 =>
          intro w hSw
          try dsimp only at hSw
          go_simp
          try with_reducible rfl
        try simp only [Act.put]
        try simp only [List.setIfInBounds_toArray]
        try simp only [List.set_cons_succ]
        try simp only [List.set_cons_zero]
        refine wpAnyH_take (i := 14) (v := ?vv16) rfl (by kernel_rfl) (by kernel_rfl) (by kernel_rfl) (fun _ _ _ h => h) (Or.inl ⟨by rfl, ?hy16⟩) (by assumption) ?rest16
        case hy16 =>
          intro w hSw
          try dsimp only at hSw
          go_simp
          try with_reducible rfl
        try simp only [Act.put]
        try simp only [List.setIfInBounds_toArray]
        try simp only [List.set_cons_succ]
        try simp only [List.set_cons_zero]
        refine wpAnyH_take (i := 15) (v := ?vv17) rfl (by kernel_rfl) (by kernel_rfl) (by kernel_rfl) (fun _ _ _ h => h) (Or.inl ⟨by rfl, ?hy17⟩) (by assumption) ?rest17
        case hy17 =>
          intro w hSw
          try dsimp only at hSw
          go_simp
          try with_reducible rfl
        try simp only [Act.put]
        try simp only [List.setIfInBounds_toArray]
        try simp only [List.set_cons_succ]
        try simp only [List.set_cons_zero]
        refine wpAnyH_ready (rs := [16]) (by kernel_rfl) (by simp) ?_
        refine AllReadyH.cons rfl (fun K hK => ?_) AllReadyH.nil
        go_simp
        refine hK.out _ _ ?_ (fun hHeld => ?_)
        · try dsimp only
          first | exact (HS1.out _ lowB hsB _ HSW.out).1 | exact (HS1.out _ lowB.drew hsB.drew _ HSW.out).1
        clear hK K
        try simp only [Act.put]
        try simp only [List.setIfInBounds_toArray]
        try simp only [List.set_cons_succ]
        try simp only [List.set_cons_zero]
        refine wpAnyH_ready (rs := [17]) (by kernel_rfl) (by simp) ?_
        refine AllReadyH.cons rfl (fun K hK => ?_) AllReadyH.nil
        go_simp
        refine hK.out _ _ ?_ (fun hHeld => ?_)
        · try dsimp only
          first | exact (HS1.out _ lowB hsB _ HSW.out).2 | exact (HS1.out _ lowB.drew hsB.drew _ HSW.out).2
        clear hK K
        try simp only [Act.put]
        try simp only [List.setIfInBounds_toArray]
        try simp only [List.set_cons_succ]
        try simp only [List.set_cons_zero]
        refine wpAnyH_done (by kernel_rfl) ?_ _
        refine NoPanic.normal ?_
        have X5 : Bx (((wB.setCell ⟨b14, 2, none⟩ (.string pf)).setCell ⟨w.heap.size + 1, 0, none⟩ (.string cn)).setCell ⟨w.heap.size + 1, 1, none⟩ (.string cd)) b14 #[.int .i64 e0, .string mg, .string pf, .string ⟨#[]⟩, .string ⟨#[]⟩] := (((X4.on lowB).set 2 (.string pf)).other h8b 0 (.string cn)).other h8b 1 (.string cd)
        have T5 : Bx (((wB.setCell ⟨b14, 2, none⟩ (.string pf)).setCell ⟨w.heap.size + 1, 0, none⟩ (.string cn)).setCell ⟨w.heap.size + 1, 1, none⟩ (.string cd)) w.heap.size #[.string mn, .string md, .string pn, .string pd, .int .i64 ct] := (((BT4.on lowB).other h8t 2 (.string pf)).other htb 0 (.string cn)).other htb 1 (.string cd)
        have C5 : CellsAt (((wB.setCell ⟨b14, 2, none⟩ (.string pf)).setCell ⟨w.heap.size + 1, 0, none⟩ (.string cn)).setCell ⟨w.heap.size + 1, 1, none⟩ (.string cd)) (w.heap.size + 1) #[.string cn, .string cd] 34 := (((CM4.on lowB).other n2 2 (.string pf)).set 0 (.string cn)).set 1 (.string cd)
        have hs5 : St w (((wB.setCell ⟨b14, 2, none⟩ (.string pf)).setCell ⟨w.heap.size + 1, 0, none⟩ (.string cn)).setCell ⟨w.heap.size + 1, 1, none⟩ (.string cd)) := ((hsB.set hb14 2 (.string pf)).set (Nat.le_succ _) 0 (.string cn)).set (Nat.le_succ _) 1 (.string cd)
        have HO5 : Hid (World.ownsRow (((wB.setCell ⟨b14, 2, none⟩ (.string pf)).setCell ⟨w.heap.size + 1, 0, none⟩ (.string cn)).setCell ⟨w.heap.size + 1, 1, none⟩ (.string cd)) B4 57 5 u12 k (flatG chcells CL)) := (((own_below HO4.out lowB).kept (grown_cell _ b14 2 _) (.inr HNE.out.1)).kept (grown_cell _ (w.heap.size + 1) 0 _) (.inr HNE.out.2)).kept (grown_cell _ (w.heap.size + 1) 1 _) (.inr HNE.out.2)
        have hz5 : B4 ≤ (((wB.setCell ⟨b14, 2, none⟩ (.string pf)).setCell ⟨w.heap.size + 1, 0, none⟩ (.string cn)).setCell ⟨w.heap.size + 1, 1, none⟩ (.string cd)).heap.size := by
          have := lowB.size
          have := HB4.out
          simp [World.setCell]
          omega
        generalize (((wB.setCell ⟨b14, 2, none⟩ (.string pf)).setCell ⟨w.heap.size + 1, 0, none⟩ (.string cn)).setCell ⟨w.heap.size + 1, 1, none⟩ (.string cd)) = W5 at *
        have p0 := C5.bx.cell (i := 0) (v := .string cn) rfl
        have p1 := C5.bx.cell (i := 1) (v := .string cd) rfl
        have z0 := X5.cell (i := 0) (v := .int .i64 e0) rfl
        have z1 := X5.cell (i := 1) (v := .string mg) rfl
        have z2 := X5.cell (i := 2) (v := .string pf) rfl
        have z3 := X5.cell (i := 3) (v := .string ⟨#[]⟩) rfl
        have z4 := X5.cell (i := 4) (v := .string ⟨#[]⟩) rfl
        have y3 := X5.frozen 3
        have y4 := X5.frozen 4
        have T6 := (T5.other h8t 3 (.string cn)).other h8t 4 (.string cd)
        have C6 := (C5.other n2 3 (.string cn)).other n2 4 (.string cd)
        have hs6 := (hs5.set hb14 3 (.string cn)).set hb14 4 (.string cd)
        have HO6 : Hid (World.ownsRow ((W5.setCell ⟨b14, 3, none⟩ (.string cn)).setCell ⟨b14, 4, none⟩ (.string cd)) B4 57 5 u12 k (flatG chcells CL)) := (HO5.out.kept (grown_cell _ b14 3 _) (.inr HNE.out.1)).kept (grown_cell _ b14 4 _) (.inr HNE.out.1)
        have hz6 : B4 ≤ ((W5.setCell ⟨b14, 3, none⟩ (.string cn)).setCell ⟨b14, 4, none⟩ (.string cd)).heap.size := by
          simp [World.setCell]
          omega
        have HT6 := Lib.hid T6
        have HC6 := Lib.hid C6
        have HS6 := Lib.hid hs6
        clear T6 C6 hs6 T5 C5 hs5
        have X6 := (X5.set 3 (.string cn)).set 4 (.string cd)
        go_upto_region 17 with (fail)
        clear p0 p1 z0 z1 z2 z3 z4 y3 y4 hz5 X5
        generalize (W5.setCell ⟨b14, 3, none⟩ (.string cn)).setCell ⟨b14, 4, none⟩ (.string cd) = W6 at *
        have z0 := X6.cell (i := 0) (v := .int .i64 e0) rfl
        have z1 := X6.cell (i := 1) (v := .string mg) rfl
        have z2 := X6.cell (i := 2) (v := .string pf) rfl
        have z3 := X6.cell (i := 3) (v := .string cn) rfl
        have z4 := X6.cell (i := 4) (v := .string cd) rfl
        obtain ⟨i0, hi, hz0, hz1, hz2⟩ := info_parts infoC
        have Hi := Lib.hid hi
        have Hz0 := Lib.hid hz0
        have Hz1 := Lib.hid hz1
        have Hz2 := Lib.hid hz2
        clear hi hz0 hz1 hz2
        go_wp2_with (at_builtin; refine wpList_append_any _ rfl (.tmp 81) (.tmp 83) 49 rfl B4 57 i0 (.agg #[.int .i64 0, .string ⟨#[]⟩, .string ⟨#[]⟩, .string ⟨#[]⟩, .string ⟨#[]⟩]) 5 72 (by kernel_rfl) Hi.out Hz0.out Hz1.out Hz2.out rfl (by omega) _ k (flatG chcells CL) rfl (HO6.out.alloc _) (W6.heap.size + 1) (some ⟨W6.heap.size, 0, none⟩) 1 1 (chcells ⟨e0, mg, pf, cn, cd⟩) rfl (reads_row W6 57 _) (chcells_one _) (by unfold maxLen; omega) (by omega) (by simp; omega) ?_; intro v7 w7 hown7 hg7 _; have HO7 := Lib.hid hown7; have HG7 := Lib.hid hg7; clear hown7 hg7)
        go_roundw
        case rel =>
          refine ⟨k + 1, by omega, by go_num, ⟨HS6.out.1, (HS6.out.2.alloc HS6.out.2.size _).grown HG7.out (by have := HS6.out.2.size; simp; omega) (fun g hg => by have := (HO6.out.lt g hg).1; have := HW4.out; omega)⟩, (HT6.out.alloc _).grown HG7.out (fun e => by have := (HO6.out.lt _ e.symm).1; have := HW4.out; omega), ?_, ?_, ?_⟩
          · have hc := HC6.out.on ((Below.refl _ _).alloc (Nat.le_refl _) (.cells (chcells ⟨e0, mg, pf, cn, cd⟩).toArray 57))
            refine (HG7.out.block _ (Array.getElem?_eq_some_iff.1 hc).1 (fun e => by have := (HO6.out.lt _ e.symm).1; have := HW4.out; omega)).trans ?_
            rw [HMN.out.1, HMN.out.2]
            exact hc
          · have := HG7.out.size
            rw [World.size_alloc] at this
            show _ ≤ _
            omega
          · show World.ownsRow _ _ _ _ _ _ _
            rw [HCL.out, flatG_snoc]
            exact HO7.out
        case measure => simp [intOf]; omega
theorem rRun_any {T : TermS} {u kn kd : ByteArray} {L : List PtS} {A : Option Addr} {n c : Nat} (hn : L.length = n) (hm : n ≤ 4611686018427387904) (hz : T.le 13) (hu : u.size ≤ 13) (s1 : kn.size ≤ 13) (s2 : kd.size ≤ 13) (hl : ∀ p ∈ L, p.v.size ≤ 13 ∧ p.f.size ≤ 13) (h8 : n ≤ 8 ∨ 400 < n)
  (w : World) (hg : Gl w) (hr : Row w A (flatG ptcells L)) :
  Calls Tryz.prog 24 #[tval T, .string u, .agg #[.string kn, .string kd], .slice A n c] w fun e w' => ∃ v, e = .returned (.tuple #[v, .int .i64 (runE T u kn kd L)]) ∧ OutG chcells 57 5 w.heap.size w' v (runL T u kn kd L).length (runL T u kn kd L) ∧ Below w.heap.size w w' := by
 have K1 := rfchk_any hz
 have K2 := rcntU_any (u := u) (kn := kn) (kd := kd) (by omega) (by omega) (by omega)
 have K3 := rser_any (A := A) (c := c) hn hm (fun p hp => ⟨by have := (hl p hp).1; omega, by have := (hl p hp).2; omega⟩)
 have HLE : Hid (∀ e : Int, runE T u kn kd L = e → e ≠ 0 → runL T u kn kd L = []) := fun e h h0 => if_neg (by rw [h]; exact h0)
 have HRE : Hid (runE T u kn kd L = if termE T ≠ 0 then 1 else if cntE u kn kd ≠ 0 then cntE u kn kd else serE L) := rfl
 unfold FV at K2
 by_cases h1 : termE T = 0
 ·by_cases h2 : cntE u kn kd = 0
  ·by_cases h3 : serE L = 0
   ·obtain ⟨g1, g2, _⟩ := ser_zero h3
    obtain ⟨c1, c2, c3, c4⟩ := cnt_zero h2
    obtain ⟨e1, e2⟩ := FR_can c2
    have e : runE T u kn kd L = 0 := by rw [HRE.out, if_neg (by simpa using h1), if_neg (by simpa using h2), h3]
    have el : runL T u kn kd L = chsL T (valS u) (ratV kn kd) L (L.length - 1) := if_pos e
    obtain ⟨N, hN⟩ : ∃ N, n = N + 1 := ⟨n - 1, by omega⟩
    subst hN
    rw [e, el, chsL_len, hn, Nat.add_sub_cancel]
    rw [h1] at K1
    rw [h2] at K2
    rw [h3] at K3
    obtain ⟨mn, md, pn, pd, ct⟩ := T
    unfold tval at *
    dsimp only at *
    have f13 : FitQ 13 (ratV kn kd) := FitQ.arg s1 s2 (by omega)
    exact rrun_few hn ⟨hz, hu, c3, ⟨by omega, hl⟩, f13.mono (by omega)⟩ f13 h1 h3 e1 e2 K1 K2 K3 w hg hr
   ·have e : runE T u kn kd L = serE L := by rw [HRE.out, if_neg (by simpa using h1), if_neg (by simpa using h2)]
    rw [HLE.out _ e h3, e]
    rw [h1] at K1
    rw [h2] at K2
    have q : (serE L != 0) = true := by simpa using h3
    have Hr := Lib.hid hr
    generalize serE L = se at *
    clear HLE HRE h1 h2 h3 e hn hl hr
    obtain ⟨mn, md, pn, pd, ct⟩ := T
    unfold tval at *
    dsimp only at *
    have hs := ((St.refl hg).alloc (.cells #[.string mn, .string md, .string pn, .string pd, .int .i64 ct] 44)).alloc (.cells #[.string kn, .string kd] 34)
    have XT := (Bx.new w #[.string mn, .string md, .string pn, .string pd, .int .i64 ct] 44).alloc (.cells #[.string kn, .string kd] 34)
    have XM := Bx.new1 w (.cells #[.string mn, .string md, .string pn, .string pd, .int .i64 ct] 44) #[.string kn, .string kd] 34
    have t0 := XT.cell (i := 0) (v := .string mn) rfl
    have t1 := XT.cell (i := 1) (v := .string md) rfl
    have t2 := XT.cell (i := 2) (v := .string pn) rfl
    have t3 := XT.cell (i := 3) (v := .string pd) rfl
    have t4 := XT.cell (i := 4) (v := .int .i64 ct) rfl
    have m0 := XM.cell (i := 0) (v := .string kn) rfl
    have m1 := XM.cell (i := 1) (v := .string kd) rfl
    go_enter Tryz.func24, Tryz.ntmps24
    go_wp2_with fail
    refine K1.step hs ?_
    intro w1 hs hb
    clear t0 t1 t2 t3 t4 m0 m1
    replace XT := XT.on hb
    replace XM := XM.on hb
    have t0 := XT.cell (i := 0) (v := .string mn) rfl
    have t1 := XT.cell (i := 1) (v := .string md) rfl
    have t2 := XT.cell (i := 2) (v := .string pn) rfl
    have t3 := XT.cell (i := 3) (v := .string pd) rfl
    have t4 := XT.cell (i := 4) (v := .int .i64 ct) rfl
    have m0 := XM.cell (i := 0) (v := .string kn) rfl
    have m1 := XM.cell (i := 1) (v := .string kd) rfl
    go_wp2_with fail
    refine K2.step hs ?_
    intro w1 hs hb
    clear t0 t1 t2 t3 t4 m0 m1
    replace XT := XT.on hb
    replace XM := XM.on hb
    have t0 := XT.cell (i := 0) (v := .string mn) rfl
    have t1 := XT.cell (i := 1) (v := .string md) rfl
    have t2 := XT.cell (i := 2) (v := .string pn) rfl
    have t3 := XT.cell (i := 3) (v := .string pd) rfl
    have t4 := XT.cell (i := 4) (v := .int .i64 ct) rfl
    have m0 := XM.cell (i := 0) (v := .string kn) rfl
    have m1 := XM.cell (i := 1) (v := .string kd) rfl
    go_wp2_with fail
    refine K3.step hs (Hr.out.on hs.2) ?_
    intro w1 hs hb
    clear t0 t1 t2 t3 t4 m0 m1
    replace XT := XT.on hb
    replace XM := XM.on hb
    have t0 := XT.cell (i := 0) (v := .string mn) rfl
    have t1 := XT.cell (i := 1) (v := .string md) rfl
    have t2 := XT.cell (i := 2) (v := .string pn) rfl
    have t3 := XT.cell (i := 3) (v := .string pd) rfl
    have t4 := XT.cell (i := 4) (v := .int .i64 ct) rfl
    have m0 := XM.cell (i := 0) (v := .string kn) rfl
    have m1 := XM.cell (i := 1) (v := .string kd) rfl
    go_wp2_with fail
    go_ret2
    exact ⟨_, rfl, ⟨rfl, World.ownsRow_nil _ _ _ _⟩, hs.2⟩
  ·have e : runE T u kn kd L = cntE u kn kd := by rw [HRE.out, if_neg (by simpa using h1), if_pos h2]
   rw [HLE.out _ e h2, e]
   rw [h1] at K1
   have q : (cntE u kn kd != 0) = true := by simpa using h2
   generalize cntE u kn kd = se at *
   clear HLE HRE h1 h2 e hn hl hr K3
   obtain ⟨mn, md, pn, pd, ct⟩ := T
   unfold tval at *
   dsimp only at *
   have hs := ((St.refl hg).alloc (.cells #[.string mn, .string md, .string pn, .string pd, .int .i64 ct] 44)).alloc (.cells #[.string kn, .string kd] 34)
   have XT := (Bx.new w #[.string mn, .string md, .string pn, .string pd, .int .i64 ct] 44).alloc (.cells #[.string kn, .string kd] 34)
   have XM := Bx.new1 w (.cells #[.string mn, .string md, .string pn, .string pd, .int .i64 ct] 44) #[.string kn, .string kd] 34
   have t0 := XT.cell (i := 0) (v := .string mn) rfl
   have t1 := XT.cell (i := 1) (v := .string md) rfl
   have t2 := XT.cell (i := 2) (v := .string pn) rfl
   have t3 := XT.cell (i := 3) (v := .string pd) rfl
   have t4 := XT.cell (i := 4) (v := .int .i64 ct) rfl
   have m0 := XM.cell (i := 0) (v := .string kn) rfl
   have m1 := XM.cell (i := 1) (v := .string kd) rfl
   go_enter Tryz.func24, Tryz.ntmps24
   go_wp2_with fail
   refine K1.step hs ?_
   intro w1 hs hb
   clear t0 t1 t2 t3 t4 m0 m1
   replace XT := XT.on hb
   replace XM := XM.on hb
   have t0 := XT.cell (i := 0) (v := .string mn) rfl
   have t1 := XT.cell (i := 1) (v := .string md) rfl
   have t2 := XT.cell (i := 2) (v := .string pn) rfl
   have t3 := XT.cell (i := 3) (v := .string pd) rfl
   have t4 := XT.cell (i := 4) (v := .int .i64 ct) rfl
   have m0 := XM.cell (i := 0) (v := .string kn) rfl
   have m1 := XM.cell (i := 1) (v := .string kd) rfl
   go_wp2_with fail
   refine K2.step hs ?_
   intro w1 hs hb
   clear t0 t1 t2 t3 t4 m0 m1
   replace XT := XT.on hb
   replace XM := XM.on hb
   have t0 := XT.cell (i := 0) (v := .string mn) rfl
   have t1 := XT.cell (i := 1) (v := .string md) rfl
   have t2 := XT.cell (i := 2) (v := .string pn) rfl
   have t3 := XT.cell (i := 3) (v := .string pd) rfl
   have t4 := XT.cell (i := 4) (v := .int .i64 ct) rfl
   have m0 := XM.cell (i := 0) (v := .string kn) rfl
   have m1 := XM.cell (i := 1) (v := .string kd) rfl
   go_wp2_with fail
   go_ret2
   exact ⟨_, rfl, ⟨rfl, World.ownsRow_nil _ _ _ _⟩, hs.2⟩
 ·have e : runE T u kn kd L = 1 := by rw [HRE.out, if_pos h1]
  rw [HLE.out _ e (by decide), e]
  have q : (termE T != 0) = true := by simpa using h1
  generalize termE T = se at *
  clear HLE HRE h1 e hn hl hr K3 K2
  obtain ⟨mn, md, pn, pd, ct⟩ := T
  unfold tval at *
  dsimp only at *
  have hs := ((St.refl hg).alloc (.cells #[.string mn, .string md, .string pn, .string pd, .int .i64 ct] 44)).alloc (.cells #[.string kn, .string kd] 34)
  have XT := (Bx.new w #[.string mn, .string md, .string pn, .string pd, .int .i64 ct] 44).alloc (.cells #[.string kn, .string kd] 34)
  have XM := Bx.new1 w (.cells #[.string mn, .string md, .string pn, .string pd, .int .i64 ct] 44) #[.string kn, .string kd] 34
  have t0 := XT.cell (i := 0) (v := .string mn) rfl
  have t1 := XT.cell (i := 1) (v := .string md) rfl
  have t2 := XT.cell (i := 2) (v := .string pn) rfl
  have t3 := XT.cell (i := 3) (v := .string pd) rfl
  have t4 := XT.cell (i := 4) (v := .int .i64 ct) rfl
  have m0 := XM.cell (i := 0) (v := .string kn) rfl
  have m1 := XM.cell (i := 1) (v := .string kd) rfl
  go_enter Tryz.func24, Tryz.ntmps24
  go_wp2_with fail
  refine K1.step hs ?_
  intro w1 hs hb
  clear t0 t1 t2 t3 t4 m0 m1
  replace XT := XT.on hb
  replace XM := XM.on hb
  have t0 := XT.cell (i := 0) (v := .string mn) rfl
  have t1 := XT.cell (i := 1) (v := .string md) rfl
  have t2 := XT.cell (i := 2) (v := .string pn) rfl
  have t3 := XT.cell (i := 3) (v := .string pd) rfl
  have t4 := XT.cell (i := 4) (v := .int .i64 ct) rfl
  have m0 := XM.cell (i := 0) (v := .string kn) rfl
  have m1 := XM.cell (i := 1) (v := .string kd) rfl
  go_wp2_with fail
  go_ret2
  exact ⟨_, rfl, ⟨rfl, World.ownsRow_nil _ _ _ _⟩, hs.2⟩
end Go.Proofs.YticfdeaphiifeaaGreatDoor
namespace Go.Proofs.YticfdeaphiifeaaGreatDoor
open Go.RowKit Go.Shelf Dec QQ
theorem grt_falseR {l : List PtS} (h : grtP l = false) : (∀ p ∈ l, p.v.size ≤ 13 ∧ p.f.size ≤ 13) ∧ (l.length ≤ 8 ∨ 400 < l.length) ∧ l.length ≤ 403 := by
 unfold grtP at h
 simp only [Bool.or_eq_false_iff, Bool.and_eq_false_iff, decide_eq_false_iff_not] at h
 obtain ⟨h1, h2, h3⟩ := h
 refine ⟨fun p hp => lngP_false (by simpa using List.any_eq_false.1 h1 p hp), ?_, by omega⟩
 rcases h2 with h2 | h2
 ·exact .inl (by omega)
 ·exact .inr (by omega)
theorem runL_few {T : TermS} {u kn kd : ByteArray} {l : List PtS} : (runL T u kn kd l).length ≤ l.length := by
 unfold runL
 split
 ·rw [chsL_len]; omega
 ·exact Nat.zero_le _
theorem runs_long1 {mn md pn pd u kn kd : ByteArray} {ct : Int} {A : Option Addr} {n c : Nat} (hT : TermS.big ⟨mn, md, pn, pd, ct⟩) (g1 : u.size ≤ 9223372036854775807) (g3 : kn.size ≤ 9223372036854775807) (g4 : kd.size ≤ 9223372036854775807) (ht1 : (lngT ⟨mn, md, pn, pd, ct⟩ || List.any ([⟨kn, kd⟩] : List FnS) lngF) = true)  (w : World) (hg : Gl w) : Calls Tryz.prog 5 #[.agg #[.string mn, .string md, .string pn, .string pd, .int .i64 ct], .string u, .agg #[.string kn, .string kd], .slice A n c] w fun e w' => e = .returned (.bool true) ∧ Below w.heap.size w w' := by
 have KL1 := longT_any (A := some ⟨w.heap.size + 2, 0, none⟩) (n := 1) (c := 1) (l := [⟨kn, kd⟩]) hT rfl (by decide) (fun s hs => by simp at hs; subst hs; exact ⟨g3, g4⟩)
 have KL2 := fun b : Nat => long45_any (A := some ⟨b, 0, none⟩) (n := 1) (c := 1) (l := [u]) rfl (by decide) (fun s hs => by simp at hs; subst hs; exact g1)
 have hs := (((St.refl hg).alloc (.cells #[.string mn, .string md, .string pn, .string pd, .int .i64 ct] 44)).alloc (.cells #[.string kn, .string kd] 34)).alloc (.cells #[.string kn, .string kd] 34)
 have XT0 := (Bx.new w #[.string mn, .string md, .string pn, .string pd, .int .i64 ct] 44).alloc (.cells #[.string kn, .string kd] 34)
 have XT := XT0.alloc (.cells #[.string kn, .string kd] 34)
 have XM0 := Bx.new1 w (.cells #[.string mn, .string md, .string pn, .string pd, .int .i64 ct] 44) #[.string kn, .string kd] 34
 have XM := XM0.alloc (.cells #[.string kn, .string kd] 34)
 have XS := Bx.new2 w (.cells #[.string mn, .string md, .string pn, .string pd, .int .i64 ct] 44) (.cells #[.string kn, .string kd] 34) #[.string kn, .string kd] 34
 have a0 := XT0.cell (i := 0) (v := .string mn) rfl
 have a1 := XT0.cell (i := 1) (v := .string md) rfl
 have a2 := XT0.cell (i := 2) (v := .string pn) rfl
 have a3 := XT0.cell (i := 3) (v := .string pd) rfl
 have a4 := XT0.cell (i := 4) (v := .int .i64 ct) rfl
 have am0 := XM0.cell (i := 0) (v := .string kn) rfl
 have am1 := XM0.cell (i := 1) (v := .string kd) rfl
 have HR1 : Hid (Row (((w.alloc (.cells #[.string mn, .string md, .string pn, .string pd, .int .i64 ct] 44)).alloc (.cells #[.string kn, .string kd] 34)).alloc (.cells #[.string kn, .string kd] 34)) (some ⟨w.heap.size + 2, 0, none⟩) (flatG fncells [⟨kn, kd⟩])) := Row.of XS
 have AW := awake45
 clear XT0 XM0
 rw [ht1] at KL1
 unfold tval at KL1
 dsimp only at KL1
 clear ht1  hT g1 g3 g4 XS
 go_enter Tryz.func5, Tryz.ntmps5
 go_wp2_with fail
 clear a0 a1 a2 a3 a4 am0 am1
 refine KL1.step hs HR1.out ?_
 intro w1 hs hb
 replace XT := XT.on hb
 replace XM := XM.on hb
 go_wp2_with fail
 refine AW.step hs ?_
 intro w2 hs hb
 go_wp2_with fail
 go_ret
 exact ⟨rfl, hs.2⟩
theorem runs_long2 {mn md pn pd u kn kd : ByteArray} {ct : Int} {A : Option Addr} {n c : Nat} (hT : TermS.big ⟨mn, md, pn, pd, ct⟩) (g1 : u.size ≤ 9223372036854775807) (g3 : kn.size ≤ 9223372036854775807) (g4 : kd.size ≤ 9223372036854775807) (ht1 : (lngT ⟨mn, md, pn, pd, ct⟩ || List.any ([⟨kn, kd⟩] : List FnS) lngF) = false) (ht2 : List.any ([u] : List ByteArray) (fun s => decide (13 < s.size)) = true) (w : World) (hg : Gl w) : Calls Tryz.prog 5 #[.agg #[.string mn, .string md, .string pn, .string pd, .int .i64 ct], .string u, .agg #[.string kn, .string kd], .slice A n c] w fun e w' => e = .returned (.bool true) ∧ Below w.heap.size w w' := by
 have KL1 := longT_any (A := some ⟨w.heap.size + 2, 0, none⟩) (n := 1) (c := 1) (l := [⟨kn, kd⟩]) hT rfl (by decide) (fun s hs => by simp at hs; subst hs; exact ⟨g3, g4⟩)
 have KL2 := fun b : Nat => long45_any (A := some ⟨b, 0, none⟩) (n := 1) (c := 1) (l := [u]) rfl (by decide) (fun s hs => by simp at hs; subst hs; exact g1)
 have hs := (((St.refl hg).alloc (.cells #[.string mn, .string md, .string pn, .string pd, .int .i64 ct] 44)).alloc (.cells #[.string kn, .string kd] 34)).alloc (.cells #[.string kn, .string kd] 34)
 have XT0 := (Bx.new w #[.string mn, .string md, .string pn, .string pd, .int .i64 ct] 44).alloc (.cells #[.string kn, .string kd] 34)
 have XT := XT0.alloc (.cells #[.string kn, .string kd] 34)
 have XM0 := Bx.new1 w (.cells #[.string mn, .string md, .string pn, .string pd, .int .i64 ct] 44) #[.string kn, .string kd] 34
 have XM := XM0.alloc (.cells #[.string kn, .string kd] 34)
 have XS := Bx.new2 w (.cells #[.string mn, .string md, .string pn, .string pd, .int .i64 ct] 44) (.cells #[.string kn, .string kd] 34) #[.string kn, .string kd] 34
 have a0 := XT0.cell (i := 0) (v := .string mn) rfl
 have a1 := XT0.cell (i := 1) (v := .string md) rfl
 have a2 := XT0.cell (i := 2) (v := .string pn) rfl
 have a3 := XT0.cell (i := 3) (v := .string pd) rfl
 have a4 := XT0.cell (i := 4) (v := .int .i64 ct) rfl
 have am0 := XM0.cell (i := 0) (v := .string kn) rfl
 have am1 := XM0.cell (i := 1) (v := .string kd) rfl
 have HR1 : Hid (Row (((w.alloc (.cells #[.string mn, .string md, .string pn, .string pd, .int .i64 ct] 44)).alloc (.cells #[.string kn, .string kd] 34)).alloc (.cells #[.string kn, .string kd] 34)) (some ⟨w.heap.size + 2, 0, none⟩) (flatG fncells [⟨kn, kd⟩])) := Row.of XS
 have AW := awake45
 clear XT0 XM0
 rw [ht1] at KL1
 rw [ht2] at KL2
 unfold tval at KL1
 dsimp only at KL1
 clear ht1 ht2 hT g1 g3 g4 XS
 go_enter Tryz.func5, Tryz.ntmps5
 go_wp2_with fail
 clear a0 a1 a2 a3 a4 am0 am1
 refine KL1.step hs HR1.out ?_
 intro w1 hs hb
 replace XT := XT.on hb
 replace XM := XM.on hb
 go_wp2_with fail
 have HR2 : Hid (Row (w1.alloc (.cells #[.string u] 32)) (some ⟨w1.heap.size, 0, none⟩) ([u].map sv)) := Row.of (Bx.new w1 #[.string u] 32)
 replace XT := XT.alloc (.cells #[.string u] 32)
 replace XM := XM.alloc (.cells #[.string u] 32)
 replace hs := hs.alloc (.cells #[.string u] 32)
 refine (KL2 _).step hs HR2.out ?_
 intro w2 hs hb
 replace XT := XT.on hb
 replace XM := XM.on hb
 go_wp2_with fail
 refine AW.step hs ?_
 intro w3 hs hb
 go_wp2_with fail
 go_ret
 exact ⟨rfl, hs.2⟩
theorem runs_grt {mn md pn pd u kn kd : ByteArray} {ct : Int} {A : Option Addr} {n c : Nat} {L : List PtS} (hT : TermS.big ⟨mn, md, pn, pd, ct⟩) (g1 : u.size ≤ 9223372036854775807) (g3 : kn.size ≤ 9223372036854775807) (g4 : kd.size ≤ 9223372036854775807) (hn : L.length = n) (hm : n ≤ 9223372036854775807) (hbig : ∀ p ∈ L, p.v.size ≤ 9223372036854775807 ∧ p.f.size ≤ 9223372036854775807) (ht1 : (lngT ⟨mn, md, pn, pd, ct⟩ || List.any ([⟨kn, kd⟩] : List FnS) lngF) = false) (ht2 : List.any ([u] : List ByteArray) (fun s => decide (13 < s.size)) = false) (hG : grtP L = true)  (w : World) (hg : Gl w) (hr : Row w A (flatG ptcells L)) : Calls Tryz.prog 5 #[.agg #[.string mn, .string md, .string pn, .string pd, .int .i64 ct], .string u, .agg #[.string kn, .string kd], .slice A n c] w fun e w' => e = .returned (.bool true) ∧ Below w.heap.size w w' := by
 have KL1 := longT_any (A := some ⟨w.heap.size + 2, 0, none⟩) (n := 1) (c := 1) (l := [⟨kn, kd⟩]) hT rfl (by decide) (fun s hs => by simp at hs; subst hs; exact ⟨g3, g4⟩)
 have KL2 := fun b : Nat => long45_any (A := some ⟨b, 0, none⟩) (n := 1) (c := 1) (l := [u]) rfl (by decide) (fun s hs => by simp at hs; subst hs; exact g1)
 have KG := rgrt_any (A := A) (c := c) hn hm hbig
 rw [ht1] at KL1
 rw [ht2] at KL2
 rw [hG] at KG
 have HR := Lib.hid hr
 unfold tval at *
 dsimp only at *
 have hs := (((St.refl hg).alloc (.cells #[.string mn, .string md, .string pn, .string pd, .int .i64 ct] 44)).alloc (.cells #[.string kn, .string kd] 34)).alloc (.cells #[.string kn, .string kd] 34)
 have XT0 := (Bx.new w #[.string mn, .string md, .string pn, .string pd, .int .i64 ct] 44).alloc (.cells #[.string kn, .string kd] 34)
 have XT := XT0.alloc (.cells #[.string kn, .string kd] 34)
 have XM0 := Bx.new1 w (.cells #[.string mn, .string md, .string pn, .string pd, .int .i64 ct] 44) #[.string kn, .string kd] 34
 have XM := XM0.alloc (.cells #[.string kn, .string kd] 34)
 have XS := Bx.new2 w (.cells #[.string mn, .string md, .string pn, .string pd, .int .i64 ct] 44) (.cells #[.string kn, .string kd] 34) #[.string kn, .string kd] 34
 have a0 := XT0.cell (i := 0) (v := .string mn) rfl
 have a1 := XT0.cell (i := 1) (v := .string md) rfl
 have a2 := XT0.cell (i := 2) (v := .string pn) rfl
 have a3 := XT0.cell (i := 3) (v := .string pd) rfl
 have a4 := XT0.cell (i := 4) (v := .int .i64 ct) rfl
 have am0 := XM0.cell (i := 0) (v := .string kn) rfl
 have am1 := XM0.cell (i := 1) (v := .string kd) rfl
 have HR1 : Hid (Row (((w.alloc (.cells #[.string mn, .string md, .string pn, .string pd, .int .i64 ct] 44)).alloc (.cells #[.string kn, .string kd] 34)).alloc (.cells #[.string kn, .string kd] 34)) (some ⟨w.heap.size + 2, 0, none⟩) (flatG fncells [⟨kn, kd⟩])) := Row.of XS
 have AW := awake45
 clear XT0 XM0
 clear ht1 ht2 hT g1 g3 g4 hG hr hbig XS hn hm
 go_enter Tryz.func5, Tryz.ntmps5
 go_wp2_with fail
 clear a0 a1 a2 a3 a4 am0 am1
 refine KL1.step hs HR1.out ?_
 intro w1 hs hb
 replace XT := XT.on hb
 replace XM := XM.on hb
 go_wp2_with fail
 have HR2 : Hid (Row (w1.alloc (.cells #[.string u] 32)) (some ⟨w1.heap.size, 0, none⟩) ([u].map sv)) := Row.of (Bx.new w1 #[.string u] 32)
 replace XT := XT.alloc (.cells #[.string u] 32)
 replace XM := XM.alloc (.cells #[.string u] 32)
 replace hs := hs.alloc (.cells #[.string u] 32)
 refine (KL2 _).step hs HR2.out ?_
 intro w2 hs hb
 replace XT := XT.on hb
 replace XM := XM.on hb
 have t0 := XT.cell (i := 0) (v := .string mn) rfl
 have t1 := XT.cell (i := 1) (v := .string md) rfl
 have t2 := XT.cell (i := 2) (v := .string pn) rfl
 have t3 := XT.cell (i := 3) (v := .string pd) rfl
 have t4 := XT.cell (i := 4) (v := .int .i64 ct) rfl
 have m0 := XM.cell (i := 0) (v := .string kn) rfl
 have m1 := XM.cell (i := 1) (v := .string kd) rfl
 go_wp2_with fail
 refine KG.step hs (HR.out.on hs.2) ?_
 intro w3 hs hb
 clear t0 t1 t2 t3 t4 m0 m1
 replace XT := XT.on hb
 replace XM := XM.on hb
 have t0 := XT.cell (i := 0) (v := .string mn) rfl
 have t1 := XT.cell (i := 1) (v := .string md) rfl
 have t2 := XT.cell (i := 2) (v := .string pn) rfl
 have t3 := XT.cell (i := 3) (v := .string pd) rfl
 have t4 := XT.cell (i := 4) (v := .int .i64 ct) rfl
 have m0 := XM.cell (i := 0) (v := .string kn) rfl
 have m1 := XM.cell (i := 1) (v := .string kd) rfl
 go_wp2_with fail
 refine AW.step hs ?_
 intro w9 hs hb
 go_wp2_with fail
 go_ret
 exact ⟨rfl, hs.2⟩
theorem runs_ok {mn md pn pd u kn kd : ByteArray} {ct : Int} {A : Option Addr} {n c : Nat} {L : List PtS} (hT : TermS.big ⟨mn, md, pn, pd, ct⟩) (g1 : u.size ≤ 9223372036854775807) (g3 : kn.size ≤ 9223372036854775807) (g4 : kd.size ≤ 9223372036854775807) (hn : L.length = n) (hm : n ≤ 9223372036854775807) (hbig : ∀ p ∈ L, p.v.size ≤ 9223372036854775807 ∧ p.f.size ≤ 9223372036854775807) (ht1 : (lngT ⟨mn, md, pn, pd, ct⟩ || List.any ([⟨kn, kd⟩] : List FnS) lngF) = false) (ht2 : List.any ([u] : List ByteArray) (fun s => decide (13 < s.size)) = false) (hG : grtP L = false) (hc : n ≤ c) (hz : TermS.le 13 ⟨mn, md, pn, pd, ct⟩) (s1 : u.size ≤ 13) (s3 : kn.size ≤ 13) (s4 : kd.size ≤ 13) (w : World) (hg : Gl w) (hr : Row w A (flatG ptcells L)) : Calls Tryz.prog 5 #[.agg #[.string mn, .string md, .string pn, .string pd, .int .i64 ct], .string u, .agg #[.string kn, .string kd], .slice A n c] w fun e w' => e = .returned (.bool true) ∧ Below w.heap.size w w' := by
 have KL1 := longT_any (A := some ⟨w.heap.size + 2, 0, none⟩) (n := 1) (c := 1) (l := [⟨kn, kd⟩]) hT rfl (by decide) (fun s hs => by simp at hs; subst hs; exact ⟨g3, g4⟩)
 have KL2 := fun b : Nat => long45_any (A := some ⟨b, 0, none⟩) (n := 1) (c := 1) (l := [u]) rfl (by decide) (fun s hs => by simp at hs; subst hs; exact g1)
 have KG := rgrt_any (A := A) (c := c) hn hm hbig
 rw [ht1] at KL1
 rw [ht2] at KL2
 rw [hG] at KG
 have HR := Lib.hid hr
 obtain ⟨hl, h8, h403⟩ := grt_falseR hG
 rw [hn] at h8 h403
 have KA := Lib.hid (Run_any (T := (⟨mn, md, pn, pd, ct⟩ : TermS)) (u := u) (kn := kn) (kd := kd) (A := A) hn hc (by omega) hz s1 (by omega) (by omega) hl h8)
 have KB := Lib.hid (rRun_any (T := (⟨mn, md, pn, pd, ct⟩ : TermS)) (u := u) (kn := kn) (kd := kd) (A := A) (c := c) hn (by omega) hz s1 s3 s4 hl h8)
 have KC := Mark_any (A := A) (c := c) hn hc (by omega) s1 hl h8
 have KD := rMark_any (A := A) (c := c) hn (by omega) s1 hl h8
 unfold FR at KC KD
 have hRL : (runL (⟨mn, md, pn, pd, ct⟩ : TermS) u kn kd L).length ≤ 4611686018427387904 := Nat.le_trans runL_few (by omega)
 generalize runL (⟨mn, md, pn, pd, ct⟩ : TermS) u kn kd L = RL at *
 generalize runE (⟨mn, md, pn, pd, ct⟩ : TermS) u kn kd L = re at *
 obtain ⟨m, hmm⟩ : ∃ m, RL.length = m := ⟨_, rfl⟩
 rw [hmm] at KA KB hRL
 have HMM := Lib.hid hmm
 have HRL := Lib.hid hRL
 generalize frN (mrkQ u L) = qn at *
 generalize frD (mrkQ u L) = qd at *
 generalize mrkE u L = me at *
 have b1 : (re == re) = true := beq_self_eq_true re
 have b2 : (me == me) = true := beq_self_eq_true me
 unfold tval at *
 dsimp only at *
 have hs := (((St.refl hg).alloc (.cells #[.string mn, .string md, .string pn, .string pd, .int .i64 ct] 44)).alloc (.cells #[.string kn, .string kd] 34)).alloc (.cells #[.string kn, .string kd] 34)
 have XT0 := (Bx.new w #[.string mn, .string md, .string pn, .string pd, .int .i64 ct] 44).alloc (.cells #[.string kn, .string kd] 34)
 have XT := XT0.alloc (.cells #[.string kn, .string kd] 34)
 have XM0 := Bx.new1 w (.cells #[.string mn, .string md, .string pn, .string pd, .int .i64 ct] 44) #[.string kn, .string kd] 34
 have XM := XM0.alloc (.cells #[.string kn, .string kd] 34)
 have XS := Bx.new2 w (.cells #[.string mn, .string md, .string pn, .string pd, .int .i64 ct] 44) (.cells #[.string kn, .string kd] 34) #[.string kn, .string kd] 34
 have a0 := XT0.cell (i := 0) (v := .string mn) rfl
 have a1 := XT0.cell (i := 1) (v := .string md) rfl
 have a2 := XT0.cell (i := 2) (v := .string pn) rfl
 have a3 := XT0.cell (i := 3) (v := .string pd) rfl
 have a4 := XT0.cell (i := 4) (v := .int .i64 ct) rfl
 have am0 := XM0.cell (i := 0) (v := .string kn) rfl
 have am1 := XM0.cell (i := 1) (v := .string kd) rfl
 have HR1 : Hid (Row (((w.alloc (.cells #[.string mn, .string md, .string pn, .string pd, .int .i64 ct] 44)).alloc (.cells #[.string kn, .string kd] 34)).alloc (.cells #[.string kn, .string kd] 34)) (some ⟨w.heap.size + 2, 0, none⟩) (flatG fncells [⟨kn, kd⟩])) := Row.of XS
 have AW := awake45
 clear XT0 XM0
 clear ht1 ht2 hT g1 g3 g4 hG hr hbig XS hn hc hm hl h8 h403 hz s1 s3 s4 hmm hRL
 go_enter Tryz.func5, Tryz.ntmps5
 go_wp2_with fail
 clear a0 a1 a2 a3 a4 am0 am1
 refine KL1.step hs HR1.out ?_
 intro w1 hs hb
 replace XT := XT.on hb
 replace XM := XM.on hb
 go_wp2_with fail
 have HR2 : Hid (Row (w1.alloc (.cells #[.string u] 32)) (some ⟨w1.heap.size, 0, none⟩) ([u].map sv)) := Row.of (Bx.new w1 #[.string u] 32)
 replace XT := XT.alloc (.cells #[.string u] 32)
 replace XM := XM.alloc (.cells #[.string u] 32)
 replace hs := hs.alloc (.cells #[.string u] 32)
 refine (KL2 _).step hs HR2.out ?_
 intro w2 hs hb
 replace XT := XT.on hb
 replace XM := XM.on hb
 have t0 := XT.cell (i := 0) (v := .string mn) rfl
 have t1 := XT.cell (i := 1) (v := .string md) rfl
 have t2 := XT.cell (i := 2) (v := .string pn) rfl
 have t3 := XT.cell (i := 3) (v := .string pd) rfl
 have t4 := XT.cell (i := 4) (v := .int .i64 ct) rfl
 have m0 := XM.cell (i := 0) (v := .string kn) rfl
 have m1 := XM.cell (i := 1) (v := .string kd) rfl
 go_wp2_with fail
 refine KG.step hs (HR.out.on hs.2) ?_
 intro w3 hs hb
 clear t0 t1 t2 t3 t4 m0 m1
 replace XT := XT.on hb
 replace XM := XM.on hb
 have t0 := XT.cell (i := 0) (v := .string mn) rfl
 have t1 := XT.cell (i := 1) (v := .string md) rfl
 have t2 := XT.cell (i := 2) (v := .string pn) rfl
 have t3 := XT.cell (i := 3) (v := .string pd) rfl
 have t4 := XT.cell (i := 4) (v := .int .i64 ct) rfl
 have m0 := XM.cell (i := 0) (v := .string kn) rfl
 have m1 := XM.cell (i := 1) (v := .string kd) rfl
 go_wp2_with fail
 refine (KA.out _ hs.gl (HR.out.on hs.2)).mono ?_
 rintro e w4 ⟨va, rfl, ho, hb⟩
 replace hs := hs.on hb
 clear t0 t1 t2 t3 t4 m0 m1
 replace XT := XT.on hb
 replace XM := XM.on hb
 have t0 := XT.cell (i := 0) (v := .string mn) rfl
 have t1 := XT.cell (i := 1) (v := .string md) rfl
 have t2 := XT.cell (i := 2) (v := .string pn) rfl
 have t3 := XT.cell (i := 3) (v := .string pd) rfl
 have t4 := XT.cell (i := 4) (v := .int .i64 ct) rfl
 have m0 := XM.cell (i := 0) (v := .string kn) rfl
 have m1 := XM.cell (i := 1) (v := .string kd) rfl
 obtain ⟨Aa, ca, rfl, ra⟩ := ho.row
 have HA := Lib.hid ra
 clear ra ho hb
 go_wp2_with fail
 refine (KB.out _ hs.gl (HR.out.on hs.2)).mono ?_
 rintro e w5 ⟨vb, rfl, ho, hb⟩
 replace hs := hs.on hb
 clear t0 t1 t2 t3 t4 m0 m1
 replace XT := XT.on hb
 replace XM := XM.on hb
 obtain ⟨Ab, cb, rfl, rb⟩ := ho.row
 have HB := Lib.hid (And.intro (HA.out.on hb) rb)
 have KE := equalC (A := Aa) (A' := Ab) (c := ca) (c' := cb) HMM.out HRL.out
 clear rb ho hb
 go_wp2_with fail
 refine KC.step hs (HR.out.on hs.2) ?_
 intro w6 hs hb6
 have HB6 := Lib.hid (And.intro (HB.out.1.on hb6) (HB.out.2.on hb6))
 have HB6 := Lib.hid (And.intro (HB6.out.1.on ((Below.refl _ _).alloc (Nat.le_refl _) (.cells #[.string qn, .string qd] 34))) (HB6.out.2.on ((Below.refl _ _).alloc (Nat.le_refl _) (.cells #[.string qn, .string qd] 34))))
 have XQ := Bx.new w6 #[.string qn, .string qd] 34
 replace hs := hs.alloc (.cells #[.string qn, .string qd] 34)
 clear hb6
 go_wp2_with fail
 refine KD.step hs (HR.out.on hs.2) ?_
 intro w7 hs hb7
 have HB7 := Lib.hid (And.intro (HB6.out.1.on hb7) (HB6.out.2.on hb7))
 have HB8 := Lib.hid (And.intro (HB7.out.1.on ((Below.refl _ _).alloc (Nat.le_refl _) (.cells #[.string qn, .string qd] 34))) (HB7.out.2.on ((Below.refl _ _).alloc (Nat.le_refl _) (.cells #[.string qn, .string qd] 34))))
 replace XQ := (XQ.on hb7).alloc (.cells #[.string qn, .string qd] 34)
 have XR := Bx.new w7 #[.string qn, .string qd] 34
 replace hs := hs.alloc (.cells #[.string qn, .string qd] 34)
 clear hb7
 go_wp2_with fail
 refine KE.step hs HB8.out ?_
 intro w8 hs hb8
 replace XQ := XQ.on hb8
 replace XR := XR.on hb8
 have q0 := XQ.cell (i := 0) (v := .string qn) rfl
 have q1 := XQ.cell (i := 1) (v := .string qd) rfl
 have r0 := XR.cell (i := 0) (v := .string qn) rfl
 have r1 := XR.cell (i := 1) (v := .string qd) rfl
 go_wp2_with fail
 refine AW.step hs ?_
 intro w9 hs hb
 go_wp2_with fail
 go_ret
 exact ⟨rfl, hs.2⟩
theorem runs45_any {mn md pn pd u kn kd : ByteArray} {ct : Int} {A : Option Addr} {n c : Nat} {L : List PtS} (hT : TermS.big ⟨mn, md, pn, pd, ct⟩) (g1 : u.size ≤ 9223372036854775807) (g3 : kn.size ≤ 9223372036854775807) (g4 : kd.size ≤ 9223372036854775807) (hn : L.length = n) (hc : n ≤ c) (hm : n ≤ 9223372036854775807) (hbig : ∀ p ∈ L, p.v.size ≤ 9223372036854775807 ∧ p.f.size ≤ 9223372036854775807) (w : World) (hg : Gl w) (hr : Row w A (flatG ptcells L)) : Calls Tryz.prog 5 #[.agg #[.string mn, .string md, .string pn, .string pd, .int .i64 ct], .string u, .agg #[.string kn, .string kd], .slice A n c] w fun e w' => e = .returned (.bool true) ∧ Below w.heap.size w w' := by
 cases ht1 : (lngT ⟨mn, md, pn, pd, ct⟩ || List.any ([⟨kn, kd⟩] : List FnS) lngF) with
 | true => exact runs_long1 hT g1 g3 g4 ht1 w hg
 | false =>
  cases ht2 : List.any ([u] : List ByteArray) (fun s => decide (13 < s.size)) with
  | true => exact runs_long2 hT g1 g3 g4 ht1 ht2 w hg
  | false =>
   cases hG : grtP L with
   | true => exact runs_grt hT g1 g3 g4 hn hm hbig ht1 ht2 hG w hg hr
   | false =>
    have h1 := ht1
    rw [Bool.or_eq_false_iff] at h1
    have hz := lngT_false h1.1
    have hk := lngF_false (s := ⟨kn, kd⟩) (by have := h1.2; simpa using this)
    have s1 : u.size ≤ 13 := by simpa using ht2
    exact runs_ok hT g1 g3 g4 hn hm hbig ht1 ht2 hG hc hz s1 hk.1 hk.2 w hg hr
end Go.Proofs.YticfdeaphiifeaaGreatDoor
