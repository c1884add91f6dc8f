/- Attribution: what a part contributes, the total of parts. Conditions: up to five parts with numbers of bounded length, or more than 32. -/
import Derived.Test.YticfdeaphiifeaaGreatDoorAt3
set_option maxHeartbeats 4000000
set_option maxRecDepth 100000
namespace Go.Proofs.YticfdeaphiifeaaGreatDoor
open Go.RowKit Go.Shelf Dec QQ
theorem pall_any (s : PrtS) (hz : s.le 20000) : Ret 89 #[prtV s] (FR s.all) := by
 intro w hg
 have hs := ((St.refl hg).alloc (.cells #[.string s.nm, .string s.an, .string s.ad, .string s.sn, .string s.sd, .string s.jn, .string s.jd] 36)).alloc (.cells #[.string ⟨#[]⟩, .string ⟨#[]⟩] 34)
 have B := Bx.new1 w (.cells #[.string s.nm, .string s.an, .string s.ad, .string s.sn, .string s.sd, .string s.jn, .string s.jd] 36) #[.string ⟨#[]⟩, .string ⟨#[]⟩] 34
 have B0 := (Bx.new w #[.string s.nm, .string s.an, .string s.ad, .string s.sn, .string s.sd, .string s.jn, .string s.jd] 36).alloc (.cells #[.string ⟨#[]⟩, .string ⟨#[]⟩] 34)
 have ff := hz.fit (by omega)
 unfold PrtS.le at hz
 have K1 := AddF (Vq.arg (n := s.an) (d := s.ad) (by omega) (by omega)) (Vq.arg (n := s.sn) (d := s.sd) (by omega) (by omega))
 change Ret _ _ (FR (s.a + s.s)) at K1
 have K2 := AddF (Vq.fr (ff.1.add ff.2.1) (by omega)) (Vq.arg (n := s.jn) (d := s.jd) (by omega) (by omega))
 change Ret _ _ (FR s.all) at K2
 unfold FR at K1 K2 ⊢
 unfold FV at K1 K2
 generalize frN s.all = rn at *
 generalize frD s.all = rd at *
 generalize frN (s.a + s.s) = mn at *
 generalize frD (s.a + s.s) = md at *
 clear hz ff
 unfold prtV
 obtain ⟨f0, f1, f2, f3, f4, f5, f6⟩ := s
 dsimp only at hs B B0 K1 K2 ⊢
 obtain ⟨W, hW⟩ : ∃ W, (w.alloc (.cells #[.string f0, .string f1, .string f2, .string f3, .string f4, .string f5, .string f6] 36)).alloc (.cells #[.string ⟨#[]⟩, .string ⟨#[]⟩] 34) = W := ⟨_, rfl⟩
 rw [hW] at hs B B0
 have HW := Lib.hid hW
 clear hW
 have k0 := B0.keeps (i := 0) (v := .string f0) rfl
 have k1 := B0.keeps (i := 1) (v := .string f1) rfl
 have k2 := B0.keeps (i := 2) (v := .string f2) rfl
 have k3 := B0.keeps (i := 3) (v := .string f3) rfl
 have k4 := B0.keeps (i := 4) (v := .string f4) rfl
 have k5 := B0.keeps (i := 5) (v := .string f5) rfl
 have k6 := B0.keeps (i := 6) (v := .string f6) rfl
 go_enter Tryz.func89, Tryz.ntmps89
 go_wp2_with fail
 rw [HW.out]
 refine wp_region_kept_tail 8 (by kernel_rfl) (by kernel_rfl) ?_
 simp only [List.take_succ_cons, List.take_zero, List.drop_succ_cons, List.drop_zero]
 repeat (go_big_quiet_step (first | (with_reducible exact K1.kept hs) | (with_reducible exact K2.kept hs)))
 refine wpQuiet_nil ?_
 rintro _ ⟨u, rfl⟩
 replace B := B.kept u
 replace hs := hs.kept u
 have ce0 := B.cell (i := 0) (v := .string ⟨#[]⟩) rfl
 have ce1 := B.cell (i := 1) (v := .string ⟨#[]⟩) rfl
 have cg0 := B.frozen 0
 have cg1 := B.frozen 1
 go_wp2_with fail
 obtain ⟨W, hW, y0, y1, hbe⟩ := ret_frac hs (by omega) B rn rd
 rw [hW]
 exact bodyPost_ret (v := .agg #[.string rn, .string rd]) (by simp [results, Tryz.results89, go_sem, y0, y1]) rfl ⟨rfl, hbe⟩
def prtErr (l : List PrtS) (i : Nat) : Int :=
 match l[i]? with
 | none => 0
 | some s => if nameOk s.nm = false then 23 else if s.can = false then 1 else 0
def totE (l : List PrtS) : Int := if 32 < l.length then 4 else errL (prtErr l) l.length
def totQ (l : List PrtS) : Rat := if totE l = 0 then sumQ PrtS.all l else 0
def FewP (k0 : Nat) (l : List PrtS) : Prop := l.length ≤ 5 ∧ k0 ≤ 1500 ∧ 1 ≤ k0 ∧ ∀ s ∈ l, s.le k0
theorem PrtS.le.mono {k m : Nat} {s : PrtS} (h : s.le k) (hk : k ≤ m) : s.le m := by unfold PrtS.le at *; omega
theorem FewP.fit {k0 : Nat} {l : List PrtS} (h : FewP k0 l) {s : PrtS} (hs : s ∈ l) : FitQ (3 * k0 + 2) s.all := by
 have f := (h.2.2.2 s hs).fit h.2.2.1
 exact (((f.1.add f.2.1).add f.2.2)).mono (by omega)
theorem FewP.sum {k0 : Nat} {l : List PrtS} (h : FewP k0 l) (i : Nat) : FitQ (5 * (3 * k0 + 3) + 1) (sumQ PrtS.all (l.take i)) := FitQ.sum_take (fun a ha => h.fit ha) h.1 (by omega) i
theorem FewP.take {k0 : Nat} {l : List PrtS} (h : FewP k0 l) (i : Nat) : FewP k0 (l.take i) := ⟨Nat.le_trans (by simp; omega) h.1, h.2.1, h.2.2.1, fun s hs => h.2.2.2 s (List.mem_of_mem_take hs)⟩
theorem prt_can_list (s : PrtS) : ([⟨s.an, s.ad⟩, ⟨s.sn, s.sd⟩, ⟨s.jn, s.jd⟩] : List FrS).all (fun s => canB s.n s.d) = s.can := by
 unfold PrtS.can
 simp only [List.all_cons, List.all_nil, Bool.and_true, Bool.and_assoc]
section
variable {A : Option Addr} {n c k0 : Nat} {l : List PrtS}
theorem total_far (h : 32 < n) : Ret 37 #[.slice A n c] (.tuple #[FR 0, .int .i64 4]) := by
 intro w hg
 have hs := (St.refl hg).alloc (.cells #[.string ⟨#[]⟩, .string ⟨#[]⟩] 34)
 have B := Bx.new w #[.string ⟨#[]⟩, .string ⟨#[]⟩] 34
 have q : decide ((32 : Int) < (n : Int)) = true := decide_eq_true (by omega)
 have qn : decide (32 < n) = true := decide_eq_true h
 unfold FR
 rw [frN_zero, frD_zero]
 go_enter Tryz.func37, Tryz.ntmps37
 go_wp2_with fail
 exact bodyPost_ret (v := .tuple #[.agg #[.string ⟨#[]⟩, .string ⟨#[]⟩], .int .i64 4]) (by simp [results, Tryz.results37, go_sem]) rfl ⟨rfl, hs.2⟩
theorem total_few (hn : l.length = n) (hl : FewP k0 l) : RetI (fun w => Row w A (flatG pcells l)) 37 #[.slice A n c] (.tuple #[FR (totQ l), .int .i64 (totE l)]) := by
 intro w hg hi
 have h5 := hl.1
 have hs := ((St.refl hg).alloc (.cells #[.string ⟨#[]⟩, .string ⟨#[]⟩] 34)).alloc (.cells #[.string ⟨#[]⟩, .string ⟨#[]⟩] 34)
 have HB0 := Lib.hid ((Bx.new w #[.string ⟨#[]⟩, .string ⟨#[]⟩] 34).alloc (.cells #[.string ⟨#[]⟩, .string ⟨#[]⟩] 34))
 have HB1 : Hid (Bx ((w.alloc (.cells #[.string ⟨#[]⟩, .string ⟨#[]⟩] 34)).alloc (.cells #[.string ⟨#[]⟩, .string ⟨#[]⟩] 34)) (w.heap.size + 1) #[.string (frN (sumQ PrtS.all (l.take 0))), .string (frD (sumQ PrtS.all (l.take 0)))]) := by
  show Bx _ _ _
  rw [List.take_zero, show sumQ PrtS.all [] = 0 from rfl, frN_zero, frD_zero]
  exact Bx.new1 w (.cells #[.string ⟨#[]⟩, .string ⟨#[]⟩] 34) #[.string ⟨#[]⟩, .string ⟨#[]⟩] 34
 have q32 : decide ((32 : Int) < (n : Int)) = false := decide_eq_false (by omega)
 have q32n : decide (32 < n) = false := decide_eq_false (by omega)
 have HE : Hid (totE l = errL (prtErr l) l.length) := by
  show _ = _
  unfold totE
  rw [if_neg (by omega)]
 have HQ : Hid (totQ l = if totE l = 0 then sumQ PrtS.all l else 0) := rfl
 unfold FR
 obtain ⟨qn, hqn⟩ : ∃ x, frN (totQ l) = x := ⟨_, rfl⟩
 obtain ⟨qd, hqd⟩ : ∃ x, frD (totQ l) = x := ⟨_, rfl⟩
 rw [hqn, hqd]
 have HQN := Lib.hid hqn
 have HQD := Lib.hid hqd
 clear hqn hqd
 generalize totE l = CH at *
 generalize totQ l = CQ at *
 have HN := Lib.hid hn
 have HL := Lib.hid hl
 have Hi := Lib.hid hi
 have h5n : n ≤ 5 := by omega
 clear hn hl hi h5
 go_enter Tryz.func37, Tryz.ntmps37
 go_wp2_with fail
 go_loopw [14] (fun s wr => ∃ k : Nat, k ≤ n ∧ s = .int .i64 (k : Int) ∧ St w wr ∧ Hid (Bx wr w.heap.size #[.string ⟨#[]⟩, .string ⟨#[]⟩]) ∧ Hid (Bx wr (w.heap.size + 1) #[.string (frN (sumQ PrtS.all (l.take k))), .string (frD (sumQ PrtS.all (l.take k)))]) ∧ Hid (∀ i, i < k → prtErr l i = 0)) (fun s _ => (n - intOf s).toNat)
 case atStart => exact ⟨0, by omega, rfl, hs, HB0, HB1, fun i h => by omega⟩
 case round =>
  obtain ⟨k, hk, rfl, hs, HX0, HX1, HZ⟩ := hrel
  have B := HX0.out
  have hB := B.lt
  by_cases hkn : k = n
  ·subst hkn
   have q : decide ((k : Int) < (k : Int)) = false := decide_eq_false (by omega)
   have e1 := HE.out
   rw [errL_none (fun i hi => HZ.out i (by have := HN.out; omega))] at e1
   have HD := Lib.hid e1
   have e2 := HQ.out
   rw [e1, if_pos rfl, ← List.take_of_length_le (l := l) (i := k) (by have := HN.out; omega)] at e2
   have BX1 := HX1.out
   rw [← e2, HQN.out, HQD.out] at BX1
   have y0 := BX1.cell (i := 0) (v := .string qn) rfl
   have y1 := BX1.cell (i := 1) (v := .string qd) rfl
   have ce0 := B.cell (i := 0) (v := .string ⟨#[]⟩) rfl
   have ce1 := B.cell (i := 1) (v := .string ⟨#[]⟩) rfl
   have cg0 := B.frozen 0
   have cg1 := B.frozen 1
   clear e1 e2 BX1
   go_wp2_with fail
   clear y0 y1
   have HBE := HD.out
   subst HBE
   obtain ⟨W, hW, y0, y1, hbe⟩ := ret_frac hs (by omega) B qn qd
   rw [hW]
   exact bodyPost_ret (v := .tuple #[.agg #[.string qn, .string qd], .int .i64 0]) (by simp [results, Tryz.results37, go_sem, y0, y1]) rfl ⟨rfl, hbe⟩
  ·have hkl : k < n := by omega
   have q : decide ((k : Int) < (n : Int)) = true := decide_eq_true (by omega)
   have qn' : decide (k < n) = true := decide_eq_true hkl
   obtain ⟨d, hd⟩ : ∃ d, l[k]? = some d := ⟨l[k]'(by rw [HN.out]; exact hkl), by simp⟩
   obtain ⟨b, o, hA, hb, hcells⟩ := row_at (cs := pcells) (m := 7) pcells_len (by decide) (Hi.out.on hs.2) hd
   have HKE : Hid (prtErr l k ≠ 0 → CH = prtErr l k ∧ qn = ⟨#[]⟩ ∧ qd = ⟨#[]⟩) := fun h => by
    have e1 := HE.out
    have hk2 : k < l.length := by have := HN.out; omega
    rw [errL_at hk2 h HZ.out] at e1
    have e2 := HQ.out
    rw [if_neg (by rw [e1]; exact h)] at e2
    exact ⟨e1, by rw [← HQN.out, e2, frN_zero], by rw [← HQD.out, e2, frD_zero]⟩
   have HSE : Hid (prtErr l k = if nameOk d.nm = false then 23 else if d.can = false then 1 else 0) := by
    show _ = _
    unfold prtErr
    rw [hd]
   have hdz := HL.out.2.2.2 d (List.mem_of_getElem? hd)
   have hk3 := HL.out.2.1
   have hdz2 : d.nm.size ≤ 4611686018427387904 := by have := hdz.1; omega
   have KN := NameR hdz2
   have HKC : Hid (∀ B : Nat, RetI (fun w => Row w (some ⟨B, 0, none⟩) (flatG fcells [⟨d.an, d.ad⟩, ⟨d.sn, d.sd⟩, ⟨d.jn, d.jd⟩])) 88 #[.slice (some ⟨B, 0, none⟩) 3 3] (.bool d.can)) := fun B => by
    have KC := canonF_any (A := some ⟨B, 0, none⟩) (n := 3) (c := 3) (l := [⟨d.an, d.ad⟩, ⟨d.sn, d.sd⟩, ⟨d.jn, d.jd⟩]) rfl (by omega) (by unfold PrtS.le at hdz; intro s hs; simp at hs; rcases hs with rfl | rfl | rfl <;> (constructor <;> (dsimp only; omega)))
    rw [prt_can_list] at KC
    exact KC
   have KAll := pall_any d (hdz.mono (by omega))
   have KAdd := AddF (Vq.fr (HL.out.sum k) (by omega)) (Vq.fr (HL.out.fit (List.mem_of_getElem? hd)) (by omega))
   rw [← sumQ_take hd] at KAdd
   have BX1 := HX1.out
   subst hA
   unfold FR at KAll KAdd
   unfold FV at KAdd
   generalize hok : nameOk d.nm = ok at *
   generalize hca : d.can = ca at *
   generalize hrn : frN (sumQ PrtS.all (l.take (k + 1))) = rn at *
   generalize hrd : frD (sumQ PrtS.all (l.take (k + 1))) = rd at *
   have HRN := Lib.hid hrn
   have HRD := Lib.hid hrd
   clear hok hca hd hkn hdz hk3 hrn hrd
   generalize frN (sumQ PrtS.all (l.take k)) = sn at *
   generalize frD (sumQ PrtS.all (l.take k)) = sd at *
   generalize frN d.all = gn at *
   generalize frD d.all = gd at *
   obtain ⟨f0, f1, f2, f3, f4, f5, f6⟩ := d
   have x0 : wr.cell? ⟨b, o + k * 7, none⟩ = some (.string f0) := hcells 0 _ rfl
   have x1 : wr.cell? ⟨b, o + k * 7 + 1, none⟩ = some (.string f1) := hcells 1 _ rfl
   have x2 : wr.cell? ⟨b, o + k * 7 + 2, none⟩ = some (.string f2) := hcells 2 _ rfl
   have x3 : wr.cell? ⟨b, o + k * 7 + 3, none⟩ = some (.string f3) := hcells 3 _ rfl
   have x4 : wr.cell? ⟨b, o + k * 7 + 4, none⟩ = some (.string f4) := hcells 4 _ rfl
   have x5 : wr.cell? ⟨b, o + k * 7 + 5, none⟩ = some (.string f5) := hcells 5 _ rfl
   have x6 : wr.cell? ⟨b, o + k * 7 + 6, none⟩ = some (.string f6) := hcells 6 _ rfl
   clear hcells
   have BD := Bx.new wr #[.string f0, .string f1, .string f2, .string f3, .string f4, .string f5, .string f6] 36
   have hs1 := hs.alloc (.cells #[.string f0, .string f1, .string f2, .string f3, .string f4, .string f5, .string f6] 36)
   have hbk : b < wr.heap.size := hb
   replace B := B.alloc (.cells #[.string f0, .string f1, .string f2, .string f3, .string f4, .string f5, .string f6] 36)
   replace BX1 := BX1.alloc (.cells #[.string f0, .string f1, .string f2, .string f3, .string f4, .string f5, .string f6] 36)
   dsimp only [prtV] at KN KAll HSE hdz2 HKC
   cases ok with
   | false =>
    have e3 := HSE.out
    rw [if_pos rfl] at e3
    have HD := Lib.hid (HKE.out (by rw [e3]; decide))
    have HD2 := Lib.hid e3
    clear e3
    go_wp2_with fail
    refine KN.step hs1 ?_
    intro w1 hs hb1
    replace B := B.on hb1
    have ce0 := B.cell (i := 0) (v := .string ⟨#[]⟩) rfl
    have ce1 := B.cell (i := 1) (v := .string ⟨#[]⟩) rfl
    have cg0 := B.frozen 0
    have cg1 := B.frozen 1
    go_wp2_with fail
    obtain ⟨h1, h2, h3⟩ := HD.out
    rw [HD2.out] at h1
    subst h1 h2 h3
    obtain ⟨W, hW, y0, y1, hbe⟩ := ret_frac hs (by omega) B ⟨#[]⟩ ⟨#[]⟩
    rw [hW]
    exact bodyPost_ret (v := .tuple #[.agg #[.string ⟨#[]⟩, .string ⟨#[]⟩], .int .i64 23]) (by simp [results, Tryz.results37, go_sem, y0, y1]) rfl ⟨rfl, hbe⟩
   | true =>
    go_wp2_with fail
    refine KN.step hs1 ?_
    intro w1 hs hb1
    replace B := B.on hb1
    replace BD := BD.on hb1
    replace BX1 := BX1.on hb1
    have KC := HKC.out w1.heap.size
    have z0 := BD.cell (i := 0) (v := .string f0) rfl
    have z1 := BD.cell (i := 1) (v := .string f1) rfl
    have z2 := BD.cell (i := 2) (v := .string f2) rfl
    have z3 := BD.cell (i := 3) (v := .string f3) rfl
    have z4 := BD.cell (i := 4) (v := .string f4) rfl
    have z5 := BD.cell (i := 5) (v := .string f5) rfl
    have z6 := BD.cell (i := 6) (v := .string f6) rfl
    have BR : Hid (Row (w1.alloc (.cells #[.string f1, .string f2, .string f3, .string f4, .string f5, .string f6] 34)) (some ⟨w1.heap.size, 0, none⟩) (flatG fcells [⟨f1, f2⟩, ⟨f3, f4⟩, ⟨f5, f6⟩])) := Row.of (Bx.new w1 #[.string f1, .string f2, .string f3, .string f4, .string f5, .string f6] 34)
    have hs1 := hs.alloc (.cells #[.string f1, .string f2, .string f3, .string f4, .string f5, .string f6] 34)
    replace B := B.alloc (.cells #[.string f1, .string f2, .string f3, .string f4, .string f5, .string f6] 34)
    replace BD := BD.alloc (.cells #[.string f1, .string f2, .string f3, .string f4, .string f5, .string f6] 34)
    replace BX1 := BX1.alloc (.cells #[.string f1, .string f2, .string f3, .string f4, .string f5, .string f6] 34)
    cases ca with
    | false =>
     have e3 := HSE.out
     rw [if_neg (by decide), if_pos rfl] at e3
     have HD := Lib.hid (HKE.out (by rw [e3]; decide))
     have HD2 := Lib.hid e3
     clear e3
     go_wp2_with fail
     refine KC.step hs1 BR.out ?_
     intro w2 hs hb1
     replace B := B.on hb1
     have ce0 := B.cell (i := 0) (v := .string ⟨#[]⟩) rfl
     have ce1 := B.cell (i := 1) (v := .string ⟨#[]⟩) rfl
     have cg0 := B.frozen 0
     have cg1 := B.frozen 1
     go_wp2_with fail
     obtain ⟨h1, h2, h3⟩ := HD.out
     rw [HD2.out] at h1
     subst h1 h2 h3
     obtain ⟨W, hW, y0, y1, hbe⟩ := ret_frac hs (by omega) B ⟨#[]⟩ ⟨#[]⟩
     rw [hW]
     exact bodyPost_ret (v := .tuple #[.agg #[.string ⟨#[]⟩, .string ⟨#[]⟩], .int .i64 1]) (by simp [results, Tryz.results37, go_sem, y0, y1]) rfl ⟨rfl, hbe⟩
    | true =>
     have e3 := HSE.out
     rw [if_neg (by decide), if_neg (by decide)] at e3
     have HD := Lib.hid e3
     clear e3
     go_wp2_with fail
     refine KC.step hs1 BR.out ?_
     intro w2 hs hb1
     replace B := B.on hb1
     replace BD := BD.on hb1
     replace BX1 := BX1.on hb1
     clear z0 z1 z2 z3 z4 z5 z6
     have k0 := BD.keeps (i := 0) (v := .string f0) rfl
     have k1 := BD.keeps (i := 1) (v := .string f1) rfl
     have k2 := BD.keeps (i := 2) (v := .string f2) rfl
     have k3 := BD.keeps (i := 3) (v := .string f3) rfl
     have k4 := BD.keeps (i := 4) (v := .string f4) rfl
     have k5 := BD.keeps (i := 5) (v := .string f5) rfl
     have k6 := BD.keeps (i := 6) (v := .string f6) rfl
     have k7 := BX1.keeps (i := 0) (v := .string sn) rfl
     have k8 := BX1.keeps (i := 1) (v := .string sd) rfl
     go_wp2_with fail
     refine wp_region_kept_tail 4 (by kernel_rfl) (by kernel_rfl) ?_
     simp only [List.take_succ_cons, List.take_zero, List.drop_succ_cons, List.drop_zero]
     repeat (go_big_quiet_step (first | (with_reducible exact KAll.kept hs) | (with_reducible exact KAdd.kept hs)))
     refine wpQuiet_nil ?_
     rintro _ ⟨u, rfl⟩
     have BU := BX1.kept u
     have u0 := BU.cell (i := 0) (v := .string sn) rfl
     have u1 := BU.cell (i := 1) (v := .string sd) rfl
     have v0 := BU.frozen 0
     have v1 := BU.frozen 1
     go_wp2_with fail
     go_roundw
     case rel =>
      refine ⟨k + 1, by omega, by go_num, ((hs.kept u).set (b := w.heap.size + 1) (by omega) 0 (.string rn)).set (b := w.heap.size + 1) (by omega) 1 (.string rd), ((B.kept u).other (by omega) 0 (.string rn)).other (by omega) 1 (.string rd), ?_, fun i hi => ?_⟩
      ·show Bx _ _ _
       rw [HRN.out, HRD.out]
       exact (BU.set 0 (.string rn)).set 1 (.string rd)
      ·by_cases e : i = k
       ·subst e; exact HD.out
       ·exact HZ.out i (by omega)
     case measure => simp [intOf]; omega
theorem Total_any (hn : l.length = n) (hl : 32 < n ∨ FewP k0 l) : RetI (fun w => Row w A (flatG pcells l)) 37 #[.slice A n c] (.tuple #[FR (totQ l), .int .i64 (totE l)]) := by
 rcases hl with h | h
 ·have e : totE l = 4 := by unfold totE; rw [if_pos (by omega)]
  have e2 : totQ l = 0 := by unfold totQ; rw [e]; rfl
  rw [e, e2]
  exact (total_far h).i _
 ·exact total_few hn h
end
end Go.Proofs.YticfdeaphiifeaaGreatDoor
