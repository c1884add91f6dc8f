/- Attribution, the reference: what a part contributes, the total of parts. Conditions: up to five parts with numbers of bounded length, or more than 32. -/
import Derived.Test.YtndkglmokhndnaaGreatDoorAt4
import Derived.Test.YtndkglmokhndnaaGreatDoorRf2
namespace Go.Proofs.YtndkglmokhndnaaGreatDoor
open Go.RowKit Go.Shelf Dec QQ

theorem canB_chk (a b : ByteArray) : (chkF a b != 0) = !canB a b := by
  unfold canB
  cases h : (chkF a b == 0) <;> simp [bne, h]
set_option maxRecDepth 100000 in
set_option maxHeartbeats 4000000 in
theorem rcanonF_any {A : Option Addr} {n c : Nat} {l : List FrS} (hn : l.length = n) (hm : n ≤ 1000000) (hl : ∀ s ∈ l, s.n.size ≤ 80000 ∧ s.d.size ≤ 80000) : RetI (fun w => Row w A (flatG fcells l)) 99 #[.slice A n c] (.bool (l.all fun s => canB s.n s.d)) := by
  intro w hg hi
  have hs := St.refl hg
  have HN := Lib.hid hn
  have HI := Lib.hid hi
  have HL := Lib.hid hl
  obtain ⟨v, hv⟩ : ∃ v, l.all (fun s => canB s.n s.d) = v := ⟨_, rfl⟩
  rw [hv]
  have HV := Lib.hid hv
  clear hn hi hl hv
  go_enter Tryz.func99, Tryz.ntmps99
  go_wp2_with fail
  go_loopw [3] (fun s wr => ∃ k : Nat, k ≤ n ∧ s = .int .i64 (k : Int) ∧ St w wr ∧ Hid (∀ i, i < k → ∀ t, l[i]? = some t → canB t.n t.d = true)) (fun s _ => (n - intOf s).toNat)
  case atStart => exact ⟨0, by omega, rfl, hs, fun i h => by omega⟩
  case round =>
    obtain ⟨k, hk, rfl, hs, HP⟩ := hrel
    by_cases hkn : k = n
    · subst hkn
      have q : decide ((k : Int) < (k : Int)) = false := decide_eq_false (by omega)
      have hv : v = true := by
        rw [← HV.out, List.all_eq_true]
        intro s hs
        obtain ⟨i, hi, rfl⟩ := List.mem_iff_getElem.1 hs
        exact HP.out i (by have := HN.out; omega) _ (List.getElem?_eq_getElem hi)
      subst hv
      go_wp2_with fail
      go_ret
      exact ⟨rfl, hs.2⟩
    · have hkl : k < n := by omega
      have q : decide ((k : Int) < (n : Int)) = true := decide_eq_true (by omega)
      have qn : decide (k < n) = true := decide_eq_true hkl
      obtain ⟨d, hd⟩ : ∃ d, l[k]? = some d := ⟨l[k]'(by rw [HN.out]; exact hkl), by simp⟩
      obtain ⟨b, o, hA, hb, hcells⟩ := row_at (cs := fcells) (m := 2) fcells_len (by decide) (HI.out.on hs.2) hd
      subst hA
      have hz := HL.out d (List.mem_of_getElem? hd)
      have KC := rchk_r (a := d.n) (b := d.d) hz.1 hz.2
      have hcb := canB_chk d.n d.d
      have HD := Lib.hid hd
      unfold FV at KC
      clear hd hkn hz
      obtain ⟨cb, hcb2⟩ : ∃ x, canB d.n d.d = x := ⟨_, rfl⟩
      have HCB := Lib.hid hcb2
      rw [hcb2] at hcb
      clear hcb2
      obtain ⟨f0, f1⟩ := d
      have x0 : wr.cell? ⟨b, o + k * 2, none⟩ = some (.string f0) := hcells 0 _ rfl
      have x1 : wr.cell? ⟨b, o + k * 2 + 1, none⟩ = some (.string f1) := hcells 1 _ rfl
      clear hcells
      dsimp only at KC hcb
      generalize chkF f0 f1 = cf at *
      cases cb with
      | true =>
        replace hcb : (cf != 0) = false := hcb
        go_wp2_with fail
        refine KC.step hs ?_
        intro w2 hs hb
        go_wp2_with fail
        go_roundw
        case rel =>
          refine ⟨k + 1, by omega, by go_num, hs, fun i hi t ht => ?_⟩
          by_cases e : i = k
          · subst e
            rw [HD.out] at ht
            cases ht
            exact HCB.out
          · exact HP.out i (by omega) t ht
        case measure => simp [intOf]; omega
      | false =>
        replace hcb : (cf != 0) = true := hcb
        have hv : v = false := by
          rw [← HV.out, List.all_eq_false]
          exact ⟨_, List.mem_of_getElem? HD.out, by rw [HCB.out]; decide⟩
        subst hv
        go_wp2_with fail
        refine KC.step hs ?_
        intro w2 hs hb
        go_wp2_with fail
        go_ret
        exact ⟨rfl, hs.2⟩
set_option maxRecDepth 100000 in
set_option maxHeartbeats 4000000 in
theorem rsum_any (s : PrtS) (hz : s.le 10000) : Ret 122 #[prtV s] (FR s.all) := by
  intro w hg
  have hs := ((St.refl hg).alloc (.cells #[.string s.nm, .string s.an, .string s.ad, .string s.sn, .string s.sd, .string s.jn, .string s.jd] 52)).alloc (.cells #[.string ⟨#[]⟩, .string ⟨#[]⟩] 42)
  have B := Bx.new1 w (.cells #[.string s.nm, .string s.an, .string s.ad, .string s.sn, .string s.sd, .string s.jn, .string s.jd] 52) #[.string ⟨#[]⟩, .string ⟨#[]⟩] 42
  have B0 := (Bx.new w #[.string s.nm, .string s.an, .string s.ad, .string s.sn, .string s.sd, .string s.jn, .string s.jd] 52).alloc (.cells #[.string ⟨#[]⟩, .string ⟨#[]⟩] 42)
  have ff := hz.fit (by omega)
  unfold PrtS.le at hz
  have zs := FitQ.sizes (ff.1.add ff.2.1)
  have K1 := radd_r (a := s.an) (b := s.ad) (c := s.sn) (d := s.sd) (by omega) (by omega) (by omega) (by omega)
  change Ret _ _ (FR (s.a + s.s)) at K1
  have K2 := radd_r (a := frN (s.a + s.s)) (b := frD (s.a + s.s)) (c := s.jn) (d := s.jd) (by omega) (by omega) (by omega) (by omega)
  rw [ratV_fr] at K2
  change Ret _ _ (FR s.all) at K2
  unfold FR at K1 K2 ⊢
  unfold FV at K1 K2
  generalize frN s.all = rn at *
  generalize frD s.all = rd at *
  generalize frN (s.a + s.s) = mn at *
  generalize frD (s.a + s.s) = md at *
  clear hz ff zs
  unfold prtV
  obtain ⟨f0, f1, f2, f3, f4, f5, f6⟩ := s
  dsimp only at hs B B0 K1 K2 ⊢
  obtain ⟨W, hW⟩ : ∃ W, (w.alloc (.cells #[.string f0, .string f1, .string f2, .string f3, .string f4, .string f5, .string f6] 52)).alloc (.cells #[.string ⟨#[]⟩, .string ⟨#[]⟩] 42) = W := ⟨_, rfl⟩
  rw [hW] at hs B B0
  have HW := Lib.hid hW
  clear hW
  have k0 := B0.keeps (i := 0) (v := .string f0) rfl
  have k1 := B0.keeps (i := 1) (v := .string f1) rfl
  have k2 := B0.keeps (i := 2) (v := .string f2) rfl
  have k3 := B0.keeps (i := 3) (v := .string f3) rfl
  have k4 := B0.keeps (i := 4) (v := .string f4) rfl
  have k5 := B0.keeps (i := 5) (v := .string f5) rfl
  have k6 := B0.keeps (i := 6) (v := .string f6) rfl
  go_enter Tryz.func122, Tryz.ntmps122
  go_wp2_with fail
  rw [HW.out]
  refine wp_region_kept_tail 8 (by kernel_rfl) (by kernel_rfl) ?_
  simp only [List.take_succ_cons, List.take_zero, List.drop_succ_cons, List.drop_zero]
  repeat (go_big_quiet_step (first | (with_reducible exact K1.kept hs) | (with_reducible exact K2.kept hs)))
  refine wpQuiet_nil ?_
  rintro _ ⟨u, rfl⟩
  replace B := B.kept u
  replace hs := hs.kept u
  have ce0 := B.cell (i := 0) (v := .string ⟨#[]⟩) rfl
  have ce1 := B.cell (i := 1) (v := .string ⟨#[]⟩) rfl
  have cg0 := B.frozen 0
  have cg1 := B.frozen 1
  go_wp2_with fail
  obtain ⟨W, hW, y0, y1, hbe⟩ := ret_frac hs (by omega) B rn rd
  rw [hW]
  exact bodyPost_ret (v := .agg #[.string rn, .string rd]) (by simp [results, Tryz.results122, go_sem, y0, y1]) rfl ⟨rfl, hbe⟩
section
variable {A : Option Addr} {n c k0 : Nat} {l : List PrtS}
set_option maxRecDepth 100000 in
set_option maxHeartbeats 4000000 in
theorem rtotal_far (h : 32 < n) : Ret 54 #[.slice A n c] (.tuple #[FR 0, .int .i64 4]) := by
  intro w hg
  have hs := (St.refl hg).alloc (.cells #[.string ⟨#[]⟩, .string ⟨#[]⟩] 42)
  have B := Bx.new w #[.string ⟨#[]⟩, .string ⟨#[]⟩] 42
  have q : decide ((32 : Int) < (n : Int)) = true := decide_eq_true (by omega)
  have qn : decide (32 < n) = true := decide_eq_true h
  unfold FR
  rw [frN_zero, frD_zero]
  go_enter Tryz.func54, Tryz.ntmps54
  go_wp2_with fail
  exact bodyPost_ret (v := .tuple #[.agg #[.string ⟨#[]⟩, .string ⟨#[]⟩], .int .i64 4]) (by simp [results, Tryz.results54, go_sem]) rfl ⟨rfl, hs.2⟩
set_option maxRecDepth 100000 in
set_option maxHeartbeats 4000000 in
theorem rtotal_few (hn : l.length = n) (hl : FewP k0 l) : RetI (fun w => Row w A (flatG pcells l)) 54 #[.slice A n c] (.tuple #[FR (totQ l), .int .i64 (totE l)]) := by
  intro w hg hi
  have h5 := hl.1
  have hs := ((St.refl hg).alloc (.cells #[.string ⟨#[]⟩, .string ⟨#[]⟩] 42)).alloc (.cells #[.string ⟨#[]⟩, .string ⟨#[]⟩] 42)
  have HB0 := Lib.hid ((Bx.new w #[.string ⟨#[]⟩, .string ⟨#[]⟩] 42).alloc (.cells #[.string ⟨#[]⟩, .string ⟨#[]⟩] 42))
  have HB1 : Hid (Bx ((w.alloc (.cells #[.string ⟨#[]⟩, .string ⟨#[]⟩] 42)).alloc (.cells #[.string ⟨#[]⟩, .string ⟨#[]⟩] 42)) (w.heap.size + 1) #[.string (frN (sumQ PrtS.all (l.take 0))), .string (frD (sumQ PrtS.all (l.take 0)))]) := by
    show Bx _ _ _
    rw [List.take_zero, show sumQ PrtS.all [] = 0 from rfl, frN_zero, frD_zero]
    exact Bx.new1 w (.cells #[.string ⟨#[]⟩, .string ⟨#[]⟩] 42) #[.string ⟨#[]⟩, .string ⟨#[]⟩] 42
  have q32 : decide ((32 : Int) < (n : Int)) = false := decide_eq_false (by omega)
  have q32n : decide (32 < n) = false := decide_eq_false (by omega)
  have HE : Hid (totE l = errL (prtErr l) l.length) := by
    show _ = _
    unfold totE
    rw [if_neg (by omega)]
  have HQ : Hid (totQ l = if totE l = 0 then sumQ PrtS.all l else 0) := rfl
  unfold FR
  obtain ⟨qn, hqn⟩ : ∃ x, frN (totQ l) = x := ⟨_, rfl⟩
  obtain ⟨qd, hqd⟩ : ∃ x, frD (totQ l) = x := ⟨_, rfl⟩
  rw [hqn, hqd]
  have HQN := Lib.hid hqn
  have HQD := Lib.hid hqd
  clear hqn hqd
  generalize totE l = CH at *
  generalize totQ l = CQ at *
  have HN := Lib.hid hn
  have HL := Lib.hid hl
  have Hi := Lib.hid hi
  have h5n : n ≤ 5 := by omega
  clear hn hl hi h5
  go_enter Tryz.func54, Tryz.ntmps54
  go_wp2_with fail
  go_loopw [5] (fun s wr => ∃ k : Nat, k ≤ n ∧ s = .int .i64 (k : Int) ∧ St w wr ∧ Hid (Bx wr w.heap.size #[.string ⟨#[]⟩, .string ⟨#[]⟩]) ∧ Hid (Bx wr (w.heap.size + 1) #[.string (frN (sumQ PrtS.all (l.take k))), .string (frD (sumQ PrtS.all (l.take k)))]) ∧ Hid (∀ i, i < k → prtErr l i = 0)) (fun s _ => (n - intOf s).toNat)
  case atStart => exact ⟨0, by omega, rfl, hs, HB0, HB1, fun i h => by omega⟩
  case round =>
    obtain ⟨k, hk, rfl, hs, HX0, HX1, HZ⟩ := hrel
    have B := HX0.out
    have hB := B.lt
    by_cases hkn : k = n
    · subst hkn
      have q : decide ((k : Int) < (k : Int)) = false := decide_eq_false (by omega)
      have e1 := HE.out
      rw [errL_none (fun i hi => HZ.out i (by have := HN.out; omega))] at e1
      have HD := Lib.hid e1
      have e2 := HQ.out
      rw [e1, if_pos rfl, ← List.take_of_length_le (l := l) (i := k) (by have := HN.out; omega)] at e2
      have BX1 := HX1.out
      rw [← e2, HQN.out, HQD.out] at BX1
      have y0 := BX1.cell (i := 0) (v := .string qn) rfl
      have y1 := BX1.cell (i := 1) (v := .string qd) rfl
      have ce0 := B.cell (i := 0) (v := .string ⟨#[]⟩) rfl
      have ce1 := B.cell (i := 1) (v := .string ⟨#[]⟩) rfl
      have cg0 := B.frozen 0
      have cg1 := B.frozen 1
      clear e1 e2 BX1
      go_wp2_with fail
      clear y0 y1
      have HBE := HD.out
      subst HBE
      obtain ⟨W, hW, y0, y1, hbe⟩ := ret_frac hs (by omega) B qn qd
      rw [hW]
      exact bodyPost_ret (v := .tuple #[.agg #[.string qn, .string qd], .int .i64 0]) (by simp [results, Tryz.results54, go_sem, y0, y1]) rfl ⟨rfl, hbe⟩
    · have hkl : k < n := by omega
      have q : decide ((k : Int) < (n : Int)) = true := decide_eq_true (by omega)
      have qn' : decide (k < n) = true := decide_eq_true hkl
      obtain ⟨d, hd⟩ : ∃ d, l[k]? = some d := ⟨l[k]'(by rw [HN.out]; exact hkl), by simp⟩
      obtain ⟨b, o, hA, hb, hcells⟩ := row_at (cs := pcells) (m := 7) pcells_len (by decide) (Hi.out.on hs.2) hd
      have HKE : Hid (prtErr l k ≠ 0 → CH = prtErr l k ∧ qn = ⟨#[]⟩ ∧ qd = ⟨#[]⟩) := fun h => by
        have e1 := HE.out
        have hk2 : k < l.length := by have := HN.out; omega
        rw [errL_at hk2 h HZ.out] at e1
        have e2 := HQ.out
        rw [if_neg (by rw [e1]; exact h)] at e2
        exact ⟨e1, by rw [← HQN.out, e2, frN_zero], by rw [← HQD.out, e2, frD_zero]⟩
      have HSE : Hid (prtErr l k = if nameOk d.nm = false then 23 else if d.can = false then 1 else 0) := by
        show _ = _
        unfold prtErr
        rw [hd]
      have hdz := HL.out.2.2.2 d (List.mem_of_getElem? hd)
      have hk3 := HL.out.2.1
      have hdz2 : d.nm.size ≤ 4611686018427387904 := by have := hdz.1; omega
      have KN := rNameR hdz2
      have HKC : Hid (∀ B : Nat, RetI (fun w => Row w (some ⟨B, 0, none⟩) (flatG fcells [⟨d.an, d.ad⟩, ⟨d.sn, d.sd⟩, ⟨d.jn, d.jd⟩])) 99 #[.slice (some ⟨B, 0, none⟩) 3 3] (.bool d.can)) := fun B => by
        have KC := rcanonF_any (A := some ⟨B, 0, none⟩) (n := 3) (c := 3) (l := [⟨d.an, d.ad⟩, ⟨d.sn, d.sd⟩, ⟨d.jn, d.jd⟩]) rfl (by omega) (by unfold PrtS.le at hdz; intro s hs; simp at hs; rcases hs with rfl | rfl | rfl <;> (constructor <;> (dsimp only; omega)))
        rw [prt_can_list] at KC
        exact KC
      have KAll := rsum_any d (hdz.mono (by omega))
      have zz1 := FitQ.sizes (HL.out.sum k)
      have zz2 := FitQ.sizes (HL.out.fit (List.mem_of_getElem? hd))
      have KAdd := radd_r (a := frN (sumQ PrtS.all (l.take k))) (b := frD (sumQ PrtS.all (l.take k))) (c := frN d.all) (d := frD d.all) (by omega) (by omega) (by omega) (by omega)
      rw [ratV_fr, ratV_fr, ← sumQ_take hd] at KAdd
      have BX1 := HX1.out
      subst hA
      unfold FR at KAll KAdd
      unfold FV at KAdd
      clear zz1 zz2
      generalize hok : nameOk d.nm = ok at *
      generalize hca : d.can = ca at *
      generalize hrn : frN (sumQ PrtS.all (l.take (k + 1))) = rn at *
      generalize hrd : frD (sumQ PrtS.all (l.take (k + 1))) = rd at *
      have HRN := Lib.hid hrn
      have HRD := Lib.hid hrd
      clear hok hca hd hkn hdz hk3 hrn hrd
      generalize frN (sumQ PrtS.all (l.take k)) = sn at *
      generalize frD (sumQ PrtS.all (l.take k)) = sd at *
      generalize frN d.all = gn at *
      generalize frD d.all = gd at *
      obtain ⟨f0, f1, f2, f3, f4, f5, f6⟩ := d
      have xk : ∀ j x, (pcells ⟨f0, f1, f2, f3, f4, f5, f6⟩)[j]? = some x → wr.cell? ⟨b, o + (k * 7 + j), none⟩ = some x := hcells
      have x0 : wr.cell? ⟨b, o + k * 7, none⟩ = some (.string f0) := hcells 0 _ rfl
      have x1 : wr.cell? ⟨b, o + k * 7 + 1, none⟩ = some (.string f1) := hcells 1 _ rfl
      have x2 : wr.cell? ⟨b, o + k * 7 + 2, none⟩ = some (.string f2) := hcells 2 _ rfl
      have x3 : wr.cell? ⟨b, o + k * 7 + 3, none⟩ = some (.string f3) := hcells 3 _ rfl
      have x4 : wr.cell? ⟨b, o + k * 7 + 4, none⟩ = some (.string f4) := hcells 4 _ rfl
      have x5 : wr.cell? ⟨b, o + k * 7 + 5, none⟩ = some (.string f5) := hcells 5 _ rfl
      have x6 : wr.cell? ⟨b, o + k * 7 + 6, none⟩ = some (.string f6) := hcells 6 _ rfl
      have hbk : b < wr.heap.size := hb
      dsimp only [prtV] at KN KAll HSE hdz2 HKC
      cases ok with
      | false =>
        have e3 := HSE.out
        rw [if_pos rfl] at e3
        have HD := Lib.hid (HKE.out (by rw [e3]; decide))
        have HD2 := Lib.hid e3
        clear e3 xk hcells
        go_wp2_with fail
        refine KN.step hs ?_
        intro w1 hs hb1
        replace B := B.on hb1
        have ce0 := B.cell (i := 0) (v := .string ⟨#[]⟩) rfl
        have ce1 := B.cell (i := 1) (v := .string ⟨#[]⟩) rfl
        have cg0 := B.frozen 0
        have cg1 := B.frozen 1
        go_wp2_with fail
        obtain ⟨h1, h2, h3⟩ := HD.out
        rw [HD2.out] at h1
        subst h1 h2 h3
        obtain ⟨W, hW, y0, y1, hbe⟩ := ret_frac hs (by omega) B ⟨#[]⟩ ⟨#[]⟩
        rw [hW]
        exact bodyPost_ret (v := .tuple #[.agg #[.string ⟨#[]⟩, .string ⟨#[]⟩], .int .i64 23]) (by simp [results, Tryz.results54, go_sem, y0, y1]) rfl ⟨rfl, hbe⟩
      | true =>
        go_wp2_with fail
        refine KN.step hs ?_
        intro w1 hs hb1
        replace B := B.on hb1
        replace BX1 := BX1.on hb1
        have xk1 : ∀ j x, (pcells ⟨f0, f1, f2, f3, f4, f5, f6⟩)[j]? = some x → w1.cell? ⟨b, o + (k * 7 + j), none⟩ = some x := fun j x h => (hb1.cell (p := ⟨b, o + (k * 7 + j), none⟩) hb).trans (hcells j x h)
        have hb1' : b < w1.heap.size := Nat.lt_of_lt_of_le hb hb1.size
        clear x0 x1 x2 x3 x4 x5 x6 xk hcells hbk
        have y0 : w1.cell? ⟨b, o + k * 7, none⟩ = some (.string f0) := xk1 0 _ rfl
        have k0 : ∀ u : Kept w1, u.W.cell? ⟨b, o + k * 7, none⟩ = some (.string f0) := fun u => Kept.cell_of y0 u
        have y1 : w1.cell? ⟨b, o + k * 7 + 1, none⟩ = some (.string f1) := xk1 1 _ rfl
        have k1 : ∀ u : Kept w1, u.W.cell? ⟨b, o + k * 7 + 1, none⟩ = some (.string f1) := fun u => Kept.cell_of y1 u
        have y2 : w1.cell? ⟨b, o + k * 7 + 2, none⟩ = some (.string f2) := xk1 2 _ rfl
        have k2 : ∀ u : Kept w1, u.W.cell? ⟨b, o + k * 7 + 2, none⟩ = some (.string f2) := fun u => Kept.cell_of y2 u
        have y3 : w1.cell? ⟨b, o + k * 7 + 3, none⟩ = some (.string f3) := xk1 3 _ rfl
        have k3 : ∀ u : Kept w1, u.W.cell? ⟨b, o + k * 7 + 3, none⟩ = some (.string f3) := fun u => Kept.cell_of y3 u
        have y4 : w1.cell? ⟨b, o + k * 7 + 4, none⟩ = some (.string f4) := xk1 4 _ rfl
        have k4 : ∀ u : Kept w1, u.W.cell? ⟨b, o + k * 7 + 4, none⟩ = some (.string f4) := fun u => Kept.cell_of y4 u
        have y5 : w1.cell? ⟨b, o + k * 7 + 5, none⟩ = some (.string f5) := xk1 5 _ rfl
        have k5 : ∀ u : Kept w1, u.W.cell? ⟨b, o + k * 7 + 5, none⟩ = some (.string f5) := fun u => Kept.cell_of y5 u
        have y6 : w1.cell? ⟨b, o + k * 7 + 6, none⟩ = some (.string f6) := xk1 6 _ rfl
        have k6 : ∀ u : Kept w1, u.W.cell? ⟨b, o + k * 7 + 6, none⟩ = some (.string f6) := fun u => Kept.cell_of y6 u
        go_wp2_with fail
        clear y0 y1 y2 y3 y4 y5 y6
        refine wp_region_kept_tail 15 (by kernel_rfl) (by kernel_rfl) ?_
        simp only [List.take_succ_cons, List.take_zero, List.drop_succ_cons, List.drop_zero]
        repeat (go_big_quiet_step (fail))
        refine wpQuiet_nil ?_
        rintro _ ⟨u, rfl⟩
        have xk2 : ∀ j x, (pcells ⟨f0, f1, f2, f3, f4, f5, f6⟩)[j]? = some x → u.W.cell? ⟨b, o + (k * 7 + j), none⟩ = some x := fun j x h => (Kept.cell_of (xk1 j x h) u)
        replace B := B.kept u
        replace BX1 := BX1.kept u
        replace hs := hs.kept u
        have hb2 : b < u.W.heap.size := Nat.lt_of_lt_of_le hb1' u.low.size
        clear k0 k1 k2 k3 k4 k5 k6 xk1
        generalize u.W = w2 at *
        have KC := HKC.out w2.heap.size
        have BR : Hid (Row (w2.alloc (.cells #[.string f1, .string f2, .string f3, .string f4, .string f5, .string f6] 42)) (some ⟨w2.heap.size, 0, none⟩) (flatG fcells [⟨f1, f2⟩, ⟨f3, f4⟩, ⟨f5, f6⟩])) := Row.of (Bx.new w2 #[.string f1, .string f2, .string f3, .string f4, .string f5, .string f6] 42)
        have hs1 := hs.alloc (.cells #[.string f1, .string f2, .string f3, .string f4, .string f5, .string f6] 42)
        replace B := B.alloc (.cells #[.string f1, .string f2, .string f3, .string f4, .string f5, .string f6] 42)
        replace BX1 := BX1.alloc (.cells #[.string f1, .string f2, .string f3, .string f4, .string f5, .string f6] 42)
        cases ca with
        | false =>
          have e3 := HSE.out
          rw [if_neg (by decide), if_pos rfl] at e3
          have HD := Lib.hid (HKE.out (by rw [e3]; decide))
          have HD2 := Lib.hid e3
          clear e3 xk2
          go_wp2_with fail
          refine KC.step hs1 BR.out ?_
          intro w3 hs hb1
          replace B := B.on hb1
          have ce0 := B.cell (i := 0) (v := .string ⟨#[]⟩) rfl
          have ce1 := B.cell (i := 1) (v := .string ⟨#[]⟩) rfl
          have cg0 := B.frozen 0
          have cg1 := B.frozen 1
          go_wp2_with fail
          obtain ⟨h1, h2, h3⟩ := HD.out
          rw [HD2.out] at h1
          subst h1 h2 h3
          obtain ⟨W, hW, y0, y1, hbe⟩ := ret_frac hs (by omega) B ⟨#[]⟩ ⟨#[]⟩
          rw [hW]
          exact bodyPost_ret (v := .tuple #[.agg #[.string ⟨#[]⟩, .string ⟨#[]⟩], .int .i64 1]) (by simp [results, Tryz.results54, go_sem, y0, y1]) rfl ⟨rfl, hbe⟩
        | true =>
          have e3 := HSE.out
          rw [if_neg (by decide), if_neg (by decide)] at e3
          have HD := Lib.hid e3
          clear e3
          go_wp2_with fail
          refine KC.step hs1 BR.out ?_
          intro w3 hs hb3
          replace B := B.on hb3
          replace BX1 := BX1.on hb3
          have hb4 : Below w2.heap.size w2 w3 := ((Below.refl _ w2).alloc (Nat.le_refl _) _).trans (hb3.mono (by simp))
          have xk3 : ∀ j x, (pcells ⟨f0, f1, f2, f3, f4, f5, f6⟩)[j]? = some x → w3.cell? ⟨b, o + (k * 7 + j), none⟩ = some x := fun j x h => (hb4.cell (p := ⟨b, o + (k * 7 + j), none⟩) hb2).trans (xk2 j x h)
          have k0 : ∀ u : Kept w3, u.W.cell? ⟨b, o + k * 7, none⟩ = some (.string f0) := fun u => Kept.cell_of (show w3.cell? ⟨b, o + k * 7, none⟩ = some (.string f0) from xk3 0 _ rfl) u
          have k1 : ∀ u : Kept w3, u.W.cell? ⟨b, o + k * 7 + 1, none⟩ = some (.string f1) := fun u => Kept.cell_of (show w3.cell? ⟨b, o + k * 7 + 1, none⟩ = some (.string f1) from xk3 1 _ rfl) u
          have k2 : ∀ u : Kept w3, u.W.cell? ⟨b, o + k * 7 + 2, none⟩ = some (.string f2) := fun u => Kept.cell_of (show w3.cell? ⟨b, o + k * 7 + 2, none⟩ = some (.string f2) from xk3 2 _ rfl) u
          have k3 : ∀ u : Kept w3, u.W.cell? ⟨b, o + k * 7 + 3, none⟩ = some (.string f3) := fun u => Kept.cell_of (show w3.cell? ⟨b, o + k * 7 + 3, none⟩ = some (.string f3) from xk3 3 _ rfl) u
          have k4 : ∀ u : Kept w3, u.W.cell? ⟨b, o + k * 7 + 4, none⟩ = some (.string f4) := fun u => Kept.cell_of (show w3.cell? ⟨b, o + k * 7 + 4, none⟩ = some (.string f4) from xk3 4 _ rfl) u
          have k5 : ∀ u : Kept w3, u.W.cell? ⟨b, o + k * 7 + 5, none⟩ = some (.string f5) := fun u => Kept.cell_of (show w3.cell? ⟨b, o + k * 7 + 5, none⟩ = some (.string f5) from xk3 5 _ rfl) u
          have k6 : ∀ u : Kept w3, u.W.cell? ⟨b, o + k * 7 + 6, none⟩ = some (.string f6) := fun u => Kept.cell_of (show w3.cell? ⟨b, o + k * 7 + 6, none⟩ = some (.string f6) from xk3 6 _ rfl) u
          have k7 := BX1.keeps (i := 0) (v := .string sn) rfl
          have k8 := BX1.keeps (i := 1) (v := .string sd) rfl
          clear xk2 xk3
          go_wp2_with fail
          refine wp_region_kept_tail 7 (by kernel_rfl) (by kernel_rfl) ?_
          simp only [List.take_succ_cons, List.take_zero, List.drop_succ_cons, List.drop_zero]
          repeat (go_big_quiet_step (first | (with_reducible exact KAll.kept hs) | (with_reducible exact KAdd.kept hs)))
          refine wpQuiet_nil ?_
          rintro _ ⟨u, rfl⟩
          have BU := BX1.kept u
          have u0 := BU.cell (i := 0) (v := .string sn) rfl
          have u1 := BU.cell (i := 1) (v := .string sd) rfl
          have v0 := BU.frozen 0
          have v1 := BU.frozen 1
          go_wp2_with fail
          go_roundw
          case rel =>
            refine ⟨k + 1, by omega, by go_num, ((hs.kept u).set (b := w.heap.size + 1) (by omega) 0 (.string rn)).set (b := w.heap.size + 1) (by omega) 1 (.string rd), ((B.kept u).other (by omega) 0 (.string rn)).other (by omega) 1 (.string rd), ?_, fun i hi => ?_⟩
            · show Bx _ _ _
              rw [HRN.out, HRD.out]
              exact (BU.set 0 (.string rn)).set 1 (.string rd)
            · by_cases e : i = k
              · subst e; exact HD.out
              · exact HZ.out i (by omega)
          case measure => simp [intOf]; omega
theorem rTotal_any (hn : l.length = n) (hl : 32 < n ∨ FewP k0 l) : RetI (fun w => Row w A (flatG pcells l)) 54 #[.slice A n c] (.tuple #[FR (totQ l), .int .i64 (totE l)]) := by
  rcases hl with h | h
  · have e : totE l = 4 := by unfold totE; rw [if_pos (by omega)]
    have e2 : totQ l = 0 := by unfold totQ; rw [e]; rfl
    rw [e, e2]
    exact (rtotal_far h).i _
  · exact rtotal_few hn h
end
end Go.Proofs.YtndkglmokhndnaaGreatDoor
