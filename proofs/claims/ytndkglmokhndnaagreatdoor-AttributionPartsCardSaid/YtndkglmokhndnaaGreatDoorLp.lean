/- Attribution, the reference: what a part contributes, the total of parts. Conditions: up to five parts with numbers of bounded length, or more than 32. Attribution, the reference: Check. Conditions: up to five sectors with numbers of bounded length, or more than 32. Attribution, the reference: Return. Conditions: up to five sectors with numbers of bounded length, or more than 32. Attribution, the reference: Parts. Conditions: up to five sectors with numbers of bounded length, or more than 32. Attribution, the reference: Drift. Conditions: up to five sectors with numbers of bounded length, or more than 32. Attribution: the walk of AttributionParts: for every input it returns true. Condition: the library's table and error lie as the program's text lays them. -/
import Derived.Test.YtndkglmokhndnaaGreatDoorAt4
import Derived.Test.YtndkglmokhndnaaGreatDoorRf2
import Derived.Test.YtndkglmokhndnaaGreatDoorAt3
import Derived.Test.YtndkglmokhndnaaGreatDoorAt6
import Derived.Test.YtndkglmokhndnaaGreatDoorClo
import Derived.Test.YtndkglmokhndnaaGreatDoorDr2
import Derived.Test.YtndkglmokhndnaaGreatDoorAt8
namespace Go.Proofs.YtndkglmokhndnaaGreatDoor
open Go.RowKit Go.Shelf Dec QQ

theorem canB_chk (a b : ByteArray) : (chkF a b != 0) = !canB a b := by
  unfold canB
  cases h : (chkF a b == 0) <;> simp [bne, h]
set_option maxRecDepth 100000 in
set_option maxHeartbeats 4000000 in
theorem rcanonF_any {A : Option Addr} {n c : Nat} {l : List FrS} (hn : l.length = n) (hm : n ≤ 1000000) (hl : ∀ s ∈ l, s.n.size ≤ 80000 ∧ s.d.size ≤ 80000) : RetI (fun w => Row w A (flatG fcells l)) 99 #[.slice A n c] (.bool (l.all fun s => canB s.n s.d)) := by
  intro w hg hi
  have hs := St.refl hg
  have HN := Lib.hid hn
  have HI := Lib.hid hi
  have HL := Lib.hid hl
  obtain ⟨v, hv⟩ : ∃ v, l.all (fun s => canB s.n s.d) = v := ⟨_, rfl⟩
  rw [hv]
  have HV := Lib.hid hv
  clear hn hi hl hv
  go_enter Tryz.func99, Tryz.ntmps99
  go_wp2_with fail
  go_loopw [3] (fun s wr => ∃ k : Nat, k ≤ n ∧ s = .int .i64 (k : Int) ∧ St w wr ∧ Hid (∀ i, i < k → ∀ t, l[i]? = some t → canB t.n t.d = true)) (fun s _ => (n - intOf s).toNat)
  case atStart => exact ⟨0, by omega, rfl, hs, fun i h => by omega⟩
  case round =>
    obtain ⟨k, hk, rfl, hs, HP⟩ := hrel
    by_cases hkn : k = n
    · subst hkn
      have q : decide ((k : Int) < (k : Int)) = false := decide_eq_false (by omega)
      have hv : v = true := by
        rw [← HV.out, List.all_eq_true]
        intro s hs
        obtain ⟨i, hi, rfl⟩ := List.mem_iff_getElem.1 hs
        exact HP.out i (by have := HN.out; omega) _ (List.getElem?_eq_getElem hi)
      subst hv
      go_wp2_with fail
      go_ret
      exact ⟨rfl, hs.2⟩
    · have hkl : k < n := by omega
      have q : decide ((k : Int) < (n : Int)) = true := decide_eq_true (by omega)
      have qn : decide (k < n) = true := decide_eq_true hkl
      obtain ⟨d, hd⟩ : ∃ d, l[k]? = some d := ⟨l[k]'(by rw [HN.out]; exact hkl), by simp⟩
      obtain ⟨b, o, hA, hb, hcells⟩ := row_at (cs := fcells) (m := 2) fcells_len (by decide) (HI.out.on hs.2) hd
      subst hA
      have hz := HL.out d (List.mem_of_getElem? hd)
      have KC := rchk_r (a := d.n) (b := d.d) hz.1 hz.2
      have hcb := canB_chk d.n d.d
      have HD := Lib.hid hd
      unfold FV at KC
      clear hd hkn hz
      obtain ⟨cb, hcb2⟩ : ∃ x, canB d.n d.d = x := ⟨_, rfl⟩
      have HCB := Lib.hid hcb2
      rw [hcb2] at hcb
      clear hcb2
      obtain ⟨f0, f1⟩ := d
      have x0 : wr.cell? ⟨b, o + k * 2, none⟩ = some (.string f0) := hcells 0 _ rfl
      have x1 : wr.cell? ⟨b, o + k * 2 + 1, none⟩ = some (.string f1) := hcells 1 _ rfl
      clear hcells
      dsimp only at KC hcb
      generalize chkF f0 f1 = cf at *
      cases cb with
      | true =>
        replace hcb : (cf != 0) = false := hcb
        go_wp2_with fail
        refine KC.step hs ?_
        intro w2 hs hb
        go_wp2_with fail
        go_roundw
        case rel =>
          refine ⟨k + 1, by omega, by go_num, hs, fun i hi t ht => ?_⟩
          by_cases e : i = k
          · subst e
            rw [HD.out] at ht
            cases ht
            exact HCB.out
          · exact HP.out i (by omega) t ht
        case measure => simp [intOf]; omega
      | false =>
        replace hcb : (cf != 0) = true := hcb
        have hv : v = false := by
          rw [← HV.out, List.all_eq_false]
          exact ⟨_, List.mem_of_getElem? HD.out, by rw [HCB.out]; decide⟩
        subst hv
        go_wp2_with fail
        refine KC.step hs ?_
        intro w2 hs hb
        go_wp2_with fail
        go_ret
        exact ⟨rfl, hs.2⟩
set_option maxRecDepth 100000 in
set_option maxHeartbeats 4000000 in
theorem rsum_any (s : PrtS) (hz : s.le 10000) : Ret 122 #[prtV s] (FR s.all) := by
  intro w hg
  have hs := ((St.refl hg).alloc (.cells #[.string s.nm, .string s.an, .string s.ad, .string s.sn, .string s.sd, .string s.jn, .string s.jd] 52)).alloc (.cells #[.string ⟨#[]⟩, .string ⟨#[]⟩] 42)
  have B := Bx.new1 w (.cells #[.string s.nm, .string s.an, .string s.ad, .string s.sn, .string s.sd, .string s.jn, .string s.jd] 52) #[.string ⟨#[]⟩, .string ⟨#[]⟩] 42
  have B0 := (Bx.new w #[.string s.nm, .string s.an, .string s.ad, .string s.sn, .string s.sd, .string s.jn, .string s.jd] 52).alloc (.cells #[.string ⟨#[]⟩, .string ⟨#[]⟩] 42)
  have ff := hz.fit (by omega)
  unfold PrtS.le at hz
  have zs := FitQ.sizes (ff.1.add ff.2.1)
  have K1 := radd_r (a := s.an) (b := s.ad) (c := s.sn) (d := s.sd) (by omega) (by omega) (by omega) (by omega)
  change Ret _ _ (FR (s.a + s.s)) at K1
  have K2 := radd_r (a := frN (s.a + s.s)) (b := frD (s.a + s.s)) (c := s.jn) (d := s.jd) (by omega) (by omega) (by omega) (by omega)
  rw [ratV_fr] at K2
  change Ret _ _ (FR s.all) at K2
  unfold FR at K1 K2 ⊢
  unfold FV at K1 K2
  generalize frN s.all = rn at *
  generalize frD s.all = rd at *
  generalize frN (s.a + s.s) = mn at *
  generalize frD (s.a + s.s) = md at *
  clear hz ff zs
  unfold prtV
  obtain ⟨f0, f1, f2, f3, f4, f5, f6⟩ := s
  dsimp only at hs B B0 K1 K2 ⊢
  obtain ⟨W, hW⟩ : ∃ W, (w.alloc (.cells #[.string f0, .string f1, .string f2, .string f3, .string f4, .string f5, .string f6] 52)).alloc (.cells #[.string ⟨#[]⟩, .string ⟨#[]⟩] 42) = W := ⟨_, rfl⟩
  rw [hW] at hs B B0
  have HW := Lib.hid hW
  clear hW
  have k0 := B0.keeps (i := 0) (v := .string f0) rfl
  have k1 := B0.keeps (i := 1) (v := .string f1) rfl
  have k2 := B0.keeps (i := 2) (v := .string f2) rfl
  have k3 := B0.keeps (i := 3) (v := .string f3) rfl
  have k4 := B0.keeps (i := 4) (v := .string f4) rfl
  have k5 := B0.keeps (i := 5) (v := .string f5) rfl
  have k6 := B0.keeps (i := 6) (v := .string f6) rfl
  go_enter Tryz.func122, Tryz.ntmps122
  go_wp2_with fail
  rw [HW.out]
  refine wp_region_kept_tail 8 (by kernel_rfl) (by kernel_rfl) ?_
  simp only [List.take_succ_cons, List.take_zero, List.drop_succ_cons, List.drop_zero]
  repeat (go_big_quiet_step (first | (with_reducible exact K1.kept hs) | (with_reducible exact K2.kept hs)))
  refine wpQuiet_nil ?_
  rintro _ ⟨u, rfl⟩
  replace B := B.kept u
  replace hs := hs.kept u
  have ce0 := B.cell (i := 0) (v := .string ⟨#[]⟩) rfl
  have ce1 := B.cell (i := 1) (v := .string ⟨#[]⟩) rfl
  have cg0 := B.frozen 0
  have cg1 := B.frozen 1
  go_wp2_with fail
  obtain ⟨W, hW, y0, y1, hbe⟩ := ret_frac hs (by omega) B rn rd
  rw [hW]
  exact bodyPost_ret (v := .agg #[.string rn, .string rd]) (by simp [results, Tryz.results122, go_sem, y0, y1]) rfl ⟨rfl, hbe⟩
section
variable {A : Option Addr} {n c k0 : Nat} {l : List PrtS}
set_option maxRecDepth 100000 in
set_option maxHeartbeats 4000000 in
theorem rtotal_far (h : 32 < n) : Ret 54 #[.slice A n c] (.tuple #[FR 0, .int .i64 4]) := by
  intro w hg
  have hs := (St.refl hg).alloc (.cells #[.string ⟨#[]⟩, .string ⟨#[]⟩] 42)
  have B := Bx.new w #[.string ⟨#[]⟩, .string ⟨#[]⟩] 42
  have q : decide ((32 : Int) < (n : Int)) = true := decide_eq_true (by omega)
  have qn : decide (32 < n) = true := decide_eq_true h
  unfold FR
  rw [frN_zero, frD_zero]
  go_enter Tryz.func54, Tryz.ntmps54
  go_wp2_with fail
  exact bodyPost_ret (v := .tuple #[.agg #[.string ⟨#[]⟩, .string ⟨#[]⟩], .int .i64 4]) (by simp [results, Tryz.results54, go_sem]) rfl ⟨rfl, hs.2⟩
set_option maxRecDepth 100000 in
set_option maxHeartbeats 4000000 in
theorem rtotal_few (hn : l.length = n) (hl : FewP k0 l) : RetI (fun w => Row w A (flatG pcells l)) 54 #[.slice A n c] (.tuple #[FR (totQ l), .int .i64 (totE l)]) := by
  intro w hg hi
  have h5 := hl.1
  have hs := ((St.refl hg).alloc (.cells #[.string ⟨#[]⟩, .string ⟨#[]⟩] 42)).alloc (.cells #[.string ⟨#[]⟩, .string ⟨#[]⟩] 42)
  have HB0 := Lib.hid ((Bx.new w #[.string ⟨#[]⟩, .string ⟨#[]⟩] 42).alloc (.cells #[.string ⟨#[]⟩, .string ⟨#[]⟩] 42))
  have HB1 : Hid (Bx ((w.alloc (.cells #[.string ⟨#[]⟩, .string ⟨#[]⟩] 42)).alloc (.cells #[.string ⟨#[]⟩, .string ⟨#[]⟩] 42)) (w.heap.size + 1) #[.string (frN (sumQ PrtS.all (l.take 0))), .string (frD (sumQ PrtS.all (l.take 0)))]) := by
    show Bx _ _ _
    rw [List.take_zero, show sumQ PrtS.all [] = 0 from rfl, frN_zero, frD_zero]
    exact Bx.new1 w (.cells #[.string ⟨#[]⟩, .string ⟨#[]⟩] 42) #[.string ⟨#[]⟩, .string ⟨#[]⟩] 42
  have q32 : decide ((32 : Int) < (n : Int)) = false := decide_eq_false (by omega)
  have q32n : decide (32 < n) = false := decide_eq_false (by omega)
  have HE : Hid (totE l = errL (prtErr l) l.length) := by
    show _ = _
    unfold totE
    rw [if_neg (by omega)]
  have HQ : Hid (totQ l = if totE l = 0 then sumQ PrtS.all l else 0) := rfl
  unfold FR
  obtain ⟨qn, hqn⟩ : ∃ x, frN (totQ l) = x := ⟨_, rfl⟩
  obtain ⟨qd, hqd⟩ : ∃ x, frD (totQ l) = x := ⟨_, rfl⟩
  rw [hqn, hqd]
  have HQN := Lib.hid hqn
  have HQD := Lib.hid hqd
  clear hqn hqd
  generalize totE l = CH at *
  generalize totQ l = CQ at *
  have HN := Lib.hid hn
  have HL := Lib.hid hl
  have Hi := Lib.hid hi
  have h5n : n ≤ 5 := by omega
  clear hn hl hi h5
  go_enter Tryz.func54, Tryz.ntmps54
  go_wp2_with fail
  go_loopw [5] (fun s wr => ∃ k : Nat, k ≤ n ∧ s = .int .i64 (k : Int) ∧ St w wr ∧ Hid (Bx wr w.heap.size #[.string ⟨#[]⟩, .string ⟨#[]⟩]) ∧ Hid (Bx wr (w.heap.size + 1) #[.string (frN (sumQ PrtS.all (l.take k))), .string (frD (sumQ PrtS.all (l.take k)))]) ∧ Hid (∀ i, i < k → prtErr l i = 0)) (fun s _ => (n - intOf s).toNat)
  case atStart => exact ⟨0, by omega, rfl, hs, HB0, HB1, fun i h => by omega⟩
  case round =>
    obtain ⟨k, hk, rfl, hs, HX0, HX1, HZ⟩ := hrel
    have B := HX0.out
    have hB := B.lt
    by_cases hkn : k = n
    · subst hkn
      have q : decide ((k : Int) < (k : Int)) = false := decide_eq_false (by omega)
      have e1 := HE.out
      rw [errL_none (fun i hi => HZ.out i (by have := HN.out; omega))] at e1
      have HD := Lib.hid e1
      have e2 := HQ.out
      rw [e1, if_pos rfl, ← List.take_of_length_le (l := l) (i := k) (by have := HN.out; omega)] at e2
      have BX1 := HX1.out
      rw [← e2, HQN.out, HQD.out] at BX1
      have y0 := BX1.cell (i := 0) (v := .string qn) rfl
      have y1 := BX1.cell (i := 1) (v := .string qd) rfl
      have ce0 := B.cell (i := 0) (v := .string ⟨#[]⟩) rfl
      have ce1 := B.cell (i := 1) (v := .string ⟨#[]⟩) rfl
      have cg0 := B.frozen 0
      have cg1 := B.frozen 1
      clear e1 e2 BX1
      go_wp2_with fail
      clear y0 y1
      have HBE := HD.out
      subst HBE
      obtain ⟨W, hW, y0, y1, hbe⟩ := ret_frac hs (by omega) B qn qd
      rw [hW]
      exact bodyPost_ret (v := .tuple #[.agg #[.string qn, .string qd], .int .i64 0]) (by simp [results, Tryz.results54, go_sem, y0, y1]) rfl ⟨rfl, hbe⟩
    · have hkl : k < n := by omega
      have q : decide ((k : Int) < (n : Int)) = true := decide_eq_true (by omega)
      have qn' : decide (k < n) = true := decide_eq_true hkl
      obtain ⟨d, hd⟩ : ∃ d, l[k]? = some d := ⟨l[k]'(by rw [HN.out]; exact hkl), by simp⟩
      obtain ⟨b, o, hA, hb, hcells⟩ := row_at (cs := pcells) (m := 7) pcells_len (by decide) (Hi.out.on hs.2) hd
      have HKE : Hid (prtErr l k ≠ 0 → CH = prtErr l k ∧ qn = ⟨#[]⟩ ∧ qd = ⟨#[]⟩) := fun h => by
        have e1 := HE.out
        have hk2 : k < l.length := by have := HN.out; omega
        rw [errL_at hk2 h HZ.out] at e1
        have e2 := HQ.out
        rw [if_neg (by rw [e1]; exact h)] at e2
        exact ⟨e1, by rw [← HQN.out, e2, frN_zero], by rw [← HQD.out, e2, frD_zero]⟩
      have HSE : Hid (prtErr l k = if nameOk d.nm = false then 23 else if d.can = false then 1 else 0) := by
        show _ = _
        unfold prtErr
        rw [hd]
      have hdz := HL.out.2.2.2 d (List.mem_of_getElem? hd)
      have hk3 := HL.out.2.1
      have hdz2 : d.nm.size ≤ 4611686018427387904 := by have := hdz.1; omega
      have KN := rNameR hdz2
      have HKC : Hid (∀ B : Nat, RetI (fun w => Row w (some ⟨B, 0, none⟩) (flatG fcells [⟨d.an, d.ad⟩, ⟨d.sn, d.sd⟩, ⟨d.jn, d.jd⟩])) 99 #[.slice (some ⟨B, 0, none⟩) 3 3] (.bool d.can)) := fun B => by
        have KC := rcanonF_any (A := some ⟨B, 0, none⟩) (n := 3) (c := 3) (l := [⟨d.an, d.ad⟩, ⟨d.sn, d.sd⟩, ⟨d.jn, d.jd⟩]) rfl (by omega) (by unfold PrtS.le at hdz; intro s hs; simp at hs; rcases hs with rfl | rfl | rfl <;> (constructor <;> (dsimp only; omega)))
        rw [prt_can_list] at KC
        exact KC
      have KAll := rsum_any d (hdz.mono (by omega))
      have zz1 := FitQ.sizes (HL.out.sum k)
      have zz2 := FitQ.sizes (HL.out.fit (List.mem_of_getElem? hd))
      have KAdd := radd_r (a := frN (sumQ PrtS.all (l.take k))) (b := frD (sumQ PrtS.all (l.take k))) (c := frN d.all) (d := frD d.all) (by omega) (by omega) (by omega) (by omega)
      rw [ratV_fr, ratV_fr, ← sumQ_take hd] at KAdd
      have BX1 := HX1.out
      subst hA
      unfold FR at KAll KAdd
      unfold FV at KAdd
      clear zz1 zz2
      generalize hok : nameOk d.nm = ok at *
      generalize hca : d.can = ca at *
      generalize hrn : frN (sumQ PrtS.all (l.take (k + 1))) = rn at *
      generalize hrd : frD (sumQ PrtS.all (l.take (k + 1))) = rd at *
      have HRN := Lib.hid hrn
      have HRD := Lib.hid hrd
      clear hok hca hd hkn hdz hk3 hrn hrd
      generalize frN (sumQ PrtS.all (l.take k)) = sn at *
      generalize frD (sumQ PrtS.all (l.take k)) = sd at *
      generalize frN d.all = gn at *
      generalize frD d.all = gd at *
      obtain ⟨f0, f1, f2, f3, f4, f5, f6⟩ := d
      have xk : ∀ j x, (pcells ⟨f0, f1, f2, f3, f4, f5, f6⟩)[j]? = some x → wr.cell? ⟨b, o + (k * 7 + j), none⟩ = some x := hcells
      have x0 : wr.cell? ⟨b, o + k * 7, none⟩ = some (.string f0) := hcells 0 _ rfl
      have x1 : wr.cell? ⟨b, o + k * 7 + 1, none⟩ = some (.string f1) := hcells 1 _ rfl
      have x2 : wr.cell? ⟨b, o + k * 7 + 2, none⟩ = some (.string f2) := hcells 2 _ rfl
      have x3 : wr.cell? ⟨b, o + k * 7 + 3, none⟩ = some (.string f3) := hcells 3 _ rfl
      have x4 : wr.cell? ⟨b, o + k * 7 + 4, none⟩ = some (.string f4) := hcells 4 _ rfl
      have x5 : wr.cell? ⟨b, o + k * 7 + 5, none⟩ = some (.string f5) := hcells 5 _ rfl
      have x6 : wr.cell? ⟨b, o + k * 7 + 6, none⟩ = some (.string f6) := hcells 6 _ rfl
      have hbk : b < wr.heap.size := hb
      dsimp only [prtV] at KN KAll HSE hdz2 HKC
      cases ok with
      | false =>
        have e3 := HSE.out
        rw [if_pos rfl] at e3
        have HD := Lib.hid (HKE.out (by rw [e3]; decide))
        have HD2 := Lib.hid e3
        clear e3 xk hcells
        go_wp2_with fail
        refine KN.step hs ?_
        intro w1 hs hb1
        replace B := B.on hb1
        have ce0 := B.cell (i := 0) (v := .string ⟨#[]⟩) rfl
        have ce1 := B.cell (i := 1) (v := .string ⟨#[]⟩) rfl
        have cg0 := B.frozen 0
        have cg1 := B.frozen 1
        go_wp2_with fail
        obtain ⟨h1, h2, h3⟩ := HD.out
        rw [HD2.out] at h1
        subst h1 h2 h3
        obtain ⟨W, hW, y0, y1, hbe⟩ := ret_frac hs (by omega) B ⟨#[]⟩ ⟨#[]⟩
        rw [hW]
        exact bodyPost_ret (v := .tuple #[.agg #[.string ⟨#[]⟩, .string ⟨#[]⟩], .int .i64 23]) (by simp [results, Tryz.results54, go_sem, y0, y1]) rfl ⟨rfl, hbe⟩
      | true =>
        go_wp2_with fail
        refine KN.step hs ?_
        intro w1 hs hb1
        replace B := B.on hb1
        replace BX1 := BX1.on hb1
        have xk1 : ∀ j x, (pcells ⟨f0, f1, f2, f3, f4, f5, f6⟩)[j]? = some x → w1.cell? ⟨b, o + (k * 7 + j), none⟩ = some x := fun j x h => (hb1.cell (p := ⟨b, o + (k * 7 + j), none⟩) hb).trans (hcells j x h)
        have hb1' : b < w1.heap.size := Nat.lt_of_lt_of_le hb hb1.size
        clear x0 x1 x2 x3 x4 x5 x6 xk hcells hbk
        have y0 : w1.cell? ⟨b, o + k * 7, none⟩ = some (.string f0) := xk1 0 _ rfl
        have k0 : ∀ u : Kept w1, u.W.cell? ⟨b, o + k * 7, none⟩ = some (.string f0) := fun u => Kept.cell_of y0 u
        have y1 : w1.cell? ⟨b, o + k * 7 + 1, none⟩ = some (.string f1) := xk1 1 _ rfl
        have k1 : ∀ u : Kept w1, u.W.cell? ⟨b, o + k * 7 + 1, none⟩ = some (.string f1) := fun u => Kept.cell_of y1 u
        have y2 : w1.cell? ⟨b, o + k * 7 + 2, none⟩ = some (.string f2) := xk1 2 _ rfl
        have k2 : ∀ u : Kept w1, u.W.cell? ⟨b, o + k * 7 + 2, none⟩ = some (.string f2) := fun u => Kept.cell_of y2 u
        have y3 : w1.cell? ⟨b, o + k * 7 + 3, none⟩ = some (.string f3) := xk1 3 _ rfl
        have k3 : ∀ u : Kept w1, u.W.cell? ⟨b, o + k * 7 + 3, none⟩ = some (.string f3) := fun u => Kept.cell_of y3 u
        have y4 : w1.cell? ⟨b, o + k * 7 + 4, none⟩ = some (.string f4) := xk1 4 _ rfl
        have k4 : ∀ u : Kept w1, u.W.cell? ⟨b, o + k * 7 + 4, none⟩ = some (.string f4) := fun u => Kept.cell_of y4 u
        have y5 : w1.cell? ⟨b, o + k * 7 + 5, none⟩ = some (.string f5) := xk1 5 _ rfl
        have k5 : ∀ u : Kept w1, u.W.cell? ⟨b, o + k * 7 + 5, none⟩ = some (.string f5) := fun u => Kept.cell_of y5 u
        have y6 : w1.cell? ⟨b, o + k * 7 + 6, none⟩ = some (.string f6) := xk1 6 _ rfl
        have k6 : ∀ u : Kept w1, u.W.cell? ⟨b, o + k * 7 + 6, none⟩ = some (.string f6) := fun u => Kept.cell_of y6 u
        go_wp2_with fail
        clear y0 y1 y2 y3 y4 y5 y6
        refine wp_region_kept_tail 15 (by kernel_rfl) (by kernel_rfl) ?_
        simp only [List.take_succ_cons, List.take_zero, List.drop_succ_cons, List.drop_zero]
        repeat (go_big_quiet_step (fail))
        refine wpQuiet_nil ?_
        rintro _ ⟨u, rfl⟩
        have xk2 : ∀ j x, (pcells ⟨f0, f1, f2, f3, f4, f5, f6⟩)[j]? = some x → u.W.cell? ⟨b, o + (k * 7 + j), none⟩ = some x := fun j x h => (Kept.cell_of (xk1 j x h) u)
        replace B := B.kept u
        replace BX1 := BX1.kept u
        replace hs := hs.kept u
        have hb2 : b < u.W.heap.size := Nat.lt_of_lt_of_le hb1' u.low.size
        clear k0 k1 k2 k3 k4 k5 k6 xk1
        generalize u.W = w2 at *
        have KC := HKC.out w2.heap.size
        have BR : Hid (Row (w2.alloc (.cells #[.string f1, .string f2, .string f3, .string f4, .string f5, .string f6] 42)) (some ⟨w2.heap.size, 0, none⟩) (flatG fcells [⟨f1, f2⟩, ⟨f3, f4⟩, ⟨f5, f6⟩])) := Row.of (Bx.new w2 #[.string f1, .string f2, .string f3, .string f4, .string f5, .string f6] 42)
        have hs1 := hs.alloc (.cells #[.string f1, .string f2, .string f3, .string f4, .string f5, .string f6] 42)
        replace B := B.alloc (.cells #[.string f1, .string f2, .string f3, .string f4, .string f5, .string f6] 42)
        replace BX1 := BX1.alloc (.cells #[.string f1, .string f2, .string f3, .string f4, .string f5, .string f6] 42)
        cases ca with
        | false =>
          have e3 := HSE.out
          rw [if_neg (by decide), if_pos rfl] at e3
          have HD := Lib.hid (HKE.out (by rw [e3]; decide))
          have HD2 := Lib.hid e3
          clear e3 xk2
          go_wp2_with fail
          refine KC.step hs1 BR.out ?_
          intro w3 hs hb1
          replace B := B.on hb1
          have ce0 := B.cell (i := 0) (v := .string ⟨#[]⟩) rfl
          have ce1 := B.cell (i := 1) (v := .string ⟨#[]⟩) rfl
          have cg0 := B.frozen 0
          have cg1 := B.frozen 1
          go_wp2_with fail
          obtain ⟨h1, h2, h3⟩ := HD.out
          rw [HD2.out] at h1
          subst h1 h2 h3
          obtain ⟨W, hW, y0, y1, hbe⟩ := ret_frac hs (by omega) B ⟨#[]⟩ ⟨#[]⟩
          rw [hW]
          exact bodyPost_ret (v := .tuple #[.agg #[.string ⟨#[]⟩, .string ⟨#[]⟩], .int .i64 1]) (by simp [results, Tryz.results54, go_sem, y0, y1]) rfl ⟨rfl, hbe⟩
        | true =>
          have e3 := HSE.out
          rw [if_neg (by decide), if_neg (by decide)] at e3
          have HD := Lib.hid e3
          clear e3
          go_wp2_with fail
          refine KC.step hs1 BR.out ?_
          intro w3 hs hb3
          replace B := B.on hb3
          replace BX1 := BX1.on hb3
          have hb4 : Below w2.heap.size w2 w3 := ((Below.refl _ w2).alloc (Nat.le_refl _) _).trans (hb3.mono (by simp))
          have xk3 : ∀ j x, (pcells ⟨f0, f1, f2, f3, f4, f5, f6⟩)[j]? = some x → w3.cell? ⟨b, o + (k * 7 + j), none⟩ = some x := fun j x h => (hb4.cell (p := ⟨b, o + (k * 7 + j), none⟩) hb2).trans (xk2 j x h)
          have k0 : ∀ u : Kept w3, u.W.cell? ⟨b, o + k * 7, none⟩ = some (.string f0) := fun u => Kept.cell_of (show w3.cell? ⟨b, o + k * 7, none⟩ = some (.string f0) from xk3 0 _ rfl) u
          have k1 : ∀ u : Kept w3, u.W.cell? ⟨b, o + k * 7 + 1, none⟩ = some (.string f1) := fun u => Kept.cell_of (show w3.cell? ⟨b, o + k * 7 + 1, none⟩ = some (.string f1) from xk3 1 _ rfl) u
          have k2 : ∀ u : Kept w3, u.W.cell? ⟨b, o + k * 7 + 2, none⟩ = some (.string f2) := fun u => Kept.cell_of (show w3.cell? ⟨b, o + k * 7 + 2, none⟩ = some (.string f2) from xk3 2 _ rfl) u
          have k3 : ∀ u : Kept w3, u.W.cell? ⟨b, o + k * 7 + 3, none⟩ = some (.string f3) := fun u => Kept.cell_of (show w3.cell? ⟨b, o + k * 7 + 3, none⟩ = some (.string f3) from xk3 3 _ rfl) u
          have k4 : ∀ u : Kept w3, u.W.cell? ⟨b, o + k * 7 + 4, none⟩ = some (.string f4) := fun u => Kept.cell_of (show w3.cell? ⟨b, o + k * 7 + 4, none⟩ = some (.string f4) from xk3 4 _ rfl) u
          have k5 : ∀ u : Kept w3, u.W.cell? ⟨b, o + k * 7 + 5, none⟩ = some (.string f5) := fun u => Kept.cell_of (show w3.cell? ⟨b, o + k * 7 + 5, none⟩ = some (.string f5) from xk3 5 _ rfl) u
          have k6 : ∀ u : Kept w3, u.W.cell? ⟨b, o + k * 7 + 6, none⟩ = some (.string f6) := fun u => Kept.cell_of (show w3.cell? ⟨b, o + k * 7 + 6, none⟩ = some (.string f6) from xk3 6 _ rfl) u
          have k7 := BX1.keeps (i := 0) (v := .string sn) rfl
          have k8 := BX1.keeps (i := 1) (v := .string sd) rfl
          clear xk2 xk3
          go_wp2_with fail
          refine wp_region_kept_tail 7 (by kernel_rfl) (by kernel_rfl) ?_
          simp only [List.take_succ_cons, List.take_zero, List.drop_succ_cons, List.drop_zero]
          repeat (go_big_quiet_step (first | (with_reducible exact KAll.kept hs) | (with_reducible exact KAdd.kept hs)))
          refine wpQuiet_nil ?_
          rintro _ ⟨u, rfl⟩
          have BU := BX1.kept u
          have u0 := BU.cell (i := 0) (v := .string sn) rfl
          have u1 := BU.cell (i := 1) (v := .string sd) rfl
          have v0 := BU.frozen 0
          have v1 := BU.frozen 1
          go_wp2_with fail
          go_roundw
          case rel =>
            refine ⟨k + 1, by omega, by go_num, ((hs.kept u).set (b := w.heap.size + 1) (by omega) 0 (.string rn)).set (b := w.heap.size + 1) (by omega) 1 (.string rd), ((B.kept u).other (by omega) 0 (.string rn)).other (by omega) 1 (.string rd), ?_, fun i hi => ?_⟩
            · show Bx _ _ _
              rw [HRN.out, HRD.out]
              exact (BU.set 0 (.string rn)).set 1 (.string rd)
            · by_cases e : i = k
              · subst e; exact HD.out
              · exact HZ.out i (by omega)
          case measure => simp [intOf]; omega
theorem rTotal_any (hn : l.length = n) (hl : 32 < n ∨ FewP k0 l) : RetI (fun w => Row w A (flatG pcells l)) 54 #[.slice A n c] (.tuple #[FR (totQ l), .int .i64 (totE l)]) := by
  rcases hl with h | h
  · have e : totE l = 4 := by unfold totE; rw [if_pos (by omega)]
    have e2 : totQ l = 0 := by unfold totQ; rw [e]; rfl
    rw [e, e2]
    exact (rtotal_far h).i _
  · exact rtotal_few hn h
end
end Go.Proofs.YtndkglmokhndnaaGreatDoor
namespace Go.Proofs.YtndkglmokhndnaaGreatDoor
open Go.RowKit Go.Shelf Dec QQ

/-- the canonical numbers of a sector -/
theorem sec_can_list (s : SecS) : ([⟨s.wn, s.wd⟩, ⟨s.rn, s.rd⟩, ⟨s.vn, s.vd⟩, ⟨s.bn, s.bd⟩] : List FrS).all (fun s => canB s.n s.d) = s.can := by
  unfold SecS.can
  simp only [List.all_cons, List.all_nil, Bool.and_true, Bool.and_assoc]
set_option maxRecDepth 100000 in
set_option maxHeartbeats 4000000 in
theorem rscheck_far {A : Option Addr} {n c : Nat} (h : 32 < n) : Ret 38 #[.slice A n c] (.int .i64 4) := by
  intro w hg
  have hs := St.refl hg
  have q0 : ((n : Int) == 0) = false := by rw [beq_eq_false_iff_ne]; omega
  have q : decide ((32 : Int) < (n : Int)) = true := decide_eq_true (by omega)
  have qn : decide (32 < n) = true := decide_eq_true h
  go_enter Tryz.func38, Tryz.ntmps38
  go_wp2_with fail
  go_ret
  exact ⟨rfl, hs.2⟩
theorem rscheck_nil {A : Option Addr} {c : Nat} : Ret 38 #[.slice A 0 c] (.int .i64 11) := by
  intro w hg
  have hs := St.refl hg
  go_enter Tryz.func38, Tryz.ntmps38
  go_wp2_with fail
  go_ret
  exact ⟨rfl, hs.2⟩
set_option maxRecDepth 100000 in
set_option maxHeartbeats 4000000 in
theorem rscheck_few {A : Option Addr} {n c k0 : Nat} {l : List SecS} (hn : l.length = n) (hl : FewS k0 l) (h0 : 0 < n) : RetI (fun w => Row w A (flatG scells l)) 38 #[.slice A n c] (.int .i64 (chkS l)) := by
  intro w hg hi
  have h5 : n ≤ 5 := by have := hl.1; omega
  have hs := St.refl hg
  have HI := Lib.hid hi
  have q0 : ((n : Int) == 0) = false := by rw [beq_eq_false_iff_ne]; omega
  have q32 : decide ((32 : Int) < (n : Int)) = false := decide_eq_false (by omega)
  have q32n : decide (32 < n) = false := decide_eq_false (by omega)
  have HE : Hid (∀ k, k < n → secErr l k ≠ 0 → (∀ i, i < k → secErr l i = 0) → chkS l = secErr l k) := fun k hk h hb => by
    have e := errL_at (e := secErr l) (n := l.length) (by omega) h hb
    unfold chkS
    rw [if_neg (by omega), if_neg (by omega), e, if_pos h]
  have HZ : Hid ((∀ i, i < n → secErr l i = 0) → chkS l = if sumQ SecS.w l = 1 ∧ sumQ SecS.v l = 1 then 0 else 14) := fun h => by
    have e := errL_none (e := secErr l) (n := l.length) (fun i hi => h i (by omega))
    unfold chkS
    rw [if_neg (by omega), if_neg (by omega), e, if_neg (by simp)]
  have HSE : Hid (∀ k d, l[k]? = some d → secErr l k = if nameOk d.nm = false then 23 else if (l.take k).any (fun t => eqB t.nm d.nm) = true then 5 else if d.can = false then 1 else 0) := fun k d h => by
    unfold secErr
    rw [h]
  have HN := Lib.hid hn
  have HL := Lib.hid hl
  obtain ⟨CH, hCH⟩ : ∃ x, chkS l = x := ⟨_, rfl⟩
  rw [hCH] at HE HZ ⊢
  clear hCH hn hl hi
  go_enter Tryz.func38, Tryz.ntmps38
  go_wp2_with fail
  have hsB := (hs.alloc (.cells #[.string ⟨#[]⟩, .string ⟨#[]⟩] 42)).alloc (.cells #[.string ⟨#[]⟩, .string ⟨#[]⟩] 42)
  have HB0 : Hid (Bx ((w.alloc (.cells #[.string ⟨#[]⟩, .string ⟨#[]⟩] 42)).alloc (.cells #[.string ⟨#[]⟩, .string ⟨#[]⟩] 42)) w.heap.size #[.string (frN (sumQ SecS.w (l.take 0))), .string (frD (sumQ SecS.w (l.take 0)))]) := by
    show Bx _ _ _
    rw [List.take_zero, show sumQ SecS.w [] = 0 from rfl, frN_zero, frD_zero]
    exact (Bx.new w #[.string ⟨#[]⟩, .string ⟨#[]⟩] 42).alloc (.cells #[.string ⟨#[]⟩, .string ⟨#[]⟩] 42)
  have HB1 : Hid (Bx ((w.alloc (.cells #[.string ⟨#[]⟩, .string ⟨#[]⟩] 42)).alloc (.cells #[.string ⟨#[]⟩, .string ⟨#[]⟩] 42)) (w.heap.size + 1) #[.string (frN (sumQ SecS.v (l.take 0))), .string (frD (sumQ SecS.v (l.take 0)))]) := by
    show Bx _ _ _
    rw [List.take_zero, show sumQ SecS.v [] = 0 from rfl, frN_zero, frD_zero]
    exact Bx.new1 w (.cells #[.string ⟨#[]⟩, .string ⟨#[]⟩] 42) #[.string ⟨#[]⟩, .string ⟨#[]⟩] 42
  generalize (w.alloc (.cells #[.string ⟨#[]⟩, .string ⟨#[]⟩] 42)).alloc (.cells #[.string ⟨#[]⟩, .string ⟨#[]⟩] 42) = wB at *
  go_loopw [5] (fun s wr => ∃ k : Nat, k ≤ n ∧ s = .int .i64 (k : Int) ∧ St w wr ∧ Hid (Bx wr w.heap.size #[.string (frN (sumQ SecS.w (l.take k))), .string (frD (sumQ SecS.w (l.take k)))]) ∧ Hid (Bx wr (w.heap.size + 1) #[.string (frN (sumQ SecS.v (l.take k))), .string (frD (sumQ SecS.v (l.take k)))]) ∧ Hid (∀ i, i < k → secErr l i = 0)) (fun s _ => (n - intOf s).toNat)
  case atStart => exact ⟨0, by omega, rfl, hsB, HB0, HB1, fun i h => by omega⟩
  case round =>
    obtain ⟨k, hk, rfl, hs, HX0, HX1, HP⟩ := hrel
    by_cases hkn : k = n
    · subst hkn
      have q : decide ((k : Int) < (k : Int)) = false := decide_eq_false (by omega)
      have hcv := HZ.out HP.out
      have KO := rof_r (a := ⟨#[49]⟩) (by decide)
      rw [one_val, show ((1 : Int) : Rat) = 1 from rfl] at KO
      have X0 := HX0.out
      have X1 := HX1.out
      rw [List.take_of_length_le (by have := HN.out; omega)] at X0 X1
      have n0 := neqF (frN (sumQ SecS.w l)) (frD (sumQ SecS.w l)) (frN 1) (frD 1)
      have n1 := neqF (frN (sumQ SecS.v l)) (frD (sumQ SecS.v l)) (frN 1) (frD 1)
      rw [fr_eq] at n0 n1
      have k0 := X0.keeps (i := 0) (v := .string (frN (sumQ SecS.w l))) rfl
      have k1 := X0.keeps (i := 1) (v := .string (frD (sumQ SecS.w l))) rfl
      have k2 := X1.keeps (i := 0) (v := .string (frN (sumQ SecS.v l))) rfl
      have k3 := X1.keeps (i := 1) (v := .string (frD (sumQ SecS.v l))) rfl
      unfold FR at KO
      have HCV := Lib.hid hcv
      obtain ⟨b1, hb1⟩ : ∃ b, decide (sumQ SecS.w l = 1) = b := ⟨_, rfl⟩
      obtain ⟨b2, hb2⟩ : ∃ b, decide (sumQ SecS.v l = 1) = b := ⟨_, rfl⟩
      rw [hb1] at n0
      rw [hb2] at n1
      have HB1' : Hid ((b1 = true ∧ b2 = true → CH = 0) ∧ (¬ (b1 = true ∧ b2 = true) → CH = 14)) := by
        have e : (b1 = true ∧ b2 = true) ↔ (sumQ SecS.w l = 1 ∧ sumQ SecS.v l = 1) := by rw [← hb1, ← hb2]; simp
        refine ⟨fun h => ?_, fun h => ?_⟩
        · rw [HCV.out, if_pos (e.1 h)]
        · rw [HCV.out, if_neg (fun h2 => h (e.2 h2))]
      clear hb1 hb2 hcv HCV X0 X1 HX0 HX1 HP HZ HE HSE
      generalize frN (sumQ SecS.w l) = sn at *
      generalize frD (sumQ SecS.w l) = sd at *
      generalize frN (sumQ SecS.v l) = tn at *
      generalize frD (sumQ SecS.v l) = td at *
      generalize frN 1 = on at *
      generalize frD 1 = od at *
      cases b1 <;> cases b2
      · have hc := HB1'.out.2 (by decide)
        subst hc
        clear HB1'
        go_wp2_with fail
        refine wp_region_kept (by kernel_rfl) (by kernel_rfl) ?_
        repeat (go_big_quiet_step (first | (with_reducible exact KO.kept hs)))
        refine wpQuiet_nil ?_
        rintro _ ⟨u, rfl⟩
        go_wp2_with fail
        go_ret
        exact ⟨rfl, (hs.kept u).2⟩
      · have hc := HB1'.out.2 (by decide)
        subst hc
        clear HB1'
        go_wp2_with fail
        refine wp_region_kept (by kernel_rfl) (by kernel_rfl) ?_
        repeat (go_big_quiet_step (first | (with_reducible exact KO.kept hs)))
        refine wpQuiet_nil ?_
        rintro _ ⟨u, rfl⟩
        go_wp2_with fail
        go_ret
        exact ⟨rfl, (hs.kept u).2⟩
      · have hc := HB1'.out.2 (by decide)
        subst hc
        clear HB1'
        go_wp2_with fail
        refine wp_region_kept (by kernel_rfl) (by kernel_rfl) ?_
        repeat (go_big_quiet_step (first | (with_reducible exact KO.kept hs)))
        refine wpQuiet_nil ?_
        rintro _ ⟨u, rfl⟩
        go_wp2_with fail
        go_ret
        exact ⟨rfl, (hs.kept u).2⟩
      · have hc := HB1'.out.1 (by decide)
        subst hc
        clear HB1'
        go_wp2_with fail
        refine wp_region_kept (by kernel_rfl) (by kernel_rfl) ?_
        repeat (go_big_quiet_step (first | (with_reducible exact KO.kept hs)))
        refine wpQuiet_nil ?_
        rintro _ ⟨u, rfl⟩
        go_wp2_with fail
        go_ret
        exact ⟨rfl, (hs.kept u).2⟩
    · have hkl : k < n := by omega
      have q : decide ((k : Int) < (n : Int)) = true := decide_eq_true (by omega)
      have qn : decide (k < n) = true := decide_eq_true hkl
      obtain ⟨d, hd⟩ : ∃ d, l[k]? = some d := ⟨l[k]'(by rw [HN.out]; exact hkl), by simp⟩
      obtain ⟨b, o, hA, hb, hcells⟩ := row_at (cs := scells) (m := 9) scells_len (by decide) HI.out hd
      have HSK := Lib.hid (HSE.out k d hd)
      have HEK := Lib.hid (fun h => HE.out k hkl h HP.out)
      have hdz := HL.out.2.2.2 d (List.mem_of_getElem? hd)
      have hk3 := HL.out.2.1
      have KN := rNameR (s := d.nm) (by have := hdz.1; omega)
      have HKC : Hid (∀ B : Nat, RetI (fun w => Row w (some ⟨B, 0, none⟩) (flatG fcells [⟨d.wn, d.wd⟩, ⟨d.rn, d.rd⟩, ⟨d.vn, d.vd⟩, ⟨d.bn, d.bd⟩])) 99 #[.slice (some ⟨B, 0, none⟩) 4 4] (.bool d.can)) := fun B => by
        have KC := rcanonF_any (A := some ⟨B, 0, none⟩) (n := 4) (c := 4) (l := [⟨d.wn, d.wd⟩, ⟨d.rn, d.rd⟩, ⟨d.vn, d.vd⟩, ⟨d.bn, d.bd⟩]) rfl (by omega) (by unfold SecS.le at hdz; intro s hs; simp at hs; rcases hs with rfl | rfl | rfl | rfl <;> (constructor <;> (dsimp only; omega)))
        rw [sec_can_list] at KC
        exact KC
      have z1 := FitQ.sizes (FitQ.sum_take (f := SecS.w) (k := k0) (n := 5) (m := 5 * (k0 + 1) + 1) (fun a ha => (HL.out.fit ha).1) HL.out.1 (by omega) k)
      have z2 := FitQ.sizes (FitQ.sum_take (f := SecS.v) (k := k0) (n := 5) (m := 5 * (k0 + 1) + 1) (fun a ha => (HL.out.fit ha).2.2.1) HL.out.1 (by omega) k)
      unfold SecS.le at hdz
      have KA1 := radd_r (a := frN (sumQ SecS.w (l.take k))) (b := frD (sumQ SecS.w (l.take k))) (c := d.wn) (d := d.wd) (by omega) (by omega) (by omega) (by omega)
      have KA2 := radd_r (a := frN (sumQ SecS.v (l.take k))) (b := frD (sumQ SecS.v (l.take k))) (c := d.vn) (d := d.vd) (by omega) (by omega) (by omega) (by omega)
      rw [ratV_fr] at KA1 KA2
      change Ret _ _ (FR (sumQ SecS.w (l.take k) + d.w)) at KA1
      change Ret _ _ (FR (sumQ SecS.v (l.take k) + d.v)) at KA2
      rw [← sumQ_take hd] at KA1 KA2
      unfold FR at KA1 KA2
      unfold FV at KA1 KA2
      subst hA
      clear hdz z1 z2 hkn
      obtain ⟨xn, hxn⟩ : ∃ x, frN (sumQ SecS.w (l.take (k + 1))) = x := ⟨_, rfl⟩
      obtain ⟨xd, hxd⟩ : ∃ x, frD (sumQ SecS.w (l.take (k + 1))) = x := ⟨_, rfl⟩
      obtain ⟨yn, hyn⟩ : ∃ x, frN (sumQ SecS.v (l.take (k + 1))) = x := ⟨_, rfl⟩
      obtain ⟨yd, hyd⟩ : ∃ x, frD (sumQ SecS.v (l.take (k + 1))) = x := ⟨_, rfl⟩
      have HXN := Lib.hid hxn
      have HXD := Lib.hid hxd
      have HYN := Lib.hid hyn
      have HYD := Lib.hid hyd
      rw [hxn, hxd] at KA1
      rw [hyn, hyd] at KA2
      clear hxn hxd hyn hyd
      generalize frN (sumQ SecS.w (l.take k)) = sn at *
      generalize frD (sumQ SecS.w (l.take k)) = sd at *
      generalize frN (sumQ SecS.v (l.take k)) = tn at *
      generalize frD (sumQ SecS.v (l.take k)) = td at *
      have HCW : Hid (∀ W, St w W → ∀ t v, (scells d)[t]? = some v → W.cell? ⟨b, o + k * 9 + t, none⟩ = some v) := fun W hW t v h => by
        have := (hW.2.cell (p := ⟨b, o + (k * 9 + t), none⟩) hb).trans (hcells t v h)
        rwa [show o + (k * 9 + t) = o + k * 9 + t by omega] at this
      have HNMS : Hid (∀ j t, j < k → l[j]? = some t → ∀ W, St w W → W.cell? ⟨b, o + j * 9, none⟩ = some (.string t.nm)) := fun j t hj ht W hW => by
        obtain ⟨b2, o2, hA2, hb2, hc2⟩ := row_at (cs := scells) (m := 9) scells_len (by decide) HI.out ht
        injection hA2 with hA2
        injection hA2 with h1 h2
        subst h1 h2
        exact (hW.2.cell (p := ⟨b, o + (j * 9 + 0), none⟩) hb2).trans (hc2 0 _ rfl)
      clear hcells hd
      obtain ⟨ok, hok⟩ : ∃ x, nameOk d.nm = x := ⟨_, rfl⟩
      obtain ⟨ca, hca⟩ : ∃ x, d.can = x := ⟨_, rfl⟩
      rw [hok, hca] at HSK
      rw [hok] at KN
      rw [hca] at HKC
      clear hok hca
      obtain ⟨f0, f1, f2, f3, f4, f5, f6, f7, f8⟩ := d
      dsimp only at KN HKC KA1 KA2 HSK
      have x0 : wr.cell? ⟨b, o + k * 9, none⟩ = some (.string f0) := HCW.out wr hs 0 _ rfl
      cases ok with
      | false =>
        have e3 := HSK.out
        rw [if_pos rfl] at e3
        have hc := HEK.out (by rw [e3]; decide)
        rw [e3] at hc
        subst hc
        clear HEK HSK HE HZ HSE e3
        go_wp2_with fail
        refine KN.step hs ?_
        intro w1 hs hb1
        go_wp2_with fail
        go_ret
        exact ⟨rfl, hs.2⟩
      | true =>
        go_wp2_with fail
        refine KN.step hs ?_
        intro w1 hs hb1
        have H0 := Lib.hid (HX0.out.on hb1)
        have H1 := Lib.hid (HX1.out.on hb1)
        clear x0 HX0 HX1
        go_wp2_with fail
        go_loopw [6] (fun s wr2 => ∃ j : Nat, j ≤ k ∧ s = .int .i64 (j : Int) ∧ St w wr2 ∧ Hid (Bx wr2 w.heap.size #[.string sn, .string sd]) ∧ Hid (Bx wr2 (w.heap.size + 1) #[.string tn, .string td]) ∧ Hid (∀ i, i < j → ∀ t, l[i]? = some t → eqB t.nm f0 = false)) (fun s _ => (k - intOf s).toNat)
        case atStart => exact ⟨0, by omega, rfl, hs, H0, H1, fun i h => by omega⟩
        case round =>
          obtain ⟨j, hj, rfl, hs, H0, H1, HQ⟩ := hrel
          by_cases hjk : j = k
          · subst hjk
            have q2 : decide ((j : Int) < (j : Int)) = false := decide_eq_false (by omega)
            have HAN : Hid ((l.take j).any (fun t => eqB t.nm f0) = false) := any_take.2 (fun i t hi ht => eqB_false.1 (HQ.out i hi t ht))
            have e3 := HSK.out
            rw [if_neg (by decide), HAN.out, if_neg (by decide)] at e3
            have HS3 := Lib.hid e3
            clear e3
            have k1 : ∀ u : Kept wr, u.W.cell? ⟨b, o + j * 9 + 1, none⟩ = some (.string f1) := fun u => Kept.cell_of (HCW.out wr hs 1 _ rfl) u
            have k2 : ∀ u : Kept wr, u.W.cell? ⟨b, o + j * 9 + 2, none⟩ = some (.string f2) := fun u => Kept.cell_of (HCW.out wr hs 2 _ rfl) u
            have k3 : ∀ u : Kept wr, u.W.cell? ⟨b, o + j * 9 + 3, none⟩ = some (.string f3) := fun u => Kept.cell_of (HCW.out wr hs 3 _ rfl) u
            have k4 : ∀ u : Kept wr, u.W.cell? ⟨b, o + j * 9 + 4, none⟩ = some (.string f4) := fun u => Kept.cell_of (HCW.out wr hs 4 _ rfl) u
            have k5 : ∀ u : Kept wr, u.W.cell? ⟨b, o + j * 9 + 5, none⟩ = some (.string f5) := fun u => Kept.cell_of (HCW.out wr hs 5 _ rfl) u
            have k6 : ∀ u : Kept wr, u.W.cell? ⟨b, o + j * 9 + 6, none⟩ = some (.string f6) := fun u => Kept.cell_of (HCW.out wr hs 6 _ rfl) u
            have k7 : ∀ u : Kept wr, u.W.cell? ⟨b, o + j * 9 + 7, none⟩ = some (.string f7) := fun u => Kept.cell_of (HCW.out wr hs 7 _ rfl) u
            have k8 : ∀ u : Kept wr, u.W.cell? ⟨b, o + j * 9 + 8, none⟩ = some (.string f8) := fun u => Kept.cell_of (HCW.out wr hs 8 _ rfl) u
            go_wp2_with fail
            refine wp_region_kept_tail 20 (by kernel_rfl) (by kernel_rfl) ?_
            simp only [List.take_succ_cons, List.take_zero, List.drop_succ_cons, List.drop_zero]
            repeat (go_big_quiet_step (fail))
            refine wpQuiet_nil ?_
            rintro _ ⟨u, rfl⟩
            replace hs := hs.kept u
            have X0 := H0.out.kept u
            have X1 := H1.out.kept u
            clear k1 k2 k3 k4 k5 k6 k7 k8 H0 H1
            generalize u.W = w2 at *
            have KC := HKC.out w2.heap.size
            have BR : Hid (Row (w2.alloc (.cells #[.string f1, .string f2, .string f3, .string f4, .string f5, .string f6, .string f7, .string f8] 42)) (some ⟨w2.heap.size, 0, none⟩) (flatG fcells [⟨f1, f2⟩, ⟨f3, f4⟩, ⟨f5, f6⟩, ⟨f7, f8⟩])) := Row.of (Bx.new w2 #[.string f1, .string f2, .string f3, .string f4, .string f5, .string f6, .string f7, .string f8] 42)
            replace hs := hs.alloc (.cells #[.string f1, .string f2, .string f3, .string f4, .string f5, .string f6, .string f7, .string f8] 42)
            replace X0 := X0.alloc (.cells #[.string f1, .string f2, .string f3, .string f4, .string f5, .string f6, .string f7, .string f8] 42)
            replace X1 := X1.alloc (.cells #[.string f1, .string f2, .string f3, .string f4, .string f5, .string f6, .string f7, .string f8] 42)
            cases ca with
            | false =>
              have e3 := HS3.out
              rw [if_pos rfl] at e3
              have hc := HEK.out (by rw [e3]; decide)
              rw [e3] at hc
              subst hc
              clear HEK HSK HE HZ HSE e3 HS3
              go_wp2_with fail
              refine KC.step hs BR.out ?_
              intro w3 hs hb1
              go_wp2_with fail
              go_ret
              exact ⟨rfl, hs.2⟩
            | true =>
              have e3 := HS3.out
              rw [if_neg (by decide)] at e3
              have HD3 := Lib.hid e3
              clear e3 HS3
              go_wp2_with fail
              refine KC.step hs BR.out ?_
              intro w3 hs hb3
              replace X0 := X0.on hb3
              replace X1 := X1.on hb3
              have k1 : ∀ u : Kept w3, u.W.cell? ⟨b, o + j * 9 + 1, none⟩ = some (.string f1) := fun u => Kept.cell_of (HCW.out w3 hs 1 _ rfl) u
              have k2 : ∀ u : Kept w3, u.W.cell? ⟨b, o + j * 9 + 2, none⟩ = some (.string f2) := fun u => Kept.cell_of (HCW.out w3 hs 2 _ rfl) u
              have k5 : ∀ u : Kept w3, u.W.cell? ⟨b, o + j * 9 + 5, none⟩ = some (.string f5) := fun u => Kept.cell_of (HCW.out w3 hs 5 _ rfl) u
              have k6 : ∀ u : Kept w3, u.W.cell? ⟨b, o + j * 9 + 6, none⟩ = some (.string f6) := fun u => Kept.cell_of (HCW.out w3 hs 6 _ rfl) u
              have k7 := X0.keeps (i := 0) (v := .string sn) rfl
              have k8 := X0.keeps (i := 1) (v := .string sd) rfl
              have k9 := X1.keeps (i := 0) (v := .string tn) rfl
              have k10 := X1.keeps (i := 1) (v := .string td) rfl
              go_wp2_with fail
              refine wp_region_kept_tail 14 (by kernel_rfl) (by kernel_rfl) ?_
              simp only [List.take_succ_cons, List.take_zero, List.drop_succ_cons, List.drop_zero]
              repeat (go_big_quiet_step (first | (with_reducible exact KA1.kept hs) | (with_reducible exact KA2.kept hs)))
              refine wpQuiet_nil ?_
              rintro _ ⟨u, rfl⟩
              have U0 := X0.kept u
              have U1 := X1.kept u
              have u0 := U0.cell (i := 0) (v := .string sn) rfl
              have u1 := U0.cell (i := 1) (v := .string sd) rfl
              have v0 := U0.frozen 0
              have v1 := U0.frozen 1
              have u2' := U1.cell (i := 0) (v := .string tn) rfl
              have u3' := U1.cell (i := 1) (v := .string td) rfl
              have v2 := U1.frozen 0
              have v3 := U1.frozen 1
              go_wp2_with fail
              go_roundw
              case rel =>
                refine ⟨j + 1, by omega, by go_num, ((((hs.kept u).set (b := w.heap.size) (Nat.le_refl _) 0 (.string xn)).set (b := w.heap.size) (Nat.le_refl _) 1 (.string xd)).set (b := w.heap.size + 1) (by omega) 0 (.string yn)).set (b := w.heap.size + 1) (by omega) 1 (.string yd), ?_, ?_, fun i hi => ?_⟩
                · show Bx _ _ _
                  rw [HXN.out, HXD.out]
                  exact (((U0.set 0 (.string xn)).set 1 (.string xd)).other (by omega) 0 (.string yn)).other (by omega) 1 (.string yd)
                · show Bx _ _ _
                  rw [HYN.out, HYD.out]
                  exact (((U1.other (by omega) 0 (.string xn)).other (by omega) 1 (.string xd)).set 0 (.string yn)).set 1 (.string yd)
                · by_cases e : i = j
                  · subst e; exact HD3.out
                  · exact HP.out i (by omega)
              case measure => simp [intOf]; omega
          · have hjl : j < k := by omega
            have qj : decide ((j : Int) < (k : Int)) = true := decide_eq_true (by omega)
            have qjn : decide (j < k) = true := decide_eq_true hjl
            have qjm : decide ((j : Int) < (n : Int)) = true := decide_eq_true (by omega)
            have qjmn : decide (j < n) = true := decide_eq_true (by omega)
            obtain ⟨t, ht⟩ : ∃ d, l[j]? = some d := ⟨l[j]'(by have := HN.out; omega), by simp⟩
            have x0 := HCW.out wr hs 0 _ rfl
            have y0 := HNMS.out j t hjl ht wr hs
            have HT := Lib.hid ht
            clear ht hjk
            obtain ⟨m, hm⟩ : ∃ m, t.nm = m := ⟨_, rfl⟩
            have HM := Lib.hid hm
            rw [hm] at y0
            clear hm
            have kx0 : ∀ u : Kept wr, u.W.cell? ⟨b, o + k * 9, none⟩ = some (.string f0) := fun u => Kept.cell_of x0 u
            have ky0 : ∀ u : Kept wr, u.W.cell? ⟨b, o + j * 9, none⟩ = some (.string m) := fun u => Kept.cell_of y0 u
            clear x0 y0
            obtain ⟨tb, htb⟩ : ∃ tb, (m.toList == f0.toList) = tb := ⟨_, rfl⟩
            have HTB : Hid (eqB t.nm f0 = tb) := by show _ = _; rw [HM.out]; exact htb
            cases tb with
            | true =>
              have han : (l.take k).any (fun t => eqB t.nm f0) = true := by
                cases h : (l.take k).any (fun t => eqB t.nm f0) with
                | true => rfl
                | false =>
                  have := any_take.1 h j t hjl HT.out
                  exact absurd (eqB_iff.1 HTB.out) this
              have e3 := HSK.out
              rw [if_neg (by decide), if_pos han] at e3
              have hc := HEK.out (by rw [e3]; decide)
              rw [e3] at hc
              subst hc
              clear HEK HSK HE HZ HSE e3 han
              go_wp2_with fail
              refine wp_region_kept (by kernel_rfl) (by kernel_rfl) ?_
              repeat (go_big_quiet_step (fail))
              refine wpQuiet_nil ?_
              rintro _ ⟨u, rfl⟩
              go_wp2_with fail
              go_ret
              exact ⟨rfl, (hs.kept u).2⟩
            | false =>
              go_wp2_with fail
              refine wp_region_kept (by kernel_rfl) (by kernel_rfl) ?_
              repeat (go_big_quiet_step (fail))
              refine wpQuiet_nil ?_
              rintro _ ⟨u, rfl⟩
              go_wp2_with fail
              go_roundw
              case rel =>
                refine ⟨j + 1, by omega, by go_num, hs.kept u, H0.out.kept u, H1.out.kept u, fun i hi t2 ht2 => ?_⟩
                by_cases e : i = j
                · subst e
                  rw [HT.out] at ht2
                  cases ht2
                  exact HTB.out
                · exact HQ.out i (by omega) t2 ht2
              case measure => simp [intOf]; omega
theorem rscheck_any {A : Option Addr} {n c k0 : Nat} {l : List SecS} (hn : l.length = n) (hl : 32 < n ∨ FewS k0 l) : RetI (fun w => Row w A (flatG scells l)) 38 #[.slice A n c] (.int .i64 (chkS l)) := by
  rcases hl with h | h
  · have e : chkS l = 4 := by unfold chkS; rw [if_neg (by omega), if_pos (by omega)]
    rw [e]
    exact (rscheck_far h).i _
  · by_cases h0 : n = 0
    · subst h0
      have e : chkS l = 11 := by unfold chkS; rw [if_pos hn]
      rw [e]
      exact rscheck_nil.i _
    · exact rscheck_few hn h (by omega)
end Go.Proofs.YtndkglmokhndnaaGreatDoor
namespace Go.Proofs.YtndkglmokhndnaaGreatDoor
open Go.RowKit Go.Shelf Dec QQ

def ownP (s : SecS) : Rat := s.w * s.r
def benP (s : SecS) : Rat := s.v * s.b
theorem ownP_fit {k0 : Nat} {l : List SecS} (h : FewS k0 l) (k : Nat) : FitQ (5 * (2 * k0 + 1) + 1) (sumQ ownP (l.take k)) ∧ FitQ (5 * (2 * k0 + 1) + 1) (sumQ benP (l.take k)) :=
  ⟨FitQ.sum_take (k := 2 * k0) (n := 5) (fun a ha => ((h.fit ha).1.mul (h.fit ha).2.1).mono (by omega)) h.1 (by omega) k, FitQ.sum_take (k := 2 * k0) (n := 5) (fun a ha => ((h.fit ha).2.2.1.mul (h.fit ha).2.2.2).mono (by omega)) h.1 (by omega) k⟩
set_option maxRecDepth 100000 in
set_option maxHeartbeats 4000000 in
theorem rReturn_any {A : Option Addr} {n c k0 : Nat} {l : List SecS} (hn : l.length = n) (hl : 32 < n ∨ FewS k0 l) (hk0 : k0 ≤ 400) : RetI (fun w => Row w A (flatG scells l)) 35 #[.slice A n c] (.tuple #[FR (retOwn l), FR (retBen l), .int .i64 (chkS l)]) := by
  intro w hg hi
  have hs := ((St.refl hg).alloc (.cells #[.string ⟨#[]⟩, .string ⟨#[]⟩] 42)).alloc (.cells #[.string ⟨#[]⟩, .string ⟨#[]⟩] 42)
  have X0 := ((Bx.new w #[.string ⟨#[]⟩, .string ⟨#[]⟩] 42).alloc (.cells #[.string ⟨#[]⟩, .string ⟨#[]⟩] 42))
  have X1 := (Bx.new1 w (.cells #[.string ⟨#[]⟩, .string ⟨#[]⟩] 42) #[.string ⟨#[]⟩, .string ⟨#[]⟩] 42)
  have K1 := rscheck_any (A := A) (c := c) hn hl
  have Hi := Lib.hid hi
  have e1 : retOwn l = if chkS l = 0 then ownQ l else 0 := rfl
  have e2 : retBen l = if chkS l = 0 then benQ l else 0 := rfl
  by_cases h : chkS l = 0
  · have hf : FewS k0 l := by
      rcases hl with h32 | h5
      · unfold chkS at h; rw [if_neg (by omega), if_pos (by omega)] at h; cases h
      · exact h5
    rw [if_pos h] at e1 e2
    rw [h] at K1 ⊢
    rw [e1, e2]
    have HOQ : Hid (ownQ l = sumQ ownP l ∧ benQ l = sumQ benP l) := ⟨rfl, rfl⟩
    unfold FR
    obtain ⟨an, han⟩ : ∃ x, frN (ownQ l) = x := ⟨_, rfl⟩
    obtain ⟨ad, had⟩ : ∃ x, frD (ownQ l) = x := ⟨_, rfl⟩
    obtain ⟨bn, hbn⟩ : ∃ x, frN (benQ l) = x := ⟨_, rfl⟩
    obtain ⟨bd, hbd⟩ : ∃ x, frD (benQ l) = x := ⟨_, rfl⟩
    rw [han, had, hbn, hbd]
    have HAN := Lib.hid han
    have HAD := Lib.hid had
    have HBN := Lib.hid hbn
    have HBD := Lib.hid hbd
    have h5 : n ≤ 5 := by have := hf.1; omega
    have HN := Lib.hid hn
    have HL := Lib.hid hf
    clear hn hl hi e1 e2 h han had hbn hbd hf
    go_enter Tryz.func35, Tryz.ntmps35
    go_wp2_with fail
    refine K1.step hs (Hi.out.on hs.2) ?_
    intro w1 hs hb1
    replace X0 := X0.on hb1
    replace X1 := X1.on hb1
    have hz0 := X1.lt
    go_wp2_with fail
    have HB0 : Hid (Bx ((w1.alloc (.cells #[.string ⟨#[]⟩, .string ⟨#[]⟩] 42)).alloc (.cells #[.string ⟨#[]⟩, .string ⟨#[]⟩] 42)) w1.heap.size #[.string (frN (sumQ ownP (l.take 0))), .string (frD (sumQ ownP (l.take 0)))]) := by
      show Bx _ _ _
      rw [List.take_zero, show sumQ ownP [] = 0 from rfl, frN_zero, frD_zero]
      exact (Bx.new w1 #[.string ⟨#[]⟩, .string ⟨#[]⟩] 42).alloc (.cells #[.string ⟨#[]⟩, .string ⟨#[]⟩] 42)
    have HB1 : Hid (Bx ((w1.alloc (.cells #[.string ⟨#[]⟩, .string ⟨#[]⟩] 42)).alloc (.cells #[.string ⟨#[]⟩, .string ⟨#[]⟩] 42)) (w1.heap.size + 1) #[.string (frN (sumQ benP (l.take 0))), .string (frD (sumQ benP (l.take 0)))]) := by
      show Bx _ _ _
      rw [List.take_zero, show sumQ benP [] = 0 from rfl, frN_zero, frD_zero]
      exact Bx.new1 w1 (.cells #[.string ⟨#[]⟩, .string ⟨#[]⟩] 42) #[.string ⟨#[]⟩, .string ⟨#[]⟩] 42
    have HX0 := Lib.hid ((X0.alloc (.cells #[.string ⟨#[]⟩, .string ⟨#[]⟩] 42)).alloc (.cells #[.string ⟨#[]⟩, .string ⟨#[]⟩] 42))
    have HX1 := Lib.hid ((X1.alloc (.cells #[.string ⟨#[]⟩, .string ⟨#[]⟩] 42)).alloc (.cells #[.string ⟨#[]⟩, .string ⟨#[]⟩] 42))
    have hs2 := (hs.alloc (.cells #[.string ⟨#[]⟩, .string ⟨#[]⟩] 42)).alloc (.cells #[.string ⟨#[]⟩, .string ⟨#[]⟩] 42)
    have hsz : w.heap.size + 1 < w1.heap.size := hz0
    clear hs X0 X1 hb1 hz0
    generalize (w1.alloc (.cells #[.string ⟨#[]⟩, .string ⟨#[]⟩] 42)).alloc (.cells #[.string ⟨#[]⟩, .string ⟨#[]⟩] 42) = w2 at *
    generalize w1.heap.size = b2 at *
    go_loopw [8] (fun s wr => ∃ k : Nat, k ≤ n ∧ s = .int .i64 (k : Int) ∧ St w wr ∧ Hid (Bx wr w.heap.size #[.string ⟨#[]⟩, .string ⟨#[]⟩]) ∧ Hid (Bx wr (w.heap.size + 1) #[.string ⟨#[]⟩, .string ⟨#[]⟩]) ∧ Hid (Bx wr b2 #[.string (frN (sumQ ownP (l.take k))), .string (frD (sumQ ownP (l.take k)))]) ∧ Hid (Bx wr (b2 + 1) #[.string (frN (sumQ benP (l.take k))), .string (frD (sumQ benP (l.take k)))])) (fun s _ => (n - intOf s).toNat)
    case atStart => exact ⟨0, by omega, rfl, hs2, HX0, HX1, HB0, HB1⟩
    case round =>
      obtain ⟨k, hk, rfl, hs, H0, H1, H2, H3⟩ := hrel
      by_cases hkn : k = n
      · subst hkn
        have q : decide ((k : Int) < (k : Int)) = false := decide_eq_false (by omega)
        have X0 := H0.out
        have X1 := H1.out
        have X2 := H2.out
        have X3 := H3.out
        rw [List.take_of_length_le (by have := HN.out; omega), ← HOQ.out.1, HAN.out, HAD.out] at X2
        rw [List.take_of_length_le (by have := HN.out; omega), ← HOQ.out.2, HBN.out, HBD.out] at X3
        have k0 := X2.cell (i := 0) (v := .string an) rfl
        have k1 := X2.cell (i := 1) (v := .string ad) rfl
        have k2 := X3.cell (i := 0) (v := .string bn) rfl
        have k3 := X3.cell (i := 1) (v := .string bd) rfl
        have e0 := X0.cell (i := 0) (v := .string ⟨#[]⟩) rfl
        have e1 := X0.cell (i := 1) (v := .string ⟨#[]⟩) rfl
        have g0 := X0.frozen 0
        have g1 := X0.frozen 1
        have e2 := X1.cell (i := 0) (v := .string ⟨#[]⟩) rfl
        have e3 := X1.cell (i := 1) (v := .string ⟨#[]⟩) rfl
        have g2 := X1.frozen 0
        have g3 := X1.frozen 1
        have n1 : ¬ b2 = w.heap.size := by omega
        have n2 : ¬ w.heap.size = b2 := by omega
        have n3 : ¬ b2 + 1 = w.heap.size := by omega
        have n4 : ¬ w.heap.size = b2 + 1 := by omega
        have n5 : ¬ b2 = w.heap.size + 1 := by omega
        have n6 : ¬ w.heap.size + 1 = b2 := by omega
        clear H0 H1 H2 H3
        go_wp2_with fail
        go_region
        all_goals
          go_wp2_with fail
          obtain ⟨W, hW, y0, y1, y2, y3, hbe⟩ := ret_frac2 hs (Nat.le_refl _) (by omega) (by omega) X0 X1 an ad bn bd
          rw [hW]
          exact bodyPost_ret (v := .tuple #[.agg #[.string an, .string ad], .agg #[.string bn, .string bd], .int .i64 0]) (by simp [results, Tryz.results35, go_sem, y0, y1, y2, y3]) rfl ⟨rfl, hbe.drew⟩
      · have hkl : k < n := by omega
        have q : decide ((k : Int) < (n : Int)) = true := decide_eq_true (by omega)
        have qn : decide (k < n) = true := decide_eq_true hkl
        obtain ⟨d, hd⟩ : ∃ d, l[k]? = some d := ⟨l[k]'(by rw [HN.out]; exact hkl), by simp⟩
        obtain ⟨b, o, hA, hb, hcells⟩ := row_at (cs := scells) (m := 9) scells_len (by decide) Hi.out hd
        have hdz := HL.out.2.2.2 d (List.mem_of_getElem? hd)
        have hf := HL.out.fit (List.mem_of_getElem? hd)
        have zm1 := FitQ.sizes (hf.1.mul hf.2.1)
        have zm2 := FitQ.sizes (hf.2.2.1.mul hf.2.2.2)
        have zs1 := FitQ.sizes (ownP_fit HL.out k).1
        have zs2 := FitQ.sizes (ownP_fit HL.out k).2
        unfold SecS.le at hdz
        have KM1 := rmul_r (a := d.wn) (b := d.wd) (c := d.rn) (d := d.rd) (by omega) (by omega) (by omega) (by omega)
        have KM2 := rmul_r (a := d.vn) (b := d.vd) (c := d.bn) (d := d.bd) (by omega) (by omega) (by omega) (by omega)
        change Ret _ _ (FR (ownP d)) at KM1
        change Ret _ _ (FR (benP d)) at KM2
        have KA1 := radd_r (a := frN (sumQ ownP (l.take k))) (b := frD (sumQ ownP (l.take k))) (c := frN (ownP d)) (d := frD (ownP d)) (by omega) (by omega) (by have : ownP d = d.w * d.r := rfl; rw [this]; omega) (by have : ownP d = d.w * d.r := rfl; rw [this]; omega)
        have KA2 := radd_r (a := frN (sumQ benP (l.take k))) (b := frD (sumQ benP (l.take k))) (c := frN (benP d)) (d := frD (benP d)) (by omega) (by omega) (by have : benP d = d.v * d.b := rfl; rw [this]; omega) (by have : benP d = d.v * d.b := rfl; rw [this]; omega)
        rw [ratV_fr, ratV_fr, ← sumQ_take hd] at KA1 KA2
        unfold FR at KM1 KM2 KA1 KA2
        unfold FV at KM1 KM2 KA1 KA2
        subst hA
        clear hdz hf zm1 zm2 zs1 zs2 hkn hd
        obtain ⟨xn, hxn⟩ : ∃ x, frN (sumQ ownP (l.take (k + 1))) = x := ⟨_, rfl⟩
        obtain ⟨xd, hxd⟩ : ∃ x, frD (sumQ ownP (l.take (k + 1))) = x := ⟨_, rfl⟩
        obtain ⟨yn, hyn⟩ : ∃ x, frN (sumQ benP (l.take (k + 1))) = x := ⟨_, rfl⟩
        obtain ⟨yd, hyd⟩ : ∃ x, frD (sumQ benP (l.take (k + 1))) = x := ⟨_, rfl⟩
        have HXN := Lib.hid hxn
        have HXD := Lib.hid hxd
        have HYN := Lib.hid hyn
        have HYD := Lib.hid hyd
        rw [hxn, hxd] at KA1
        rw [hyn, hyd] at KA2
        clear hxn hxd hyn hyd
        have B2 := H2.out
        have B3 := H3.out
        generalize frN (sumQ ownP (l.take k)) = sn at *
        generalize frD (sumQ ownP (l.take k)) = sd at *
        generalize frN (sumQ benP (l.take k)) = tn at *
        generalize frD (sumQ benP (l.take k)) = td at *
        generalize frN (ownP d) = p1 at *
        generalize frD (ownP d) = p2 at *
        generalize frN (benP d) = p3 at *
        generalize frD (benP d) = p4 at *
        have HCW : Hid (∀ W, St w W → ∀ t v, (scells d)[t]? = some v → W.cell? ⟨b, o + k * 9 + t, none⟩ = some v) := fun W hW t v h => by
          have := (hW.2.cell (p := ⟨b, o + (k * 9 + t), none⟩) hb).trans (hcells t v h)
          rwa [show o + (k * 9 + t) = o + k * 9 + t by omega] at this
        clear hcells
        obtain ⟨f0, f1, f2, f3, f4, f5, f6, f7, f8⟩ := d
        dsimp only at KM1 KM2
        have k1 : ∀ u : Kept wr, u.W.cell? ⟨b, o + k * 9 + 1, none⟩ = some (.string f1) := fun u => Kept.cell_of (HCW.out wr hs 1 _ rfl) u
        have k2 : ∀ u : Kept wr, u.W.cell? ⟨b, o + k * 9 + 2, none⟩ = some (.string f2) := fun u => Kept.cell_of (HCW.out wr hs 2 _ rfl) u
        have k3 : ∀ u : Kept wr, u.W.cell? ⟨b, o + k * 9 + 3, none⟩ = some (.string f3) := fun u => Kept.cell_of (HCW.out wr hs 3 _ rfl) u
        have k4 : ∀ u : Kept wr, u.W.cell? ⟨b, o + k * 9 + 4, none⟩ = some (.string f4) := fun u => Kept.cell_of (HCW.out wr hs 4 _ rfl) u
        have k7 := B2.keeps (i := 0) (v := .string sn) rfl
        have k8 := B2.keeps (i := 1) (v := .string sd) rfl
        go_wp2_with fail
        refine wp_region_kept_tail 13 (by kernel_rfl) (by kernel_rfl) ?_
        simp only [List.take_succ_cons, List.take_zero, List.drop_succ_cons, List.drop_zero]
        repeat (go_big_quiet_step (first | (with_reducible exact KM1.kept hs) | (with_reducible exact KA1.kept hs)))
        refine wpQuiet_nil ?_
        rintro _ ⟨u, rfl⟩
        have U2 := B2.kept u
        have U3 := B3.kept u
        have V0 := H0.out.kept u
        have V1 := H1.out.kept u
        have u0 := U2.cell (i := 0) (v := .string sn) rfl
        have u1 := U2.cell (i := 1) (v := .string sd) rfl
        have v0 := U2.frozen 0
        have v1 := U2.frozen 1
        clear k1 k2 k3 k4 k7 k8
        go_wp2_with fail
        have hsY := ((hs.kept u).set (b := b2) (by omega) 0 (.string xn)).set (b := b2) (by omega) 1 (.string xd)
        have Y2 : Bx ((u.W.setCell ⟨b2, 0, none⟩ (.string xn)).setCell ⟨b2, 1, none⟩ (.string xd)) b2 #[.string xn, .string xd] := (U2.set 0 (.string xn)).set 1 (.string xd)
        have Y3 : Bx ((u.W.setCell ⟨b2, 0, none⟩ (.string xn)).setCell ⟨b2, 1, none⟩ (.string xd)) (b2 + 1) #[.string tn, .string td] := (U3.other (by omega) 0 (.string xn)).other (by omega) 1 (.string xd)
        have Y0 := (V0.other (c := b2) (by omega) 0 (.string xn)).other (c := b2) (by omega) 1 (.string xd)
        have Y1 := (V1.other (c := b2) (by omega) 0 (.string xn)).other (c := b2) (by omega) 1 (.string xd)
        clear u0 u1 v0 v1 U2 U3 V0 V1 H0 H1 H2 H3 B2 B3 hs KM1 KA1
        generalize (u.W.setCell ⟨b2, 0, none⟩ (.string xn)).setCell ⟨b2, 1, none⟩ (.string xd) = W4 at *
        have k5 : ∀ u : Kept W4, u.W.cell? ⟨b, o + k * 9 + 5, none⟩ = some (.string f5) := fun u => Kept.cell_of (HCW.out W4 hsY 5 _ rfl) u
        have k6 : ∀ u : Kept W4, u.W.cell? ⟨b, o + k * 9 + 6, none⟩ = some (.string f6) := fun u => Kept.cell_of (HCW.out W4 hsY 6 _ rfl) u
        have k7 : ∀ u : Kept W4, u.W.cell? ⟨b, o + k * 9 + 7, none⟩ = some (.string f7) := fun u => Kept.cell_of (HCW.out W4 hsY 7 _ rfl) u
        have k8 : ∀ u : Kept W4, u.W.cell? ⟨b, o + k * 9 + 8, none⟩ = some (.string f8) := fun u => Kept.cell_of (HCW.out W4 hsY 8 _ rfl) u
        have k9 := Y3.keeps (i := 0) (v := .string tn) rfl
        have k10 := Y3.keeps (i := 1) (v := .string td) rfl
        refine wp_region_kept_tail 13 (by kernel_rfl) (by kernel_rfl) ?_
        simp only [List.take_succ_cons, List.take_zero, List.drop_succ_cons, List.drop_zero]
        repeat (go_big_quiet_step (first | (with_reducible exact KM2.kept hsY) | (with_reducible exact KA2.kept hsY)))
        refine wpQuiet_nil ?_
        rintro _ ⟨u2, rfl⟩
        have U3 := Y3.kept u2
        have u0 := U3.cell (i := 0) (v := .string tn) rfl
        have u1 := U3.cell (i := 1) (v := .string td) rfl
        have v0 := U3.frozen 0
        have v1 := U3.frozen 1
        go_wp2_with fail
        go_roundw
        case rel =>
          refine ⟨k + 1, by omega, by go_num, ((hsY.kept u2).set (b := b2 + 1) (by omega) 0 (.string yn)).set (b := b2 + 1) (by omega) 1 (.string yd), ((Y0.kept u2).other (by omega) 0 (.string yn)).other (by omega) 1 (.string yd), ((Y1.kept u2).other (by omega) 0 (.string yn)).other (by omega) 1 (.string yd), ?_, ?_⟩
          · show Bx _ _ _
            rw [HXN.out, HXD.out]
            exact ((Y2.kept u2).other (by omega) 0 (.string yn)).other (by omega) 1 (.string yd)
          · show Bx _ _ _
            rw [HYN.out, HYD.out]
            exact (U3.set 0 (.string yn)).set 1 (.string yd)
        case measure => simp [intOf]; omega
  · rw [if_neg h] at e1 e2
    rw [e1, e2]
    unfold FR
    rw [frN_zero, frD_zero]
    have q : (chkS l != 0) = true := by simpa using h
    generalize chkS l = ch at *
    clear hn hl hi e1 e2 h
    go_enter Tryz.func35, Tryz.ntmps35
    go_wp2_with fail
    refine K1.step hs (Hi.out.on hs.2) ?_
    intro w1 hs hb1
    replace X0 := X0.on hb1
    replace X1 := X1.on hb1
    have e0 := X0.cell (i := 0) (v := .string ⟨#[]⟩) rfl
    have e1 := X0.cell (i := 1) (v := .string ⟨#[]⟩) rfl
    have g0 := X0.frozen 0
    have g1 := X0.frozen 1
    have e2 := X1.cell (i := 0) (v := .string ⟨#[]⟩) rfl
    have e3 := X1.cell (i := 1) (v := .string ⟨#[]⟩) rfl
    have g2 := X1.frozen 0
    have g3 := X1.frozen 1
    go_wp2_with fail
    obtain ⟨W, hW, y0, y1, y2, y3, hbe⟩ := ret_frac2 hs (Nat.le_refl _) (by omega) (by omega) X0 X1 ⟨#[]⟩ ⟨#[]⟩ ⟨#[]⟩ ⟨#[]⟩
    rw [hW]
    exact bodyPost_ret (v := .tuple #[.agg #[.string ⟨#[]⟩, .string ⟨#[]⟩], .agg #[.string ⟨#[]⟩, .string ⟨#[]⟩], .int .i64 ch]) (by simp [results, Tryz.results35, go_sem, y0, y1, y2, y3]) rfl ⟨rfl, hbe⟩
end Go.Proofs.YtndkglmokhndnaaGreatDoor
namespace Go.Proofs.YtndkglmokhndnaaGreatDoor
open Go.RowKit Go.Shelf Dec QQ

theorem partS_cells (B : Rat) (d : SecS) : pcells (partS B d) = [.string d.nm, .string (frN ((d.w - d.v) * (d.b - B))), .string (frD ((d.w - d.v) * (d.b - B))), .string (frN (d.v * (d.r - d.b))), .string (frD (d.v * (d.r - d.b))), .string (frN ((d.w - d.v) * (d.r - d.b))), .string (frD ((d.w - d.v) * (d.r - d.b)))] := rfl
theorem partsL_at {l : List SecS} {k : Nat} {d : SecS} (h : l[k]? = some d) : (partsL l)[k]? = some (partS (benQ l) d) := by unfold partsL; rw [List.getElem?_map, h]; rfl
set_option maxRecDepth 100000 in
set_option maxHeartbeats 4000000 in
theorem rparts_few {A : Option Addr} {n c k0 : Nat} {l : List SecS} (hn : l.length = n) (hl : FewS k0 l) (hk0 : k0 ≤ 100) (h : chkS l = 0) (w : World) (hg : Gl w) (hr : Row w A (flatG scells l)) :
    Calls Tryz.prog 36 #[.slice A n c] w fun e w' => ∃ v, e = .returned (.tuple #[v, .int .i64 0]) ∧ OutG pcells 52 7 w.heap.size w' v n (partsL l) ∧ Below w.heap.size w w' := by
  have hs := St.refl hg
  have KR := rReturn_any (A := A) (c := c) hn (.inr hl) (by omega)
  rw [show retOwn l = ownQ l from if_pos h, show retBen l = benQ l from if_pos h, h] at KR
  have HBQ : Hid (FitQ (5 * (2 * k0 + 1) + 1) (benQ l)) := (hl.q).2.2.2
  have HPA : Hid (∀ k d, l[k]? = some d → (partsL l)[k]? = some (partS (benQ l) d)) := fun k d h => partsL_at h
  have HPL : Hid ((partsL l).length = n) := by show _ = _; unfold partsL; rw [List.length_map]; exact hn
  have HPT : Hid (∀ s ∈ l, FitQ (2 * k0 + 1) (s.w - s.v) ∧ FitQ (2 * k0 + 1) (s.r - s.b) ∧ FitQ (k0 + (5 * (2 * k0 + 1) + 1) + 1) (s.b - benQ l)) := fun s hs => by
    have f := hl.fit hs
    exact ⟨(f.1.sub f.2.2.1).mono (by omega), (f.2.1.sub f.2.2.2).mono (by omega), f.2.2.2.sub hl.q.2.2.2⟩
  have h5 : n ≤ 5 := by have := hl.1; omega
  have HN := Lib.hid hn
  have HL := Lib.hid hl
  have HR := Lib.hid hr
  unfold FR at KR
  clear hn hl hr h
  generalize partsL l = PL at *
  generalize benQ l = B at *
  generalize frN (ownQ l) = an at *
  generalize frD (ownQ l) = ad at *
  obtain ⟨bn, hbn⟩ : ∃ x, frN B = x := ⟨_, rfl⟩
  obtain ⟨bd, hbd⟩ : ∃ x, frD B = x := ⟨_, rfl⟩
  have HBN := Lib.hid hbn
  have HBD := Lib.hid hbd
  rw [hbn, hbd] at KR
  clear hbn hbd
  go_enter Tryz.func36, Tryz.ntmps36
  go_wp2_with fail
  refine KR.step hs HR.out ?_
  intro w1 hs hb1
  go_wp2_with fail
  have XB := Bx.new1 w1 (.cells #[.string an, .string ad] 42) #[.string bn, .string bd] 42
  have hwb : w.heap.size ≤ w1.heap.size := hb1.size
  replace hs := (hs.alloc (.cells #[.string an, .string ad] 42)).alloc (.cells #[.string bn, .string bd] 42)
  have HXB := Lib.hid XB
  have HOW : Hid (World.ownsRow ((w1.alloc (.cells #[.string an, .string ad] 42)).alloc (.cells #[.string bn, .string bd] 42)) (w1.heap.size + 2) 52 7 (.slice none 0 0) 0 (flatG pcells (PL.take 0))) := World.ownsRow_nil _ _ _ _
  clear XB hb1
  generalize (w1.alloc (.cells #[.string an, .string ad] 42)).alloc (.cells #[.string bn, .string bd] 42) = w2 at *
  generalize w1.heap.size = bA at *
  go_loopw [8, 7] (fun s v wr => ∃ k : Nat, k ≤ n ∧ s = .int .i64 (k : Int) ∧ St w wr ∧ Hid (Bx wr (bA + 1) #[.string bn, .string bd]) ∧ Hid (wr.ownsRow (bA + 2) 52 7 v k (flatG pcells (PL.take k)))) (fun s _ _ => (n - intOf s).toNat)
  case atStart => exact ⟨0, by omega, rfl, hs, HXB, HOW⟩
  case round =>
    obtain ⟨k, hk, rfl, hs, HX, HO⟩ := hrel
    by_cases hkn : k = n
    · subst hkn
      have q : decide ((k : Int) < (k : Int)) = false := decide_eq_false (by omega)
      have HDT : Hid (PL.take k = PL) := List.take_of_length_le (Nat.le_of_eq HPL.out)
      rw [HDT.out] at HO
      go_wp2_with fail
      go_ret2
      exact ⟨_, rfl, ⟨HPL.out, own_low HO.out (by omega)⟩, hs.2⟩
    · have hkl : k < n := by omega
      have q : decide ((k : Int) < (n : Int)) = true := decide_eq_true (by omega)
      have qn : decide (k < n) = true := decide_eq_true hkl
      obtain ⟨d, hd⟩ : ∃ d, l[k]? = some d := ⟨l[k]'(by rw [HN.out]; exact hkl), by simp⟩
      obtain ⟨b, o, hA, hb, hcells⟩ := row_at (cs := scells) (m := 9) scells_len (by decide) HR.out hd
      have hdz := HL.out.2.2.2 d (List.mem_of_getElem? hd)
      have hp := HPT.out d (List.mem_of_getElem? hd)
      have z1 := FitQ.sizes hp.1
      have z2 := FitQ.sizes hp.2.1
      have z3 := FitQ.sizes hp.2.2
      have zb := FitQ.sizes HBQ.out
      rw [HBN.out, HBD.out] at zb
      unfold SecS.le at hdz
      have KS1 := rsub_r (a := d.wn) (b := d.wd) (c := d.vn) (d := d.vd) (by omega) (by omega) (by omega) (by omega)
      have KS2 := rsub_r (a := d.rn) (b := d.rd) (c := d.bn) (d := d.bd) (by omega) (by omega) (by omega) (by omega)
      have KS3 := rsub_r (a := d.bn) (b := d.bd) (c := bn) (d := bd) (by omega) (by omega) (by omega) (by omega)
      rw [show ratV bn bd = B by rw [← HBN.out, ← HBD.out, ratV_fr]] at KS3
      change Ret _ _ (FR (d.w - d.v)) at KS1
      change Ret _ _ (FR (d.r - d.b)) at KS2
      change Ret _ _ (FR (d.b - B)) at KS3
      have KM1 := rmul_r (a := frN (d.w - d.v)) (b := frD (d.w - d.v)) (c := frN (d.b - B)) (d := frD (d.b - B)) (by omega) (by omega) (by omega) (by omega)
      have KM2 := rmul_r (a := d.vn) (b := d.vd) (c := frN (d.r - d.b)) (d := frD (d.r - d.b)) (by omega) (by omega) (by omega) (by omega)
      have KM3 := rmul_r (a := frN (d.w - d.v)) (b := frD (d.w - d.v)) (c := frN (d.r - d.b)) (d := frD (d.r - d.b)) (by omega) (by omega) (by omega) (by omega)
      rw [ratV_fr, ratV_fr] at KM1 KM3
      rw [ratV_fr] at KM2
      change Ret _ _ (FR (d.v * (d.r - d.b))) at KM2
      have HDK := Lib.hid (HPA.out k d hd)
      have HSC := Lib.hid (partS_cells B d)
      subst hA
      unfold FR at KS1 KS2 KS3 KM1 KM2 KM3
      unfold FV at KS1 KS2 KS3 KM1 KM2 KM3
      clear hd hkn hdz hp z1 z2 z3 zb
      generalize partS B d = D at *
      generalize frN (d.w - d.v) = wn1 at *
      generalize frD (d.w - d.v) = wd1 at *
      generalize frN (d.r - d.b) = rn1 at *
      generalize frD (d.r - d.b) = rd1 at *
      generalize frN (d.b - B) = gn1 at *
      generalize frD (d.b - B) = gd1 at *
      generalize frN ((d.w - d.v) * (d.b - B)) = pa at *
      generalize frD ((d.w - d.v) * (d.b - B)) = pb at *
      generalize frN (d.v * (d.r - d.b)) = pc at *
      generalize frD (d.v * (d.r - d.b)) = pd at *
      generalize frN ((d.w - d.v) * (d.r - d.b)) = pe at *
      generalize frD ((d.w - d.v) * (d.r - d.b)) = pf at *
      have HCW : Hid (∀ W, St w W → ∀ t v, (scells d)[t]? = some v → W.cell? ⟨b, o + k * 9 + t, none⟩ = some v) := fun W hW t v h => by
        have := (hW.2.cell (p := ⟨b, o + (k * 9 + t), none⟩) hb).trans (hcells t v h)
        rwa [show o + (k * 9 + t) = o + k * 9 + t by omega] at this
      clear hcells
      obtain ⟨f0, f1, f2, f3, f4, f5, f6, f7, f8⟩ := d
      dsimp only at KS1 KS2 KS3 KM2 HSC
      have HTK : Hid (flatG pcells (PL.take (k + 1)) = flatG pcells (PL.take k) ++ [.string f0, .string pa, .string pb, .string pc, .string pd, .string pe, .string pf]) := by
        show _ = _
        rw [List.take_add_one, HDK.out, Option.toList_some, flatG_snoc, HSC.out]
      clear HDK HSC
      have HNZ0 := Lib.hid (fun g hg => HO.out.lt g hg : ∀ g, u7.ownBlock = some g → bA + 2 ≤ g ∧ g < wr.heap.size)
      have ltX := HX.out.lt
      go_wp2_with fail
      refine wp_region_fresh1 12 11 9 #[.string ⟨#[]⟩, .string ⟨#[]⟩] (by kernel_rfl) (by kernel_rfl) (by kernel_rfl) (by omega) rfl (by kernel_rfl) ⟨_, 9, _, rfl, rfl, rfl, fun _ _ => by simp [execOp, go_sem, ptrTo]; rfl⟩ ?_
      apply Exists.intro
      refine ⟨fun S W hne hk hcl => ?_, ?_⟩
      · simp only [List.take_succ_cons, List.take_zero, quietL, List.mem_cons, List.not_mem_nil, or_false, Nat.reduceAdd, Nat.reduceEqDiff, reduceIte, Nat.zero_add]
        have kk0 : ∀ u, (W u).cell? ⟨b, o + k * 9 + 1, none⟩ = some (.string f1) := fun u => HCW.out (W u) (hs.on (hk u)) 1 _ rfl
        have kk1 : ∀ u, (W u).cell? ⟨b, o + k * 9 + 2, none⟩ = some (.string f2) := fun u => HCW.out (W u) (hs.on (hk u)) 2 _ rfl
        have kk2 : ∀ u, (W u).cell? ⟨b, o + k * 9 + 5, none⟩ = some (.string f5) := fun u => HCW.out (W u) (hs.on (hk u)) 5 _ rfl
        have kk3 : ∀ u, (W u).cell? ⟨b, o + k * 9 + 6, none⟩ = some (.string f6) := fun u => HCW.out (W u) (hs.on (hk u)) 6 _ rfl
        repeat (go_big_quiet_step (first | (with_reducible exact KS1.fresh hs hk hcl)))
        exact wpQuiet_nil rfl
      intro b9 v1 hb9 hv1 hx9
      simp only [List.drop_succ_cons, List.drop_zero, ptrTo]
      have c0 := hx9.cell (i := 0) (v := .string ⟨#[]⟩) rfl
      have c1 := hx9.cell (i := 1) (v := .string ⟨#[]⟩) rfl
      have cf0 := hx9.frozen 0
      have cf1 := hx9.frozen 1
      go_wp2_with fail
      have X9 : Bx ((v1.setCell ⟨b9, 0, none⟩ (.string wn1)).setCell ⟨b9, 1, none⟩ (.string wd1)) b9 #[.string wn1, .string wd1] := (hx9.set 0 (.string wn1)).set 1 (.string wd1)
      have low9 : Below wr.heap.size wr ((v1.setCell ⟨b9, 0, none⟩ (.string wn1)).setCell ⟨b9, 1, none⟩ (.string wd1)) := (hv1.setCell (p := ⟨b9, 0, none⟩) hb9 _).setCell (p := ⟨b9, 1, none⟩) hb9 _
      have HX3 := Lib.hid (HX.out.on low9)
      have hs3 := hs.on low9
      have HO3 := Lib.hid (own_below HO.out low9)
      clear c0 c1 cf0 cf1 hx9 low9 hv1 HX HO hs KS1
      generalize (v1.setCell ⟨b9, 0, none⟩ (.string wn1)).setCell ⟨b9, 1, none⟩ (.string wd1) = W3 at *
      have lt9 := X9.lt
      refine wp_region_fresh1 12 11 10 #[.string ⟨#[]⟩, .string ⟨#[]⟩] (by kernel_rfl) (by kernel_rfl) (by kernel_rfl) (by omega) rfl (by kernel_rfl) ⟨_, 10, _, rfl, rfl, rfl, fun _ _ => by simp [execOp, go_sem, ptrTo]; rfl⟩ ?_
      apply Exists.intro
      refine ⟨fun S W hne hk hcl => ?_, ?_⟩
      · simp only [List.take_succ_cons, List.take_zero, quietL, List.mem_cons, List.not_mem_nil, or_false, Nat.reduceAdd, Nat.reduceEqDiff, reduceIte, Nat.zero_add]
        have kk0 : ∀ u, (W u).cell? ⟨b, o + k * 9 + 3, none⟩ = some (.string f3) := fun u => HCW.out (W u) (hs3.on (hk u)) 3 _ rfl
        have kk1 : ∀ u, (W u).cell? ⟨b, o + k * 9 + 4, none⟩ = some (.string f4) := fun u => HCW.out (W u) (hs3.on (hk u)) 4 _ rfl
        have kk2 : ∀ u, (W u).cell? ⟨b, o + k * 9 + 7, none⟩ = some (.string f7) := fun u => HCW.out (W u) (hs3.on (hk u)) 7 _ rfl
        have kk3 : ∀ u, (W u).cell? ⟨b, o + k * 9 + 8, none⟩ = some (.string f8) := fun u => HCW.out (W u) (hs3.on (hk u)) 8 _ rfl
        repeat (go_big_quiet_step (first | (with_reducible exact KS2.fresh hs3 hk hcl)))
        exact wpQuiet_nil rfl
      intro b10 v2 hb10 hv2 hx10
      simp only [List.drop_succ_cons, List.drop_zero, ptrTo]
      have c0 := hx10.cell (i := 0) (v := .string ⟨#[]⟩) rfl
      have c1 := hx10.cell (i := 1) (v := .string ⟨#[]⟩) rfl
      have cf0 := hx10.frozen 0
      have cf1 := hx10.frozen 1
      go_wp2_with fail
      have X10 : Bx ((v2.setCell ⟨b10, 0, none⟩ (.string rn1)).setCell ⟨b10, 1, none⟩ (.string rd1)) b10 #[.string rn1, .string rd1] := (hx10.set 0 (.string rn1)).set 1 (.string rd1)
      have low10 : Below W3.heap.size W3 ((v2.setCell ⟨b10, 0, none⟩ (.string rn1)).setCell ⟨b10, 1, none⟩ (.string rd1)) := (hv2.setCell (p := ⟨b10, 0, none⟩) hb10 _).setCell (p := ⟨b10, 1, none⟩) hb10 _
      have HX4 := Lib.hid (HX3.out.on low10)
      replace X9 := X9.on low10
      have hs4 := hs3.on low10
      have HO4 := Lib.hid (own_below HO3.out low10)
      clear c0 c1 cf0 cf1 hx10 low10 hv2 HX3 HO3 hs3 KS2
      generalize (v2.setCell ⟨b10, 0, none⟩ (.string rn1)).setCell ⟨b10, 1, none⟩ (.string rd1) = W4 at *
      obtain ⟨i0, hi, hz0, hz1, hz2⟩ := info_parts infoP48
      have Hi := Lib.hid hi
      have Hz0 := Lib.hid hz0
      have Hz1 := Lib.hid hz1
      have Hz2 := Lib.hid hz2
      have hlt9 : wr.heap.size ≤ b9 := hb9
      have hlt10 : W3.heap.size ≤ b10 := hb10
      have hnz : ∀ g, u7.ownBlock = some g → bA + 2 ≤ g ∧ g < wr.heap.size := fun g hg => HNZ0.out g hg
      have HNZ := Lib.hid hnz
      clear hi hz0 hz1 hz2 hnz
      go_wp2_with fail
      have e3 : W4.drew.heap.size = W4.heap.size := rfl
      have low0 : Below W4.heap.size W4 W4 := Below.refl _ _
      have X0' : Bx W4 (b9) #[.string wn1, .string wd1] := X9
      have X1' : Bx W4 (b10) #[.string rn1, .string rd1] := X10
      have X2' : Bx W4 (bA + 1) #[.string bn, .string bd] := HX4.out
      have rX0 : W4.cell? ⟨b, o + k * 9, none⟩ = some (.string f0) := HCW.out W4 hs4 0 _ rfl
      have rX5 : W4.cell? ⟨b, o + k * 9 + 5, none⟩ = some (.string f5) := HCW.out W4 hs4 5 _ rfl
      have rX6 : W4.cell? ⟨b, o + k * 9 + 6, none⟩ = some (.string f6) := HCW.out W4 hs4 6 _ rfl
      have rX7 : W4.cell? ⟨b, o + k * 9 + 7, none⟩ = some (.string f7) := HCW.out W4 hs4 7 _ rfl
      have rX8 : W4.cell? ⟨b, o + k * 9 + 8, none⟩ = some (.string f8) := HCW.out W4 hs4 8 _ rfl
      have cX00 := X0'.cell (i := 0) (v := .string wn1) rfl
      have cX01 := X0'.cell (i := 1) (v := .string wd1) rfl
      have cX10 := X1'.cell (i := 0) (v := .string rn1) rfl
      have cX11 := X1'.cell (i := 1) (v := .string rd1) rfl
      have cX20 := X2'.cell (i := 0) (v := .string bn) rfl
      have cX21 := X2'.cell (i := 1) (v := .string bd) rfl
      go_region_held3 (fun w' => w'.cell? ⟨b, o + k * 9, none⟩ = some (.string f0) ∧ w'.cell? ⟨b, o + k * 9 + 5, none⟩ = some (.string f5) ∧ w'.cell? ⟨b, o + k * 9 + 6, none⟩ = some (.string f6) ∧ w'.cell? ⟨b, o + k * 9 + 7, none⟩ = some (.string f7) ∧ w'.cell? ⟨b, o + k * 9 + 8, none⟩ = some (.string f8) ∧ w'.cell? ⟨b9, 0, none⟩ = some (.string wn1) ∧ w'.cell? ⟨b9, 1, none⟩ = some (.string wd1) ∧ w'.cell? ⟨b10, 0, none⟩ = some (.string rn1) ∧ w'.cell? ⟨b10, 1, none⟩ = some (.string rd1) ∧ w'.cell? ⟨bA + 1, 0, none⟩ = some (.string bn) ∧ w'.cell? ⟨bA + 1, 1, none⟩ = some (.string bd))
        (first
          | (with_reducible exact ⟨rD0, rD5, rD6, rD7, rD8, cD00, cD01, cD10, cD11, cD20, cD21⟩)
          | (with_reducible exact ⟨rC0, rC5, rC6, rC7, rC8, cC00, cC01, cC10, cC11, cC20, cC21⟩)
          | (with_reducible exact ⟨rB0, rB5, rB6, rB7, rB8, cB00, cB01, cB10, cB11, cB20, cB21⟩)
          | (with_reducible exact ⟨rA0, rA5, rA6, rA7, rA8, cA00, cA01, cA10, cA11, cA20, cA21⟩)
          | (with_reducible exact ⟨rX0, rX5, rX6, rX7, rX8, cX00, cX01, cX10, cX11, cX20, cX21⟩)
          | exact ⟨HCW.out _ hs7 0 _ rfl, HCW.out _ hs7 5 _ rfl, HCW.out _ hs7 6 _ rfl, HCW.out _ hs7 7 _ rfl, HCW.out _ hs7 8 _ rfl, E0.cell (i := 0) (v := .string wn1) rfl, E0.cell (i := 1) (v := .string wd1) rfl, E1.cell (i := 0) (v := .string rn1) rfl, E1.cell (i := 1) (v := .string rd1) rfl, E2.cell (i := 0) (v := .string bn) rfl, E2.cell (i := 1) (v := .string bd) rfl⟩
          | exact ⟨HCW.out _ (hsD.alloc _) 0 _ rfl, HCW.out _ (hsD.alloc _) 5 _ rfl, HCW.out _ (hsD.alloc _) 6 _ rfl, HCW.out _ (hsD.alloc _) 7 _ rfl, HCW.out _ (hsD.alloc _) 8 _ rfl, (D0'.alloc _).cell (i := 0) (v := .string wn1) rfl, (D0'.alloc _).cell (i := 1) (v := .string wd1) rfl, (D1'.alloc _).cell (i := 0) (v := .string rn1) rfl, (D1'.alloc _).cell (i := 1) (v := .string rd1) rfl, (D2'.alloc _).cell (i := 0) (v := .string bn) rfl, (D2'.alloc _).cell (i := 1) (v := .string bd) rfl⟩
          | (go_keep; done))
        (first
          | (go_at_call 95
             with_reducible refine KS3.step (by first | with_reducible exact hs4.drew | with_reducible exact hs4) ?_
             intro wA hsA hbA
             have A0' : Bx wA (b9) #[.string wn1, .string wd1] := (by first | with_reducible exact X0'.drew.on hbA | with_reducible exact X0'.on hbA)
             have A1' : Bx wA (b10) #[.string rn1, .string rd1] := (by first | with_reducible exact X1'.drew.on hbA | with_reducible exact X1'.on hbA)
             have A2' : Bx wA (bA + 1) #[.string bn, .string bd] := (by first | with_reducible exact X2'.drew.on hbA | with_reducible exact X2'.on hbA)
             have lowA : Below W4.heap.size W4 wA := (by first | with_reducible exact low0.trans (hbA.mono low0.size) | exact low0.drew.trans (hbA.mono low0.drew.size))
             have rA0 : wA.cell? ⟨b, o + k * 9, none⟩ = some (.string f0) := HCW.out wA hsA 0 _ rfl
             have rA5 : wA.cell? ⟨b, o + k * 9 + 5, none⟩ = some (.string f5) := HCW.out wA hsA 5 _ rfl
             have rA6 : wA.cell? ⟨b, o + k * 9 + 6, none⟩ = some (.string f6) := HCW.out wA hsA 6 _ rfl
             have rA7 : wA.cell? ⟨b, o + k * 9 + 7, none⟩ = some (.string f7) := HCW.out wA hsA 7 _ rfl
             have rA8 : wA.cell? ⟨b, o + k * 9 + 8, none⟩ = some (.string f8) := HCW.out wA hsA 8 _ rfl
             have cA00 := A0'.cell (i := 0) (v := .string wn1) rfl
             have cA01 := A0'.cell (i := 1) (v := .string wd1) rfl
             have cA10 := A1'.cell (i := 0) (v := .string rn1) rfl
             have cA11 := A1'.cell (i := 1) (v := .string rd1) rfl
             have cA20 := A2'.cell (i := 0) (v := .string bn) rfl
             have cA21 := A2'.cell (i := 1) (v := .string bd) rfl)
          | (go_at_call 94
             with_reducible refine KM1.step (by first | with_reducible exact hsA.drew | with_reducible exact hsA) ?_
             intro wB hsB hbB
             have B0' : Bx wB (b9) #[.string wn1, .string wd1] := (by first | with_reducible exact A0'.drew.on hbB | with_reducible exact A0'.on hbB)
             have B1' : Bx wB (b10) #[.string rn1, .string rd1] := (by first | with_reducible exact A1'.drew.on hbB | with_reducible exact A1'.on hbB)
             have B2' : Bx wB (bA + 1) #[.string bn, .string bd] := (by first | with_reducible exact A2'.drew.on hbB | with_reducible exact A2'.on hbB)
             have lowB : Below W4.heap.size W4 wB := (by first | with_reducible exact lowA.trans (hbB.mono lowA.size) | exact lowA.drew.trans (hbB.mono lowA.drew.size))
             have rB0 : wB.cell? ⟨b, o + k * 9, none⟩ = some (.string f0) := HCW.out wB hsB 0 _ rfl
             have rB5 : wB.cell? ⟨b, o + k * 9 + 5, none⟩ = some (.string f5) := HCW.out wB hsB 5 _ rfl
             have rB6 : wB.cell? ⟨b, o + k * 9 + 6, none⟩ = some (.string f6) := HCW.out wB hsB 6 _ rfl
             have rB7 : wB.cell? ⟨b, o + k * 9 + 7, none⟩ = some (.string f7) := HCW.out wB hsB 7 _ rfl
             have rB8 : wB.cell? ⟨b, o + k * 9 + 8, none⟩ = some (.string f8) := HCW.out wB hsB 8 _ rfl
             have cB00 := B0'.cell (i := 0) (v := .string wn1) rfl
             have cB01 := B0'.cell (i := 1) (v := .string wd1) rfl
             have cB10 := B1'.cell (i := 0) (v := .string rn1) rfl
             have cB11 := B1'.cell (i := 1) (v := .string rd1) rfl
             have cB20 := B2'.cell (i := 0) (v := .string bn) rfl
             have cB21 := B2'.cell (i := 1) (v := .string bd) rfl)
          | (go_at_call 94
             with_reducible refine KM2.step (by first | with_reducible exact hsB.drew | with_reducible exact hsB) ?_
             intro wC hsC hbC
             have C0' : Bx wC (b9) #[.string wn1, .string wd1] := (by first | with_reducible exact B0'.drew.on hbC | with_reducible exact B0'.on hbC)
             have C1' : Bx wC (b10) #[.string rn1, .string rd1] := (by first | with_reducible exact B1'.drew.on hbC | with_reducible exact B1'.on hbC)
             have C2' : Bx wC (bA + 1) #[.string bn, .string bd] := (by first | with_reducible exact B2'.drew.on hbC | with_reducible exact B2'.on hbC)
             have lowC : Below W4.heap.size W4 wC := (by first | with_reducible exact lowB.trans (hbC.mono lowB.size) | exact lowB.drew.trans (hbC.mono lowB.drew.size))
             have rC0 : wC.cell? ⟨b, o + k * 9, none⟩ = some (.string f0) := HCW.out wC hsC 0 _ rfl
             have rC5 : wC.cell? ⟨b, o + k * 9 + 5, none⟩ = some (.string f5) := HCW.out wC hsC 5 _ rfl
             have rC6 : wC.cell? ⟨b, o + k * 9 + 6, none⟩ = some (.string f6) := HCW.out wC hsC 6 _ rfl
             have rC7 : wC.cell? ⟨b, o + k * 9 + 7, none⟩ = some (.string f7) := HCW.out wC hsC 7 _ rfl
             have rC8 : wC.cell? ⟨b, o + k * 9 + 8, none⟩ = some (.string f8) := HCW.out wC hsC 8 _ rfl
             have cC00 := C0'.cell (i := 0) (v := .string wn1) rfl
             have cC01 := C0'.cell (i := 1) (v := .string wd1) rfl
             have cC10 := C1'.cell (i := 0) (v := .string rn1) rfl
             have cC11 := C1'.cell (i := 1) (v := .string rd1) rfl
             have cC20 := C2'.cell (i := 0) (v := .string bn) rfl
             have cC21 := C2'.cell (i := 1) (v := .string bd) rfl)
          | (go_at_call 94
             with_reducible refine KM3.step (by first | with_reducible exact hsC.drew | with_reducible exact hsC) ?_
             intro wD hsD hbD
             have D0' : Bx wD (b9) #[.string wn1, .string wd1] := (by first | with_reducible exact C0'.drew.on hbD | with_reducible exact C0'.on hbD)
             have D1' : Bx wD (b10) #[.string rn1, .string rd1] := (by first | with_reducible exact C1'.drew.on hbD | with_reducible exact C1'.on hbD)
             have D2' : Bx wD (bA + 1) #[.string bn, .string bd] := (by first | with_reducible exact C2'.drew.on hbD | with_reducible exact C2'.on hbD)
             have lowD : Below W4.heap.size W4 wD := (by first | with_reducible exact lowC.trans (hbD.mono lowC.size) | exact lowC.drew.trans (hbD.mono lowC.drew.size))
             have rD0 : wD.cell? ⟨b, o + k * 9, none⟩ = some (.string f0) := HCW.out wD hsD 0 _ rfl
             have rD5 : wD.cell? ⟨b, o + k * 9 + 5, none⟩ = some (.string f5) := HCW.out wD hsD 5 _ rfl
             have rD6 : wD.cell? ⟨b, o + k * 9 + 6, none⟩ = some (.string f6) := HCW.out wD hsD 6 _ rfl
             have rD7 : wD.cell? ⟨b, o + k * 9 + 7, none⟩ = some (.string f7) := HCW.out wD hsD 7 _ rfl
             have rD8 : wD.cell? ⟨b, o + k * 9 + 8, none⟩ = some (.string f8) := HCW.out wD hsD 8 _ rfl
             have cD00 := D0'.cell (i := 0) (v := .string wn1) rfl
             have cD01 := D0'.cell (i := 1) (v := .string wd1) rfl
             have cD10 := D1'.cell (i := 0) (v := .string rn1) rfl
             have cD11 := D1'.cell (i := 1) (v := .string rd1) rfl
             have cD20 := D2'.cell (i := 0) (v := .string bn) rfl
             have cD21 := D2'.cell (i := 1) (v := .string bd) rfl)
          | (refine step_append_any _ (by rfl) (.tmp 48) (.tmp 74) 45 (by rfl) (bA + 2) 52 i0 (.agg #[.string ⟨#[]⟩, .string ⟨#[]⟩, .string ⟨#[]⟩, .string ⟨#[]⟩, .string ⟨#[]⟩, .string ⟨#[]⟩, .string ⟨#[]⟩]) 7 112 (by kernel_rfl) Hi.out Hz0.out Hz1.out Hz2.out rfl (by omega) u7 k (flatG pcells (PL.take k)) (by rfl) ((own_below HO4.out lowD).alloc _) (wD.heap.size + 1) (some ⟨wD.heap.size, 0, none⟩) 1 1 [.string f0, .string pa, .string pb, .string pc, .string pd, .string pe, .string pf] (by rfl) (reads_row wD 52 [.string f0, .string pa, .string pb, .string pc, .string pd, .string pe, .string pf]) (pcells_one7 ⟨f0, pa, pb, pc, pd, pe, pf⟩) (by unfold maxLen; omega) (by omega) (by have := D2'.lt; simp; omega) ?_
             intro v7 w7 hown7 hg7 _
             have hs7 : St w w7 := ⟨hsD.1, (hsD.2.alloc hsD.2.size _).grown hg7 (by have := hsD.2.size; simp; omega) (fun g hg => by have := (HNZ.out g hg).1; omega)⟩
             have E0 := (D0'.alloc _).grown hg7 (fun e => by have := (HNZ.out _ e.symm); omega)
             have E1 := (D1'.alloc _).grown hg7 (fun e => by have := (HNZ.out _ e.symm); omega)
             have E2 := (D2'.alloc _).grown hg7 (fun e => by have := (HNZ.out _ e.symm); omega)))
      go_wp2_with fail
      go_roundw
      case rel =>
        refine ⟨k + 1, by omega, by go_num, hs7, E2, ?_⟩
        show World.ownsRow _ _ _ _ _ _ _
        rw [HTK.out]
        exact hown7
      case measure => simp [intOf]; omega
set_option maxRecDepth 100000 in
set_option maxHeartbeats 4000000 in
theorem rParts_any {A : Option Addr} {n c k0 : Nat} {l : List SecS} (hn : l.length = n) (hl : 32 < n ∨ FewS k0 l) (hk0 : k0 ≤ 100) (w : World) (hg : Gl w) (hr : Row w A (flatG scells l)) :
    Calls Tryz.prog 36 #[.slice A n c] w fun e w' => ∃ v, e = .returned (.tuple #[v, .int .i64 (chkS l)]) ∧ OutG pcells 52 7 w.heap.size w' v (prtsR l).length (prtsR l) ∧ Below w.heap.size w w' := by
  by_cases h : chkS l = 0
  · have e : prtsR l = partsL l := if_pos h
    have hlen : (partsL l).length = n := by unfold partsL; rw [List.length_map]; exact hn
    rw [e, h, hlen]
    rcases hl with h32 | hf
    · have := (chkS_iff.1 h).few; omega
    · exact rparts_few hn hf hk0 h w hg hr
  · have e : prtsR l = [] := if_neg h
    rw [e]
    have hs := St.refl hg
    have Hr := Lib.hid hr
    have K1 := rReturn_any (A := A) (c := c) hn hl (by omega)
    have q : (chkS l != 0) = true := by simpa using h
    unfold FR at K1
    generalize frN (retOwn l) = an at *
    generalize frD (retOwn l) = ad at *
    generalize frN (retBen l) = bn at *
    generalize frD (retBen l) = bd at *
    generalize chkS l = ch at *
    clear hn hl h hr e
    go_enter Tryz.func36, Tryz.ntmps36
    go_wp2_with fail
    refine K1.step hs Hr.out ?_
    intro w1 hs _
    go_wp2_with fail
    replace hs := (hs.alloc (.cells #[.string an, .string ad] 42)).alloc (.cells #[.string bn, .string bd] 42)
    go_ret2
    exact ⟨_, rfl, ⟨rfl, World.ownsRow_nil _ _ _ _⟩, hs.2⟩
end Go.Proofs.YtndkglmokhndnaaGreatDoor
namespace Go.Proofs.YtndkglmokhndnaaGreatDoor
open Go.RowKit Go.Shelf Dec QQ

theorem own_drew {w : World} {base n m : Nat} {T : TypeId} {v : Value} {xs : List Value} (h : w.ownsRow base T m v n xs) : w.drew.ownsRow base T m v n xs := h
theorem reads_drew {w : World} {B m n : Nat} {A : Option Addr} {vs : List Value} (h : Reads w B m A n vs) : Reads w.drew B m A n vs := h
set_option maxRecDepth 100000 in
set_option maxHeartbeats 20000000 in
theorem rdrift_few {A : Option Addr} {n c k0 : Nat} {l : List SecS} (hn : l.length = n) (hl : FewS k0 l) (hk0 : k0 ≤ 100) (he : chkS l = 0) (w : World) (hg : Gl w) (hr : Row w A (flatG scells l)) :
    Calls Tryz.prog 37 #[.slice A n c] w fun e w' => ∃ v, e = .returned (.tuple #[v, .int .i64 (driE l)]) ∧ OutG scells 54 9 w.heap.size w' v (driR l).length (driR l) ∧ Below w.heap.size w w' := by
  have hs := St.refl hg
  have KR := rReturn_any (A := A) (c := c) hn (.inr hl) (by omega)
  rw [show retOwn l = ownQ l from if_pos he, show retBen l = benQ l from if_pos he, he] at KR
  have hok := chkS_iff.1 he
  have hp : 0 < n := by have := hok.pos; omega
  have h5 : n ≤ 5 := by have := hl.1; omega
  have zq1 := FitQ.sizes (hl.q).2.2.1
  have zq2 := FitQ.sizes (hl.q).2.2.2
  have KO := rof_r (a := ⟨#[49]⟩) (by decide)
  rw [one_val, show ((1 : Int) : Rat) = 1 from rfl] at KO
  have z1 := FitQ.sizes (FitQ.one (k := 1) (Nat.le_refl 1))
  have KS1 := radd_r (a := frN 1) (b := frD 1) (c := frN (ownQ l)) (d := frD (ownQ l)) (by omega) (by omega) (by omega) (by omega)
  have KS2 := radd_r (a := frN 1) (b := frD 1) (c := frN (benQ l)) (d := frD (benQ l)) (by omega) (by omega) (by omega) (by omega)
  rw [ratV_fr, ratV_fr] at KS1 KS2
  rw [← ownG_eq hok] at KS1
  rw [← benG_eq hok] at KS2
  have zg1 := FitQ.sizes hl.growths.1
  have zg2 := FitQ.sizes hl.growths.2
  have HQE : Hid ((ownG l = 0 → quoE (ownG l) = 10 ∧ driE l = 10 ∧ driR l = []) ∧ (ownG l ≠ 0 → quoE (ownG l) = 0) ∧ (benG l = 0 → quoE (benG l) = 10 ∧ driE l = 10 ∧ driR l = []) ∧ (ownG l ≠ 0 → benG l ≠ 0 → quoE (benG l) = 0 ∧ driE l = 0 ∧ driR l = driftL l)) := by
    have e1 : ownG l = 0 ∨ benG l = 0 → driE l = 10 ∧ driR l = [] := fun h => by
      have : driE l = 10 := by unfold driE; rw [if_neg (by simpa using he), if_pos h]
      exact ⟨this, by unfold driR; rw [this]; rfl⟩
    refine ⟨fun h => ⟨if_pos h, e1 (.inl h)⟩, fun h => if_neg h, fun h => ⟨if_pos h, e1 (.inr h)⟩, fun h h2 => ?_⟩
    have : driE l = 0 := driE_ok.2 ⟨hok, h, h2⟩
    exact ⟨if_neg h2, this, if_pos this⟩
  have HDC : Hid (∀ k d, l[k]? = some d → (driftL l)[k]? = some (driftS (ownG l) (benG l) d)) := fun k d h => driftL_at h
  have HDL : Hid ((driftL l).length = n) := by show _ = _; rw [driftL_len]; exact hn
  have HZG : Hid ((frN (ownG l)).size ≤ 5 * (2 * k0 + 3) + 2 ∧ (frD (ownG l)).size ≤ 5 * (2 * k0 + 3) + 2 ∧ (frN (benG l)).size ≤ 5 * (2 * k0 + 3) + 2 ∧ (frD (benG l)).size ≤ 5 * (2 * k0 + 3) + 2 ∧ (frN (1 : Rat)).size ≤ 2 ∧ (frD (1 : Rat)).size ≤ 2) := ⟨zg1.1, zg1.2, zg2.1, zg2.2, z1.1, z1.2⟩
  clear zg1 zg2 z1 zq1 zq2 hok he
  generalize driE l = DE at *
  generalize driR l = DR at *
  generalize driftL l = DL at *
  generalize ownG l = O at *
  generalize benG l = B at *
  unfold FR at KR KO KS1 KS2
  unfold FV at KS1 KS2
  generalize frN (ownQ l) = an at *
  generalize frD (ownQ l) = ad at *
  generalize frN (benQ l) = bn at *
  generalize frD (benQ l) = bd at *
  have HN := Lib.hid hn
  have HL := Lib.hid hl
  have HR := Lib.hid hr
  have HON : Hid (ratV (frN 1) (frD 1) = 1 ∧ ratV (frN O) (frD O) = O ∧ ratV (frN B) (frD B) = B) := ⟨ratV_fr _, ratV_fr _, ratV_fr _⟩
  generalize frN (1 : Rat) = o1 at *
  generalize frD (1 : Rat) = o2 at *
  generalize frN O = on at *
  generalize frD O = od at *
  generalize frN B = Bn at *
  generalize frD B = Bd at *
  clear hn hl hr
  go_enter Tryz.func37, Tryz.ntmps37
  go_wp2_with fail
  refine KR.step hs HR.out ?_
  intro w1 hs hb1
  go_wp2_with fail
  have hwb : w.heap.size ≤ w1.heap.size := hb1.size
  have X4 := (Bx.new w1 #[.string an, .string ad] 42).alloc (.cells #[.string bn, .string bd] 42)
  have X5 := Bx.new1 w1 (.cells #[.string an, .string ad] 42) #[.string bn, .string bd] 42
  replace hs := (hs.alloc (.cells #[.string an, .string ad] 42)).alloc (.cells #[.string bn, .string bd] 42)
  refine KO.step hs ?_
  intro w2 hs hb2
  replace X4 := (X4.on hb2).alloc (.cells #[.string o1, .string o2] 42)
  replace X5 := (X5.on hb2).alloc (.cells #[.string o1, .string o2] 42)
  have X7 := Bx.new w2 #[.string o1, .string o2] 42
  have hlt4 : w1.heap.size < w2.heap.size + 1 := by have := X4.lt; rwa [World.size_alloc] at this
  have hlt5 : w1.heap.size + 1 < w2.heap.size + 1 := by have := X5.lt; rwa [World.size_alloc] at this
  go_wp2_with fail
  replace hs := hs.alloc (.cells #[.string o1, .string o2] 42)
  have HX4 := Lib.hid X4
  have HX5 := Lib.hid X5
  have HX7 := Lib.hid X7
  have HOW : Hid (World.ownsRow (w2.alloc (.cells #[.string o1, .string o2] 42)) (w2.heap.size + 1) 54 9 (.slice none 0 0) 0 (flatG scells (DL.take 0))) := World.ownsRow_nil _ _ _ _
  clear X4 X5 X7 hb1 hb2 KR KO
  generalize w2.alloc (.cells #[.string o1, .string o2] 42) = w3 at *
  obtain ⟨b4, hb4⟩ : ∃ b, w1.heap.size = b := ⟨_, rfl⟩
  obtain ⟨b7, hb7⟩ : ∃ b, w2.heap.size = b := ⟨_, rfl⟩
  rw [hb4] at HX4 HX5 hlt4 hlt5 hwb ⊢
  rw [hb7] at HX7 HOW hlt4 hlt5 ⊢
  clear hb4 hb7
  obtain ⟨b5, hb5⟩ : ∃ b, b4 + 1 = b := ⟨_, rfl⟩
  rw [hb5] at HX5 hlt5 ⊢
  have hb54 : b4 < b5 := by omega
  clear hb5
  go_loopw [9, 8] (fun s v wr => ∃ k : Nat, k ≤ n ∧ s = .int .i64 (k : Int) ∧ St w wr ∧ Hid (Bx wr b4 #[.string an, .string ad]) ∧ Hid (Bx wr b5 #[.string bn, .string bd]) ∧ Hid (Bx wr b7 #[.string o1, .string o2]) ∧ Hid (wr.ownsRow (b7 + 1) 54 9 v k (flatG scells (DL.take k))) ∧ Hid (0 < k → O ≠ 0 ∧ B ≠ 0)) (fun s _ _ => (n - intOf s).toNat)
  case atStart => exact ⟨0, by omega, rfl, hs, HX4, HX5, HX7, HOW, fun h => absurd h (by omega)⟩
  case round =>
    obtain ⟨k, hk, rfl, hs, HX4, HX5, HX7, HO, HNZ0⟩ := hrel
    by_cases hkn : k = n
    · subst hkn
      have q : decide ((k : Int) < (k : Int)) = false := decide_eq_false (by omega)
      obtain ⟨hO0, hB0⟩ := HNZ0.out hp
      obtain ⟨_, e2, e3⟩ := HQE.out.2.2.2 hO0 hB0
      subst e2 e3
      have HDT : Hid (DR.take k = DR) := List.take_of_length_le (Nat.le_of_eq HDL.out)
      rw [HDT.out] at HO
      clear HQE
      go_wp2_with fail
      go_ret2
      exact ⟨_, rfl, ⟨rfl, by have := own_low (base' := w.heap.size) HO.out (by omega); rwa [HDL.out]⟩, hs.2⟩
    · have hkl : k < n := by omega
      have q : decide ((k : Int) < (n : Int)) = true := decide_eq_true (by omega)
      have qn : decide (k < n) = true := decide_eq_true hkl
      obtain ⟨d, hd⟩ : ∃ d, l[k]? = some d := ⟨l[k]'(by rw [HN.out]; exact hkl), by simp⟩
      obtain ⟨b, o, hA, hb, hcells⟩ := row_at (cs := scells) (m := 9) scells_len (by decide) HR.out hd
      have hdz := HL.out.2.2.2 d (List.mem_of_getElem? hd)
      have gg := HL.out.grow (List.mem_of_getElem? hd)
      have zr1 := FitQ.sizes gg.1
      have zr2 := FitQ.sizes gg.2.1
      have zw1 := FitQ.sizes gg.2.2.1
      have zw2 := FitQ.sizes gg.2.2.2
      have HDK := Lib.hid (HDC.out k d hd)
      have HSC := Lib.hid (driftS_cells O B d)
      obtain ⟨zz1, zz2, zz3, zz4, zz5, zz6⟩ := HZG.out
      unfold SecS.le at hdz
      have KA1 := radd_r (a := o1) (b := o2) (c := d.rn) (d := d.rd) (by omega) (by omega) (by omega) (by omega)
      have KA2 := radd_r (a := o1) (b := o2) (c := d.bn) (d := d.bd) (by omega) (by omega) (by omega) (by omega)
      rw [HON.out.1] at KA1 KA2
      change Ret _ _ (FR (1 + d.r)) at KA1
      change Ret _ _ (FR (1 + d.b)) at KA2
      have KM1 := rmul_r (a := d.wn) (b := d.wd) (c := frN (1 + d.r)) (d := frD (1 + d.r)) (by omega) (by omega) (by omega) (by omega)
      have KM2 := rmul_r (a := d.vn) (b := d.vd) (c := frN (1 + d.b)) (d := frD (1 + d.b)) (by omega) (by omega) (by omega) (by omega)
      rw [ratV_fr] at KM1 KM2
      change Ret _ _ (FR (d.w * (1 + d.r))) at KM1
      change Ret _ _ (FR (d.v * (1 + d.b))) at KM2
      have KQ1 := rquo_r (a := frN (d.w * (1 + d.r))) (b := frD (d.w * (1 + d.r))) (c := on) (d := od) (by omega) (by omega) (by omega) (by omega)
      have KQ2 := rquo_r (a := frN (d.v * (1 + d.b))) (b := frD (d.v * (1 + d.b))) (c := Bn) (d := Bd) (by omega) (by omega) (by omega) (by omega)
      rw [ratV_fr, HON.out.2.1] at KQ1
      rw [ratV_fr, HON.out.2.2] at KQ2
      have HW1 : Hid (O ≠ 0 → quoQ (d.w * (1 + d.r)) O = d.w * (1 + d.r) / O) := fun h => if_neg h
      have HW2 : Hid (B ≠ 0 → quoQ (d.v * (1 + d.b)) B = d.v * (1 + d.b) / B) := fun h => if_neg h
      unfold FR at KA1 KA2 KM1 KM2 KQ1 KQ2
      unfold FV at KA1 KA2 KM1 KM2 KQ1 KQ2
      generalize driftS O B d = D at *
      subst hA
      clear hd hkn hdz gg zr1 zr2 zw1 zw2 zz1 zz2 zz3 zz4 zz5 zz6
      obtain ⟨q1, hq1⟩ : ∃ x, quoQ (d.w * (1 + d.r)) O = x := ⟨_, rfl⟩
      obtain ⟨q2, hq2⟩ : ∃ x, quoQ (d.v * (1 + d.b)) B = x := ⟨_, rfl⟩
      rw [hq1] at KQ1 HW1
      rw [hq2] at KQ2 HW2
      clear hq1 hq2
      generalize frN (d.w * (1 + d.r)) = g1 at *
      generalize frD (d.w * (1 + d.r)) = g2 at *
      generalize frN (d.v * (1 + d.b)) = g3 at *
      generalize frD (d.v * (1 + d.b)) = g4 at *
      generalize d.w * (1 + d.r) / O = p1 at *
      generalize d.v * (1 + d.b) / B = p2 at *
      generalize frN (1 + d.r) = r1 at *
      generalize frD (1 + d.r) = r2 at *
      generalize frN (1 + d.b) = r3 at *
      generalize frD (1 + d.b) = r4 at *
      have HWN1 : Hid (O ≠ 0 → frN p1 = frN q1 ∧ frD p1 = frD q1) := fun h => by rw [HW1.out h]; exact ⟨rfl, rfl⟩
      have HWN2 : Hid (B ≠ 0 → frN p2 = frN q2 ∧ frD p2 = frD q2) := fun h => by rw [HW2.out h]; exact ⟨rfl, rfl⟩
      clear HW1 HW2
      generalize frN p1 = p11 at *
      generalize frD p1 = p12 at *
      generalize frN p2 = p21 at *
      generalize frD p2 = p22 at *
      generalize frN q1 = wn at *
      generalize frD q1 = wd at *
      generalize frN q2 = vn at *
      generalize frD q2 = vd at *
      obtain ⟨qe1, hqe1⟩ : ∃ x, quoE O = x := ⟨_, rfl⟩
      obtain ⟨qe2, hqe2⟩ : ∃ x, quoE B = x := ⟨_, rfl⟩
      have HQE2 := HQE
      rw [hqe1] at KQ1 HQE2
      rw [hqe2] at KQ2 HQE2
      clear hqe1 hqe2
      have HCW : Hid (∀ W, St w W → ∀ t v, (scells d)[t]? = some v → W.cell? ⟨b, o + k * 9 + t, none⟩ = some v) := fun W hW t v h => by
        have := (hW.2.cell (p := ⟨b, o + (k * 9 + t), none⟩) hb).trans (hcells t v h)
        rwa [show o + (k * 9 + t) = o + k * 9 + t by omega] at this
      clear hcells
      obtain ⟨f0, f1, f2, f3, f4, f5, f6, f7, f8⟩ := d
      dsimp only at KA1 KA2 KM1 KM2 HSC
      have HNW : Hid (∀ g, u8.ownBlock = some g → b7 + 1 ≤ g ∧ g < wr.heap.size) := fun g hg => HO.out.lt g hg
      obtain ⟨HB9, hB9⟩ : ∃ x, wr.heap.size = x := ⟨_, rfl⟩
      have HHB := Lib.hid hB9
      clear hB9
      go_upto_region 9 with (fail)
      go_cut [10, 11] (fun p e wx => ∃ bz, p = .pointer (some ⟨bz, 0, none⟩) ∧ e = .int .i64 qe1 ∧ Hid (Pk wr wx bz #[.string wn, .string wd]))
      case first =>
        have HSOK : Hid (∀ W, Below wr.heap.size wr W → W.cell? ⟨b, o + k * 9 + 1, none⟩ = some (.string f1) ∧ W.cell? ⟨b, o + k * 9 + 2, none⟩ = some (.string f2) ∧ W.cell? ⟨b, o + k * 9 + 3, none⟩ = some (.string f3) ∧ W.cell? ⟨b, o + k * 9 + 4, none⟩ = some (.string f4) ∧ W.cell? ⟨b7, 0, none⟩ = some (.string o1) ∧ W.cell? ⟨b7, 1, none⟩ = some (.string o2) ∧ W.cell? ⟨b4, 0, none⟩ = some (.string an) ∧ W.cell? ⟨b4, 1, none⟩ = some (.string ad)) := fun W hb => ⟨HCW.out W (hs.on hb) 1 _ rfl, HCW.out W (hs.on hb) 2 _ rfl, HCW.out W (hs.on hb) 3 _ rfl, HCW.out W (hs.on hb) 4 _ rfl, (HX7.out.on hb).cell (i := 0) (v := .string o1) rfl, (HX7.out.on hb).cell (i := 1) (v := .string o2) rfl, (HX4.out.on hb).cell (i := 0) (v := .string an) rfl, (HX4.out.on hb).cell (i := 1) (v := .string ad) rfl⟩
        have e3 : wr.drew.heap.size = wr.heap.size := rfl
        have low0 : Below wr.heap.size wr wr := Below.refl _ _
        have sX := HSOK.out _ low0
        go_region_held3 (fun w' => w'.cell? ⟨b, o + k * 9 + 1, none⟩ = some (.string f1) ∧ w'.cell? ⟨b, o + k * 9 + 2, none⟩ = some (.string f2) ∧ w'.cell? ⟨b, o + k * 9 + 3, none⟩ = some (.string f3) ∧ w'.cell? ⟨b, o + k * 9 + 4, none⟩ = some (.string f4) ∧ w'.cell? ⟨b7, 0, none⟩ = some (.string o1) ∧ w'.cell? ⟨b7, 1, none⟩ = some (.string o2) ∧ w'.cell? ⟨b4, 0, none⟩ = some (.string an) ∧ w'.cell? ⟨b4, 1, none⟩ = some (.string ad))
          (first
            | (with_reducible exact sD)
            | (with_reducible exact sC)
            | (with_reducible exact sB)
            | (with_reducible exact sA)
            | (with_reducible exact sX)
            | exact HSOK.out _ (lowD.alloc lowD.size _)
            | exact HSOK.out _ (lowC.alloc lowC.size _)
            | exact HSOK.out _ (lowB.alloc lowB.size _)
            | exact HSOK.out _ (lowA.alloc lowA.size _)
            | exact HSOK.out _ (low0.alloc low0.size _)
            | exact HSOK.out _ low0.drew
            | exact HSOK.out _ (low0.alloc low0.size _).drew
            | exact HSOK.out _ (low0.drew.alloc low0.drew.size _)
            | exact HSOK.out _ (pk_set ZZ wn wd).low
            | exact HSOK.out _ (pk_set (pk_new lowD) wn wd).low
            | exact HSOK.out _ (pk_alloc (n := wn) (d := wd) lowD).low
            | (go_keep; done))
          (first
            | (go_at_call 93
               with_reducible refine KA1.step (by first | with_reducible exact hs.drew | with_reducible exact hs | with_reducible exact (hs.alloc _).drew | with_reducible exact hs.alloc _) ?_
               intro wA hsA hbA
               have lowA : Below wr.heap.size wr wA := (by first | with_reducible exact low0.trans (hbA.mono low0.size) | exact low0.drew.trans (hbA.mono low0.drew.size) | exact (low0.alloc low0.size _).trans (hbA.mono (by rw [World.size_alloc]; have := low0.size; omega)) | exact (low0.alloc low0.size _).drew.trans (hbA.mono (by show _ ≤ (World.alloc _ _).heap.size; rw [World.size_alloc]; have := low0.size; omega)))
               have sA := HSOK.out _ lowA
               (first | have ZZ := pk_on ZZ hbA | have ZZ := pk_on (pk_new low0) hbA | have ZZ := pk_on (pk_drew (pk_new low0)) hbA | skip)
               (try have zz0 := ZZ.z.cell (i := 0) (v := .string ⟨#[]⟩) rfl)
               (try have zz1 := ZZ.z.cell (i := 1) (v := .string ⟨#[]⟩) rfl)
               (try have zf0 := ZZ.z.frozen 0)
               (try have zf1 := ZZ.z.frozen 1))
            | (go_at_call 94
               with_reducible refine KM1.step (by first | with_reducible exact hsA.drew | with_reducible exact hsA | with_reducible exact (hsA.alloc _).drew | with_reducible exact hsA.alloc _) ?_
               intro wB hsB hbB
               have lowB : Below wr.heap.size wr wB := (by first | with_reducible exact lowA.trans (hbB.mono lowA.size) | exact lowA.drew.trans (hbB.mono lowA.drew.size) | exact (lowA.alloc lowA.size _).trans (hbB.mono (by rw [World.size_alloc]; have := lowA.size; omega)) | exact (lowA.alloc lowA.size _).drew.trans (hbB.mono (by show _ ≤ (World.alloc _ _).heap.size; rw [World.size_alloc]; have := lowA.size; omega)))
               have sB := HSOK.out _ lowB
               (first | have ZZ := pk_on ZZ hbB | have ZZ := pk_on (pk_new lowA) hbB | have ZZ := pk_on (pk_drew (pk_new lowA)) hbB | skip)
               (try have zz0 := ZZ.z.cell (i := 0) (v := .string ⟨#[]⟩) rfl)
               (try have zz1 := ZZ.z.cell (i := 1) (v := .string ⟨#[]⟩) rfl)
               (try have zf0 := ZZ.z.frozen 0)
               (try have zf1 := ZZ.z.frozen 1))
            | (go_at_call 93
               with_reducible refine KS1.step (by first | with_reducible exact hsB.drew | with_reducible exact hsB | with_reducible exact (hsB.alloc _).drew | with_reducible exact hsB.alloc _) ?_
               intro wC hsC hbC
               have lowC : Below wr.heap.size wr wC := (by first | with_reducible exact lowB.trans (hbC.mono lowB.size) | exact lowB.drew.trans (hbC.mono lowB.drew.size) | exact (lowB.alloc lowB.size _).trans (hbC.mono (by rw [World.size_alloc]; have := lowB.size; omega)) | exact (lowB.alloc lowB.size _).drew.trans (hbC.mono (by show _ ≤ (World.alloc _ _).heap.size; rw [World.size_alloc]; have := lowB.size; omega)))
               have sC := HSOK.out _ lowC
               (first | have ZZ := pk_on ZZ hbC | have ZZ := pk_on (pk_new lowB) hbC | have ZZ := pk_on (pk_drew (pk_new lowB)) hbC | skip)
               (try have zz0 := ZZ.z.cell (i := 0) (v := .string ⟨#[]⟩) rfl)
               (try have zz1 := ZZ.z.cell (i := 1) (v := .string ⟨#[]⟩) rfl)
               (try have zf0 := ZZ.z.frozen 0)
               (try have zf1 := ZZ.z.frozen 1))
            | (go_at_call 97
               with_reducible refine KQ1.step (by first | with_reducible exact hsC.drew | with_reducible exact hsC | with_reducible exact (hsC.alloc _).drew | with_reducible exact hsC.alloc _) ?_
               intro wD hsD hbD
               have lowD : Below wr.heap.size wr wD := (by first | with_reducible exact lowC.trans (hbD.mono lowC.size) | exact lowC.drew.trans (hbD.mono lowC.drew.size) | exact (lowC.alloc lowC.size _).trans (hbD.mono (by rw [World.size_alloc]; have := lowC.size; omega)) | exact (lowC.alloc lowC.size _).drew.trans (hbD.mono (by show _ ≤ (World.alloc _ _).heap.size; rw [World.size_alloc]; have := lowC.size; omega)))
               have sD := HSOK.out _ lowD
               (first | have ZZ := pk_on ZZ hbD | have ZZ := pk_on (pk_new lowC) hbD | have ZZ := pk_on (pk_drew (pk_new lowC)) hbD | skip)
               (try have zz0 := ZZ.z.cell (i := 0) (v := .string ⟨#[]⟩) rfl)
               (try have zz1 := ZZ.z.cell (i := 1) (v := .string ⟨#[]⟩) rfl)
               (try have zf0 := ZZ.z.frozen 0)
               (try have zf1 := ZZ.z.frozen 1)))
        all_goals
          first
            | (have P := pk_set (bz := wC.heap.size) ZZ wn wd; generalize (wD.setCell ⟨wC.heap.size, 0, none⟩ (.string wn)).setCell ⟨wC.heap.size, 1, none⟩ (.string wd) = W4 at P ⊢; generalize wC.heap.size = bz at P ⊢)
            | (have P := pk_set (bz := wB.heap.size) ZZ wn wd; generalize (wD.setCell ⟨wB.heap.size, 0, none⟩ (.string wn)).setCell ⟨wB.heap.size, 1, none⟩ (.string wd) = W4 at P ⊢; generalize wB.heap.size = bz at P ⊢)
            | (have P := pk_set (bz := wA.heap.size) ZZ wn wd; generalize (wD.setCell ⟨wA.heap.size, 0, none⟩ (.string wn)).setCell ⟨wA.heap.size, 1, none⟩ (.string wd) = W4 at P ⊢; generalize wA.heap.size = bz at P ⊢)
            | (have P := pk_set (bz := wr.heap.size) ZZ wn wd; generalize (wD.setCell ⟨wr.heap.size, 0, none⟩ (.string wn)).setCell ⟨wr.heap.size, 1, none⟩ (.string wd) = W4 at P ⊢; generalize wr.heap.size = bz at P ⊢)
            | (have P := pk_alloc (n := wn) (d := wd) lowD; generalize wD.alloc (.cells #[.string wn, .string wd] 42) = W4 at P ⊢; generalize wD.heap.size = bz at P ⊢)
        all_goals
          go_wp2_with fail
          go_meet
          exact ⟨_, rfl, rfl, P⟩
      case rest =>
      obtain ⟨bz, rfl, rfl, P⟩ := hcut
      have HBZ1 : HB9 ≤ bz := by rw [← HHB.out]; exact P.out.ge
      have hs5 := hs.on P.out.low
      have hlow9 : HB9 ≤ wc.heap.size := by rw [← HHB.out]; exact P.out.low.size
      have HO5 := Lib.hid (own_below HO.out P.out.low)
      have HX45 := Lib.hid (HX4.out.on P.out.low)
      have HX55 := Lib.hid (HX5.out.on P.out.low)
      have HX75 := Lib.hid (HX7.out.on P.out.low)
      have HZ1 := Lib.hid P.out.z
      have XX7 := HX75.out
      have XX5 := HX55.out
      clear P HX4 HX5 HX7 HO hs KA1 KM1 KQ1 KS1
      generalize wc = W5 at *
      go_upto_region 10 with (fail)
      go_cut [12, 13] (fun p e wx => ∃ bx, p = .pointer (some ⟨bx, 0, none⟩) ∧ e = .int .i64 qe2 ∧ Hid (Pk W5 wx bx #[.string vn, .string vd]))
      case first =>
        have HSOK : Hid (∀ W, Below W5.heap.size W5 W → W.cell? ⟨b, o + k * 9 + 5, none⟩ = some (.string f5) ∧ W.cell? ⟨b, o + k * 9 + 6, none⟩ = some (.string f6) ∧ W.cell? ⟨b, o + k * 9 + 7, none⟩ = some (.string f7) ∧ W.cell? ⟨b, o + k * 9 + 8, none⟩ = some (.string f8) ∧ W.cell? ⟨b7, 0, none⟩ = some (.string o1) ∧ W.cell? ⟨b7, 1, none⟩ = some (.string o2) ∧ W.cell? ⟨b5, 0, none⟩ = some (.string bn) ∧ W.cell? ⟨b5, 1, none⟩ = some (.string bd)) := fun W hb => ⟨HCW.out W (hs5.on hb) 5 _ rfl, HCW.out W (hs5.on hb) 6 _ rfl, HCW.out W (hs5.on hb) 7 _ rfl, HCW.out W (hs5.on hb) 8 _ rfl, (XX7.on hb).cell (i := 0) (v := .string o1) rfl, (XX7.on hb).cell (i := 1) (v := .string o2) rfl, (XX5.on hb).cell (i := 0) (v := .string bn) rfl, (XX5.on hb).cell (i := 1) (v := .string bd) rfl⟩
        have e3 : W5.drew.heap.size = W5.heap.size := rfl
        have low0 : Below W5.heap.size W5 W5 := Below.refl _ _
        have sX := HSOK.out _ low0
        go_region_held3 (fun w' => w'.cell? ⟨b, o + k * 9 + 5, none⟩ = some (.string f5) ∧ w'.cell? ⟨b, o + k * 9 + 6, none⟩ = some (.string f6) ∧ w'.cell? ⟨b, o + k * 9 + 7, none⟩ = some (.string f7) ∧ w'.cell? ⟨b, o + k * 9 + 8, none⟩ = some (.string f8) ∧ w'.cell? ⟨b7, 0, none⟩ = some (.string o1) ∧ w'.cell? ⟨b7, 1, none⟩ = some (.string o2) ∧ w'.cell? ⟨b5, 0, none⟩ = some (.string bn) ∧ w'.cell? ⟨b5, 1, none⟩ = some (.string bd))
          (first
            | (with_reducible exact sD)
            | (with_reducible exact sC)
            | (with_reducible exact sB)
            | (with_reducible exact sA)
            | (with_reducible exact sX)
            | exact HSOK.out _ (lowD.alloc lowD.size _)
            | exact HSOK.out _ (lowC.alloc lowC.size _)
            | exact HSOK.out _ (lowB.alloc lowB.size _)
            | exact HSOK.out _ (lowA.alloc lowA.size _)
            | exact HSOK.out _ (low0.alloc low0.size _)
            | exact HSOK.out _ low0.drew
            | exact HSOK.out _ (low0.alloc low0.size _).drew
            | exact HSOK.out _ (low0.drew.alloc low0.drew.size _)
            | exact HSOK.out _ (pk_set ZZ vn vd).low
            | exact HSOK.out _ (pk_set (pk_new lowD) vn vd).low
            | exact HSOK.out _ (pk_alloc (n := vn) (d := vd) lowD).low
            | (go_keep; done))
          (first
            | (go_at_call 93
               with_reducible refine KA2.step (by first | with_reducible exact hs5.drew | with_reducible exact hs5 | with_reducible exact (hs5.alloc _).drew | with_reducible exact hs5.alloc _) ?_
               intro wA hsA hbA
               have lowA : Below W5.heap.size W5 wA := (by first | with_reducible exact low0.trans (hbA.mono low0.size) | exact low0.drew.trans (hbA.mono low0.drew.size) | exact (low0.alloc low0.size _).trans (hbA.mono (by rw [World.size_alloc]; have := low0.size; omega)) | exact (low0.alloc low0.size _).drew.trans (hbA.mono (by show _ ≤ (World.alloc _ _).heap.size; rw [World.size_alloc]; have := low0.size; omega)))
               have sA := HSOK.out _ lowA
               (first | have ZZ := pk_on ZZ hbA | have ZZ := pk_on (pk_new low0) hbA | have ZZ := pk_on (pk_drew (pk_new low0)) hbA | skip)
               (try have zz0 := ZZ.z.cell (i := 0) (v := .string ⟨#[]⟩) rfl)
               (try have zz1 := ZZ.z.cell (i := 1) (v := .string ⟨#[]⟩) rfl)
               (try have zf0 := ZZ.z.frozen 0)
               (try have zf1 := ZZ.z.frozen 1))
            | (go_at_call 94
               with_reducible refine KM2.step (by first | with_reducible exact hsA.drew | with_reducible exact hsA | with_reducible exact (hsA.alloc _).drew | with_reducible exact hsA.alloc _) ?_
               intro wB hsB hbB
               have lowB : Below W5.heap.size W5 wB := (by first | with_reducible exact lowA.trans (hbB.mono lowA.size) | exact lowA.drew.trans (hbB.mono lowA.drew.size) | exact (lowA.alloc lowA.size _).trans (hbB.mono (by rw [World.size_alloc]; have := lowA.size; omega)) | exact (lowA.alloc lowA.size _).drew.trans (hbB.mono (by show _ ≤ (World.alloc _ _).heap.size; rw [World.size_alloc]; have := lowA.size; omega)))
               have sB := HSOK.out _ lowB
               (first | have ZZ := pk_on ZZ hbB | have ZZ := pk_on (pk_new lowA) hbB | have ZZ := pk_on (pk_drew (pk_new lowA)) hbB | skip)
               (try have zz0 := ZZ.z.cell (i := 0) (v := .string ⟨#[]⟩) rfl)
               (try have zz1 := ZZ.z.cell (i := 1) (v := .string ⟨#[]⟩) rfl)
               (try have zf0 := ZZ.z.frozen 0)
               (try have zf1 := ZZ.z.frozen 1))
            | (go_at_call 93
               with_reducible refine KS2.step (by first | with_reducible exact hsB.drew | with_reducible exact hsB | with_reducible exact (hsB.alloc _).drew | with_reducible exact hsB.alloc _) ?_
               intro wC hsC hbC
               have lowC : Below W5.heap.size W5 wC := (by first | with_reducible exact lowB.trans (hbC.mono lowB.size) | exact lowB.drew.trans (hbC.mono lowB.drew.size) | exact (lowB.alloc lowB.size _).trans (hbC.mono (by rw [World.size_alloc]; have := lowB.size; omega)) | exact (lowB.alloc lowB.size _).drew.trans (hbC.mono (by show _ ≤ (World.alloc _ _).heap.size; rw [World.size_alloc]; have := lowB.size; omega)))
               have sC := HSOK.out _ lowC
               (first | have ZZ := pk_on ZZ hbC | have ZZ := pk_on (pk_new lowB) hbC | have ZZ := pk_on (pk_drew (pk_new lowB)) hbC | skip)
               (try have zz0 := ZZ.z.cell (i := 0) (v := .string ⟨#[]⟩) rfl)
               (try have zz1 := ZZ.z.cell (i := 1) (v := .string ⟨#[]⟩) rfl)
               (try have zf0 := ZZ.z.frozen 0)
               (try have zf1 := ZZ.z.frozen 1))
            | (go_at_call 97
               with_reducible refine KQ2.step (by first | with_reducible exact hsC.drew | with_reducible exact hsC | with_reducible exact (hsC.alloc _).drew | with_reducible exact hsC.alloc _) ?_
               intro wD hsD hbD
               have lowD : Below W5.heap.size W5 wD := (by first | with_reducible exact lowC.trans (hbD.mono lowC.size) | exact lowC.drew.trans (hbD.mono lowC.drew.size) | exact (lowC.alloc lowC.size _).trans (hbD.mono (by rw [World.size_alloc]; have := lowC.size; omega)) | exact (lowC.alloc lowC.size _).drew.trans (hbD.mono (by show _ ≤ (World.alloc _ _).heap.size; rw [World.size_alloc]; have := lowC.size; omega)))
               have sD := HSOK.out _ lowD
               (first | have ZZ := pk_on ZZ hbD | have ZZ := pk_on (pk_new lowC) hbD | have ZZ := pk_on (pk_drew (pk_new lowC)) hbD | skip)
               (try have zz0 := ZZ.z.cell (i := 0) (v := .string ⟨#[]⟩) rfl)
               (try have zz1 := ZZ.z.cell (i := 1) (v := .string ⟨#[]⟩) rfl)
               (try have zf0 := ZZ.z.frozen 0)
               (try have zf1 := ZZ.z.frozen 1)))
        all_goals
          first
            | (have P := pk_set (bz := wC.heap.size) ZZ vn vd; generalize (wD.setCell ⟨wC.heap.size, 0, none⟩ (.string vn)).setCell ⟨wC.heap.size, 1, none⟩ (.string vd) = W4 at P ⊢; generalize wC.heap.size = bx at P ⊢)
            | (have P := pk_set (bz := wB.heap.size) ZZ vn vd; generalize (wD.setCell ⟨wB.heap.size, 0, none⟩ (.string vn)).setCell ⟨wB.heap.size, 1, none⟩ (.string vd) = W4 at P ⊢; generalize wB.heap.size = bx at P ⊢)
            | (have P := pk_set (bz := wA.heap.size) ZZ vn vd; generalize (wD.setCell ⟨wA.heap.size, 0, none⟩ (.string vn)).setCell ⟨wA.heap.size, 1, none⟩ (.string vd) = W4 at P ⊢; generalize wA.heap.size = bx at P ⊢)
            | (have P := pk_set (bz := W5.heap.size) ZZ vn vd; generalize (wD.setCell ⟨W5.heap.size, 0, none⟩ (.string vn)).setCell ⟨W5.heap.size, 1, none⟩ (.string vd) = W4 at P ⊢; generalize W5.heap.size = bx at P ⊢)
            | (have P := pk_alloc (n := vn) (d := vd) lowD; generalize wD.alloc (.cells #[.string vn, .string vd] 42) = W4 at P ⊢; generalize wD.heap.size = bx at P ⊢)
        all_goals
          go_wp2_with fail
          go_meet
          exact ⟨_, rfl, rfl, P⟩
      case rest =>
      obtain ⟨bx, rfl, rfl, P2⟩ := hcut
      have HBZ2 : HB9 ≤ bx := Nat.le_trans hlow9 P2.out.ge
      have hs6 := hs5.on P2.out.low
      have HO6 := Lib.hid (own_below HO5.out P2.out.low)
      have HX46 := Lib.hid (HX45.out.on P2.out.low)
      have HX56 := Lib.hid (HX55.out.on P2.out.low)
      have HX76 := Lib.hid (HX75.out.on P2.out.low)
      have Z1 := HZ1.out.on P2.out.low
      have Z2 := P2.out.z
      clear P2 HX45 HX55 HX75 HO5 hs5 KA2 KM2 KQ2 KS2 HZ1 XX7 XX5
      generalize wc = W6 at *
      by_cases hO0 : O = 0
      · obtain ⟨e1, e2, e3⟩ := HQE2.out.1 hO0
        subst e1 e2 e3
        clear HQE HQE2 HWN1 HWN2 HNZ0 hO0
        go_wp2_with fail
        go_ret2
        exact ⟨_, rfl, ⟨rfl, World.ownsRow_nil _ _ _ _⟩, hs6.2⟩
      · have e1 := HQE2.out.2.1 hO0
        subst e1
        by_cases hB0 : B = 0
        · obtain ⟨e1, e2, e3⟩ := HQE2.out.2.2.1 hB0
          subst e1 e2 e3
          clear HQE HQE2 HWN1 HWN2 HNZ0 hO0 hB0
          go_wp2_with fail
          go_ret2
          exact ⟨_, rfl, ⟨rfl, World.ownsRow_nil _ _ _ _⟩, hs6.2⟩
        · obtain ⟨e1, _, _⟩ := HQE2.out.2.2.2 hO0 hB0
          subst e1
          have HOB : Hid (O ≠ 0 ∧ B ≠ 0) := ⟨hO0, hB0⟩
          obtain ⟨a1, a2⟩ := HWN1.out hO0
          obtain ⟨a3, a4⟩ := HWN2.out hB0
          subst a1 a2 a3 a4
          have HTK : Hid (flatG scells (DL.take (k + 1)) = flatG scells (DL.take k) ++ [.string f0, .string p11, .string p12, .string ⟨#[]⟩, .string ⟨#[]⟩, .string p21, .string p22, .string ⟨#[]⟩, .string ⟨#[]⟩]) := by
            show _ = _
            rw [List.take_add_one, HDK.out, Option.toList_some, flatG_snoc, HSC.out]
          clear HQE2 HWN1 HWN2 HNZ0 hO0 hB0
          obtain ⟨i0, hi, hz0, hz1, hz2⟩ := info_parts infoS48
          have Hi := Lib.hid hi
          have Hz0 := Lib.hid hz0
          have Hz1 := Lib.hid hz1
          have Hz2 := Lib.hid hz2
          have hsz5 := hs6.2.size
          have hlt5' : b7 < W6.heap.size := HX76.out.lt
          have hnz : ∀ g, u8.ownBlock = some g → b7 + 1 ≤ g ∧ g < HB9 := fun g hg => by have := HNW.out g hg; rw [HHB.out] at this; exact this
          have HNZ := Lib.hid hnz
          have lNZ1 : bz ≥ HB9 := HBZ1
          have lNZ2 : bx ≥ HB9 := HBZ2
          clear hi hz0 hz1 hz2 hnz HSC HDK
          have HSOK : Hid (∀ W, Below W6.heap.size W6 W → W.cell? ⟨b, o + k * 9, none⟩ = some (.string f0) ∧ W.cell? ⟨bz, 0, none⟩ = some (.string p11) ∧ W.cell? ⟨bz, 1, none⟩ = some (.string p12) ∧ W.cell? ⟨bx, 0, none⟩ = some (.string p21) ∧ W.cell? ⟨bx, 1, none⟩ = some (.string p22)) := fun W hb => ⟨HCW.out W (hs6.on hb) 0 _ rfl, (Z1.on hb).cell (i := 0) (v := .string p11) rfl, (Z1.on hb).cell (i := 1) (v := .string p12) rfl, (Z2.on hb).cell (i := 0) (v := .string p21) rfl, (Z2.on hb).cell (i := 1) (v := .string p22) rfl⟩
          have low0 : Below W6.heap.size W6 W6 := Below.refl _ _
          have sX := HSOK.out _ low0
          go_wp2_with fail
          go_region_held3 (fun w' => w'.cell? ⟨b, o + k * 9, none⟩ = some (.string f0) ∧ w'.cell? ⟨bz, 0, none⟩ = some (.string p11) ∧ w'.cell? ⟨bz, 1, none⟩ = some (.string p12) ∧ w'.cell? ⟨bx, 0, none⟩ = some (.string p21) ∧ w'.cell? ⟨bx, 1, none⟩ = some (.string p22))
            (first
              | (with_reducible exact sX)
              | exact HSOK.out _ low0.drew
              | exact HSOK.out _ (low0.alloc low0.size _)
              | exact HSOK.out _ (low0.drew.alloc low0.drew.size _)
              | exact HSOK.out _ (low0.alloc low0.size _).drew
              | exact ⟨HCW.out w7 hs7 0 _ rfl, E1.cell (i := 0) (v := .string p11) rfl, E1.cell (i := 1) (v := .string p12) rfl, E2.cell (i := 0) (v := .string p21) rfl, E2.cell (i := 1) (v := .string p22) rfl⟩
              | (go_keep; done))
            (first
              | (refine step_append_any _ (by rfl) (.tmp 76) (.tmp 85) 39 (by rfl) (b7 + 1) 54 i0 (.agg #[.string ⟨#[]⟩, .string ⟨#[]⟩, .string ⟨#[]⟩, .string ⟨#[]⟩, .string ⟨#[]⟩, .string ⟨#[]⟩, .string ⟨#[]⟩, .string ⟨#[]⟩, .string ⟨#[]⟩]) 9 144 (by kernel_rfl) Hi.out Hz0.out Hz1.out Hz2.out rfl (by omega) u8 k (flatG scells (DL.take k)) (by rfl) (own_drew (HO6.out.alloc _)) (W6.heap.size + 1) (some ⟨W6.heap.size, 0, none⟩) 1 1 [.string f0, .string p11, .string p12, .string ⟨#[]⟩, .string ⟨#[]⟩, .string p21, .string p22, .string ⟨#[]⟩, .string ⟨#[]⟩] (by rfl) (reads_drew (reads_row W6 54 [.string f0, .string p11, .string p12, .string ⟨#[]⟩, .string ⟨#[]⟩, .string p21, .string p22, .string ⟨#[]⟩, .string ⟨#[]⟩])) (scells_one ⟨f0, p11, p12, ⟨#[]⟩, ⟨#[]⟩, p21, p22, ⟨#[]⟩, ⟨#[]⟩⟩) (by unfold maxLen; omega) (by omega) (by simp; omega) ?_
                 intro v7 w7 hown7 hg7 _
                 have hs7 : St w w7 := ⟨hs6.1, ((hs6.2.alloc hsz5 _).drew).grown hg7 (by simp; omega) (fun g hg => by have := (HNZ.out g hg).1; omega)⟩
                 have E1 := (Z1.alloc _).drew.grown hg7 (fun e => by have := (HNZ.out _ e.symm); have := lNZ1; omega)
                 have E2 := (Z2.alloc _).drew.grown hg7 (fun e => by have := (HNZ.out _ e.symm); have := lNZ2; omega)
                 have E4 := (HX46.out.alloc _).drew.grown hg7 (fun e => by have := (HNZ.out _ e.symm).1; omega)
                 have E5 := (HX56.out.alloc _).drew.grown hg7 (fun e => by have := (HNZ.out _ e.symm).1; omega)
                 have E7 := (HX76.out.alloc _).drew.grown hg7 (fun e => by have := (HNZ.out _ e.symm).1; omega))
              | (refine step_append_any _ (by rfl) (.tmp 76) (.tmp 85) 39 (by rfl) (b7 + 1) 54 i0 (.agg #[.string ⟨#[]⟩, .string ⟨#[]⟩, .string ⟨#[]⟩, .string ⟨#[]⟩, .string ⟨#[]⟩, .string ⟨#[]⟩, .string ⟨#[]⟩, .string ⟨#[]⟩, .string ⟨#[]⟩]) 9 144 (by kernel_rfl) Hi.out Hz0.out Hz1.out Hz2.out rfl (by omega) u8 k (flatG scells (DL.take k)) (by rfl) ((own_drew HO6.out).alloc _) (W6.drew.heap.size + 1) (some ⟨W6.drew.heap.size, 0, none⟩) 1 1 [.string f0, .string p11, .string p12, .string ⟨#[]⟩, .string ⟨#[]⟩, .string p21, .string p22, .string ⟨#[]⟩, .string ⟨#[]⟩] (by rfl) (reads_row W6.drew 54 [.string f0, .string p11, .string p12, .string ⟨#[]⟩, .string ⟨#[]⟩, .string p21, .string p22, .string ⟨#[]⟩, .string ⟨#[]⟩]) (scells_one ⟨f0, p11, p12, ⟨#[]⟩, ⟨#[]⟩, p21, p22, ⟨#[]⟩, ⟨#[]⟩⟩) (by unfold maxLen; omega) (by omega) (by simp; omega) ?_
                 intro v7 w7 hown7 hg7 _
                 have hs7 : St w w7 := ⟨hs6.1, (hs6.2.drew.alloc hsz5 _).grown hg7 (by simp; omega) (fun g hg => by have := (HNZ.out g hg).1; omega)⟩
                 have E1 := (Z1.drew.alloc _).grown hg7 (fun e => by have := (HNZ.out _ e.symm); have := lNZ1; omega)
                 have E2 := (Z2.drew.alloc _).grown hg7 (fun e => by have := (HNZ.out _ e.symm); have := lNZ2; omega)
                 have E4 := (HX46.out.drew.alloc _).grown hg7 (fun e => by have := (HNZ.out _ e.symm).1; omega)
                 have E5 := (HX56.out.drew.alloc _).grown hg7 (fun e => by have := (HNZ.out _ e.symm).1; omega)
                 have E7 := (HX76.out.drew.alloc _).grown hg7 (fun e => by have := (HNZ.out _ e.symm).1; omega))
              | (refine step_append_any _ (by rfl) (.tmp 76) (.tmp 85) 39 (by rfl) (b7 + 1) 54 i0 (.agg #[.string ⟨#[]⟩, .string ⟨#[]⟩, .string ⟨#[]⟩, .string ⟨#[]⟩, .string ⟨#[]⟩, .string ⟨#[]⟩, .string ⟨#[]⟩, .string ⟨#[]⟩, .string ⟨#[]⟩]) 9 144 (by kernel_rfl) Hi.out Hz0.out Hz1.out Hz2.out rfl (by omega) u8 k (flatG scells (DL.take k)) (by rfl) (HO6.out.alloc _) (W6.heap.size + 1) (some ⟨W6.heap.size, 0, none⟩) 1 1 [.string f0, .string p11, .string p12, .string ⟨#[]⟩, .string ⟨#[]⟩, .string p21, .string p22, .string ⟨#[]⟩, .string ⟨#[]⟩] (by rfl) (reads_row W6 54 [.string f0, .string p11, .string p12, .string ⟨#[]⟩, .string ⟨#[]⟩, .string p21, .string p22, .string ⟨#[]⟩, .string ⟨#[]⟩]) (scells_one ⟨f0, p11, p12, ⟨#[]⟩, ⟨#[]⟩, p21, p22, ⟨#[]⟩, ⟨#[]⟩⟩) (by unfold maxLen; omega) (by omega) (by simp; omega) ?_
                 intro v7 w7 hown7 hg7 _
                 have hs7 : St w w7 := ⟨hs6.1, (hs6.2.alloc hsz5 _).grown hg7 (by simp; omega) (fun g hg => by have := (HNZ.out g hg).1; omega)⟩
                 have E1 := (Z1.alloc _).grown hg7 (fun e => by have := (HNZ.out _ e.symm); have := lNZ1; omega)
                 have E2 := (Z2.alloc _).grown hg7 (fun e => by have := (HNZ.out _ e.symm); have := lNZ2; omega)
                 have E4 := (HX46.out.alloc _).grown hg7 (fun e => by have := (HNZ.out _ e.symm).1; omega)
                 have E5 := (HX56.out.alloc _).grown hg7 (fun e => by have := (HNZ.out _ e.symm).1; omega)
                 have E7 := (HX76.out.alloc _).grown hg7 (fun e => by have := (HNZ.out _ e.symm).1; omega)))
          go_wp2_with fail
          go_roundw
          case rel =>
            refine ⟨k + 1, by omega, by go_num, hs7, E4, E5, E7, ?_, fun _ => HOB.out⟩
            show World.ownsRow _ _ _ _ _ _ _
            rw [HTK.out]
            exact hown7
          case measure => simp [intOf]; omega
end Go.Proofs.YtndkglmokhndnaaGreatDoor
namespace Go.Proofs.YtndkglmokhndnaaGreatDoor
open Go.RowKit Go.Shelf Dec QQ

theorem prtsR_len (l : List SecS) : (prtsR l).length ≤ 32 := by
  unfold prtsR
  split
  · rename_i h
    unfold partsL
    rw [List.length_map]
    exact (chkS_iff.1 h).few
  · simp
theorem driR_len (l : List SecS) : (driR l).length ≤ 32 := by
  unfold driR
  split
  · rename_i h
    rw [driftL_len]
    exact (driE_ok.1 h).1.few
  · simp
set_option maxRecDepth 100000 in
set_option maxHeartbeats 4000000 in
theorem DriftP_any {A : Option Addr} {n c k0 : Nat} {l : List SecS} (hn : l.length = n) (hl : 32 < n ∨ FewS k0 l) (hc : n ≤ c) (w : World) (hg : Gl w) (hr : Row w A (flatG scells l)) :
    Calls Tryz.prog 30 #[.slice A n c] w fun e w' => ∃ v, e = .returned (.tuple #[v, .int .i64 (driE l)]) ∧ OutG scells 54 9 w.heap.size w' v (driR l).length (driR l) ∧ Below w.heap.size w w' := by
  by_cases he : chkS l = 0
  · have hf : FewS k0 l := by
      rcases hl with h | h
      · have := (chkS_iff.1 he).few; omega
      · exact h
    exact drift_few hn hf hc he w hg hr
  · have e1 : driE l = chkS l := if_pos he
    have e2 : driR l = [] := by unfold driR; rw [e1, if_neg he]
    rw [e1, e2]
    have hs := St.refl hg
    have Hr := Lib.hid hr
    have K1 := scheck_any (A := A) hn hl hc
    have q : (chkS l != 0) = true := by simpa using he
    generalize chkS l = ch at *
    clear hn hl hc he hr e1 e2
    go_enter Tryz.func30, Tryz.ntmps30
    go_wp2_with fail
    refine K1.step hs Hr.out ?_
    intro w1 hs _
    go_wp2_with fail
    go_ret2
    exact ⟨_, rfl, ⟨rfl, World.ownsRow_nil _ _ _ _⟩, hs.2⟩
set_option maxRecDepth 100000 in
set_option maxHeartbeats 4000000 in
theorem rDrift_any {A : Option Addr} {n c k0 : Nat} {l : List SecS} (hn : l.length = n) (hl : 32 < n ∨ FewS k0 l) (hk0 : k0 ≤ 100) (w : World) (hg : Gl w) (hr : Row w A (flatG scells l)) :
    Calls Tryz.prog 37 #[.slice A n c] w fun e w' => ∃ v, e = .returned (.tuple #[v, .int .i64 (driE l)]) ∧ OutG scells 54 9 w.heap.size w' v (driR l).length (driR l) ∧ Below w.heap.size w w' := by
  by_cases he : chkS l = 0
  · have hf : FewS k0 l := by
      rcases hl with h | h
      · have := (chkS_iff.1 he).few; omega
      · exact h
    exact rdrift_few hn hf hk0 he w hg hr
  · have e1 : driE l = chkS l := if_pos he
    have e2 : driR l = [] := by unfold driR; rw [e1, if_neg he]
    rw [e1, e2]
    have hs := St.refl hg
    have Hr := Lib.hid hr
    have K1 := rReturn_any (A := A) (c := c) hn hl (by omega)
    have q : (chkS l != 0) = true := by simpa using he
    unfold FR at K1
    generalize frN (retOwn l) = an at *
    generalize frD (retOwn l) = ad at *
    generalize frN (retBen l) = bn at *
    generalize frD (retBen l) = bd at *
    generalize chkS l = ch at *
    clear hn hl he hr e1 e2
    go_enter Tryz.func37, Tryz.ntmps37
    go_wp2_with fail
    refine K1.step hs Hr.out ?_
    intro w1 hs _
    go_wp2_with fail
    replace hs := (hs.alloc (.cells #[.string an, .string ad] 42)).alloc (.cells #[.string bn, .string bd] 42)
    go_ret2
    exact ⟨_, rfl, ⟨rfl, World.ownsRow_nil _ _ _ _⟩, hs.2⟩
set_option maxRecDepth 100000 in
set_option maxHeartbeats 4000000 in
theorem parts48_any {A : Option Addr} {n c : Nat} {l : List SecS} (w : World) (hn : l.length = n) (hc : n ≤ c) (hm : n ≤ 9223372036854775807) (hz : ∀ s ∈ l, s.big) (hr : Row w A (flatG scells l)) (hg : Gl w) :
    Calls Tryz.prog 7 #[.slice A n c] w fun e w' => e = .returned (.bool true) ∧ Below w.heap.size w w' := by
  have hs := St.refl hg
  have AW := awake48
  have KG := great48 (A := A) (c := c) hn hm hz
  have HR := Lib.hid hr
  obtain ⟨t, ht⟩ : ∃ t, greatB l = t := ⟨_, rfl⟩
  rw [ht] at KG
  cases t with
  | true =>
    clear ht hn hm hz hr hc
    go_enter Tryz.func7, Tryz.ntmps7
    go_wp2_with fail
    refine KG.step hs HR.out ?_
    intro w1 hs _
    go_wp2_with fail
    refine AW.step hs ?_
    intro wa hs _
    go_wp2_with fail
    go_ret
    exact ⟨rfl, hs.2⟩
  | false =>
    have hl : 32 < n ∨ FewS 12 l := by have := greatB_not ht; rwa [hn] at this
    have KR := Return_any (A := A) hn hl hc
    have KR' := rReturn_any (A := A) (c := c) hn hl (by omega)
    have KP := Lib.hid (fun w hg hr => Parts_any (A := A) hn hl hc w hg hr)
    have KP' := Lib.hid (fun w hg hr => rParts_any (A := A) (c := c) hn hl (by omega) w hg hr)
    have KD := Lib.hid (fun w hg hr => DriftP_any (A := A) hn hl hc w hg hr)
    have KD' := Lib.hid (fun w hg hr => rDrift_any (A := A) (c := c) hn hl (by omega) w hg hr)
    have KC := scheck_any (A := A) hn hl hc
    have KC' := rscheck_any (A := A) (c := c) hn hl
    have KE := Lib.hid (fun A A' c c' => equalP (A := A) (A' := A') (c := c) (c' := c') (xs := prtsR l) rfl (Nat.le_trans (prtsR_len l) (by decide)))
    have KF := Lib.hid (fun A A' c c' => equalS (A := A) (A' := A') (c := c) (c' := c') (xs := driR l) rfl (Nat.le_trans (driR_len l) (by decide)))
    unfold FR at KR KR'
    generalize frN (retOwn l) = an at *
    generalize frD (retOwn l) = ad at *
    generalize frN (retBen l) = bn at *
    generalize frD (retBen l) = bd at *
    generalize driE l = de at *
    generalize driR l = dr at *
    generalize prtsR l = ps at *
    generalize chkS l = ch at *
    have eF := eqlF an ad an ad
    have eG := eqlF bn bd bn bd
    simp only [beq_self_eq_true, Bool.and_true] at eF eG
    have q1 : (ch == ch) = true := by simp
    have q2 : (de == de) = true := by simp
    clear ht hn hm hz hr hc hl
    go_enter Tryz.func7, Tryz.ntmps7
    go_wp2_with fail
    refine KG.step hs HR.out ?_
    intro w1 hs _
    go_wp2_with fail
    refine KR.step hs (HR.out.on hs.2) ?_
    intro w2 hs _
    go_wp2_with fail
    have X0 := (Bx.new w2 #[.string an, .string ad] 42).alloc (.cells #[.string bn, .string bd] 42)
    have X1 := Bx.new1 w2 (.cells #[.string an, .string ad] 42) #[.string bn, .string bd] 42
    replace hs := (hs.alloc (.cells #[.string an, .string ad] 42)).alloc (.cells #[.string bn, .string bd] 42)
    refine KR'.step hs (HR.out.on hs.2) ?_
    intro w3 hs hb3
    replace X0 := X0.on hb3
    replace X1 := X1.on hb3
    go_wp2_with fail
    have Y0 := (Bx.new w3 #[.string an, .string ad] 42).alloc (.cells #[.string bn, .string bd] 42)
    have Y1 := Bx.new1 w3 (.cells #[.string an, .string ad] 42) #[.string bn, .string bd] 42
    have hbl : Below w3.heap.size w3 ((w3.alloc (.cells #[.string an, .string ad] 42)).alloc (.cells #[.string bn, .string bd] 42)) := ((Below.refl _ _).alloc (Nat.le_refl _) _).alloc (by simp) _
    replace X0 := X0.on hbl
    replace X1 := X1.on hbl
    replace hs := hs.on hbl
    clear hbl hb3
    refine (KP.out _ hs.gl (HR.out.on hs.2)).mono ?_
    rintro e w4 ⟨v1, rfl, ho1, hb4⟩
    obtain ⟨A1, c1, hv1, hr1⟩ := ho1.row
    subst hv1
    replace hs := hs.on hb4
    replace X0 := X0.on hb4
    replace X1 := X1.on hb4
    replace Y0 := Y0.on hb4
    replace Y1 := Y1.on hb4
    have HP1 := Lib.hid hr1
    clear ho1 hr1 hb4
    go_wp2_with fail
    refine (KP'.out _ hs.gl (HR.out.on hs.2)).mono ?_
    rintro e w5 ⟨v2, rfl, ho2, hb5⟩
    obtain ⟨A2, c2, hv2, hr2⟩ := ho2.row
    subst hv2
    replace hs := hs.on hb5
    replace X0 := X0.on hb5
    replace X1 := X1.on hb5
    replace Y0 := Y0.on hb5
    replace Y1 := Y1.on hb5
    have HP : Hid (Row w5 A1 (flatG pcells ps) ∧ Row w5 A2 (flatG pcells ps)) := ⟨HP1.out.on hb5, hr2⟩
    clear ho2 hr2 hb5 HP1
    go_wp2_with fail
    refine (KD.out _ hs.gl (HR.out.on hs.2)).mono ?_
    rintro e w6 ⟨v3, rfl, ho3, hb6⟩
    obtain ⟨A3, c3, hv3, hr3⟩ := ho3.row
    subst hv3
    replace hs := hs.on hb6
    replace X0 := X0.on hb6
    replace X1 := X1.on hb6
    replace Y0 := Y0.on hb6
    replace Y1 := Y1.on hb6
    have HP6 : Hid (Row w6 A1 (flatG pcells ps) ∧ Row w6 A2 (flatG pcells ps)) := ⟨HP.out.1.on hb6, HP.out.2.on hb6⟩
    have HD1 := Lib.hid hr3
    clear ho3 hr3 hb6 HP
    go_wp2_with fail
    refine (KD'.out _ hs.gl (HR.out.on hs.2)).mono ?_
    rintro e w7 ⟨v4, rfl, ho4, hb7⟩
    obtain ⟨A4, c4, hv4, hr4⟩ := ho4.row
    subst hv4
    replace hs := hs.on hb7
    replace X0 := X0.on hb7
    replace X1 := X1.on hb7
    replace Y0 := Y0.on hb7
    replace Y1 := Y1.on hb7
    have HP7 : Hid ((Row w7 A1 (flatG pcells ps) ∧ Row w7 A2 (flatG pcells ps)) ∧ (Row w7 A3 (flatG scells dr) ∧ Row w7 A4 (flatG scells dr))) := ⟨⟨HP6.out.1.on hb7, HP6.out.2.on hb7⟩, HD1.out.on hb7, hr4⟩
    clear ho4 hr4 hb7 HP6 HD1
    have KE2 := KE.out A1 A2 c1 c2
    have KF2 := KF.out A3 A4 c3 c4
    go_wp2_with fail
    refine KC.step hs (HR.out.on hs.2) ?_
    intro w8 hs hb8
    replace X0 := X0.on hb8
    replace X1 := X1.on hb8
    replace Y0 := Y0.on hb8
    replace Y1 := Y1.on hb8
    have HP8 : Hid ((Row w8 A1 (flatG pcells ps) ∧ Row w8 A2 (flatG pcells ps)) ∧ (Row w8 A3 (flatG scells dr) ∧ Row w8 A4 (flatG scells dr))) := ⟨⟨HP7.out.1.1.on hb8, HP7.out.1.2.on hb8⟩, HP7.out.2.1.on hb8, HP7.out.2.2.on hb8⟩
    clear HP7 hb8
    go_wp2_with fail
    refine KC'.step hs (HR.out.on hs.2) ?_
    intro w9 hs hb9
    replace X0 := X0.on hb9
    replace X1 := X1.on hb9
    replace Y0 := Y0.on hb9
    replace Y1 := Y1.on hb9
    have HP9 : Hid ((Row w9 A1 (flatG pcells ps) ∧ Row w9 A2 (flatG pcells ps)) ∧ (Row w9 A3 (flatG scells dr) ∧ Row w9 A4 (flatG scells dr))) := ⟨⟨HP8.out.1.1.on hb9, HP8.out.1.2.on hb9⟩, HP8.out.2.1.on hb9, HP8.out.2.2.on hb9⟩
    clear HP8 hb9
    have x0 := X0.cell (i := 0) (v := .string an) rfl
    have x1 := X0.cell (i := 1) (v := .string ad) rfl
    have x2 := X1.cell (i := 0) (v := .string bn) rfl
    have x3 := X1.cell (i := 1) (v := .string bd) rfl
    have y0 := Y0.cell (i := 0) (v := .string an) rfl
    have y1 := Y0.cell (i := 1) (v := .string ad) rfl
    have y2 := Y1.cell (i := 0) (v := .string bn) rfl
    have y3 := Y1.cell (i := 1) (v := .string bd) rfl
    go_wp2_with fail
    refine KE2.step hs HP9.out.1 ?_
    intro w10 hs hb10
    have HP10 : Hid (Row w10 A3 (flatG scells dr) ∧ Row w10 A4 (flatG scells dr)) := ⟨HP9.out.2.1.on hb10, HP9.out.2.2.on hb10⟩
    clear x0 x1 x2 x3 y0 y1 y2 y3 HP9
    go_wp2_with fail
    refine KF2.step hs HP10.out ?_
    intro w11 hs _
    go_wp2_with fail
    refine AW.step hs ?_
    intro wa hs _
    go_wp2_with fail
    go_ret
    exact ⟨rfl, hs.2⟩
end Go.Proofs.YtndkglmokhndnaaGreatDoor
