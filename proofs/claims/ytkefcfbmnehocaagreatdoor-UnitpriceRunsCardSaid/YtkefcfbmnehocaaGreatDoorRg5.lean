/- Unit prices, the reference: contracts of Price, Issue, Cancel and Deal: what the program's functions return. Conditions: strings of up to twenty thousand bytes. -/
import Derived.Test.YtkefcfbmnehocaaGreatDoorRg4
namespace Go.Proofs.YtkefcfbmnehocaaGreatDoor
open Go.RowKit Go.Shelf Dec QQ

theorem isNil_val {s : ByteArray} (h : s = canS (valS s)) : isNil s = decide (valS s = 0) := by
  cases hn : isNil s with
  | true => exact (decide_eq_true (nil_val hn)).symm
  | false => exact (decide_eq_false (val_ne h hn)).symm
set_option maxRecDepth 100000 in
set_option maxHeartbeats 4000000 in
theorem rissue {v u p : ByteArray} (h1 : v.size ≤ 20000) (h2 : u.size ≤ 20000) (h3 : p.size ≤ 20000) :
    Ret 28 #[.string v, .string u, .string p] (.tuple #[.string (IssueR v u p).1, .int .i64 (IssueR v u p).2]) := by
  intro w hg
  have hs := St.refl hg
  unfold IssueR nil
  have K1 := rucheck_any (A := some ⟨w.heap.size, 0, none⟩) (c := 3) (n := 3) (l := [v, u, p]) rfl (by omega) (by intro s hs; simp at hs; rcases hs with rfl | rfl | rfl <;> omega)
  have R1 := Row.of (Bx.new w #[.string v, .string u, .string p] 22)
  have HR := Lib.hid R1
  clear R1
  have HZ := Lib.hid (ucheck_zero (l := [v, u, p]))
  generalize ucheck [v, u, p] = e1 at *
  have K2 := down_r (a := p) (b := u) (c := v) h3 h2 h1
  obtain ⟨t0, q0⟩ : ∃ t, (e1 != 0) = t := ⟨_, rfl⟩
  rw [q0]
  cases t0 with
  | true =>
    go_enter Tryz.func28, Tryz.ntmps28
    go_wp2_with fail
    refine K1.step (hs.alloc _) HR.out ?_
    intro w1 hs hb
    go_wp2_with fail
    go_ret2
    exact ⟨rfl, hs.2⟩
  | false =>
    have e0 : e1 = 0 := by simpa using q0
    subst e0
    have hz := HZ.out.1 rfl
    have zv := isNil_val (hz v (by simp)).1
    clear hz HZ
    simp only [Bool.false_eq_true, if_false]
    have eI : issueR v u p = if isNil p || isNil u then (p, 0) else ((divR (valS p * valS u) (valS v)).1, (divR (valS p * valS u) (valS v)).2.2) := rfl
    rw [eI]
    obtain ⟨t1, ht1⟩ : ∃ t, isNil p = t := ⟨_, rfl⟩
    obtain ⟨t2, ht2⟩ : ∃ t, isNil u = t := ⟨_, rfl⟩
    obtain ⟨t3, ht3⟩ : ∃ t, isNil v = t := ⟨_, rfl⟩
    rw [ht1, ht2]
    rw [ht3] at zv
    have ZV := Lib.hid zv
    clear eI zv
    unfold isNil at ht1 ht2 ht3
    cases t1 with
    | true =>
      go_enter Tryz.func28, Tryz.ntmps28
      go_wp2_with fail
      refine K1.step (hs.alloc _) HR.out ?_
      intro w1 hs hb
      go_wp2_with fail
      go_ret2
      exact ⟨rfl, hs.2⟩
    | false =>
      cases t2 with
      | true =>
        go_enter Tryz.func28, Tryz.ntmps28
        go_wp2_with fail
        refine K1.step (hs.alloc _) HR.out ?_
        intro w1 hs hb
        go_wp2_with fail
        go_ret2
        exact ⟨rfl, hs.2⟩
      | false =>
        simp only [Bool.or_self, Bool.false_eq_true, if_false]
        cases t3 with
        | true =>
          have hv : valS v = 0 := of_decide_eq_true ZV.out.symm
          rw [hv, divR_zero]
          unfold nil
          clear hv K2
          go_enter Tryz.func28, Tryz.ntmps28
          go_wp2_with fail
          refine K1.step (hs.alloc _) HR.out ?_
          intro w1 hs hb
          go_wp2_with fail
          go_ret2
          exact ⟨rfl, hs.2⟩
        | false =>
          have hv : valS v ≠ 0 := of_decide_eq_false ZV.out.symm
          rw [divR_ok hv] at K2 ⊢
          simp only at K2 ⊢
          clear hv
          generalize canS ((valS p * valS u).fdiv (valS v)) = q at *
          go_enter Tryz.func28, Tryz.ntmps28
          go_wp2_with fail
          refine K1.step (hs.alloc _) HR.out ?_
          intro w1 hs hb
          go_wp2_with fail
          refine K2.step hs ?_
          intro w2 hs _
          go_wp2_with fail
          go_ret2
          exact ⟨rfl, hs.2⟩
set_option maxRecDepth 100000 in
set_option maxHeartbeats 4000000 in
theorem rcancel {v u b : ByteArray} (h1 : v.size ≤ 20000) (h2 : u.size ≤ 20000) (h3 : b.size ≤ 20000) :
    Ret 30 #[.string v, .string u, .string b] (.tuple #[.string (CancelR v u b).1, .int .i64 (CancelR v u b).2]) := by
  intro w hg
  have hs := St.refl hg
  unfold CancelR nil
  have K1 := rucheck_any (A := some ⟨w.heap.size, 0, none⟩) (c := 3) (n := 3) (l := [v, u, b]) rfl (by omega) (by intro s hs; simp at hs; rcases hs with rfl | rfl | rfl <;> omega)
  have R1 := Row.of (Bx.new w #[.string v, .string u, .string b] 22)
  have HR := Lib.hid R1
  clear R1
  have HZ := Lib.hid (ucheck_zero (l := [v, u, b]))
  generalize ucheck [v, u, b] = e1 at *
  have K2 := rcmpR (a := b) (b := u) (by omega) (by omega)
  have K3 := down_r (a := v) (b := b) (c := u) h1 h3 h2
  obtain ⟨t0, q0⟩ : ∃ t, (e1 != 0) = t := ⟨_, rfl⟩
  rw [q0]
  cases t0 with
  | true =>
    go_enter Tryz.func30, Tryz.ntmps30
    go_wp2_with fail
    refine K1.step (hs.alloc _) HR.out ?_
    intro w1 hs hb
    go_wp2_with fail
    go_ret2
    exact ⟨rfl, hs.2⟩
  | false =>
    have e0 : e1 = 0 := by simpa using q0
    subst e0
    have hz := HZ.out.1 rfl
    have zb := isNil_val (hz b (by simp)).1
    have pb := (hz b (by simp)).2
    clear hz HZ
    simp only [Bool.false_eq_true, if_false]
    have eI : cancelR v u b = if decide (cmpI (valS b) (valS u) > 0) then (nil, 15) else if isNil b then (nil, 0) else ((divR (valS v * valS b) (valS u)).1, (divR (valS v * valS b) (valS u)).2.2) := rfl
    have hcu := cmpI_pos (x := valS b) (y := valS u)
    rw [eI]
    unfold nil
    obtain ⟨t1, ht1⟩ : ∃ t, decide (cmpI (valS b) (valS u) > 0) = t := ⟨_, rfl⟩
    obtain ⟨t2, ht2⟩ : ∃ t, isNil b = t := ⟨_, rfl⟩
    rw [ht1, ht2]
    rw [ht1] at hcu
    rw [ht2] at zb
    have HCU := Lib.hid hcu
    have ZB := Lib.hid zb
    have PB := Lib.hid pb
    clear eI hcu zb pb
    unfold isNil at ht2
    have ht1' : decide (0 < cmpI (valS b) (valS u)) = t1 := ht1
    clear ht1
    generalize cmpI (valS b) (valS u) = cc at *
    cases t1 with
    | true =>
      go_enter Tryz.func30, Tryz.ntmps30
      go_wp2_with fail
      refine K1.step (hs.alloc _) HR.out ?_
      intro w1 hs hb
      go_wp2_with fail
      refine K2.step hs ?_
      intro w2 hs _
      go_wp2_with fail
      go_ret2
      exact ⟨rfl, hs.2⟩
    | false =>
      cases t2 with
      | true =>
        go_enter Tryz.func30, Tryz.ntmps30
        go_wp2_with fail
        refine K1.step (hs.alloc _) HR.out ?_
        intro w1 hs hb
        go_wp2_with fail
        refine K2.step hs ?_
        intro w2 hs _
        go_wp2_with fail
        go_ret2
        exact ⟨rfl, hs.2⟩
      | false =>
        have hb0 : valS b ≠ 0 := of_decide_eq_false ZB.out.symm
        have hub : ¬ valS u < valS b := of_decide_eq_false HCU.out.symm
        have hu : valS u ≠ 0 := by have := PB.out; omega
        simp only [Bool.false_eq_true, if_false]
        rw [divR_ok hu] at K3 ⊢
        simp only at K3 ⊢
        clear hb0 hub hu
        generalize canS ((valS v * valS b).fdiv (valS u)) = q at *
        go_enter Tryz.func30, Tryz.ntmps30
        go_wp2_with fail
        refine K1.step (hs.alloc _) HR.out ?_
        intro w1 hs hb
        go_wp2_with fail
        refine K2.step hs ?_
        intro w2 hs _
        go_wp2_with fail
        refine K3.step hs ?_
        intro w3 hs _
        go_wp2_with fail
        go_ret2
        exact ⟨rfl, hs.2⟩
set_option maxRecDepth 100000 in
set_option maxHeartbeats 4000000 in
theorem rprice {v u : ByteArray} (h1 : v.size ≤ 20000) (h2 : u.size ≤ 20000) :
    Ret 26 #[.string v, .string u] (.tuple #[FR (PriceR v u).1, .int .i64 (PriceR v u).2]) := by
  intro w hg
  have hs := (St.refl hg).alloc (.cells #[.string ⟨#[]⟩, .string ⟨#[]⟩] 34)
  have B := (Bx.new w #[.string ⟨#[]⟩, .string ⟨#[]⟩] 34).alloc (.cells #[.string v, .string u] 22)
  unfold PriceR
  have K1 := rucheck_any (A := some ⟨w.heap.size + 1, 0, none⟩) (c := 2) (n := 2) (l := [v, u]) rfl (by omega) (by intro s hs; simp at hs; rcases hs with rfl | rfl <;> omega)
  have R1 := Row.of (Bx.new1 w (.cells #[.string ⟨#[]⟩, .string ⟨#[]⟩] 34) #[.string v, .string u] 22)
  have HR := Lib.hid R1
  clear R1
  have HZ := Lib.hid (ucheck_zero (l := [v, u]))
  generalize ucheck [v, u] = e1 at *
  have K2 := new_r (n := v) (d := u) (by omega) (by omega)
  obtain ⟨t0, q0⟩ : ∃ t, (e1 != 0) = t := ⟨_, rfl⟩
  rw [q0]
  cases t0 with
  | true =>
    simp only [if_true]
    unfold FR
    rw [frN_zero, frD_zero]
    clear K2
    go_enter Tryz.func26, Tryz.ntmps26
    go_wp2_with fail
    refine K1.step (hs.alloc _) HR.out ?_
    intro w1 hs hb
    replace B := B.on hb
    have x0 := B.cell (i := 0) (v := .string ⟨#[]⟩) rfl
    have x1 := B.cell (i := 1) (v := .string ⟨#[]⟩) rfl
    have f0 := B.frozen 0
    have f1 := B.frozen 1
    go_wp2_with fail
    have B6 := (B.set 0 (.string ⟨#[]⟩)).set 1 (.string ⟨#[]⟩)
    have y0 := B6.cell (i := 0) (v := .string ⟨#[]⟩) rfl
    have y1 := B6.cell (i := 1) (v := .string ⟨#[]⟩) rfl
    have hs4 := (hs.set (b := w.heap.size) (Nat.le_refl _) 0 (.string ⟨#[]⟩)).set (b := w.heap.size) (Nat.le_refl _) 1 (.string ⟨#[]⟩)
    exact bodyPost_ret (v := .tuple #[.agg #[.string ⟨#[]⟩, .string ⟨#[]⟩], .int .i64 e1]) (by simp [results, Tryz.results26, go_sem, y0, y1]) rfl ⟨rfl, hs4.2⟩
  | false =>
    have e0 : e1 = 0 := by simpa using q0
    subst e0
    have hz := HZ.out.1 rfl
    have zu := isNil_val (hz u (by simp)).1
    clear hz HZ
    have eP : (if (false = true) then ((0 : Rat), (0 : Int)) else if isNil u = true then (0, 10) else (rat (valS v) (valS u), 0)) = (if valS u = 0 then 0 else rat (valS v) (valS u), if valS u = 0 then 10 else 0) := by
      rw [if_neg (by decide), zu]
      by_cases h : valS u = 0
      · simp [h]
      · simp [h]
    rw [eP]
    clear eP zu
    simp only
    generalize (if valS u = 0 then (0 : Rat) else rat (valS v) (valS u)) = q at *
    generalize (if valS u = 0 then (10 : Int) else 0) = e2 at *
    unfold FR at K2 ⊢
    generalize frN q = rn at *
    generalize frD q = rd at *
    go_enter Tryz.func26, Tryz.ntmps26
    go_wp2_with fail
    refine K1.step (hs.alloc _) HR.out ?_
    intro w1 hs hb
    replace B := B.on hb
    go_wp2_with fail
    refine K2.step hs ?_
    intro w2 hs hb
    replace B := B.on hb
    have x0 := B.cell (i := 0) (v := .string ⟨#[]⟩) rfl
    have x1 := B.cell (i := 1) (v := .string ⟨#[]⟩) rfl
    have f0 := B.frozen 0
    have f1 := B.frozen 1
    go_wp2_with fail
    have B6 := (B.set 0 (.string rn)).set 1 (.string rd)
    have y0 := B6.cell (i := 0) (v := .string rn) rfl
    have y1 := B6.cell (i := 1) (v := .string rd) rfl
    have hs4 := (hs.set (b := w.heap.size) (Nat.le_refl _) 0 (.string rn)).set (b := w.heap.size) (Nat.le_refl _) 1 (.string rd)
    exact bodyPost_ret (v := .tuple #[.agg #[.string rn, .string rd], .int .i64 e2]) (by simp [results, Tryz.results26, go_sem, y0, y1]) rfl ⟨rfl, hs4.2⟩
set_option maxRecDepth 100000 in
set_option maxHeartbeats 4000000 in
theorem rdeal {u v p b : ByteArray} (day : Int) (h1 : v.size ≤ 8000) (h2 : u.size ≤ 8000) (h3 : p.size ≤ 8000) (h4 : b.size ≤ 8000) :
    Ret 32 #[.string u, dealV day v p b] (.tuple #[(DealR u v p b).val, .int .i64 (DealR u v p b).err]) := by
  intro w hg
  have hs := ((St.refl hg).alloc (.cells #[.int .i64 day, .string v, .string p, .string b] 43)).alloc (.cells #[.string ⟨#[]⟩, .string ⟨#[]⟩, .string ⟨#[]⟩, .string ⟨#[]⟩] 39)
  have D := ((Bx.new w #[.int .i64 day, .string v, .string p, .string b] 43).alloc (.cells #[.string ⟨#[]⟩, .string ⟨#[]⟩, .string ⟨#[]⟩, .string ⟨#[]⟩] 39)).alloc (.cells #[.string u, .string v, .string p, .string b] 22)
  have B := (Bx.new1 w (.cells #[.int .i64 day, .string v, .string p, .string b] 43) #[.string ⟨#[]⟩, .string ⟨#[]⟩, .string ⟨#[]⟩, .string ⟨#[]⟩] 39).alloc (.cells #[.string u, .string v, .string p, .string b] 22)
  unfold DealR dealV
  have K1 := rucheck_any (A := some ⟨w.heap.size + 2, 0, none⟩) (c := 4) (n := 4) (l := [u, v, p, b]) rfl (by omega) (by intro s hs; simp at hs; rcases hs with rfl | rfl | rfl | rfl <;> omega)
  have R1 := Row.of (Bx.new2 w (.cells #[.int .i64 day, .string v, .string p, .string b] 43) (.cells #[.string ⟨#[]⟩, .string ⟨#[]⟩, .string ⟨#[]⟩, .string ⟨#[]⟩] 39) #[.string u, .string v, .string p, .string b] 22)
  have HR := Lib.hid R1
  clear R1
  have HZ := Lib.hid (ucheck_zero (l := [u, v, p, b]))
  generalize ucheck [u, v, p, b] = e1 at *
  obtain ⟨t0, q0⟩ : ∃ t, (e1 != 0) = t := ⟨_, rfl⟩
  rw [q0]
  cases t0 with
  | true =>
    simp only [if_true]
    unfold DealtR.val nil
    go_enter Tryz.func32, Tryz.ntmps32
    go_wp2_with fail
    refine K1.step (hs.alloc _) HR.out ?_
    intro w1 hs hb
    replace B := B.on hb
    clear D
    have x0 := B.cell (i := 0) (v := .string ⟨#[]⟩) rfl
    have f0 := B.frozen 0
    have x1 := B.cell (i := 1) (v := .string ⟨#[]⟩) rfl
    have f1 := B.frozen 1
    have x2 := B.cell (i := 2) (v := .string ⟨#[]⟩) rfl
    have f2 := B.frozen 2
    have x3 := B.cell (i := 3) (v := .string ⟨#[]⟩) rfl
    have f3 := B.frozen 3
    go_wp2_with fail
    have B6 := ((((B).set 0 (.string ⟨#[]⟩)).set 1 (.string ⟨#[]⟩)).set 2 (.string ⟨#[]⟩)).set 3 (.string ⟨#[]⟩)
    have y0 := B6.cell (i := 0) (v := .string ⟨#[]⟩) rfl
    have y1 := B6.cell (i := 1) (v := .string ⟨#[]⟩) rfl
    have y2 := B6.cell (i := 2) (v := .string ⟨#[]⟩) rfl
    have y3 := B6.cell (i := 3) (v := .string ⟨#[]⟩) rfl
    have hs4 := ((((hs.set (b := w.heap.size + 1) (by omega) 0 (.string ⟨#[]⟩)).set (b := w.heap.size + 1) (by omega) 1 (.string ⟨#[]⟩)).set (b := w.heap.size + 1) (by omega) 2 (.string ⟨#[]⟩)).set (b := w.heap.size + 1) (by omega) 3 (.string ⟨#[]⟩))
    exact bodyPost_ret (v := .tuple #[.agg #[.string ⟨#[]⟩, .string ⟨#[]⟩, .string ⟨#[]⟩, .string ⟨#[]⟩], .int .i64 e1]) (by simp [results, Tryz.results32, go_sem, y0, y1, y2, y3]) rfl ⟨rfl, hs4.2⟩
  | false =>
    have e0 : e1 = 0 := by simpa using q0
    subst e0
    have hz := HZ.out.1 rfl
    have c1 : ucheck [v, u, p] = 0 := ucheck_zero.2 (by intro s hs; simp at hs; rcases hs with rfl | rfl | rfl <;> exact hz _ (by simp))
    have c2 : ucheck [v, u, b] = 0 := ucheck_zero.2 (by intro s hs; simp at hs; rcases hs with rfl | rfl | rfl <;> exact hz _ (by simp))
    have K2 := rissue (v := v) (u := u) (p := p) (by omega) (by omega) (by omega)
    have K3 := rcancel (v := v) (u := u) (b := b) (by omega) (by omega) (by omega)
    rw [IssueR_ok c1] at K2
    rw [CancelR_ok c2] at K3
    have i1 := issue_size v u p
    have i2 := cancel_size v u b
    have KA1 : Ret 94 #[.string u, .string (issueR v u p).1] (.string (canS (valS u + valS (issueR v u p).1))) := fun w _ => rAdd_any _ _ w (by omega) (by omega)
    have fa1 := ((Fit.val (a := u) (k := 100000) (by omega)).add (Fit.val (a := (issueR v u p).1) (k := 100000) (by omega))).size
    have KS1 : Ret 93 #[.string (canS (valS u + valS (issueR v u p).1)), .string b] (.string (canS (valS u + valS (issueR v u p).1 - valS b))) := fun w _ => by
      have := rSub_any (canS (valS u + valS (issueR v u p).1)) b w (by omega) (by omega)
      rwa [valS_canS] at this
    have KA2 : Ret 94 #[.string v, .string p] (.string (canS (valS v + valS p))) := fun w _ => rAdd_any _ _ w (by omega) (by omega)
    have fa2 := ((Fit.val (a := v) (k := 100000) (by omega)).add (Fit.val (a := p) (k := 100000) (by omega))).size
    have KS2 : Ret 93 #[.string (canS (valS v + valS p)), .string (cancelR v u b).1] (.string (canS (valS v + valS p - valS (cancelR v u b).1))) := fun w _ => by
      have := rSub_any (canS (valS v + valS p)) (cancelR v u b).1 w (by omega) (by omega)
      rwa [valS_canS] at this
    clear hz HZ c1 c2 i1 i2 fa1 fa2
    simp only [Bool.false_eq_true, if_false]
    unfold dealR DealtR.val nil
    generalize canS (valS u + valS (issueR v u p).1 - valS b) = r1 at *
    generalize canS (valS v + valS p - valS (cancelR v u b).1) = r2 at *
    generalize canS (valS u + valS (issueR v u p).1) = r3 at *
    generalize canS (valS v + valS p) = r4 at *
    generalize (issueR v u p).1 = is at *
    generalize (issueR v u p).2 = e2 at *
    generalize (cancelR v u b).1 = ca at *
    generalize (cancelR v u b).2 = e3 at *
    obtain ⟨t1, q1⟩ : ∃ t, (e2 != 0) = t := ⟨_, rfl⟩
    obtain ⟨t2, q2⟩ : ∃ t, (e3 != 0) = t := ⟨_, rfl⟩
    rw [q1, q2]
    cases t1 with
    | true =>
      simp only [if_true]
      go_enter Tryz.func32, Tryz.ntmps32
      go_wp2_with fail
      refine K1.step (hs.alloc _) HR.out ?_
      intro w1 hs hb
      replace B := B.on hb
      replace D := D.on hb
      have d1 := D.cell (i := 1) (v := .string v) rfl
      have d2 := D.cell (i := 2) (v := .string p) rfl
      go_wp2_with fail
      refine K2.step hs ?_
      intro w2 hs hb
      replace B := B.on hb
      replace D := D.on hb
      clear d1 d2
      have x0 := B.cell (i := 0) (v := .string ⟨#[]⟩) rfl
      have f0 := B.frozen 0
      have x1 := B.cell (i := 1) (v := .string ⟨#[]⟩) rfl
      have f1 := B.frozen 1
      have x2 := B.cell (i := 2) (v := .string ⟨#[]⟩) rfl
      have f2 := B.frozen 2
      have x3 := B.cell (i := 3) (v := .string ⟨#[]⟩) rfl
      have f3 := B.frozen 3
      go_wp2_with fail
      have B6 := ((((B).set 0 (.string ⟨#[]⟩)).set 1 (.string ⟨#[]⟩)).set 2 (.string ⟨#[]⟩)).set 3 (.string ⟨#[]⟩)
      have y0 := B6.cell (i := 0) (v := .string ⟨#[]⟩) rfl
      have y1 := B6.cell (i := 1) (v := .string ⟨#[]⟩) rfl
      have y2 := B6.cell (i := 2) (v := .string ⟨#[]⟩) rfl
      have y3 := B6.cell (i := 3) (v := .string ⟨#[]⟩) rfl
      have hs4 := ((((hs.set (b := w.heap.size + 1) (by omega) 0 (.string ⟨#[]⟩)).set (b := w.heap.size + 1) (by omega) 1 (.string ⟨#[]⟩)).set (b := w.heap.size + 1) (by omega) 2 (.string ⟨#[]⟩)).set (b := w.heap.size + 1) (by omega) 3 (.string ⟨#[]⟩))
      exact bodyPost_ret (v := .tuple #[.agg #[.string ⟨#[]⟩, .string ⟨#[]⟩, .string ⟨#[]⟩, .string ⟨#[]⟩], .int .i64 e2]) (by simp [results, Tryz.results32, go_sem, y0, y1, y2, y3]) rfl ⟨rfl, hs4.2⟩
    | false =>
      cases t2 with
      | true =>
        simp only [Bool.false_eq_true, if_false, if_true]
        go_enter Tryz.func32, Tryz.ntmps32
        go_wp2_with fail
        refine K1.step (hs.alloc _) HR.out ?_
        intro w1 hs hb
        replace B := B.on hb
        replace D := D.on hb
        have d1 := D.cell (i := 1) (v := .string v) rfl
        have d2 := D.cell (i := 2) (v := .string p) rfl
        go_wp2_with fail
        refine K2.step hs ?_
        intro w2 hs hb
        replace B := B.on hb
        replace D := D.on hb
        clear d1 d2
        have d1 := D.cell (i := 1) (v := .string v) rfl
        have d3 := D.cell (i := 3) (v := .string b) rfl
        go_wp2_with fail
        refine K3.step hs ?_
        intro w3 hs hb
        replace B := B.on hb
        replace D := D.on hb
        clear d1 d3
        have x0 := B.cell (i := 0) (v := .string ⟨#[]⟩) rfl
        have f0 := B.frozen 0
        have x1 := B.cell (i := 1) (v := .string ⟨#[]⟩) rfl
        have f1 := B.frozen 1
        have x2 := B.cell (i := 2) (v := .string ⟨#[]⟩) rfl
        have f2 := B.frozen 2
        have x3 := B.cell (i := 3) (v := .string ⟨#[]⟩) rfl
        have f3 := B.frozen 3
        go_wp2_with fail
        have B6 := ((((B).set 0 (.string ⟨#[]⟩)).set 1 (.string ⟨#[]⟩)).set 2 (.string ⟨#[]⟩)).set 3 (.string ⟨#[]⟩)
        have y0 := B6.cell (i := 0) (v := .string ⟨#[]⟩) rfl
        have y1 := B6.cell (i := 1) (v := .string ⟨#[]⟩) rfl
        have y2 := B6.cell (i := 2) (v := .string ⟨#[]⟩) rfl
        have y3 := B6.cell (i := 3) (v := .string ⟨#[]⟩) rfl
        have hs4 := ((((hs.set (b := w.heap.size + 1) (by omega) 0 (.string ⟨#[]⟩)).set (b := w.heap.size + 1) (by omega) 1 (.string ⟨#[]⟩)).set (b := w.heap.size + 1) (by omega) 2 (.string ⟨#[]⟩)).set (b := w.heap.size + 1) (by omega) 3 (.string ⟨#[]⟩))
        exact bodyPost_ret (v := .tuple #[.agg #[.string ⟨#[]⟩, .string ⟨#[]⟩, .string ⟨#[]⟩, .string ⟨#[]⟩], .int .i64 e3]) (by simp [results, Tryz.results32, go_sem, y0, y1, y2, y3]) rfl ⟨rfl, hs4.2⟩
      | false =>
        simp only [Bool.false_eq_true, if_false]
        go_enter Tryz.func32, Tryz.ntmps32
        go_wp2_with fail
        refine K1.step (hs.alloc _) HR.out ?_
        intro w1 hs hb
        replace B := B.on hb
        replace D := D.on hb
        have d1 := D.cell (i := 1) (v := .string v) rfl
        have d2 := D.cell (i := 2) (v := .string p) rfl
        go_wp2_with fail
        refine K2.step hs ?_
        intro w2 hs hb
        replace B := B.on hb
        replace D := D.on hb
        clear d1 d2
        have d1 := D.cell (i := 1) (v := .string v) rfl
        have d3 := D.cell (i := 3) (v := .string b) rfl
        go_wp2_with fail
        refine K3.step hs ?_
        intro w3 hs hb
        replace B := B.on hb
        replace D := D.on hb
        clear d1 d3
        have z1 := D.keeps (i := 1) (v := .string v) rfl
        have z2 := D.keeps (i := 2) (v := .string p) rfl
        have z3 := D.keeps (i := 3) (v := .string b) rfl
        go_wp2_with fail
        refine wp_region_kept_tail 16 (by kernel_rfl) (by kernel_rfl) ?_
        simp only [List.take_succ_cons, List.take_zero, List.drop_succ_cons, List.drop_zero]
        repeat (go_big_quiet_step (first | (with_reducible exact KA1.kept hs) | (with_reducible exact KS1.kept hs) | (with_reducible exact KA2.kept hs) | (with_reducible exact KS2.kept hs)))
        refine wpQuiet_nil ?_
        rintro _ ⟨uu, rfl⟩
        replace hs := hs.kept uu
        replace B := B.kept uu
        have x0 := B.cell (i := 0) (v := .string ⟨#[]⟩) rfl
        have f0 := B.frozen 0
        have x1 := B.cell (i := 1) (v := .string ⟨#[]⟩) rfl
        have f1 := B.frozen 1
        have x2 := B.cell (i := 2) (v := .string ⟨#[]⟩) rfl
        have f2 := B.frozen 2
        have x3 := B.cell (i := 3) (v := .string ⟨#[]⟩) rfl
        have f3 := B.frozen 3
        go_wp2_with fail
        have B6 := ((((B).set 0 (.string is)).set 1 (.string ca)).set 2 (.string r1)).set 3 (.string r2)
        have y0 := B6.cell (i := 0) (v := .string is) rfl
        have y1 := B6.cell (i := 1) (v := .string ca) rfl
        have y2 := B6.cell (i := 2) (v := .string r1) rfl
        have y3 := B6.cell (i := 3) (v := .string r2) rfl
        have hs4 := ((((hs.set (b := w.heap.size + 1) (by omega) 0 (.string is)).set (b := w.heap.size + 1) (by omega) 1 (.string ca)).set (b := w.heap.size + 1) (by omega) 2 (.string r1)).set (b := w.heap.size + 1) (by omega) 3 (.string r2))
        exact bodyPost_ret (v := .tuple #[.agg #[.string is, .string ca, .string r1, .string r2], .int .i64 0]) (by simp [results, Tryz.results32, go_sem, y0, y1, y2, y3]) rfl ⟨rfl, hs4.2⟩
end Go.Proofs.YtkefcfbmnehocaaGreatDoor
