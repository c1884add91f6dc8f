/- Allocation: positive. Condition: up to twelve weights of bounded length. -/
import Derived.Test.YtdpoagcgglfijaaGreatDoorPz
namespace Go.Proofs.YtdpoagcgglfijaaGreatDoor
open Go.RowKit Go.Shelf Go.Sort SP Dec

set_option maxRecDepth 100000 in
set_option maxHeartbeats 4000000 in
theorem pos4_few {A : Option Addr} {n c k0 : Nat} {t : ByteArray} {ws : List ByteArray} (hn : ws.length = n) (h12 : n ≤ 12) (hk0 : k0 ≤ 5000) (ht : t.size ≤ k0) (hz : ∀ s ∈ ws, s.size ≤ k0) (hcan : canS (valS t) = t) (hok : WOk (iv ws))
    (w : World) (hg : Gl w) (hr : Row w A (ws.map sv)) :
    Calls Tryz.prog 62 #[.string t, .slice A n c] w fun e w' => ∃ v, e = .returned v ∧ POut w v n (posL (valS t) (iv ws)) w' ∧ Below w.heap.size w w' := by
  have hs := St.refl hg
  have hpos : (iv ws).sum ≠ 0 := by have := hok.pos; omega
  have HOK := Lib.hid hok
  have KW := whole_any (A := A) (c := c) hn h12 hk0 hz
  obtain ⟨Z, hZ, hm⟩ := madeS h12
  obtain ⟨Y, hY, hmi⟩ := madeI h12
  obtain ⟨sm, hsm⟩ : ∃ v, canS (iv ws).sum = v := ⟨_, rfl⟩
  rw [hsm] at KW
  have HM := Lib.hid hm
  have HR := Lib.hid hr
  have HMI : ∀ u : World, (Instr.makeSlice 114 (.int .i64 (n : Int)) (.int .i64 (n : Int))).run Tryz.prog u = .ok (.slice (some ⟨u.heap.size, 0, none⟩) n n) (u.alloc (.cells Y 3)) := hmi
  have HN := Lib.hid hn
  have HZW := Lib.hid hz
  have HT := Lib.hid ht
  have HCAN := Lib.hid hcan
  have HSM := Lib.hid hsm
  have HPOS := Lib.hid hpos
  have HFS : Hid (Fit (k0 + 2) (iv ws).sum) := whole_fit hz (by omega)
  clear hm hmi hg hr hn hz ht hcan hsm hpos hok
  go_enter Tryz.func62, Tryz.ntmps62
  go_wp2_with fail
  refine KW.step hs HR.out ?_
  intro w1 hs1 _
  go_wp2_with fail
  have HMS : ∀ u : World, (Instr.makeSlice 23 (.int .i64 (n : Int)) (.int .i64 (n : Int))).run Tryz.prog u = .ok (.slice (some ⟨u.heap.size, 0, none⟩) n n) (u.alloc (.cells Z 22)) := HM.out
  have HSZ : Hid (w.heap.size ≤ w1.heap.size) := hs1.2.size
  have HL1 := Lib.hid hs1
  clear hs
  go_upto_region 2 with (fail)
  go_cut [6, 7, 23] (fun p q r wx => ∃ P R B, p = .slice (some ⟨P, 0, none⟩) n n ∧ q = .pointer (some ⟨B, 0, none⟩) ∧ r = .slice (some ⟨R, 0, none⟩) n n ∧ Hid (PB0 w1 Z n P R B wx))
  case first =>
    clear hs1
    go_big_region
    all_goals
      go_wp2_with fail
      go_meet
      refine ⟨_, _, _, rfl, rfl, rfl, ⟨⟨rfl, rfl, rfl, ?_, ?_⟩, ?_, ?_, ?_, ?_, ?_, ?_, ?_, ?_, ?_⟩⟩
    all_goals try omega
    all_goals try first | exact tri0 _ _ _ _ | exact tri1 _ _ _ _ | exact tri2 _ _ _ _
    all_goals try (simp [-World.alloc_eq, -World.drew_eq, World.alloc, World.drew, Array.getElem?_push]; done)
    all_goals try (intro k hk; simp [-World.alloc_eq, -World.drew_eq, World.alloc, World.drew, Array.getElem?_push]; (repeat first | rw [if_neg (by omega)] | rw [if_pos (by omega)]); done)
    all_goals try (simp [-World.alloc_eq, -World.drew_eq, World.alloc, World.drew]; omega)
    all_goals try (simp [-World.alloc_eq, -World.drew_eq, World.alloc, World.setCell, World.drew, Array.getElem?_push, Array.getElem?_modify]; (repeat first | rw [if_neg (by omega)] | rw [if_pos (by omega)]); done)
  case rest =>
  obtain ⟨P, R, B, rfl, rfl, rfl, HB⟩ := hcut
  have hs2 : St w wc := hs1.on HB.out.low
  generalize wc = W5 at *
  go_wp2_with fail
  have hs3 := hs2.alloc (.cells Y 3)
  have HZ0 : Hid (∃ O, O = W5.heap.size ∧ PZ w (valS t) (iv ws) n P R O B 0 0 (W5.alloc (.cells Y 3))) := by
    have hz := hs1.2.size
    have e : ∀ {b : Nat} {o : Obj}, W5.heap[b]? = some o → b < W5.heap.size ∧ (W5.alloc (.cells Y 3)).heap[b]? = some o := fun {b o} h => ⟨(Array.getElem?_eq_some_iff.1 h).1, (Below.heap_alloc _ _ _ (Array.getElem?_eq_some_iff.1 h).1).trans h⟩
    have lp := HB.out.lP
    have lr := HB.out.lR
    have lb := HB.out.lB
    have l1 := (e HB.out.pr).1
    have l2 := (e HB.out.rr).1
    have l3 := (e HB.out.bb).1
    exact ⟨_, rfl, hs3, Fil.start (e HB.out.pr).2 hZ, Fil.start (e HB.out.rr).2 hZ, Fil.start (heap_new _ _) hY, (e HB.out.bb).2, ⟨by omega, by omega, by omega, by have := hs2.2.size; omega⟩, ⟨HB.out.nPR, HB.out.nPB, by omega, HB.out.nRB, by omega, by omega⟩⟩
  obtain ⟨O, hO, HZZ⟩ := HZ0
  rw [← hO]
  have HP0 := Lib.hid HZZ
  clear HZZ hO hs3 hs2 HB hs1 HL1 HSZ
  generalize W5.alloc (.cells Y 3) = W6 at *
  go_loopw [30, 9] (fun s ms wr => ∃ k : Nat, k ≤ n ∧ s = .int .i64 (k : Int) ∧ ms = .string (canS (valS t - ((qL (valS t) (iv ws)).take k).sum)) ∧ Hid (PZ w (valS t) (iv ws) n P R O B k k wr)) (fun s _ _ => (n - intOf s).toNat)
  case atStart => exact ⟨0, by omega, rfl, by rw [List.take_zero]; show Value.string t = .string (canS (valS t - 0)); rw [Int.sub_zero, HCAN.out], HP0.out⟩
  case round =>
    clear HP0
    obtain ⟨k, hk, rfl, rfl, HP⟩ := hrel
    by_cases hkn : k = n
    · subst hkn
      have q : decide ((k : Int) < (k : Int)) = false := decide_eq_false (by omega)
      obtain ⟨m, hm⟩ : ∃ m, k = m + 1 := ⟨k - 1, by
        have h1 : (iv ws).length = k := by rw [iv_len, HN.out]
        have h2 := HOK.out.pos
        have h3 : k ≠ 0 := fun e => by rw [List.length_eq_zero_iff.1 (h1.trans e)] at h2; simp at h2
        omega⟩
      have hiv : (iv ws).length = k := by rw [iv_len, HN.out]
      have hrl : (rL (valS t) (iv ws)).length = k := by rw [rL_len, hiv]
      have HSo := Lib.hid (sort_few (m := m) (blk := O) (n := k) (g := 86) (cb := #[.pointer (some ⟨B, 0, none⟩)]) (cf := cfO (rL (valS t) (iv ws))) (d := Array.ofFn (fun i : Fin (m + 1) => i)) (w0 := wr) (w := wr) (fun _ _ => rfl)
        (cmp4_of HP.out hm hiv (k := k0 + 2) (by omega) (r_fit HOK.out HFS.out)) (by rw [Array.size_ofFn, hm]) h12 (Fil.sow HP.out.oo hm))
      obtain ⟨j0, hj0, hjk⟩ : ∃ j0 : Nat, mis (valS t) (iv ws) = (j0 : Int) ∧ j0 ≤ k := by
        have h1 := mis_le (valS t) HOK.out
        rw [hiv] at h1
        exact ⟨(mis (valS t) (iv ws)).toNat, by omega, by omega⟩
      have e1 : valS t - ((qL (valS t) (iv ws)).take k).sum = (j0 : Int) := by
        rw [List.take_of_length_le (by rw [qL_len, hiv]; exact Nat.le_refl _)]
        exact hj0
      have KSm : Ret 89 #[.string (canS (j0 : Int))] (.tuple #[.int .i64 (j0 : Int), .bool true]) := fun w hg => by
        have := SmlV (Vs.can (k := 2) (z := (j0 : Int)) (by show (j0 : Int).natAbs < 10 ^ 2; omega) (by omega)) w hg
        rwa [show sml (j0 : Int) = ((j0 : Int), true) by unfold sml; rw [if_pos ⟨by omega, by omega⟩]] at this
      rw [e1]
      generalize canS (j0 : Int) = mt at *
      have HHM := Lib.hid (And.intro hm (And.intro hiv (And.intro hrl hj0)))
      have hk0n : ¬ k = 0 := by omega
      clear hm hiv hrl hj0 e1
      go_wp2_with fail
      refine (HSo.out).mono ?_
      rintro e w1 ⟨rfl, hS⟩
      obtain ⟨L, HL⟩ : ∃ L : List Nat, Hid (Ord (rL (valS t) (iv ws)) L ∧ PY w (qL (valS t) (iv ws)) (rL (valS t) (iv ws)) L k P O 0 w1) := by
        have hm := HHM.out.1
        have hS' := hS
        rw [show insertionSort (ltC (cfO (m := m) (rL (valS t) (iv ws)))) (Array.ofFn (fun i : Fin (m + 1) => i)) 0 k = insertionSort (ltC (cfO (m := m) (rL (valS t) (iv ws)))) (Array.ofFn (fun i : Fin (m + 1) => i)) 0 (m + 1) by rw [hm]] at hS'
        exact ⟨_, sorted_ord (m := m) (HHM.out.2.2.1.trans hm), PY.start (HP.out.st.grown hS.gr HP.out.lo.2.2.2) (HP.out.pr.grown hS.gr (by intro e; injection e with e; exact HP.out.ne.2.2.1 e)) (hS'.fil (srt_len.trans hm.symm)) HP.out.lo.1 HP.out.ne.2.2.1⟩
      have hs1 := HL.out.2.st
      have HPY := Lib.hid HL.out.2
      have HORD := Lib.hid HL.out.1
      clear HP HSo hS HL
      go_wp2_with fail
      refine KSm.step hs1 ?_
      intro w2 hs2 hb2
      replace HPY := Lib.hid (HPY.out.up hb2)
      have hadd : ∀ a : Addr, a.add (0 * 1) = a := fun a => by simp [Addr.add]
      have jk : (j0 : Int) ≤ (k : Int) := by omega
      go_wp2_with fail
      go_loopw [73] (fun s wr2 => ∃ j : Nat, j ≤ j0 ∧ s = .int .i64 (j : Int) ∧ Hid (PY w (qL (valS t) (iv ws)) (rL (valS t) (iv ws)) L k P O j wr2)) (fun s _ => (j0 - intOf s).toNat)
      case atStart => exact ⟨0, by omega, rfl, HPY.out⟩
      case round =>
        clear HPY hs1 hs2
        obtain ⟨j, hj, rfl, HPY⟩ := hrel
        by_cases hjn : j = j0
        · subst hjn
          have q : decide ((j : Int) < (j : Int)) = false := decide_eq_false (by omega)
          go_wp2_with fail
          go_ret
          exact ⟨_, rfl, HPY.out.done HHM.out.2.1 HHM.out.2.2.2.symm, HPY.out.st.2⟩
        · have hjl : j < k := by omega
          have q : decide ((j : Int) < (j0 : Int)) = true := decide_eq_true (by omega)
          have qn : decide (j < j0) = true := decide_eq_true (by omega)
          have jl0 : j < j0 := by omega
          obtain ⟨_, hik, _⟩ := PY.place HORD.out HHM.out.2.2.1 hjl
          have cO := HPY.out.oo.cell (i := j) hjl
          have cP := HPY.out.at HORD.out HHM.out.2.2.1 hjl
          have hst := fun (W : World) (h : PY w (qL (valS t) (iv ws)) (rL (valS t) (iv ws)) L k P O j W) => h.step HORD.out HHM.out.2.2.1 hjl rfl
          have hql : (qL (valS t) (iv ws)).length = k := by rw [qL_len]; exact HHM.out.2.1
          have fq := q_fit HT.out HZW.out _ (List.mem_of_getElem? (at0_lt (l := qL (valS t) (iv ws)) (i := ati L j) (by rw [hql]; exact hik)))
          have KA := AddR (Vs.can fq (by omega)) (⟨by decide, by decide⟩ : Vs ⟨#[49]⟩ 1)
          have HST := Lib.hid hst
          generalize canS (at0 (qL (valS t) (iv ws)) (ati L j) + 1) = y at *
          generalize canS (at0 (qL (valS t) (iv ws)) (ati L j)) = x at *
          generalize ati L j = i at *
          have ik : (i : Int) < (k : Int) := by omega
          have hs1 := HPY.out.st
          clear fq hst hql hjn
          go_wp2_with fail
          refine KA.step hs1 ?_
          intro w3 hs3 hb3
          have HP3 := Lib.hid (HPY.out.up hb3)
          obtain ⟨vP, cP3⟩ := HP3.out.pr.some hik
          have fP3 := HP3.out.pr.frozen i
          have HP4 := Lib.hid (HST.out _ HP3.out)
          go_wp2_with fail
          go_roundw
          case rel => exact ⟨j + 1, by omega, by go_num, HP4.out⟩
          case measure => simp [intOf]; omega
    · have hkl : k < n := by omega
      have q : decide ((k : Int) < (n : Int)) = true := decide_eq_true (by omega)
      obtain ⟨s, hd⟩ : ∃ s, ws[k]? = some s := ⟨ws[k]'(by rw [HN.out]; exact hkl), by simp⟩
      obtain ⟨b, o, hA, hb, hc⟩ := HR.out k (sv s) (by rw [List.getElem?_map, hd]; rfl)
      subst hA
      unfold sv at hc
      have hcr := (HP.out.st.2.cell (p := ⟨b, o + k, none⟩) hb).trans hc
      have zs := HZW.out s (List.mem_of_getElem? hd)
      have KM := MulR (Vs.arg (s := t) (by have := HT.out; omega)) (Vs.arg (s := s) (by omega))
      obtain ⟨tm, htm⟩ : ∃ v, canS (valS t * valS s) = v := ⟨_, rfl⟩
      rw [htm] at KM
      obtain ⟨ms, hms⟩ : ∃ v, canS (valS t - ((qL (valS t) (iv ws)).take k).sum) = v := ⟨_, rfl⟩
      rw [hms]
      have HMS := Lib.hid hms
      clear hms
      have b0 : W6.cell? ⟨B, 0, none⟩ = W6.cell? ⟨B, 0, none⟩ := rfl
      have cB : wr.cell? ⟨B, 0, none⟩ = some (.slice (some ⟨R, 0, none⟩) n n) := by simp [World.cell?, HP.out.bb]
      have kB := Kept.cell_of cB
      have hs := HP.out.st
      clear b0
      have KD := DivR (Vs.can (k := k0 + k0) (z := valS t * valS s) ((Fit.val HT.out).mul (Fit.val (HZW.out s (List.mem_of_getElem? hd)))) (by omega)) (Vs.can (k := k0 + 2) (z := (iv ws).sum) HFS.out (by omega)) HPOS.out
      rw [htm, HSM.out] at KD
      have HQ : Hid (canS (at0 (qL (valS t) (iv ws)) k) = canS ((valS t * valS s).fdiv (iv ws).sum) ∧ canS (at0 (rL (valS t) (iv ws)) k) = canS ((valS t * valS s).fmod (iv ws).sum)) := by
        have hl : k < (iv ws).length := by rw [iv_len, HN.out]; exact hkl
        exact ⟨by rw [qL_at hl, iv_at hd], by rw [rL_at hl, iv_at hd]⟩
      obtain ⟨qk, hqk⟩ : ∃ v, canS ((valS t * valS s).fdiv (iv ws).sum) = v := ⟨_, rfl⟩
      obtain ⟨rk', hrk⟩ : ∃ v, canS ((valS t * valS s).fmod (iv ws).sum) = v := ⟨_, rfl⟩
      rw [hqk, hrk] at KD HQ
      clear hqk hrk htm hd zs
      have nRP : ¬ R = P := fun e => HP.out.ne.1 e.symm
      go_wp2_with fail
      go_cut [9] (fun m9 wx => m9 = .string ms ∧ Hid (PZ w (valS t) (iv ws) n P R O B (k + 1) k wx))
      case first =>
        have HPP := HP
        have kl : (k : Int) < (n : Int) := by omega
        clear HP kB
        go_region_with (first
          | (go_at_call 20
             first | refine KM.step hs ?_ | refine KM.step hs.drew ?_
             intro wA hsA hbA
             have PA := Lib.hid (show PZ w (valS t) (iv ws) n P R O B k k wA from by first | exact HPP.out.up hbA | exact HPP.out.drew.up hbA)
             have cA := PA.out.box)
          | (go_at_call 46
             first | refine KD.step hsA ?_ | refine KD.step hsA.drew ?_
             intro wB hsB hbB
             have PB := Lib.hid (show PZ w (valS t) (iv ws) n P R O B k k wB from by first | exact PA.out.up hbB | exact PA.out.drew.up hbB)
             have cB1 := PB.out.box
             obtain ⟨vP, cP⟩ := PB.out.pr.some hkl
             obtain ⟨vR, cR⟩ := PB.out.rr.some hkl
             have fP := PB.out.pr.frozen k
             have fR := PB.out.rr.frozen k
             have cB2 : (wB.setCell ⟨P, k, none⟩ (.string qk)).cell? ⟨B, 0, none⟩ = some (.slice (some ⟨R, 0, none⟩) n n) := (World.cell?_of_block (Below.heap_setCell _ _ _ _ (fun e => PB.out.ne.2.1 e.symm))).trans cB1
             have cR2 : (wB.setCell ⟨P, k, none⟩ (.string qk)).cell? ⟨R, k, none⟩ = some vR := (World.cell?_of_block (Below.heap_setCell _ _ _ _ (fun e => PB.out.ne.1 e.symm))).trans cR
             have fR2 : (wB.setCell ⟨P, k, none⟩ (.string qk)).frozen? ⟨R, k, none⟩ = false := (World.frozen?_of_block (Below.heap_setCell _ _ _ _ (fun e => PB.out.ne.1 e.symm))).trans fR))
        all_goals
          have P2 := Lib.hid (PB.out.two hkl HQ.out.1 HQ.out.2)
          go_wp2_with fail
          go_meet
          first
            | exact ⟨rfl, P2.out⟩
            | exact ⟨rfl, P2.out.drew⟩
      case rest =>
      obtain ⟨rfl, HP2⟩ := hcut
      clear HP KM KD hs cB kB hc hb hcr
      generalize wc = W7 at *
      have cq : W7.cell? ⟨P, k, none⟩ = some (.string qk) := by
        have := HP2.out.pr.cell (i := k) (by omega)
        rwa [show canS (at0 (qL (valS t) (iv ws)) k) = qk from HQ.out.1] at this
      have hs7 := HP2.out.st
      have kl : (k : Int) < (n : Int) := by omega
      have KS := SubR (Vs.can (k := k0 + k0 + 4) (mis_fit HT.out HZW.out (by rw [HN.out]; omega) k) (by omega)) (Vs.can (k := k0 + k0 + 1) (z := at0 (qL (valS t) (iv ws)) k) (q_fit HT.out HZW.out _ (List.mem_of_getElem? (at0_lt (by rw [qL_len, iv_len, HN.out]; exact hkl)))) (by omega))
      rw [HMS.out, HQ.out.1] at KS
      have HNX : Hid (valS t - ((qL (valS t) (iv ws)).take k).sum - at0 (qL (valS t) (iv ws)) k = valS t - ((qL (valS t) (iv ws)).take (k + 1)).sum) := by
        show _ = _
        rw [List.take_add_one, at0_lt (l := qL (valS t) (iv ws)) (i := k) (by rw [qL_len, iv_len, HN.out]; exact hkl)]
        simp
        omega
      go_wp2_with fail
      refine KS.step hs7 ?_
      intro w8 hs8 hb8
      have HP3 := Lib.hid (HP2.out.up hb8)
      obtain ⟨vO, cO⟩ := HP3.out.oo.some hkl
      have fO := HP3.out.oo.frozen k
      have HP4 := Lib.hid (HP3.out.three hkl)
      go_wp2_with fail
      go_roundw
      case rel => exact ⟨k + 1, by omega, by go_num, by rw [HNX.out], HP4.out⟩
      case measure => simp [intOf]; omega
end Go.Proofs.YtdpoagcgglfijaaGreatDoor
