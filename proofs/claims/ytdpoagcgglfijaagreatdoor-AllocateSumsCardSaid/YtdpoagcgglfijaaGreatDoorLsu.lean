/- Walk of AllocateSums. Condition: sizes that strings and slices can have. -/
import Derived.Test.YtdpoagcgglfijaaGreatDoorAw4
import Derived.Test.YtdpoagcgglfijaaGreatDoorLw4
import Derived.Test.YtdpoagcgglfijaaGreatDoorWl
import Derived.Test.YtdpoagcgglfijaaGreatDoorCk
import Derived.Test.YtdpoagcgglfijaaGreatDoorLbg
import Derived.Test.YtdpoagcgglfijaaGreatDoorLor
namespace Go.Proofs.YtdpoagcgglfijaaGreatDoor
open Go.RowKit Go.Shelf SP Dec QQ

theorem far_none {T : Int} {ws : List ByteArray} {l : List Int} (hn : ∀ i, i < ws.length → -(iv ws).sum < (iv ws).sum * at0 l i - T * at0 (iv ws) i ∧ (iv ws).sum * at0 l i - T * at0 (iv ws) i < (iv ws).sum) : (List.range ws.length).any (fun i => farI T (iv ws).sum (at0 (iv ws) i) (at0 (iv (l.map canS)) i)) = false := by
  rw [List.any_eq_false]
  intro i hi
  rw [List.mem_range] at hi
  rw [iv_can, near_far (hn i hi)]
  decide
theorem pbad_none (l : List Int) : (l.map canS).any pbad = false := by
  rw [List.any_eq_false]
  intro p hp
  obtain ⟨z, _, rfl⟩ := List.mem_map.1 hp
  unfold pbad
  rw [chk_can]
  decide
set_option maxRecDepth 100000 in
set_option maxHeartbeats 4000000 in
theorem sums04_any {A : Option Addr} {n c : Nat} {t : ByteArray} {ws : List ByteArray} (z0 : t.size ≤ 9223372036854775807) (hn : ws.length = n) (hm : n ≤ 9223372036854775807) (hbig : ∀ s ∈ ws, s.size ≤ 9223372036854775807) :
    ∀ w, Gl w → Row w A (ws.map sv) → Calls Tryz.prog 8 #[.string t, .slice A n c] w fun e w' => e = .returned (.bool true) ∧ Below w.heap.size w w' := by
  intro w hg hr
  have hs := St.refl hg
  have HR := Lib.hid hr
  have KA := awake04
  have HR1 : Hid (Row (w.alloc (.cells #[.string t] 22)) (some ⟨w.heap.size, 0, none⟩) ([t].map sv)) := Row.of (Bx.new w #[.string t] 22)
  have KG1 := great4_any (A := some ⟨w.heap.size, 0, none⟩) (n := 1) (c := 1) (l := [t]) rfl (by decide) (by intro s hs; simp at hs; rw [hs]; exact z0)
  have KG2 := great4_any (A := A) (n := n) (c := c) (l := ws) hn hm hbig
  cases hG1 : great4 [t] with
  | true =>
    rw [hG1] at KG1
    clear hG1 KG2 hr hn hbig
    go_enter Tryz.func8, Tryz.ntmps8
    go_wp2_with fail
    refine KG1.step (hs.alloc _) HR1.out ?_
    intro w1 hs hb
    go_wp2_with fail
    refine KA.step hs ?_
    intro w2 hs hb
    go_wp2_with fail
    go_ret
    exact ⟨rfl, hs.2⟩
  | false =>
  rw [hG1] at KG1
  have y0 : t.size ≤ 30 := great4_one hG1 (by simp) t (by simp)
  cases hG2 : great4 ws with
  | true =>
    rw [hG2] at KG2
    clear hG1 hG2 hr hn hbig y0
    go_enter Tryz.func8, Tryz.ntmps8
    go_wp2_with fail
    refine KG1.step (hs.alloc _) HR1.out ?_
    intro w1 hs hb
    go_wp2_with fail
    refine KG2.step hs (HR.out.on hs.2) ?_
    intro w2 hs hb
    go_wp2_with fail
    refine KA.step hs ?_
    intro w3 hs hb
    go_wp2_with fail
    go_ret
    exact ⟨rfl, hs.2⟩
  | false =>
  rw [hG2] at KG2
  obtain ⟨h12, h1005, hz⟩ := great4_few hG2
  rw [hn] at h12 h1005
  clear hG1 hG2 hbig hr
  have KS := Lib.hid (fun (u : World) (hg : Gl u) (hr : Row u A (ws.map sv)) => split4_any (A := A) (c := c) (n := n) (k0 := 30) (t := t) (ws := ws) hn h12 (by omega) (by decide) y0 hz u hg hr)
  have KR := Lib.hid (fun (u : World) (hg : Gl u) (hr : Row u A (ws.map sv)) => run4_any (A := A) (c := c) (n := n) (k0 := 30) (t := t) (ws := ws) hn h12 (by omega) (by decide) y0 hz u hg hr)
  by_cases he : alE t ws = 0
  · have ho := alE_zero.1 he
    have h0 : 0 < n := by have := ho.len0; omega
    have hn12 : n ≤ 12 := by have := ho.len; omega
    have eS : alS t ws = splL (valS t) (iv ws) := if_pos he
    have eR : alR t ws = runL (valS t) (iv ws) n := by unfold alR; rw [if_pos he, hn]
    have hil : (iv ws).length = n := by rw [iv_len, hn]
    rw [he, eS, splL_len, hil] at KS
    rw [he, eR, runL_len] at KR
    have fT : Fit 30 (valS t) := Fit.val y0
    have fw := iv_fit hz
    have zS : ∀ s ∈ (splL (valS t) (iv ws)).map canS, s.size ≤ 100 := fun s hs => by
      obtain ⟨z, hz', rfl⟩ := List.mem_map.1 hs
      have := (spl_fit fT fw z hz').size
      omega
    have zR : ∀ s ∈ (runL (valS t) (iv ws) n).map canS, s.size ≤ 100 := fun s hs => by
      obtain ⟨z, hz', rfl⟩ := List.mem_map.1 hs
      have := (run_fit fT fw (by rw [hil]; exact hn12) z hz').size
      omega
    have lS : ((splL (valS t) (iv ws)).map canS).length = n := by rw [List.length_map, splL_len, hil]
    have lR : ((runL (valS t) (iv ws) n).map canS).length = n := by rw [List.length_map, runL_len]
    have sS : canS (iv ((splL (valS t) (iv ws)).map canS)).sum = t := by rw [iv_can, splL_sum _ ho.ok]; exact chk_eq ho.ct
    have sR : canS (iv ((runL (valS t) (iv ws) n).map canS)).sum = t := by rw [iv_can, runL_sum, ← hil, runQ_all _ ho.ok]; exact chk_eq ho.ct
    have KU1 := fun (g c1 : Nat) => sum4_any (A := some ⟨g, 0, none⟩) (n := n) (c := c1) (k0 := 100) (ws := (splL (valS t) (iv ws)).map canS) lS hn12 (by decide) zS
    have KU2 := fun (g c1 : Nat) => sum4_any (A := some ⟨g, 0, none⟩) (n := n) (c := c1) (k0 := 100) (ws := (runL (valS t) (iv ws) n).map canS) lR hn12 (by decide) zR
    rw [sS] at KU1
    rw [sR] at KU2
    have fS := far_none (T := valS t) (ws := ws) (l := splL (valS t) (iv ws)) (fun i hi => splL_near _ ho.ok (by rw [iv_len]; exact hi))
    have fR := far_none (T := valS t) (ws := ws) (l := runL (valS t) (iv ws) n) (fun i hi => by
      have := runL_near (valS t) ho.ok (i := i) (by rw [iv_len]; exact hi)
      rw [hil] at this
      exact this)
    have KC1 := fun (g c1 : Nat) => ck4_few (A := A) (A' := some ⟨g, 0, none⟩) (n := n) (c := c) (c' := c1) (k0 := 100) (t := t) (ws := ws) hn lS hn12 (by decide) (by omega) (fun s hs => by have := hz s hs; omega) zS he (pbad_none _) sS
    have KC2 := fun (g c1 : Nat) => ck4_few (A := A) (A' := some ⟨g, 0, none⟩) (n := n) (c := c) (c' := c1) (k0 := 100) (t := t) (ws := ws) hn lR hn12 (by decide) (by omega) (fun s hs => by have := hz s hs; omega) zR he (pbad_none _) sR
    rw [fS] at KC1
    rw [fR] at KC2
    have HZ0 : Hid (∀ k, k < n → ws[k]? = some ⟨#[]⟩ → canS (at0 (splL (valS t) (iv ws)) k) = ⟨#[]⟩ ∧ canS (at0 (runL (valS t) (iv ws) n) k) = ⟨#[]⟩) := fun k hk h => by
      have e0 : at0 (iv ws) k = 0 := by rw [iv_at h]; decide
      refine ⟨by rw [splL_zero _ ho.ok (by rw [hil]; exact hk) e0]; exact canS_zero, ?_⟩
      have := runL_zero (T := valS t) (ws := iv ws) (i := k) (by rw [hil]; exact hk) e0
      rw [hil] at this
      rw [this]
      exact canS_zero
    have HL1 : Hid ((splL (valS t) (iv ws)).length = n) := by show _ = _; rw [splL_len, hil]
    have HL2 : Hid ((runL (valS t) (iv ws) n).length = n) := runL_len _ _ _
    generalize splL (valS t) (iv ws) = L at *
    generalize runL (valS t) (iv ws) n = M at *
    have HKU1 := Lib.hid KU1
    have HKU2 := Lib.hid KU2
    have HKC1 := Lib.hid KC1
    have HKC2 := Lib.hid KC2
    have HN := Lib.hid hn
    obtain ⟨b0, o0, hA, hlt0, hcell0⟩ := HR.out 0 (sv (ws[0]'(by omega))) (by rw [List.getElem?_map, List.getElem?_eq_getElem (by omega)]; rfl)
    subst hA
    clear hlt0 hcell0
    clear he eS eR ho hil hz hn h12 h1005 y0 z0 fT fw zS zR lS lR sS sR fS fR KU1 KU2 KC1 KC2
    go_enter Tryz.func8, Tryz.ntmps8
    go_wp2_with fail
    refine KG1.step (hs.alloc _) HR1.out ?_
    intro w1 hs hb
    go_wp2_with fail
    refine KG2.step hs (HR.out.on hs.2) ?_
    intro w2 hs hb
    go_wp2_with fail
    refine (KS.out w2 hs.gl (HR.out.on hs.2)).mono ?_
    rintro e w3 ⟨v, rfl, hov, hb3⟩
    obtain ⟨g, c1, rfl, hc1, hc2', hrow⟩ := hov.some4 h0
    rw [flat_sv] at hrow
    replace hs := hs.on hb3
    have R1 := Lib.hid hrow
    clear hov hrow hc2'
    go_wp2_with fail
    refine (KR.out w3 hs.gl (HR.out.on hs.2)).mono ?_
    rintro e w4 ⟨v, rfl, hov, hb4⟩
    obtain ⟨g2, c2, rfl, hc2, hc2', hrow⟩ := hov.some4 h0
    rw [flat_sv] at hrow
    replace hs := hs.on hb4
    replace R1 := Lib.hid (R1.out.on hb4)
    have R2 := Lib.hid hrow
    clear hov hrow hc2'
    go_wp2_with fail
    refine (HKU1.out g c1).step hs R1.out ?_
    intro w5 hs hb
    replace R1 := Lib.hid (R1.out.on hb)
    replace R2 := Lib.hid (R2.out.on hb)
    go_wp2_with fail
    refine (HKU2.out g2 c2).step hs R2.out ?_
    intro w6 hs hb
    replace R1 := Lib.hid (R1.out.on hb)
    replace R2 := Lib.hid (R2.out.on hb)
    go_wp2_with fail
    go_loopw [71] (fun s wr => ∃ k : Nat, k ≤ n ∧ s = .int .i64 (k : Int) ∧ St w wr ∧ Hid (Row wr (some ⟨g, 0, none⟩) ((L.map canS).map sv) ∧ Row wr (some ⟨g2, 0, none⟩) ((M.map canS).map sv))) (fun s _ => (n - intOf s).toNat)
    case atStart => exact ⟨0, by omega, rfl, hs, R1.out, R2.out⟩
    case round =>
      clear hs R1 R2
      obtain ⟨k, hk, rfl, hs, HRR⟩ := hrel
      by_cases hkn : k = n
      · subst hkn
        have q : decide ((k : Int) < (k : Int)) = false := decide_eq_false (by omega)
        go_wp2_with fail
        refine (HKC1.out g c1).step hs ⟨HR.out.on hs.2, HRR.out.1⟩ ?_
        intro w7 hs hb
        replace HRR := Lib.hid (HRR.out.2.on hb)
        go_wp2_with fail
        refine (HKC2.out g2 c2).step hs ⟨HR.out.on hs.2, HRR.out⟩ ?_
        intro w8 hs hb
        go_wp2_with fail
        refine KA.step hs ?_
        intro w9 hs hb
        go_wp2_with fail
        go_ret
        exact ⟨rfl, hs.2⟩
      · have hkl : k < n := by omega
        have q : decide ((k : Int) < (n : Int)) = true := decide_eq_true (by omega)
        have qn : decide (k < n) = true := decide_eq_true hkl
        have kl2 : (k : Int) < (n : Int) := by omega
        obtain ⟨sw, hsw⟩ : ∃ s, ws[k]? = some s := ⟨ws[k]'(by rw [HN.out]; exact hkl), by simp⟩
        obtain ⟨b1, o1, e1, l1, cw⟩ := (HR.out.on hs.2) k (sv sw) (by rw [List.getElem?_map, hsw]; rfl)
        injection e1 with e1; injection e1 with e1 e1'; subst e1 e1'
        unfold sv at cw
        by_cases hsz : sw = ⟨#[]⟩
        · subst hsz
          obtain ⟨za, zb⟩ := HZ0.out k hkl hsw
          obtain ⟨b3, o3, e3, l3, ca⟩ := HRR.out.1 k (sv (canS (at0 L k))) (by rw [List.getElem?_map, List.getElem?_map, at0_lt (by rw [HL1.out]; exact hkl)]; rfl)
          injection e3 with e3; injection e3 with e3 e3'; subst e3 e3'
          obtain ⟨b4, o4, e4, l4, cb⟩ := HRR.out.2 k (sv (canS (at0 M k))) (by rw [List.getElem?_map, List.getElem?_map, at0_lt (by rw [HL2.out]; exact hkl)]; rfl)
          injection e4 with e4; injection e4 with e4 e4'; subst e4 e4'
          rw [za, Nat.zero_add] at ca
          rw [zb, Nat.zero_add] at cb
          unfold sv at ca cb
          clear hsw za zb l1 l3 l4 hkn
          go_wp2_with fail
          go_roundw
          case rel => exact ⟨k + 1, by omega, by go_num, hs, HRR.out⟩
          case measure => simp [intOf]; omega
        · have qe : (sw.toList == []) = false := by
            rw [beq_eq_false_iff_ne]
            intro h
            exact hsz (toList_inj (h.trans (by first | rfl | decide | (rw [toList_bytes]; rfl) | simp)))
          clear hsw l1 hkn hsz
          go_wp2_with fail
          go_roundw
          case rel => exact ⟨k + 1, by omega, by go_num, hs, HRR.out⟩
          case measure => simp [intOf]; omega
  · have q : (alE t ws != 0) = true := by simpa using he
    have eS : alS t ws = [] := if_neg he
    have eR : alR t ws = [] := if_neg he
    rw [eS] at KS
    rw [eR] at KR
    generalize alE t ws = ee at *
    clear he hn hz h12 h1005 y0 z0 eS eR
    go_enter Tryz.func8, Tryz.ntmps8
    go_wp2_with fail
    refine KG1.step (hs.alloc _) HR1.out ?_
    intro w1 hs hb
    go_wp2_with fail
    refine KG2.step hs (HR.out.on hs.2) ?_
    intro w2 hs hb
    go_wp2_with fail
    refine (KS.out w2 hs.gl (HR.out.on hs.2)).mono ?_
    rintro e w3 ⟨v, rfl, hov, hb3⟩
    obtain ⟨A1, c1, rfl, hrow⟩ : ∃ A c, v = .slice A 0 c ∧ True := by obtain ⟨A1, c1, e, _⟩ := hov.row; exact ⟨A1, c1, e, trivial⟩
    replace hs := hs.on hb3
    clear hov hrow
    go_wp2_with fail
    refine (KR.out w3 hs.gl (HR.out.on hs.2)).mono ?_
    rintro e w4 ⟨v, rfl, hov, hb4⟩
    obtain ⟨A2, c2, rfl, hrow⟩ : ∃ A c, v = .slice A 0 c ∧ True := by obtain ⟨A1, c1, e, _⟩ := hov.row; exact ⟨A1, c1, e, trivial⟩
    replace hs := hs.on hb4
    clear hov hrow
    go_wp2_with fail
    refine KA.step hs ?_
    intro w5 hs hb
    go_wp2_with fail
    go_ret
    exact ⟨rfl, hs.2⟩
end Go.Proofs.YtdpoagcgglfijaaGreatDoor
