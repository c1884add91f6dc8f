/- Walk of AllocateScales. Condition: sizes that strings and slices can have. -/
import Derived.Test.YtdpoagcgglfijaaGreatDoorAw4
import Derived.Test.YtdpoagcgglfijaaGreatDoorLw4
import Derived.Test.YtdpoagcgglfijaaGreatDoorFrt
import Derived.Test.YtdpoagcgglfijaaGreatDoorLor
namespace Go.Proofs.YtdpoagcgglfijaaGreatDoor
open Go.RowKit Go.Shelf SP Dec QQ

theorem own_apart {w w' : World} {base base' na nb sa sb : Nat} {Ta Tb : TypeId} {va vb : Value} {xa xb : List Value} (ha : w.ownsRow base Ta sa va na xa) (hb : w.ownsRow base' Tb sb vb nb xb) (hT : Ta ≠ Tb) (hg : w.grownBy w' va.ownBlock) : w'.ownsRow base' Tb sb vb nb xb := by
  refine hb.kept hg ?_
  rcases hb.2 with ⟨rfl, _⟩ | ⟨g, cap, cur, rfl, _, e3, _⟩
  · exact .inl rfl
  · right
    rcases ha.2 with ⟨rfl, _⟩ | ⟨g', cap', cur', rfl, _, e3', _⟩
    · simp [Value.ownBlock]
    · intro e
      simp [Value.ownBlock] at e
      subst e
      rw [e3] at e3'
      injection e3' with e4
      injection e4 with _ e5
      exact hT e5.symm
/-- the fractions of the whole -/
def prQ (ws : List Int) : List Rat := ws.map fun w => rat w ws.sum
theorem prQ_len (ws : List Int) : (prQ ws).length = ws.length := by simp [prQ]
theorem prQ_at {ws : List Int} {i : Nat} (h : i < ws.length) : (prQ ws)[i]? = some (rat (at0 ws i) ws.sum) := by unfold prQ; rw [List.getElem?_map, at0_lt h]; rfl
theorem scl_get {k : Int} {ws : List Int} {i : Nat} (h : i < ws.length) : (scl k ws)[i]? = some (at0 ws i * k) := by unfold scl; rw [List.getElem?_map, at0_lt h]; rfl
theorem prQ_split (T : Int) {ws : List Int} (h : WOk ws) : frsE (prQ ws) = 0 ∧ frsL T (prQ ws) = splL T ws := by
  have hd : ∀ q ∈ prQ ws, (q.den : Int) ∣ lcmTo (prQ ws) (prQ ws).length := all_dvd (fun i hi => lcm_dvd (prQ ws) _ i hi)
  obtain ⟨h1, h2⟩ := frW_of T h (lcm_pos (prQ ws) (prQ ws).length) hd
  have h3 : sumR (prQ ws) = 1 := h1
  exact ⟨if_pos h3, by unfold frsL; rw [if_pos h3]; exact h2⟩
theorem prQ_nn {ws : List Int} (h : WOk ws) : ∀ q ∈ prQ ws, 0 ≤ q := by
  intro q hq
  obtain ⟨w, hw, rfl⟩ := List.mem_map.1 hq
  have h1 := rat_monoW h.pos (h.nn w hw)
  rwa [rat_eq_zero.2 rfl] at h1
theorem fbad_can {q : Rat} (h : 0 ≤ q) : fbad ⟨frN q, frD q⟩ = false := by
  unfold fbad
  dsimp only
  have h1 : chkF (frN q) (frD q) = 0 := by
    unfold chkF
    rw [ratV_fr, if_pos ⟨rfl, rfl⟩]
  have h2 : valS (frN q) = q.num := valS_canS _
  have h3 : 0 ≤ q.num := Rat.num_nonneg.2 h
  rw [h1, h2, decide_eq_false (by omega)]
  rfl
theorem alE_scl {t : ByteArray} {ws : List ByteArray} {k : Int} (h : AlOk t ws) (hk : 0 < k) : alE t ((scl k (iv ws)).map canS) = 0 := by
  refine alE_zero.2 ⟨by rw [List.length_map, scl_len, iv_len]; exact h.len0, by rw [List.length_map, scl_len, iv_len]; exact h.len, h.ct, fun w hw => ?_, by rw [iv_can]; exact scl_ok h.ok hk⟩
  obtain ⟨z, hz, rfl⟩ := List.mem_map.1 hw
  exact ⟨chk_can z, by rw [valS_canS]; exact (scl_ok h.ok hk).nn z hz⟩
theorem alE_neg {t : ByteArray} {ws : List ByteArray} (h : AlOk t ws) : alE (canS (-valS t)) ws = 0 := alE_zero.2 ⟨h.len0, h.len, chk_can _, h.cw, h.ok⟩
set_option maxRecDepth 100000 in
set_option maxHeartbeats 4000000 in
theorem scales04_any {A : Option Addr} {n c : Nat} {t kk : ByteArray} {ws : List ByteArray} (z0 : t.size ≤ 9223372036854775807) (z2 : kk.size ≤ 9223372036854775807) (hn : ws.length = n) (hm : n ≤ 9223372036854775807) (hbig : ∀ s ∈ ws, s.size ≤ 9223372036854775807) :
    ∀ w, Gl w → Row w A (ws.map sv) → Calls Tryz.prog 7 #[.string t, .slice A n c, .string kk] w fun e w' => e = .returned (.bool true) ∧ Below w.heap.size w w' := by
  intro w hg hr
  have hs := St.refl hg
  have HR := Lib.hid hr
  have KA := awake04
  have HR1 : Hid (Row (w.alloc (.cells #[.string t, .string kk] 22)) (some ⟨w.heap.size, 0, none⟩) ([t, kk].map sv)) := Row.of (Bx.new w #[.string t, .string kk] 22)
  have KG1 := great4_any (A := some ⟨w.heap.size, 0, none⟩) (n := 2) (c := 2) (l := [t, kk]) rfl (by decide) (by intro s hs; simp at hs; rcases hs with rfl | rfl <;> assumption)
  have KG2 := great4_any (A := A) (n := n) (c := c) (l := ws) hn hm hbig
  cases hG1 : great4 [t, kk] with
  | true =>
    rw [hG1] at KG1
    clear hG1 KG2 hr hn hbig
    go_enter Tryz.func7, Tryz.ntmps7
    go_wp2_with fail
    refine KG1.step (hs.alloc _) HR1.out ?_
    intro w1 hs hb
    go_wp2_with fail
    refine KA.step hs ?_
    intro w2 hs hb
    go_wp2_with fail
    go_ret
    exact ⟨rfl, hs.2⟩
  | false =>
  rw [hG1] at KG1
  have y0 : t.size ≤ 30 := great4_one hG1 (by simp) t (by simp)
  have yk : kk.size ≤ 30 := great4_one hG1 (by simp) kk (by simp)
  cases hG2 : great4 ws with
  | true =>
    rw [hG2] at KG2
    clear hG1 hG2 hr hn hbig y0 yk
    go_enter Tryz.func7, Tryz.ntmps7
    go_wp2_with fail
    refine KG1.step (hs.alloc _) HR1.out ?_
    intro w1 hs hb
    go_wp2_with fail
    refine KG2.step hs (HR.out.on hs.2) ?_
    intro w2 hs hb
    go_wp2_with fail
    refine KA.step hs ?_
    intro w3 hs hb
    go_wp2_with fail
    go_ret
    exact ⟨rfl, hs.2⟩
  | false =>
  rw [hG2] at KG2
  obtain ⟨h12, h1005, hz⟩ := great4_few hG2
  rw [hn] at h12 h1005
  clear hG1 hG2 hbig hr
  by_cases h6 : 6 < n
  · have q6 : decide ((6 : Int) < (n : Int)) = true := decide_eq_true (by omega)
    have q6n : decide (6 < n) = true := decide_eq_true h6
    clear hn hz h12 h1005 y0 yk z0 z2 h6
    go_enter Tryz.func7, Tryz.ntmps7
    go_wp2_with fail
    refine KG1.step (hs.alloc _) HR1.out ?_
    intro w1 hs hb
    go_wp2_with fail
    refine KG2.step hs (HR.out.on hs.2) ?_
    intro w2 hs hb
    go_wp2_with fail
    refine KA.step hs ?_
    intro w3 hs hb
    go_wp2_with fail
    go_ret
    exact ⟨rfl, hs.2⟩
  have q6 : decide ((6 : Int) < (n : Int)) = false := decide_eq_false (by omega)
  have q6n : decide (6 < n) = false := decide_eq_false h6
  have KK := CmpR (Vs.arg (s := kk) (by omega)) Vs.nil
  by_cases hk0 : valS kk ≤ 0
  · have qk : decide (cmpI (valS kk) 0 ≤ 0) = true := by
      rw [decide_eq_true_eq]
      unfold cmpI
      split
      · omega
      · split <;> omega
    generalize cmpI (valS kk) 0 = ck at *
    clear hn hz h12 h1005 y0 yk z0 z2 h6 hk0
    go_enter Tryz.func7, Tryz.ntmps7
    go_wp2_with fail
    refine KG1.step (hs.alloc _) HR1.out ?_
    intro w1 hs hb
    go_wp2_with fail
    refine KG2.step hs (HR.out.on hs.2) ?_
    intro w2 hs hb
    go_wp2_with fail
    refine KK.step hs ?_
    intro w3 hs hb
    go_wp2_with fail
    refine KA.step hs ?_
    intro w4 hs hb
    go_wp2_with fail
    go_ret
    exact ⟨rfl, hs.2⟩
  have qk : decide (cmpI (valS kk) 0 ≤ 0) = false := by
    rw [decide_eq_false_iff_not]
    unfold cmpI
    split
    · omega
    · split <;> omega
  generalize cmpI (valS kk) 0 = ck at *
  have KS := Lib.hid (fun (u : World) (hg : Gl u) (hr : Row u A (ws.map sv)) => split4_any (A := A) (c := c) (n := n) (k0 := 30) (t := t) (ws := ws) hn h12 (by omega) (by decide) y0 hz u hg hr)
  by_cases he : alE t ws = 0
  · have ho := alE_zero.1 he
    have h0 : 0 < n := by have := ho.len0; omega
    have eS : alS t ws = splL (valS t) (iv ws) := if_pos he
    have hil : (iv ws).length = n := by rw [iv_len, hn]
    have hkp : 0 < valS kk := by omega
    rw [he, eS, splL_len, hil] at KS
    have fT : Fit 30 (valS t) := Fit.val y0
    have fK : Fit 30 (valS kk) := Fit.val yk
    have fw := iv_fit hz
    have fS : Fit 32 (iv ws).sum := whole_fit hz (by omega)
    -- the three calls behind the loop
    have fsc : ∀ x ∈ scl (valS kk) (iv ws), Fit 60 x := fun x hx => by
      unfold scl at hx
      obtain ⟨y, hy, rfl⟩ := List.mem_map.1 hx
      exact (fw y hy).mul fK
    have e1 := alE_scl ho hkp
    have KS2 := Lib.hid (fun (A' : Option Addr) (c' : Nat) (u : World) (hg : Gl u) (hr : Row u A' (((scl (valS kk) (iv ws)).map canS).map sv)) => split4_any (A := A') (c := c') (n := n) (k0 := 100) (t := t) (ws := (scl (valS kk) (iv ws)).map canS) (by rw [List.length_map, scl_len, hil]) (.inl (by omega)) (by omega) (by decide) (by omega) (fun s hs => by
      obtain ⟨x, hx, rfl⟩ := List.mem_map.1 hs
      have := (fsc x hx).size
      omega) u hg hr)
    have eS2 : alS t ((scl (valS kk) (iv ws)).map canS) = splL (valS t) (iv ws) := by
      unfold alS
      rw [if_pos e1, iv_can, splL_scl _ ho.ok.pos hkp]
    rw [e1, eS2, splL_len, hil] at KS2
    have e2 := alE_neg ho
    have fN : Fit 30 (-valS t) := by unfold Fit at *; rwa [Int.natAbs_neg]
    have KN := NegR (Vs.arg (s := t) (by omega))
    have KS3 := Lib.hid (fun (u : World) (hg : Gl u) (hr : Row u A (ws.map sv)) => split4_any (A := A) (c := c) (n := n) (k0 := 100) (t := canS (-valS t)) (ws := ws) hn h12 (by omega) (by decide) (by have := fN.size; omega) (fun s hs => by have := hz s hs; omega) u hg hr)
    have eS3 : alS (canS (-valS t)) ws = (splL (valS t) (iv ws)).map (fun x => -x) := by
      unfold alS
      rw [if_pos e2, valS_canS, splL_neg _ ho.ok]
    rw [e2, eS3, List.length_map, splL_len, hil] at KS3
    obtain ⟨e3, e4⟩ := prQ_split (valS t) ho.ok
    have KF := Lib.hid (fun (A' : Option Addr) (c' : Nat) (u : World) (hg : Gl u) (hr : Row u A' (flatG qcells (prQ (iv ws)))) => frs_few (A := A') (c := c') (n := n) (K := 32) (k0 := 30) (t := t) (qs := prQ (iv ws)) (by rw [prQ_len, hil]) h0 (by omega) (by decide) (fun q hq => by
      obtain ⟨x, hx, rfl⟩ := List.mem_map.1 hq
      exact FitQ.mono (FitQ.rat (k := 30) (m := 32) (fw x hx) fS (by decide)) (by decide)) (by decide) y0 ho.ct (prQ_nn ho.ok) (fun q hq => fbad_can (prQ_nn ho.ok q hq)) u hg hr)
    rw [e3, e4, splL_len, hil] at KF
    have gS : ∀ j, j < n → Fit 62 (at0 (splL (valS t) (iv ws)) j) := fun j hj => spl_fit fT fw _ (List.mem_of_getElem? (at0_lt (by rw [splL_len, hil]; exact hj)))
    have HGS := Lib.hid gS
    have HLL : Hid ((splL (valS t) (iv ws)).length = n) := by show _ = _; rw [splL_len, hil]
    have KSum := sum4_any (A := A) (n := n) (c := c) (k0 := 30) (ws := ws) hn (by omega) (by decide) hz
    have HSC : Hid (∀ j s, j < n → ws[j]? = some s → (scl (valS kk) (iv ws)).take (j + 1) = (scl (valS kk) (iv ws)).take j ++ [valS s * valS kk] ∧ (prQ (iv ws)).take (j + 1) = (prQ (iv ws)).take j ++ [rat (valS s) (iv ws).sum]) := fun j s hj hs => by
      have hj' : j < (iv ws).length := by rw [hil]; exact hj
      refine ⟨?_, ?_⟩
      · rw [List.take_add_one, scl_get hj', iv_at hs]; rfl
      · rw [List.take_add_one, prQ_at hj', iv_at hs]; rfl
    have HSL : Hid ((scl (valS kk) (iv ws)).length = n ∧ (prQ (iv ws)).length = n) := ⟨by rw [scl_len, hil], by rw [prQ_len, hil]⟩
    have HS0 : Hid ((iv ws).sum ≠ 0) := by have := ho.ok.pos; show _ ≠ _; omega
    have HFS := Lib.hid fS
    have HFK := Lib.hid yk
    have HN := Lib.hid hn
    have HZ := Lib.hid hz
    generalize splL (valS t) (iv ws) = L at *
    obtain ⟨tn, htn⟩ : ∃ v, canS (-valS t) = v := ⟨_, rfl⟩
    rw [htn] at KN KS3
    obtain ⟨sm, hsm⟩ : ∃ v, canS (iv ws).sum = v := ⟨_, rfl⟩
    rw [hsm] at KSum
    have HSM := Lib.hid hsm
    obtain ⟨b0, o0, hA, hlt0, hcell0⟩ := HR.out 0 (sv (ws[0]'(by omega))) (by rw [List.getElem?_map, List.getElem?_eq_getElem (by omega)]; rfl)
    subst hA
    have hn6 : n ≤ 6 := by omega
    clear hlt0 hcell0
    clear he eS ho hil hz hn h12 h1005 y0 yk z0 z2 fT fK fw fS fsc e1 eS2 e2 fN eS3 e3 e4 gS h6 hk0 hkp htn hsm
    go_enter Tryz.func7, Tryz.ntmps7
    go_wp2_with fail
    refine KG1.step (hs.alloc _) HR1.out ?_
    intro w1 hs hb
    go_wp2_with fail
    refine KG2.step hs (HR.out.on hs.2) ?_
    intro w2 hs hb
    go_wp2_with fail
    refine KK.step hs ?_
    intro w2' hs hb
    go_wp2_with fail
    refine (KS.out w2' hs.gl (HR.out.on hs.2)).mono ?_
    rintro e w3 ⟨v, rfl, hov, hb3⟩
    obtain ⟨g, c1, rfl, hc1, hc2', hrow⟩ := hov.some4 h0
    rw [flat_sv] at hrow
    replace hs := hs.on hb3
    have R1 := Lib.hid hrow
    have HS3 := Lib.hid hs
    have hs3 : St w3 w3 := St.refl hs.gl
    clear hov hrow hc2' hc1 hs KG1 KG2 KK
    go_wp2_with fail
    go_loopw [53, 9, 10] (fun s a b wr => ∃ j : Nat, j ≤ n ∧ s = .int .i64 (j : Int) ∧ St w3 wr ∧ Hid (World.ownsRow wr w3.heap.size 22 1 a j (flatG icells ((scl (valS kk) (iv ws)).take j)) ∧ World.ownsRow wr w3.heap.size 38 2 b j (flatG qcells ((prQ (iv ws)).take j)))) (fun s _ _ _ => (n - intOf s).toNat)
    case atStart => exact ⟨0, by omega, rfl, hs3, World.ownsRow_nil _ _ _ _, World.ownsRow_nil _ _ _ _⟩
    case round =>
      clear hs3
      obtain ⟨j, hj, rfl, hs, HO⟩ := hrel
      by_cases hjn : j = n
      · subst hjn
        have q : decide ((j : Int) < (j : Int)) = false := decide_eq_false (by omega)
        obtain ⟨A9, c9, hv9, hrow9⟩ := OutG.row (cs := icells) (T := 22) (m := 1) (base := w3.heap.size) (n := j) (xs := scl (valS kk) (iv ws)) ⟨HSL.out.1, by have h := HO.out.1; rwa [List.take_of_length_le (by rw [HSL.out.1]; exact Nat.le_refl _)] at h⟩
        obtain ⟨A10, c10, hv10, hrow10⟩ := OutG.row (cs := qcells) (T := 38) (m := 2) (base := w3.heap.size) (n := j) (xs := prQ (iv ws)) ⟨HSL.out.2, by have h := HO.out.2; rwa [List.take_of_length_le (by rw [HSL.out.2]; exact Nat.le_refl _)] at h⟩
        subst hv9 hv10
        rw [flat_sv] at hrow9
        have R9 := Lib.hid hrow9
        have R10 := Lib.hid hrow10
        replace R1 := Lib.hid (R1.out.on hs.2)
        replace hs := HS3.out.on hs.2
        clear hrow9 hrow10 HO
        go_wp2_with fail
        refine (KS2.out A9 c9 _ hs.gl R9.out).mono ?_
        rintro e w4 ⟨v, rfl, hov, hb4⟩
        obtain ⟨ga, ca, rfl, hx1, hx2, hra⟩ := hov.some4 h0
        have Ra := Lib.hid hra
        replace R1 := Lib.hid (R1.out.on hb4)
        replace R10 := Lib.hid (R10.out.on hb4)
        replace hs := hs.on hb4
        clear hov hra hx1 hx2 R9 hb4
        go_wp2_with fail
        refine KN.step hs ?_
        intro w5 hs hb5
        replace Ra := Lib.hid (Ra.out.on hb5)
        replace R1 := Lib.hid (R1.out.on hb5)
        replace R10 := Lib.hid (R10.out.on hb5)
        go_wp2_with fail
        refine (KS3.out w5 hs.gl (HR.out.on hs.2)).mono ?_
        rintro e w6 ⟨v, rfl, hov, hb6⟩
        obtain ⟨gb, cb, rfl, hx1, hx2, hrb⟩ := hov.some4 h0
        rw [flat_sv] at hrb
        have Rb := Lib.hid hrb
        replace Ra := Lib.hid (Ra.out.on hb6)
        replace R1 := Lib.hid (R1.out.on hb6)
        replace R10 := Lib.hid (R10.out.on hb6)
        replace hs := hs.on hb6
        clear hov hrb hx1 hx2 hb6
        go_wp2_with fail
        refine (KF.out A10 c10 w6 hs.gl R10.out).mono ?_
        rintro e w7 ⟨v, rfl, hov, hb7⟩
        obtain ⟨gc, cc, rfl, hx1, hx2, hrc⟩ := hov.some4 h0
        have Rc := Lib.hid hrc
        replace Ra := Lib.hid (Ra.out.on hb7)
        replace Rb := Lib.hid (Rb.out.on hb7)
        replace R1 := Lib.hid (R1.out.on hb7)
        replace hs := hs.on hb7
        clear hov hrc hx1 hx2 hb7 R10
        have KE1 := equalI (A := some ⟨ga, 0, none⟩) (A' := some ⟨g, 0, none⟩) (n := j) (c := ca) (c' := c1) (xs := L) HLL.out (by omega)
        have KE2 := equalI (A := some ⟨gc, 0, none⟩) (A' := some ⟨g, 0, none⟩) (n := j) (c := cc) (c' := c1) (xs := L) HLL.out (by omega)
        go_wp2_with fail
        refine KE1.step hs ⟨Ra.out, by rw [flat_sv]; exact R1.out⟩ ?_
        intro w8 hs hb8
        replace Rb := Lib.hid (Rb.out.on hb8)
        replace Rc := Lib.hid (Rc.out.on hb8)
        replace R1 := Lib.hid (R1.out.on hb8)
        clear KE1 Ra hb8
        go_wp2_with fail
        refine KE2.step hs ⟨Rc.out, by rw [flat_sv]; exact R1.out⟩ ?_
        intro w9 hs hb9
        replace Rb := Lib.hid (Rb.out.on hb9)
        replace R1 := Lib.hid (R1.out.on hb9)
        clear KE2 Rc hb9 hb5
        go_wp2_with fail
        go_loopw [122] (fun s wr => ∃ i : Nat, i ≤ j ∧ s = .int .i64 (i : Int) ∧ St w wr ∧ Hid (Row wr (some ⟨g, 0, none⟩) ((L.map canS).map sv) ∧ Row wr (some ⟨gb, 0, none⟩) (((L.map (fun x => -x)).map canS).map sv))) (fun s _ => (j - intOf s).toNat)
        case atStart => exact ⟨0, by omega, rfl, hs, R1.out, Rb.out⟩
        case round =>
          clear hs R1 Rb
          obtain ⟨i, hi, rfl, hs, HRR⟩ := hrel
          by_cases hij : i = j
          · subst hij
            have q : decide ((i : Int) < (i : Int)) = false := decide_eq_false (by omega)
            go_wp2_with fail
            refine KA.step hs ?_
            intro w10 hs hb
            go_wp2_with fail
            go_ret
            exact ⟨rfl, hs.2⟩
          · have hil : i < j := by omega
            have q : decide ((i : Int) < (j : Int)) = true := decide_eq_true (by omega)
            have qn : decide (i < j) = true := decide_eq_true hil
            have il2 : (i : Int) < (j : Int) := by omega
            have gl : L[i]? = some (at0 L i) := at0_lt (by rw [HLL.out]; exact hil)
            obtain ⟨b3, o3, e3, l3, cl⟩ := HRR.out.1 i (sv (canS (at0 L i))) (by rw [List.getElem?_map, List.getElem?_map, gl]; rfl)
            injection e3 with e3; injection e3 with e3 e3'; subst e3 e3'
            obtain ⟨b4, o4, e4, l4, cb'⟩ := HRR.out.2 i (sv (canS (-at0 L i))) (by rw [List.getElem?_map, List.getElem?_map, List.getElem?_map, gl]; rfl)
            injection e4 with e4; injection e4 with e4 e4'; subst e4 e4'
            unfold sv at cl cb'
            rw [Nat.zero_add] at cl cb'
            have fi := HGS.out i hil
            have KNi := NegR (Vs.can fi (by omega))
            generalize canS (-at0 L i) = xn at *
            generalize canS (at0 L i) = xp at *
            clear gl l3 l4 fi hij
            go_wp2_with fail
            refine KNi.step hs ?_
            intro w10 hs hb
            replace HRR := Lib.hid (And.intro (HRR.out.1.on hb) (HRR.out.2.on hb))
            clear cl cb'
            go_wp2_with fail
            go_roundw
            case rel => exact ⟨i + 1, by omega, by go_num, hs, HRR.out⟩
            case measure => simp [intOf]; omega
      · have hjl : j < n := by omega
        have q : decide ((j : Int) < (n : Int)) = true := decide_eq_true (by omega)
        have qn : decide (j < n) = true := decide_eq_true hjl
        have jl2 : (j : Int) < (n : Int) := by omega
        obtain ⟨sw, hsw⟩ : ∃ s, ws[j]? = some s := ⟨ws[j]'(by rw [HN.out]; exact hjl), by simp⟩
        obtain ⟨b1, o1, e1, l1, cw⟩ := (HR.out.on (HS3.out.on hs.2).2) j (sv sw) (by rw [List.getElem?_map, hsw]; rfl)
        injection e1 with e1; injection e1 with e1 e1'; subst e1 e1'
        unfold sv at cw
        have zw := HZ.out sw (List.mem_of_getElem? hsw)
        have zk := HFK.out
        have KM := MulR (Vs.arg (s := sw) (by omega)) (Vs.arg (s := kk) (by omega))
        have KN2 := NewF (Vs.arg (s := sw) (by omega)) (Vs.can HFS.out (by omega)) (by omega) (by have := HFS.out.size; omega) HS0.out
        rw [HSM.out] at KN2
        have HSU := Lib.hid (HSC.out j sw hjl hsw)
        unfold FR at KN2
        obtain ⟨xm, hxm⟩ : ∃ x, canS (valS sw * valS kk) = x := ⟨_, rfl⟩
        rw [hxm] at KM
        obtain ⟨fn, hfn⟩ : ∃ x, frN (rat (valS sw) (iv ws).sum) = x := ⟨_, rfl⟩
        obtain ⟨fd, hfd⟩ : ∃ x, frD (rat (valS sw) (iv ws).sum) = x := ⟨_, rfl⟩
        rw [hfn, hfd] at KN2
        have HXC : Hid (icells (valS sw * valS kk) = [.string xm] ∧ qcells (rat (valS sw) (iv ws).sum) = [.string fn, .string fd]) := ⟨by unfold icells; rw [hxm], by unfold qcells; rw [hfn, hfd]⟩
        generalize (scl (valS kk) (iv ws)).take j = CL at *
        generalize (prQ (iv ws)).take j = CQ at *
        clear hsw zw zk hxm hfn hfd hjn l1
        go_wp2_with fail
        refine KM.step hs ?_
        intro w4 hs hb4
        have HO4 := Lib.hid (And.intro (own_below HO.out.1 hb4) (own_below HO.out.2 hb4))
        obtain ⟨i0, hi, hz0, hz1, hz2⟩ := info_parts infoI4
        have Hi := Lib.hid hi
        have Hz0 := Lib.hid hz0
        have Hz1 := Lib.hid hz1
        have Hz2 := Lib.hid hz2
        have hsz : w3.heap.size ≤ w4.heap.size := hs.2.size
        clear hi hz0 hz1 hz2 cw HO
        go_wp2_with (at_builtin; refine wpList_append_any _ rfl (.tmp 57) (.tmp 61) 23 rfl w3.heap.size 22 i0 (.string ⟨#[]⟩) 1 16 (by kernel_rfl) Hi.out Hz0.out Hz1.out Hz2.out rfl (by omega) _ j (flatG icells CL) rfl (HO4.out.1.alloc _) (w4.heap.size + 1) (some ⟨w4.heap.size, 0, none⟩) 1 1 [.string xm] rfl (reads_row w4 _ [.string xm]) (by intro u hu; simp at hu; subst hu; rfl) (by unfold maxLen; omega) (by omega) (by simp at hsz ⊢; omega) ?_; intro v8 w8 hown8 hg8 _; have HO8 := Lib.hid (And.intro hown8 (own_apart (HO4.out.1.alloc _) (HO4.out.2.alloc _) (by decide) hg8)); have HG8 := Lib.hid hg8; clear hown8 hg8)
        have hs8 : St w3 w8 := ⟨hs.1, (hs.2.alloc hsz _).grown HG8.out (by simp at hsz ⊢; omega) (own_gen HO4.out.1)⟩
        clear HO4 HG8 hs hsz Hi Hz0 Hz1 Hz2
        refine KSum.step hs8 (HR.out.on (HS3.out.on hs8.2).2) ?_
        intro w9 hs hb9
        replace HO8 := Lib.hid (And.intro (own_below HO8.out.1 hb9) (own_below HO8.out.2 hb9))
        go_wp2_with fail
        refine KN2.step hs ?_
        intro w10 hs hb10
        have hbA : Below w10.heap.size w10 (w10.alloc (.cells #[.string fn, .string fd] 38)) := (Below.refl _ _).alloc (Nat.le_refl _) _
        replace HO8 := Lib.hid (And.intro (own_below (own_below HO8.out.1 hb10) hbA) (own_below (own_below HO8.out.2 hb10) hbA))
        have X := Bx.new w10 #[.string fn, .string fd] 38
        replace hs := hs.alloc (.cells #[.string fn, .string fd] 38)
        have x0 := X.cell (i := 0) (v := .string fn) rfl
        have x1 := X.cell (i := 1) (v := .string fd) rfl
        obtain ⟨i1, hi, hz0, hz1, hz2⟩ := info_parts infoF4
        have Hi := Lib.hid hi
        have Hz0 := Lib.hid hz0
        have Hz1 := Lib.hid hz1
        have Hz2 := Lib.hid hz2
        have hsz : w3.heap.size ≤ (w10.alloc (.cells #[.string fn, .string fd] 38)).heap.size := hs.2.size
        clear hi hz0 hz1 hz2 hbA
        go_wp2_with (at_builtin; refine wpList_append_any _ rfl (.tmp 72) (.tmp 74) 43 rfl w3.heap.size 38 i1 (.agg #[.string ⟨#[]⟩, .string ⟨#[]⟩]) 2 32 (by kernel_rfl) Hi.out Hz0.out Hz1.out Hz2.out rfl (by omega) _ j (flatG qcells CQ) rfl (HO8.out.2.alloc _) (w10.heap.size + 1 + 1) (some ⟨w10.heap.size + 1, 0, none⟩) 1 1 [.string fn, .string fd] rfl (reads_row1 w10 _ _ [.string fn, .string fd]) (by intro u hu; simp at hu; rcases hu with rfl | rfl <;> rfl) (by unfold maxLen; omega) (by omega) (by simp at hsz ⊢; omega) ?_; intro v11 w11 hown11 hg11 _; have HO11 := Lib.hid (And.intro (own_apart (HO8.out.2.alloc _) (HO8.out.1.alloc _) (by decide) hg11) hown11); have HG11 := Lib.hid hg11; clear hown11 hg11)
        go_roundw
        case rel =>
          refine ⟨j + 1, by omega, by go_num, ⟨hs.1, (hs.2.alloc hsz _).grown HG11.out (by simp at hsz ⊢; omega) (own_gen HO8.out.2)⟩, ?_⟩
          refine ⟨?_, ?_⟩
          · rw [HSU.out.1, flatG_snoc, HXC.out.1]
            exact HO11.out.1
          · rw [HSU.out.2, flatG_snoc, HXC.out.2]
            exact HO11.out.2
        case measure => simp [intOf]; omega
  · have q : (alE t ws != 0) = true := by simpa using he
    generalize alE t ws = ee at *
    clear he hn hz h12 h1005 y0 yk z0 z2 h6 hk0
    go_enter Tryz.func7, Tryz.ntmps7
    go_wp2_with fail
    refine KG1.step (hs.alloc _) HR1.out ?_
    intro w1 hs hb
    go_wp2_with fail
    refine KG2.step hs (HR.out.on hs.2) ?_
    intro w2 hs hb
    go_wp2_with fail
    refine KK.step hs ?_
    intro w3 hs hb
    go_wp2_with fail
    refine (KS.out w3 hs.gl (HR.out.on hs.2)).mono ?_
    rintro e w4 ⟨v, rfl, hov, hb3⟩
    obtain ⟨A1, c1, rfl, hrow⟩ := hov.row
    replace hs := hs.on hb3
    clear hov hrow
    go_wp2_with fail
    refine KA.step hs ?_
    intro w5 hs hb
    go_wp2_with fail
    go_ret
    exact ⟨rfl, hs.2⟩
end Go.Proofs.YtdpoagcgglfijaaGreatDoor
