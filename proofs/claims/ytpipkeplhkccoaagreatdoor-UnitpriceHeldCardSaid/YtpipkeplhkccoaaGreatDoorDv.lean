/- Allocation: divide, Split. Condition: up to twelve weights of bounded length, or more than 1000. -/
import Derived.Test.YtpipkeplhkccoaaGreatDoorPzg
import Derived.Test.YtpipkeplhkccoaaGreatDoorEqI
namespace Go.Proofs.YtpipkeplhkccoaaGreatDoor
open Go.RowKit Go.Shelf Go.Sort SP Dec QQ

theorem flat_icells (l : List Int) : flatG icells l = (List.range l.length).map (fun i => Value.string (canS (at0 l i))) := by
  have e1 : flatG icells l = l.map (fun z => Value.string (canS z)) := by
    induction l with
    | nil => rfl
    | cons z l ih => show icells z ++ flatG icells l = _; rw [ih]; rfl
  have e2 : (List.range l.length).map (fun i => Value.string (canS (at0 l i))) = ((List.range l.length).map (at0 l)).map (fun z => Value.string (canS z)) := by rw [List.map_map]; rfl
  rw [e1, e2, map_at0]
theorem flat_sv (l : List Int) : flatG icells l = (l.map canS).map sv := by
  induction l with
  | nil => rfl
  | cons z l ih => show icells z ++ flatG icells l = _; rw [ih]; rfl
theorem POut.outG {w W : World} {v : Value} {n : Nat} {l : List Int} (h : POut w v n l W) (hn : n ≤ 12) : OutG icells 22 1 w.heap.size W v n l := by
  obtain ⟨P, rfl, lo, hl, F⟩ := h
  refine ⟨hl, ?_⟩
  rw [flat_icells, hl]
  exact F.own lo (by unfold maxLen; omega)
set_option maxRecDepth 100000 in
set_option maxHeartbeats 4000000 in
theorem div4_few {A : Option Addr} {n c k0 : Nat} {t : ByteArray} {ws : List ByteArray} (hn : ws.length = n) (h12 : n ≤ 12) (hk0 : k0 ≤ 4000) (ht : t.size ≤ k0) (hz : ∀ s ∈ ws, s.size ≤ k0) (hcan : canS (valS t) = t) (hok : WOk (iv ws))
    (w : World) (hg : Gl w) (hr : Row w A (ws.map sv)) :
    Calls Tryz.prog 57 #[.string t, .slice A n c] w fun e w' => ∃ v, e = .returned v ∧ POut w v n (splL (valS t) (iv ws)) w' ∧ Below w.heap.size w w' := by
  have hs := St.refl hg
  have HR := Lib.hid hr
  have K1 := neg4_any (a := t) (by omega)
  by_cases hT : valS t < 0
  · rw [decide_eq_true hT] at K1
    have KN := NegR (Vs.arg (s := t) (by omega))
    have hfit : Fit k0 (-valS t) := by have := Fit.val (a := t) ht; unfold Fit at *; rwa [Int.natAbs_neg]
    have KP := Lib.hid (fun (w1 : World) (hg1 : Gl w1) (hr1 : Row w1 A (ws.map sv)) => pos4_few (A := A) (c := c) (k0 := k0 + 1) (t := canS (-valS t)) (ws := ws) hn h12 (by omega) (by have := hfit.size; omega) (fun s hs => by have := hz s hs; omega) (by rw [valS_canS]) hok w1 hg1 hr1)
    rw [valS_canS] at KP
    have HE : Hid (splL (valS t) (iv ws) = (posL (-valS t) (iv ws)).map (fun x => -x)) := if_pos hT
    have HFX : Hid (∀ x ∈ posL (-valS t) (iv ws), Fit (k0 + k0 + 2) x) := pos_fit hfit (iv_fit hz)
    have HN := Lib.hid hn
    generalize canS (-valS t) = tn at *
    rw [HE.out]
    generalize posL (-valS t) (iv ws) = xs at *
    clear hr hn hz ht hcan hok hT hfit HE
    go_enter Tryz.func57, Tryz.ntmps57
    go_wp2_with fail
    refine K1.step hs ?_
    intro w1 hs hb1
    go_wp2_with fail
    refine KN.step hs ?_
    intro w2 hs hb2
    go_wp2_with fail
    refine (KP.out w2 hs.gl (HR.out.on hs.2)).mono ?_
    rintro e w3 ⟨v, rfl, ⟨P, rfl, lo, hxl, F⟩, hb3⟩
    have HF : Hid (Fil w3 P 22 n n (fun i => .string (canS (if i < 0 then -at0 xs i else at0 xs i)))) := F.congr (fun i _ => by rw [if_neg (Nat.not_lt_zero _)])
    have HL : Hid (w.heap.size ≤ P) := Nat.le_trans hs.2.size lo
    have HXL := Lib.hid hxl
    replace hs := hs.on hb3
    clear lo hxl F
    go_wp2_with fail
    go_loopw [19] (fun s wr => ∃ k : Nat, k ≤ n ∧ s = .int .i64 (k : Int) ∧ St w wr ∧ Hid (Fil wr P 22 n n (fun i => .string (canS (if i < k then -at0 xs i else at0 xs i))))) (fun s _ => (n - intOf s).toNat)
    case atStart => exact ⟨0, by omega, rfl, hs, HF.out⟩
    case round =>
      clear hs HF
      obtain ⟨k, hk, rfl, hs, HF⟩ := hrel
      by_cases hkn : k = n
      · subst hkn
        have q : decide ((k : Int) < (k : Int)) = false := decide_eq_false (by omega)
        go_wp2_with fail
        go_ret
        refine ⟨_, rfl, ⟨P, rfl, HL.out, by rw [List.length_map, HXL.out], HF.out.congr fun i hi => ?_⟩, hs.2⟩
        rw [if_pos hi, at0_neg]
      · have hkl : k < n := by omega
        have q : decide ((k : Int) < (n : Int)) = true := decide_eq_true (by omega)
        have ck : wr.cell? ⟨P, k, none⟩ = some (.string (canS (at0 xs k))) := by
          have := HF.out.cell (i := k) hkl
          rwa [if_neg (Nat.lt_irrefl _)] at this
        have fx := HFX.out _ (List.mem_of_getElem? (at0_lt (l := xs) (i := k) (by rw [HXL.out]; exact hkl)))
        have KX := NegR (Vs.can fx (by omega))
        have HS : ∀ W : World, Below wr.heap.size wr W → Hid (Fil (W.setCell ⟨P, k, none⟩ (.string (canS (-at0 xs k)))) P 22 n n (fun i => .string (canS (if i < k + 1 then -at0 xs i else at0 xs i)))) := fun W hb => (HF.out.on hb).upd (by
          show Value.string (canS (if k < k + 1 then _ else _)) = _
          rw [if_pos (by omega)]) (fun i hi hik => by
          show Value.string (canS (if i < k + 1 then _ else _)) = Value.string (canS (if i < k then _ else _))
          by_cases hlt : i < k
          · rw [if_pos (by omega), if_pos hlt]
          · rw [if_neg (by omega), if_neg hlt])
        have kl : (k : Int) < (n : Int) := by omega
        generalize canS (-at0 xs k) = y at *
        generalize canS (at0 xs k) = x at *
        clear fx hkn
        go_wp2_with fail
        refine KX.step hs ?_
        intro w4 hs hb4
        obtain ⟨vP, cP⟩ := (HF.out.on hb4).some hkl
        have fP := (HF.out.on hb4).frozen k
        have HS4 := HS _ hb4
        have hs5 := hs.set HL.out k (.string y)
        go_wp2_with fail
        go_roundw
        case rel => exact ⟨k + 1, by omega, by go_num, hs5, HS4.out⟩
        case measure => simp [intOf]; omega
  · rw [decide_eq_false hT] at K1
    have KP := Lib.hid (fun (w1 : World) (hg1 : Gl w1) (hr1 : Row w1 A (ws.map sv)) => pos4_few (A := A) (c := c) (k0 := k0) (t := t) (ws := ws) hn h12 (by omega) ht hz hcan hok w1 hg1 hr1)
    have HE : Hid (splL (valS t) (iv ws) = posL (valS t) (iv ws)) := if_neg hT
    rw [HE.out]
    generalize posL (valS t) (iv ws) = xs at *
    clear hr hn hz ht hcan hok hT HE
    go_enter Tryz.func57, Tryz.ntmps57
    go_wp2_with fail
    refine K1.step hs ?_
    intro w1 hs hb1
    go_wp2_with fail
    refine (KP.out w1 hs.gl (HR.out.on hs.2)).mono ?_
    rintro e w2 ⟨v, rfl, ⟨P, rfl, lo, hxl, F⟩, hb2⟩
    have HF := Lib.hid F
    have lo2 : w.heap.size ≤ P := Nat.le_trans hs.2.size lo
    replace hs := hs.on hb2
    clear F
    go_wp2_with fail
    go_ret
    exact ⟨_, rfl, ⟨P, rfl, lo2, hxl, HF.out⟩, hs.2⟩
set_option maxRecDepth 100000 in
set_option maxHeartbeats 4000000 in
/-- Split -/
theorem split4_any {A : Option Addr} {n c k0 : Nat} {t : ByteArray} {ws : List ByteArray} (hn : ws.length = n) (h12 : n ≤ 12 ∨ 1000 < n) (hm : n ≤ 4611686018427387904) (hk0 : k0 ≤ 4000) (ht : t.size ≤ k0) (hz : ∀ s ∈ ws, s.size ≤ k0) (w : World) (hg : Gl w) (hr : Row w A (ws.map sv)) :
    Calls Tryz.prog 18 #[.string t, .slice A n c] w fun e w' => ∃ v, e = .returned (.tuple #[v, .int .i64 (alE t ws)]) ∧ OutG icells 22 1 w.heap.size w' v (alS t ws).length (alS t ws) ∧ Below w.heap.size w w' := by
  have hs := St.refl hg
  have HR := Lib.hid hr
  have K1 := alchk_any (A := A) (c := c) hn h12 hm (by omega) ht hz
  by_cases he : alE t ws = 0
  · have ho := alE_zero.1 he
    have h2 := ho.len
    have e : alS t ws = splL (valS t) (iv ws) := if_pos he
    have h12' : n ≤ 12 := by omega
    have KD := Lib.hid (fun (w1 : World) (hg1 : Gl w1) (hr1 : Row w1 A (ws.map sv)) => div4_few (A := A) (c := c) (k0 := k0) (t := t) (ws := ws) hn h12' hk0 ht hz (chk_eq ho.ct) ho.ok w1 hg1 hr1)
    rw [e, he, splL_len, iv_len, hn]
    rw [he] at K1
    clear e he hn hr hz ht ho h2 hm h12
    go_enter Tryz.func18, Tryz.ntmps18
    go_wp2_with fail
    refine K1.step hs (HR.out.on hs.2) ?_
    intro w1 hs hb
    go_wp2_with fail
    refine (KD.out w1 hs.gl (HR.out.on hs.2)).mono ?_
    rintro e w2 ⟨v, rfl, hP, hb2⟩
    obtain ⟨P, rfl, lo, hxl, F⟩ := hP
    have HP : Hid (POut w (.slice (some ⟨P, 0, none⟩) n n) n (splL (valS t) (iv ws)) w2) := ⟨P, rfl, Nat.le_trans hs.2.size lo, hxl, F⟩
    replace hs := hs.on hb2
    clear lo hxl F
    go_wp2_with fail
    go_ret2
    exact ⟨_, rfl, HP.out.outG h12', hs.2⟩
  · have e : alS t ws = [] := if_neg he
    rw [e]
    have q : (alE t ws != 0) = true := by simpa using he
    generalize alE t ws = ee at *
    clear hn hr hz ht e
    go_enter Tryz.func18, Tryz.ntmps18
    go_wp2_with fail
    refine K1.step hs (HR.out.on hs.2) ?_
    intro w1 hs hb
    go_wp2_with fail
    go_ret2
    exact ⟨_, rfl, ⟨rfl, World.ownsRow_nil _ _ _ _⟩, hs.2⟩
end Go.Proofs.YtpipkeplhkccoaaGreatDoor
