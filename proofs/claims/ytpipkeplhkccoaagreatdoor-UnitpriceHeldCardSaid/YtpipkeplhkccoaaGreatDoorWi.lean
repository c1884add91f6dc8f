/- Allocation: Ideal. Conditions: up to twelve weights of bounded length, or more than 1000. -/
import Derived.Test.YtpipkeplhkccoaaGreatDoorWQ
import Derived.Test.YtpipkeplhkccoaaGreatDoorWa
import Derived.Test.YtpipkeplhkccoaaGreatDoorGr
namespace Go.Proofs.YtpipkeplhkccoaaGreatDoor
open Go.RowKit Go.Shelf Dec QQ SP

def qcells (q : Rat) : List Value := [.string (frN q), .string (frD q)]
theorem qcells_len (q : Rat) : (qcells q).length = 2 := rfl
theorem infoF4 : (Tryz.prog.info? 36).map (fun i => (i.zero, i.size, i.bytes)) = some (some (.agg #[.string ⟨#[]⟩, .string ⟨#[]⟩]), 2, 32) := by kernel_rfl
theorem idL_succ {T : Int} {ws : List Int} {k : Nat} (h : k < ws.length) : (idL T ws).take (k + 1) = (idL T ws).take k ++ [rat (T * at0 ws k) ws.sum] := by
  rw [List.take_add_one, idL_at h]
  rfl
set_option maxRecDepth 100000 in
set_option maxHeartbeats 4000000 in
theorem ideal_few {A : Option Addr} {n c k0 : Nat} {t : ByteArray} {ws : List ByteArray} (hn : ws.length = n) (h12 : n ≤ 12) (hk0 : k0 ≤ 5000) (ht : t.size ≤ k0) (hz : ∀ s ∈ ws, s.size ≤ k0) (he : alE t ws = 0) (w : World) (hg : Gl w) (hr : Row w A (ws.map sv)) :
    Calls Tryz.prog 20 #[.string t, .slice A n c] w fun e w' => ∃ v, e = .returned (.tuple #[v, .int .i64 0]) ∧ OutG qcells 36 2 w.heap.size w' v n (idL (valS t) (iv ws)) ∧ Below w.heap.size w w' := by
  have hs := St.refl hg
  have HR := Lib.hid hr
  have HN := Lib.hid hn
  have HZ := Lib.hid hz
  have HT := Lib.hid ht
  have HO := Lib.hid (alE_zero.1 he)
  have K1 := alchk_any (A := A) (c := c) hn (.inl h12) (by omega) hk0 ht hz
  rw [he] at K1
  have K2 := whole_any (A := A) (c := c) hn h12 hk0 hz
  have HFS : Hid (Fit (k0 + 2) (iv ws).sum) := whole_fit hz (by omega)
  have HIL : Hid ((idL (valS t) (iv ws)).length = n) := by show _ = _; rw [idL_len, iv_len, hn]
  obtain ⟨al, hal⟩ : ∃ v, canS (iv ws).sum = v := ⟨_, rfl⟩
  rw [hal] at K2
  have HAL := Lib.hid hal
  clear hr hn hz ht he hal
  go_enter Tryz.func20, Tryz.ntmps20
  go_wp2_with fail
  refine K1.step hs (HR.out.on hs.2) ?_
  intro w1 hs hb
  go_wp2_with fail
  refine K2.step hs (HR.out.on hs.2) ?_
  intro w2 hs hb
  go_wp2_with fail
  go_loopw [23, 8] (fun s v wr => ∃ k : Nat, k ≤ n ∧ s = .int .i64 (k : Int) ∧ St w wr ∧ Hid (World.ownsRow wr w.heap.size 36 2 v k (flatG qcells ((idL (valS t) (iv ws)).take k)))) (fun s _ _ => (n - intOf s).toNat)
  case atStart => exact ⟨0, by omega, rfl, hs, World.ownsRow_nil _ _ _ _⟩
  case round =>
    clear hs
    obtain ⟨k, hk, rfl, hs, HOW⟩ := hrel
    by_cases hkn : k = n
    · subst hkn
      have q : decide ((k : Int) < (k : Int)) = false := decide_eq_false (by omega)
      have e : (idL (valS t) (iv ws)).take k = idL (valS t) (iv ws) := List.take_of_length_le (Nat.le_of_eq HIL.out)
      rw [e] at HOW
      clear e
      go_wp2_with fail
      go_ret2
      exact ⟨_, rfl, ⟨HIL.out, HOW.out⟩, hs.2⟩
    · have hkl : k < n := by omega
      have q : decide ((k : Int) < (n : Int)) = true := decide_eq_true (by omega)
      have qn : decide (k < n) = true := decide_eq_true hkl
      obtain ⟨s, hd⟩ : ∃ s, ws[k]? = some s := ⟨ws[k]'(by rw [HN.out]; exact hkl), by simp⟩
      obtain ⟨b, o, hA, hb, hc⟩ := (HR.out.on hs.2) k (sv s) (by rw [List.getElem?_map, hd]; rfl)
      subst hA
      have zs := HZ.out s (List.mem_of_getElem? hd)
      have zt := HT.out
      have hS : (iv ws).sum ≠ 0 := by have := HO.out.ok.pos; omega
      have fm := (Fit.val (k := k0) zt).mul (Fit.val (k := k0) zs)
      have KM := MulR (Vs.arg (s := t) (by omega)) (Vs.arg (s := s) (by omega))
      have KN := NewF (Vs.can fm (by omega)) (Vs.can HFS.out (by omega)) (by have := fm.size; omega) (by have := HFS.out.size; omega) hS
      rw [HAL.out] at KN
      have HSU := Lib.hid (idL_succ (T := valS t) (ws := iv ws) (k := k) (by rw [iv_len, HN.out]; exact hkl))
      rw [iv_at hd] at HSU
      unfold sv at hc
      unfold FR at KN
      generalize canS (valS t * valS s) = mm at *
      generalize rat (valS t * valS s) (iv ws).sum = rq at *
      obtain ⟨fn, hfn⟩ : ∃ x, frN rq = x := ⟨_, rfl⟩
      obtain ⟨fd, hfd⟩ : ∃ x, frD rq = x := ⟨_, rfl⟩
      rw [hfn, hfd] at KN
      have HQC : Hid (qcells rq = [.string fn, .string fd]) := by show _ = _; unfold qcells; rw [hfn, hfd]
      generalize (idL (valS t) (iv ws)).take k = CL at *
      clear hd hkn zs zt hS fm hfn hfd
      go_wp2_with fail
      refine KM.step hs ?_
      intro w3 hs hb3
      clear hc
      go_wp2_with fail
      refine KN.step hs ?_
      intro w4 hs hb4
      have X := Bx.new w4 #[.string fn, .string fd] 36
      have HO4 := Lib.hid ((own_below (own_below HOW.out hb3) hb4).alloc (.cells #[.string fn, .string fd] 36))
      replace hs := hs.alloc (.cells #[.string fn, .string fd] 36)
      have x0 := X.cell (i := 0) (v := .string fn) rfl
      have x1 := X.cell (i := 1) (v := .string fd) rfl
      obtain ⟨i0, hi, hz0, hz1, hz2⟩ := info_parts infoF4
      have Hi := Lib.hid hi
      have Hz0 := Lib.hid hz0
      have Hz1 := Lib.hid hz1
      have Hz2 := Lib.hid hz2
      have hsz : w.heap.size ≤ (w4.alloc (.cells #[.string fn, .string fd] 36)).heap.size := hs.2.size
      clear hi hz0 hz1 hz2
      go_wp2_with (at_builtin; refine wpList_append_any _ rfl (.tmp 35) (.tmp 37) 42 rfl w.heap.size 36 i0 (.agg #[.string ⟨#[]⟩, .string ⟨#[]⟩]) 2 32 (by kernel_rfl) Hi.out Hz0.out Hz1.out Hz2.out rfl (by omega) _ k (flatG qcells CL) rfl (HO4.out.alloc _) (w4.heap.size + 1 + 1) (some ⟨w4.heap.size + 1, 0, none⟩) 1 1 [.string fn, .string fd] rfl (reads_row1 w4 _ _ [.string fn, .string fd]) (by intro u hu; simp at hu; rcases hu with rfl | rfl <;> rfl) (by unfold maxLen; omega) (by omega) (by simp at hsz ⊢; omega) ?_; intro v7 w7 hown7 hg7 _; have HO7 := Lib.hid hown7; have HG7 := Lib.hid hg7; clear hown7 hg7)
      go_roundw
      case rel =>
        refine ⟨k + 1, by omega, by go_num, ⟨hs.1, (hs.2.alloc hsz _).grown HG7.out (by simp at hsz ⊢; omega) (own_gen HO4.out)⟩, ?_⟩
        show World.ownsRow _ _ _ _ _ _ _
        rw [HSU.out, flatG_snoc, HQC.out]
        exact HO7.out
      case measure => simp [intOf]; omega
set_option maxRecDepth 100000 in
set_option maxHeartbeats 4000000 in
theorem ideal_any {A : Option Addr} {n c k0 : Nat} {t : ByteArray} {ws : List ByteArray} (hn : ws.length = n) (h12 : n ≤ 12 ∨ 1000 < n) (hm : n ≤ 4611686018427387904) (hk0 : k0 ≤ 5000) (ht : t.size ≤ k0) (hz : ∀ s ∈ ws, s.size ≤ k0) (w : World) (hg : Gl w) (hr : Row w A (ws.map sv)) :
    Calls Tryz.prog 20 #[.string t, .slice A n c] w fun e w' => ∃ v, e = .returned (.tuple #[v, .int .i64 (alE t ws)]) ∧ OutG qcells 36 2 w.heap.size w' v (alI t ws).length (alI t ws) ∧ Below w.heap.size w w' := by
  by_cases he : alE t ws = 0
  · have h2 := (alE_zero.1 he).len
    have e : alI t ws = idL (valS t) (iv ws) := if_pos he
    rw [e, he, idL_len, iv_len, hn]
    exact ideal_few hn (by omega) hk0 ht hz he w hg hr
  · have e : alI t ws = [] := if_neg he
    rw [e]
    have hs := St.refl hg
    have HR := Lib.hid hr
    have K1 := alchk_any (A := A) (c := c) hn h12 hm hk0 ht hz
    have q : (alE t ws != 0) = true := by simpa using he
    generalize alE t ws = ee at *
    clear hn hr hz ht e
    go_enter Tryz.func20, Tryz.ntmps20
    go_wp2_with fail
    refine K1.step hs (HR.out.on hs.2) ?_
    intro w1 hs hb
    go_wp2_with fail
    go_ret2
    exact ⟨_, rfl, ⟨rfl, World.ownsRow_nil _ _ _ _⟩, hs.2⟩
end Go.Proofs.YtpipkeplhkccoaaGreatDoor
