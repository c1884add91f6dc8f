/- Walk of AllocateBegins. Condition: sizes that strings and slices can have. -/
import Derived.Test.YtdpoagcgglfijaaGreatDoorAw4
import Derived.Test.YtdpoagcgglfijaaGreatDoorLw4
import Derived.Test.YtdpoagcgglfijaaGreatDoorWl
namespace Go.Proofs.YtdpoagcgglfijaaGreatDoor
open Go.RowKit Go.Shelf SP Dec QQ

theorem run_fit {T : Int} {ws : List Int} {k0 : Nat} (hT : Fit k0 T) (hw : ∀ x ∈ ws, Fit k0 x) (hl : ws.length ≤ 12) {n : Nat} : ∀ x ∈ runL T ws n, Fit (k0 + k0 + 4) x := by
  intro x hx
  unfold runL at hx
  obtain ⟨i, hi, rfl⟩ := List.mem_map.1 hx
  have h : ∀ j, Fit (k0 + (k0 + 2) + 1) (runQ T ws j) := fun j => (hT.mul (sum_fit (fun x hx => hw x (List.mem_of_mem_take hx)) (by rw [List.length_take]; omega))).fdiv
  exact ((h (i + 1)).sub (h i)).mono (by omega)
set_option maxRecDepth 100000 in
set_option maxHeartbeats 4000000 in
theorem begins04_any {A : Option Addr} {n c p : Nat} {t : ByteArray} {ws : List ByteArray} (z0 : t.size ≤ 9223372036854775807) (hn : ws.length = n) (hc : n ≤ c) (hc2 : c ≤ 9223372036854775807) (hm : n ≤ 9223372036854775807) (hbig : ∀ s ∈ ws, s.size ≤ 9223372036854775807) (hp : p ≤ 255) :
    ∀ w, Gl w → Row w A (ws.map sv) → Calls Tryz.prog 5 #[.string t, .slice A n c, .int .u8 (p : Int)] w fun e w' => e = .returned (.bool true) ∧ Below w.heap.size w w' := by
  intro w hg hr
  have hs := St.refl hg
  have HR := Lib.hid hr
  have KA := awake04
  have HR1 : Hid (Row (w.alloc (.cells #[.string t] 22)) (some ⟨w.heap.size, 0, none⟩) ([t].map sv)) := Row.of (Bx.new w #[.string t] 22)
  have KG1 := great4_any (A := some ⟨w.heap.size, 0, none⟩) (n := 1) (c := 1) (l := [t]) rfl (by decide) (by intro s hs; simp at hs; rw [hs]; exact z0)
  have KG2 := great4_any (A := A) (n := n) (c := c) (l := ws) hn hm hbig
  cases hG1 : great4 [t] with
  | true =>
    rw [hG1] at KG1
    clear hG1 KG2 hr hn hbig
    go_enter Tryz.func5, Tryz.ntmps5
    go_wp2_with fail
    refine KG1.step (hs.alloc _) HR1.out ?_
    intro w1 hs hb
    go_wp2_with fail
    refine KA.step hs ?_
    intro w2 hs hb
    go_wp2_with fail
    go_ret
    exact ⟨rfl, hs.2⟩
  | false =>
  rw [hG1] at KG1
  have y0 : t.size ≤ 30 := great4_one hG1 (by simp) t (by simp)
  cases hG2 : great4 ws with
  | true =>
    rw [hG2] at KG2
    clear hG1 hG2 hr hn hbig y0
    go_enter Tryz.func5, Tryz.ntmps5
    go_wp2_with fail
    refine KG1.step (hs.alloc _) HR1.out ?_
    intro w1 hs hb
    go_wp2_with fail
    refine KG2.step hs (HR.out.on hs.2) ?_
    intro w2 hs hb
    go_wp2_with fail
    refine KA.step hs ?_
    intro w3 hs hb
    go_wp2_with fail
    go_ret
    exact ⟨rfl, hs.2⟩
  | false =>
  rw [hG2] at KG2
  obtain ⟨h12, h1005, hz⟩ := great4_few hG2
  rw [hn] at h12 h1005
  clear hG1 hG2 hbig hr
  have KR := Lib.hid (fun (u : World) (hg : Gl u) (hr : Row u A (ws.map sv)) => run4_any (A := A) (c := c) (n := n) (k0 := 30) (t := t) (ws := ws) hn h12 (by omega) (by decide) y0 hz u hg hr)
  by_cases he : alE t ws = 0
  · have ho := alE_zero.1 he
    have h0 : 0 < n := by have := ho.len0; omega
    have hn12 : n ≤ 12 := by have := ho.len; omega
    have eR : alR t ws = runL (valS t) (iv ws) n := by unfold alR; rw [if_pos he, hn]
    rw [he, eR, runL_len] at KR
    obtain ⟨k, hk⟩ : ∃ k, p % n + 1 = k := ⟨_, rfl⟩
    have hkn : k ≤ n := by have := Nat.mod_lt p h0; omega
    have hk0 : 0 < k := by omega
    have hS := ho.ok.pos
    have fT : Fit 30 (valS t) := Fit.val y0
    have fw := iv_fit hz
    have fR := run_fit fT fw (n := n) (by rw [iv_len, hn]; exact hn12)
    have zR : ∀ s ∈ ((runL (valS t) (iv ws) n).take k).map canS, s.size ≤ 100 := fun s hs => by
      obtain ⟨z, hz', rfl⟩ := List.mem_map.1 hs
      have := (fR z (List.mem_of_mem_take hz')).size
      omega
    have KS1 := fun (g c1 : Nat) => sum4_any (A := some ⟨g, 0, none⟩) (n := k) (c := c1) (k0 := 100) (ws := ((runL (valS t) (iv ws) n).take k).map canS) (by rw [List.length_map, List.length_take, runL_len]; omega) (by omega) (by decide) zR
    have KS2 := sum4_any (A := A) (n := k) (c := c) (k0 := 30) (ws := ws.take k) (by rw [List.length_take]; omega) (by omega) (by decide) (fun s hs => hz s (List.mem_of_mem_take hs))
    have KS3 := sum4_any (A := A) (n := n) (c := c) (k0 := 30) (ws := ws) hn hn12 (by decide) hz
    have fk : Fit 32 ((iv ws).take k).sum := take_fit hz (by omega)
    have fS : Fit 32 (iv ws).sum := whole_fit hz (by omega)
    have fm := fT.mul fk
    have KM := MulR (Vs.arg (s := t) (by omega)) (Vs.can fk (by omega))
    have KN := NewF (Vs.can fm (by omega)) (Vs.can fS (by omega)) (by have := fm.size; omega) (by have := fS.size; omega) (by omega)
    have fq : FitQ 70 (rat (valS t * ((iv ws).take k).sum) (iv ws).sum) := FitQ.mono (FitQ.rat (k := 62) (m := 32) fm fS (by omega)) (by decide)
    have KF := FloorF (Vq.fr fq (by omega))
    rw [iv_can, begins4 _ hkn] at KS1
    rw [iv_take] at KS2
    rw [← floor_rat (by omega)] at KF
    unfold FR at KN
    unfold FV at KF
    generalize canS ((valS t * ((iv ws).take k).sum).fdiv (iv ws).sum) = bg at *
    generalize canS (valS t * ((iv ws).take k).sum) = mm at *
    generalize canS ((iv ws).take k).sum = sk at *
    generalize canS (iv ws).sum = sa at *
    generalize frN (rat (valS t * ((iv ws).take k).sum) (iv ws).sum) = qn at *
    generalize frD (rat (valS t * ((iv ws).take k).sum) (iv ws).sum) = qd at *
    have HRT := Lib.hid (RowG.take HR.out k)
    rw [← List.map_take] at HRT
    have hmod := mod_u8W p n
    have hpk : ((p % n : Nat) : Int) + 1 = (k : Int) := by omega
    have hpk2 : 1 + ((p % n : Nat) : Int) = (k : Int) := by omega
    have hpk3 : 1 + p % n = k := by omega
    have hpk4 : 1 + (p : Int) % (n : Int) = (k : Int) := by rw [← hpk2]; rfl
    have wp : IntKind.i64.wrap (p : Int) = (p : Int) := IntWalk.i64_in _ (by omega)
    have wk : IntKind.i64.wrap (k : Int) = (k : Int) := IntWalk.i64_in _ (by omega)
    obtain ⟨b0, o0, hA, hlt0, hcell0⟩ := HR.out 0 (sv (ws[0]'(by omega))) (by rw [List.getElem?_map, List.getElem?_eq_getElem (by omega)]; rfl)
    subst hA
    clear hlt0 hcell0
    have hadd : ∀ a : Addr, a.add (0 * 1) = a := fun a => by simp [Addr.add]
    have hck : k ≤ c := by omega
    have hc0 : ¬ c = 0 := by omega
    have hn0 : ¬ (n : Int) = 0 := by omega
    have pk0 : (0 : Int) ≤ (k : Int) := by omega
    have pkc : (k : Int) ≤ (c : Int) := by omega
    have qlen : ((n : Int) != (n : Int)) = false := by simp
    have HKS1 := Lib.hid KS1
    clear he eR ho hS fT fw fR zR fk fS fm fq hz hn h12 h1005 y0 z0 hk KS1
    go_enter Tryz.func5, Tryz.ntmps5
    go_wp2_with fail
    refine KG1.step (hs.alloc _) HR1.out ?_
    intro w1 hs hb
    go_wp2_with fail
    refine KG2.step hs (HR.out.on hs.2) ?_
    intro w2 hs hb
    go_wp2_with fail
    refine (KR.out w2 hs.gl (HR.out.on hs.2)).mono ?_
    rintro e w3 ⟨v, rfl, hov, hb3⟩
    obtain ⟨g, c1, rfl, hc1, hc2', hrow⟩ := hov.some4 h0
    rw [flat_sv] at hrow
    replace hs := hs.on hb3
    have HRR := Lib.hid (RowG.take hrow k)
    rw [← List.map_take, ← List.map_take] at HRR
    have hc1k : k ≤ c1 := by omega
    have pkc1 : (k : Int) ≤ (c1 : Int) := by omega
    have hc10 : ¬ c1 = 0 := by omega
    have hcm1 : c1 ≤ 9223372036854775807 := by unfold maxLen at hc2'; omega
    clear hov hrow hc2'
    go_wp2_with fail
    refine (HKS1.out g c1).step hs HRR.out ?_
    intro w4 hs hb
    go_wp2_with fail
    refine KS2.step hs (HRT.out.on hs.2) ?_
    intro w5 hs hb
    go_wp2_with fail
    refine KM.step hs ?_
    intro w6 hs hb
    go_wp2_with fail
    refine KS3.step hs (HR.out.on hs.2) ?_
    intro w7 hs hb
    go_wp2_with fail
    refine KN.step hs ?_
    intro w8 hs hb
    have X := Bx.new w8 #[.string qn, .string qd] 38
    replace hs := hs.alloc (.cells #[.string qn, .string qd] 38)
    have x0 := X.cell (i := 0) (v := .string qn) rfl
    have x1 := X.cell (i := 1) (v := .string qd) rfl
    go_wp2_with fail
    clear x0 x1
    refine KF.step hs ?_
    intro w9 hs hb
    go_wp2_with fail
    refine KA.step hs ?_
    intro w10 hs hb
    go_wp2_with fail
    go_ret
    exact ⟨rfl, hs.2⟩
  · have q : (alE t ws != 0) = true := by simpa using he
    generalize alE t ws = ee at *
    clear he hn hz h12 h1005 y0 z0
    go_enter Tryz.func5, Tryz.ntmps5
    go_wp2_with fail
    refine KG1.step (hs.alloc _) HR1.out ?_
    intro w1 hs hb
    go_wp2_with fail
    refine KG2.step hs (HR.out.on hs.2) ?_
    intro w2 hs hb
    go_wp2_with fail
    refine (KR.out w2 hs.gl (HR.out.on hs.2)).mono ?_
    rintro e w3 ⟨v, rfl, hov, hb3⟩
    obtain ⟨A1, c1, rfl, hrow⟩ := hov.row
    replace hs := hs.on hb3
    clear hov hrow
    go_wp2_with fail
    refine KA.step hs ?_
    intro w4 hs hb
    go_wp2_with fail
    go_ret
    exact ⟨rfl, hs.2⟩
end Go.Proofs.YtdpoagcgglfijaaGreatDoor
