/- Walk of AllocateSplit. Condition: sizes that strings and slices can have. -/
import Derived.Test.YtpipkeplhkccoaaGreatDoorAw4
import Derived.Test.YtpipkeplhkccoaaGreatDoorLw4
import Derived.Test.YtpipkeplhkccoaaGreatDoorWc
import Derived.Test.YtpipkeplhkccoaaGreatDoorWi
import Derived.Test.YtpipkeplhkccoaaGreatDoorR4h
import Derived.Test.YtpipkeplhkccoaaGreatDoorEvn
import Derived.Test.YtpipkeplhkccoaaGreatDoorEqF
namespace Go.Proofs.YtpipkeplhkccoaaGreatDoor
open Go.RowKit Go.Shelf SP Dec QQ

theorem alS_le {t : ByteArray} {ws : List ByteArray} (h : ws.length ≤ 1005) : (alS t ws).length ≤ 1005 := by
  unfold alS
  split
  · rw [splL_len, iv_len]; exact h
  · exact Nat.zero_le _
theorem alI_le {t : ByteArray} {ws : List ByteArray} (h : ws.length ≤ 1005) : (alI t ws).length ≤ 1005 := by
  unfold alI
  split
  · rw [idL_len, iv_len]; exact h
  · exact Nat.zero_le _
theorem alR_le {t : ByteArray} {ws : List ByteArray} (h : ws.length ≤ 1005) : (alR t ws).length ≤ 1005 := by
  unfold alR
  split
  · rw [runL_len]; exact h
  · exact Nat.zero_le _
theorem evL_le {t : ByteArray} {N : Int} : (evL t N).length ≤ 1005 := by
  unfold evL
  split
  · exact Nat.zero_le _
  · exact alS_le (by rw [onesL_len]; omega)
set_option maxRecDepth 100000 in
set_option maxHeartbeats 8000000 in
theorem split04_any {A : Option Addr} {n c : Nat} {t : ByteArray} {ws : List ByteArray} {N : Int} (z0 : t.size ≤ 9223372036854775807) (hn : ws.length = n) (hm : n ≤ 9223372036854775807) (hbig : ∀ s ∈ ws, s.size ≤ 9223372036854775807) :
    ∀ w, Gl w → Row w A (ws.map sv) → Calls Tryz.prog 4 #[.string t, .slice A n c, .int .i64 N] w fun e w' => e = .returned (.bool true) ∧ Below w.heap.size w w' := by
  intro w hg hr
  have hs := St.refl hg
  have HR := Lib.hid hr
  have KA := awake04
  have HR1 : Hid (Row (w.alloc (.cells #[.string t] 22)) (some ⟨w.heap.size, 0, none⟩) ([t].map sv)) := Row.of (Bx.new w #[.string t] 22)
  have KG1 := great4_any (A := some ⟨w.heap.size, 0, none⟩) (n := 1) (c := 1) (l := [t]) rfl (by decide) (by intro s hs; simp at hs; rw [hs]; exact z0)
  have KG2 := great4_any (A := A) (n := n) (c := c) (l := ws) hn hm hbig
  cases hG1 : great4 [t] with
  | true =>
    rw [hG1] at KG1
    clear hG1 KG2 hr hn hbig
    go_enter Tryz.func4, Tryz.ntmps4
    go_wp2_with fail
    refine KG1.step (hs.alloc _) HR1.out ?_
    intro w1 hs hb
    go_wp2_with fail
    refine KA.step hs ?_
    intro w2 hs hb
    go_wp2_with fail
    go_ret
    exact ⟨rfl, hs.2⟩
  | false =>
  rw [hG1] at KG1
  have y0 : t.size ≤ 30 := great4_one hG1 (by simp) t (by simp)
  cases hG2 : great4 ws with
  | true =>
    rw [hG2] at KG2
    clear hG1 hG2 hr hn hbig y0
    go_enter Tryz.func4, Tryz.ntmps4
    go_wp2_with fail
    refine KG1.step (hs.alloc _) HR1.out ?_
    intro w1 hs hb
    go_wp2_with fail
    refine KG2.step hs (HR.out.on hs.2) ?_
    intro w2 hs hb
    go_wp2_with fail
    refine KA.step hs ?_
    intro w3 hs hb
    go_wp2_with fail
    go_ret
    exact ⟨rfl, hs.2⟩
  | false =>
  rw [hG2] at KG2
  obtain ⟨h12, h1005, hz⟩ := great4_few hG2
  rw [hn] at h12 h1005
  clear hG1 hG2 hbig hr
  by_cases hN : 12 < N ∧ N ≤ 1000
  · have q1 : decide ((12 : Int) < N) = true := decide_eq_true hN.1
    have q2 : decide (N ≤ (1000 : Int)) = true := decide_eq_true hN.2
    clear hn hz h12 h1005 y0 z0 hN
    go_enter Tryz.func4, Tryz.ntmps4
    go_wp2_with fail
    refine KG1.step (hs.alloc _) HR1.out ?_
    intro w1 hs hb
    go_wp2_with fail
    refine KG2.step hs (HR.out.on hs.2) ?_
    intro w2 hs hb
    go_wp2_with fail
    refine KA.step hs ?_
    intro w3 hs hb
    go_wp2_with fail
    go_ret
    exact ⟨rfl, hs.2⟩
  have hN2 : N ≤ 12 ∨ 1000 < N := by omega
  have KS := Lib.hid (fun (u : World) (hg : Gl u) (hr : Row u A (ws.map sv)) => split4_any (A := A) (c := c) (n := n) (k0 := 30) (t := t) (ws := ws) hn h12 (by omega) (by decide) y0 hz u hg hr)
  have KS2 := Lib.hid (fun (u : World) (hg : Gl u) (hr : Row u A (ws.map sv)) => rsplit_any (A := A) (c := c) (n := n) (k0 := 30) (t := t) (ws := ws) hn h12 (by omega) (by decide) y0 hz u hg hr)
  have KI := Lib.hid (fun (u : World) (hg : Gl u) (hr : Row u A (ws.map sv)) => ideal_any (A := A) (c := c) (n := n) (k0 := 30) (t := t) (ws := ws) hn h12 (by omega) (by decide) y0 hz u hg hr)
  have KI2 := Lib.hid (fun (u : World) (hg : Gl u) (hr : Row u A (ws.map sv)) => rideal_any (A := A) (c := c) (n := n) (k0 := 30) (t := t) (ws := ws) hn h12 (by omega) (by decide) y0 hz u hg hr)
  have KR := Lib.hid (fun (u : World) (hg : Gl u) (hr : Row u A (ws.map sv)) => run4_any (A := A) (c := c) (n := n) (k0 := 30) (t := t) (ws := ws) hn h12 (by omega) (by decide) y0 hz u hg hr)
  have KR2 := Lib.hid (fun (u : World) (hg : Gl u) (hr : Row u A (ws.map sv)) => rrun_any (A := A) (c := c) (n := n) (k0 := 30) (t := t) (ws := ws) hn h12 (by omega) (by decide) y0 hz u hg hr)
  have KV := Lib.hid (fun (u : World) (hg : Gl u) => even_any4 (t := t) (N := N) y0 hN2 u hg)
  have KV2 := Lib.hid (fun (u : World) (hg : Gl u) => reven_any4 (t := t) (N := N) y0 hN2 u hg)
  have hl0 : (alS t ws).length ≤ 4611686018427387904 := Nat.le_trans (alS_le (by omega)) (by decide)
  have hl2 : (alI t ws).length ≤ 4611686018427387904 := Nat.le_trans (alI_le (by omega)) (by decide)
  have hl4 : (alR t ws).length ≤ 4611686018427387904 := Nat.le_trans (alR_le (by omega)) (by decide)
  have hl6 : (evL t N).length ≤ 4611686018427387904 := Nat.le_trans evL_le (by decide)
  generalize alS t ws = l1 at *
  generalize alI t ws = l2 at *
  generalize alR t ws = l3 at *
  generalize evL t N = l4 at *
  generalize alE t ws = e1 at *
  generalize evE t N = e2 at *
  clear hn hz h12 h1005 y0 z0 hN
  rcases hN2 with hN2 | hN2
  · have q1 : decide ((12 : Int) < N) = false := decide_eq_false (by omega)
    clear hN2
    go_enter Tryz.func4, Tryz.ntmps4
    go_wp2_with fail
    refine KG1.step (hs.alloc _) HR1.out ?_
    intro w1 hs hb
    go_wp2_with fail
    refine KG2.step hs (HR.out.on hs.2) ?_
    intro w2 hs hb
    go_wp2_with fail
    refine (KS.out w2 hs.gl (HR.out.on hs.2)).mono ?_
    rintro e w3 ⟨v, rfl, hov, hb3⟩
    obtain ⟨A0, c0, rfl, hrow⟩ := hov.row
    replace hs := hs.on hb3
    have R0 := Lib.hid hrow
    clear hov hrow hb3
    go_wp2_with fail
    refine (KS2.out w3 hs.gl (HR.out.on hs.2)).mono ?_
    rintro e w4 ⟨v, rfl, hov, hb4⟩
    obtain ⟨A1, c1, rfl, hrow⟩ := hov.row
    replace hs := hs.on hb4
    replace R0 := Lib.hid (R0.out.on hb4)
    have R1 := Lib.hid hrow
    clear hov hrow hb4
    go_wp2_with fail
    refine (KI.out w4 hs.gl (HR.out.on hs.2)).mono ?_
    rintro e w5 ⟨v, rfl, hov, hb5⟩
    obtain ⟨A2, c2, rfl, hrow⟩ := hov.row
    replace hs := hs.on hb5
    replace R0 := Lib.hid (R0.out.on hb5)
    replace R1 := Lib.hid (R1.out.on hb5)
    have R2 := Lib.hid hrow
    clear hov hrow hb5
    go_wp2_with fail
    refine (KI2.out w5 hs.gl (HR.out.on hs.2)).mono ?_
    rintro e w6 ⟨v, rfl, hov, hb6⟩
    obtain ⟨A3, c3, rfl, hrow⟩ := hov.row
    replace hs := hs.on hb6
    replace R0 := Lib.hid (R0.out.on hb6)
    replace R1 := Lib.hid (R1.out.on hb6)
    replace R2 := Lib.hid (R2.out.on hb6)
    have R3 := Lib.hid hrow
    clear hov hrow hb6
    go_wp2_with fail
    refine (KR.out w6 hs.gl (HR.out.on hs.2)).mono ?_
    rintro e w7 ⟨v, rfl, hov, hb7⟩
    obtain ⟨A4, c4, rfl, hrow⟩ := hov.row
    replace hs := hs.on hb7
    replace R0 := Lib.hid (R0.out.on hb7)
    replace R1 := Lib.hid (R1.out.on hb7)
    replace R2 := Lib.hid (R2.out.on hb7)
    replace R3 := Lib.hid (R3.out.on hb7)
    have R4 := Lib.hid hrow
    clear hov hrow hb7
    go_wp2_with fail
    refine (KR2.out w7 hs.gl (HR.out.on hs.2)).mono ?_
    rintro e w8 ⟨v, rfl, hov, hb8⟩
    obtain ⟨A5, c5, rfl, hrow⟩ := hov.row
    replace hs := hs.on hb8
    replace R0 := Lib.hid (R0.out.on hb8)
    replace R1 := Lib.hid (R1.out.on hb8)
    replace R2 := Lib.hid (R2.out.on hb8)
    replace R3 := Lib.hid (R3.out.on hb8)
    replace R4 := Lib.hid (R4.out.on hb8)
    have R5 := Lib.hid hrow
    clear hov hrow hb8
    go_wp2_with fail
    refine (KV.out w8 hs.gl).mono ?_
    rintro e w9 ⟨v, rfl, hov, hb9⟩
    obtain ⟨A6, c6, rfl, hrow⟩ := hov.row
    replace hs := hs.on hb9
    replace R0 := Lib.hid (R0.out.on hb9)
    replace R1 := Lib.hid (R1.out.on hb9)
    replace R2 := Lib.hid (R2.out.on hb9)
    replace R3 := Lib.hid (R3.out.on hb9)
    replace R4 := Lib.hid (R4.out.on hb9)
    replace R5 := Lib.hid (R5.out.on hb9)
    have R6 := Lib.hid hrow
    clear hov hrow hb9
    go_wp2_with fail
    refine (KV2.out w9 hs.gl).mono ?_
    rintro e w10 ⟨v, rfl, hov, hb10⟩
    obtain ⟨A7, c7, rfl, hrow⟩ := hov.row
    replace hs := hs.on hb10
    replace R0 := Lib.hid (R0.out.on hb10)
    replace R1 := Lib.hid (R1.out.on hb10)
    replace R2 := Lib.hid (R2.out.on hb10)
    replace R3 := Lib.hid (R3.out.on hb10)
    replace R4 := Lib.hid (R4.out.on hb10)
    replace R5 := Lib.hid (R5.out.on hb10)
    replace R6 := Lib.hid (R6.out.on hb10)
    have R7 := Lib.hid hrow
    clear hov hrow hb10
    go_wp2_with fail
    refine (equalI (A := A0) (A' := A1) (c := c0) (c' := c1) rfl hl0).step hs ⟨R0.out, R1.out⟩ ?_
    intro w11 hs hb
    replace R2 := Lib.hid (R2.out.on hb)
    replace R3 := Lib.hid (R3.out.on hb)
    replace R4 := Lib.hid (R4.out.on hb)
    replace R5 := Lib.hid (R5.out.on hb)
    replace R6 := Lib.hid (R6.out.on hb)
    replace R7 := Lib.hid (R7.out.on hb)
    go_wp2_with fail
    refine (equalFr (A := A2) (A' := A3) (c := c2) (c' := c3) rfl hl2).step hs ⟨R2.out, R3.out⟩ ?_
    intro w12 hs hb
    replace R4 := Lib.hid (R4.out.on hb)
    replace R5 := Lib.hid (R5.out.on hb)
    replace R6 := Lib.hid (R6.out.on hb)
    replace R7 := Lib.hid (R7.out.on hb)
    go_wp2_with fail
    refine (equalI (A := A4) (A' := A5) (c := c4) (c' := c5) rfl hl4).step hs ⟨R4.out, R5.out⟩ ?_
    intro w13 hs hb
    replace R6 := Lib.hid (R6.out.on hb)
    replace R7 := Lib.hid (R7.out.on hb)
    go_wp2_with fail
    refine (equalI (A := A6) (A' := A7) (c := c6) (c' := c7) rfl hl6).step hs ⟨R6.out, R7.out⟩ ?_
    intro w14 hs hb
    go_wp2_with fail
    refine KA.step hs ?_
    intro w15 hs hb
    go_wp2_with fail
    go_ret
    exact ⟨rfl, hs.2⟩
  · have q1 : decide ((12 : Int) < N) = true := decide_eq_true (by omega)
    have q2 : decide (N ≤ (1000 : Int)) = false := decide_eq_false (by omega)
    clear hN2
    go_enter Tryz.func4, Tryz.ntmps4
    go_wp2_with fail
    refine KG1.step (hs.alloc _) HR1.out ?_
    intro w1 hs hb
    go_wp2_with fail
    refine KG2.step hs (HR.out.on hs.2) ?_
    intro w2 hs hb
    go_wp2_with fail
    refine (KS.out w2 hs.gl (HR.out.on hs.2)).mono ?_
    rintro e w3 ⟨v, rfl, hov, hb3⟩
    obtain ⟨A0, c0, rfl, hrow⟩ := hov.row
    replace hs := hs.on hb3
    have R0 := Lib.hid hrow
    clear hov hrow hb3
    go_wp2_with fail
    refine (KS2.out w3 hs.gl (HR.out.on hs.2)).mono ?_
    rintro e w4 ⟨v, rfl, hov, hb4⟩
    obtain ⟨A1, c1, rfl, hrow⟩ := hov.row
    replace hs := hs.on hb4
    replace R0 := Lib.hid (R0.out.on hb4)
    have R1 := Lib.hid hrow
    clear hov hrow hb4
    go_wp2_with fail
    refine (KI.out w4 hs.gl (HR.out.on hs.2)).mono ?_
    rintro e w5 ⟨v, rfl, hov, hb5⟩
    obtain ⟨A2, c2, rfl, hrow⟩ := hov.row
    replace hs := hs.on hb5
    replace R0 := Lib.hid (R0.out.on hb5)
    replace R1 := Lib.hid (R1.out.on hb5)
    have R2 := Lib.hid hrow
    clear hov hrow hb5
    go_wp2_with fail
    refine (KI2.out w5 hs.gl (HR.out.on hs.2)).mono ?_
    rintro e w6 ⟨v, rfl, hov, hb6⟩
    obtain ⟨A3, c3, rfl, hrow⟩ := hov.row
    replace hs := hs.on hb6
    replace R0 := Lib.hid (R0.out.on hb6)
    replace R1 := Lib.hid (R1.out.on hb6)
    replace R2 := Lib.hid (R2.out.on hb6)
    have R3 := Lib.hid hrow
    clear hov hrow hb6
    go_wp2_with fail
    refine (KR.out w6 hs.gl (HR.out.on hs.2)).mono ?_
    rintro e w7 ⟨v, rfl, hov, hb7⟩
    obtain ⟨A4, c4, rfl, hrow⟩ := hov.row
    replace hs := hs.on hb7
    replace R0 := Lib.hid (R0.out.on hb7)
    replace R1 := Lib.hid (R1.out.on hb7)
    replace R2 := Lib.hid (R2.out.on hb7)
    replace R3 := Lib.hid (R3.out.on hb7)
    have R4 := Lib.hid hrow
    clear hov hrow hb7
    go_wp2_with fail
    refine (KR2.out w7 hs.gl (HR.out.on hs.2)).mono ?_
    rintro e w8 ⟨v, rfl, hov, hb8⟩
    obtain ⟨A5, c5, rfl, hrow⟩ := hov.row
    replace hs := hs.on hb8
    replace R0 := Lib.hid (R0.out.on hb8)
    replace R1 := Lib.hid (R1.out.on hb8)
    replace R2 := Lib.hid (R2.out.on hb8)
    replace R3 := Lib.hid (R3.out.on hb8)
    replace R4 := Lib.hid (R4.out.on hb8)
    have R5 := Lib.hid hrow
    clear hov hrow hb8
    go_wp2_with fail
    refine (KV.out w8 hs.gl).mono ?_
    rintro e w9 ⟨v, rfl, hov, hb9⟩
    obtain ⟨A6, c6, rfl, hrow⟩ := hov.row
    replace hs := hs.on hb9
    replace R0 := Lib.hid (R0.out.on hb9)
    replace R1 := Lib.hid (R1.out.on hb9)
    replace R2 := Lib.hid (R2.out.on hb9)
    replace R3 := Lib.hid (R3.out.on hb9)
    replace R4 := Lib.hid (R4.out.on hb9)
    replace R5 := Lib.hid (R5.out.on hb9)
    have R6 := Lib.hid hrow
    clear hov hrow hb9
    go_wp2_with fail
    refine (KV2.out w9 hs.gl).mono ?_
    rintro e w10 ⟨v, rfl, hov, hb10⟩
    obtain ⟨A7, c7, rfl, hrow⟩ := hov.row
    replace hs := hs.on hb10
    replace R0 := Lib.hid (R0.out.on hb10)
    replace R1 := Lib.hid (R1.out.on hb10)
    replace R2 := Lib.hid (R2.out.on hb10)
    replace R3 := Lib.hid (R3.out.on hb10)
    replace R4 := Lib.hid (R4.out.on hb10)
    replace R5 := Lib.hid (R5.out.on hb10)
    replace R6 := Lib.hid (R6.out.on hb10)
    have R7 := Lib.hid hrow
    clear hov hrow hb10
    go_wp2_with fail
    refine (equalI (A := A0) (A' := A1) (c := c0) (c' := c1) rfl hl0).step hs ⟨R0.out, R1.out⟩ ?_
    intro w11 hs hb
    replace R2 := Lib.hid (R2.out.on hb)
    replace R3 := Lib.hid (R3.out.on hb)
    replace R4 := Lib.hid (R4.out.on hb)
    replace R5 := Lib.hid (R5.out.on hb)
    replace R6 := Lib.hid (R6.out.on hb)
    replace R7 := Lib.hid (R7.out.on hb)
    go_wp2_with fail
    refine (equalFr (A := A2) (A' := A3) (c := c2) (c' := c3) rfl hl2).step hs ⟨R2.out, R3.out⟩ ?_
    intro w12 hs hb
    replace R4 := Lib.hid (R4.out.on hb)
    replace R5 := Lib.hid (R5.out.on hb)
    replace R6 := Lib.hid (R6.out.on hb)
    replace R7 := Lib.hid (R7.out.on hb)
    go_wp2_with fail
    refine (equalI (A := A4) (A' := A5) (c := c4) (c' := c5) rfl hl4).step hs ⟨R4.out, R5.out⟩ ?_
    intro w13 hs hb
    replace R6 := Lib.hid (R6.out.on hb)
    replace R7 := Lib.hid (R7.out.on hb)
    go_wp2_with fail
    refine (equalI (A := A6) (A' := A7) (c := c6) (c' := c7) rfl hl6).step hs ⟨R6.out, R7.out⟩ ?_
    intro w14 hs hb
    go_wp2_with fail
    refine KA.step hs ?_
    intro w15 hs hb
    go_wp2_with fail
    go_ret
    exact ⟨rfl, hs.2⟩
end Go.Proofs.YtpipkeplhkccoaaGreatDoor
