/- Walk of AllocateChecks. Condition: sizes that strings and slices can have. -/
import Derived.Test.YtpipkeplhkccoaaGreatDoorAw4
import Derived.Test.YtpipkeplhkccoaaGreatDoorLw4
import Derived.Test.YtpipkeplhkccoaaGreatDoorCkg
import Derived.Test.YtpipkeplhkccoaaGreatDoorR4g
namespace Go.Proofs.YtpipkeplhkccoaaGreatDoor
open Go.RowKit Go.Shelf SP Dec QQ

set_option maxRecDepth 100000 in
set_option maxHeartbeats 4000000 in
theorem checks04_any {A A' : Option Addr} {n n' c c' : Nat} {t : ByteArray} {ws ps : List ByteArray} (z0 : t.size ≤ 9223372036854775807) (hn : ws.length = n) (hm : n ≤ 9223372036854775807) (hbig : ∀ s ∈ ws, s.size ≤ 9223372036854775807) (hn' : ps.length = n') (hm' : n' ≤ 9223372036854775807) (hbig' : ∀ s ∈ ps, s.size ≤ 9223372036854775807) :
    ∀ w, Gl w → Row w A (ws.map sv) → Row w A' (ps.map sv) → Calls Tryz.prog 6 #[.string t, .slice A n c, .slice A' n' c'] w fun e w' => e = .returned (.bool true) ∧ Below w.heap.size w w' := by
  intro w hg hr hr'
  have HR' := Lib.hid hr'
  have hs := St.refl hg
  have HR := Lib.hid hr
  have KA := awake04
  have HR1 : Hid (Row (w.alloc (.cells #[.string t] 22)) (some ⟨w.heap.size, 0, none⟩) ([t].map sv)) := Row.of (Bx.new w #[.string t] 22)
  have KG1 := great4_any (A := some ⟨w.heap.size, 0, none⟩) (n := 1) (c := 1) (l := [t]) rfl (by decide) (by intro s hs; simp at hs; rw [hs]; exact z0)
  have KG2 := great4_any (A := A) (n := n) (c := c) (l := ws) hn hm hbig
  cases hG1 : great4 [t] with
  | true =>
    rw [hG1] at KG1
    clear hG1 KG2 hr hn hbig
    go_enter Tryz.func6, Tryz.ntmps6
    go_wp2_with fail
    refine KG1.step (hs.alloc _) HR1.out ?_
    intro w1 hs hb
    go_wp2_with fail
    refine KA.step hs ?_
    intro w2 hs hb
    go_wp2_with fail
    go_ret
    exact ⟨rfl, hs.2⟩
  | false =>
  rw [hG1] at KG1
  have y0 : t.size ≤ 30 := great4_one hG1 (by simp) t (by simp)
  cases hG2 : great4 ws with
  | true =>
    rw [hG2] at KG2
    clear hG1 hG2 hr hn hbig y0
    go_enter Tryz.func6, Tryz.ntmps6
    go_wp2_with fail
    refine KG1.step (hs.alloc _) HR1.out ?_
    intro w1 hs hb
    go_wp2_with fail
    refine KG2.step hs (HR.out.on hs.2) ?_
    intro w2 hs hb
    go_wp2_with fail
    refine KA.step hs ?_
    intro w3 hs hb
    go_wp2_with fail
    go_ret
    exact ⟨rfl, hs.2⟩
  | false =>
  rw [hG2] at KG2
  obtain ⟨h12, h1005, hz⟩ := great4_few hG2
  rw [hn] at h12 h1005
  clear hG1 hG2 hbig hr
  have KG3 := great4_any (A := A') (n := n') (c := c') (l := ps) hn' hm' hbig'
  cases hG3 : great4 ps with
  | true =>
    rw [hG3] at KG3
    clear hG3 hn hz h12 h1005 y0 z0 hn' hbig' hr'
    go_enter Tryz.func6, Tryz.ntmps6
    go_wp2_with fail
    refine KG1.step (hs.alloc _) HR1.out ?_
    intro w1 hs hb
    go_wp2_with fail
    refine KG2.step hs (HR.out.on hs.2) ?_
    intro w2 hs hb
    go_wp2_with fail
    refine KG3.step hs (HR'.out.on hs.2) ?_
    intro w3 hs hb
    go_wp2_with fail
    refine KA.step hs ?_
    intro w4 hs hb
    go_wp2_with fail
    go_ret
    exact ⟨rfl, hs.2⟩
  | false =>
  rw [hG3] at KG3
  obtain ⟨_, _, hz'⟩ := great4_few hG3
  have K1 := ck4_any (A := A) (A' := A') (n := n) (n' := n') (c := c) (c' := c') (k0 := 30) (t := t) (ws := ws) (ps := ps) hn hn' h12 (by omega) (by decide) y0 hz hz'
  have K2 := rck4 (A := A) (A' := A') (n := n) (n' := n') (c := c) (c' := c') (k0 := 30) (t := t) (ws := ws) (ps := ps) hn hn' h12 (by omega) (by decide) y0 hz hz'
  generalize alC t ws ps = ee at *
  clear hG3 hn hz h12 h1005 y0 z0 hn' hbig' hr' hz'
  go_enter Tryz.func6, Tryz.ntmps6
  go_wp2_with fail
  refine KG1.step (hs.alloc _) HR1.out ?_
  intro w1 hs hb
  go_wp2_with fail
  refine KG2.step hs (HR.out.on hs.2) ?_
  intro w2 hs hb
  go_wp2_with fail
  refine KG3.step hs (HR'.out.on hs.2) ?_
  intro w3 hs hb
  go_wp2_with fail
  refine K1.step hs ⟨HR.out.on hs.2, HR'.out.on hs.2⟩ ?_
  intro w4 hs hb
  go_wp2_with fail
  refine K2.step hs ⟨HR.out.on hs.2, HR'.out.on hs.2⟩ ?_
  intro w5 hs hb
  go_wp2_with fail
  refine KA.step hs ?_
  intro w6 hs hb
  go_wp2_with fail
  go_ret
  exact ⟨rfl, hs.2⟩
end Go.Proofs.YtpipkeplhkccoaaGreatDoor
