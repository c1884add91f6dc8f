/- Walk of AllocateParts. Condition: strings that Go can hold. -/
import Derived.Test.YtdpoagcgglfijaaGreatDoorAw4
import Derived.Test.YtdpoagcgglfijaaGreatDoorLw4
import Derived.Test.YtdpoagcgglfijaaGreatDoorWl
namespace Go.Proofs.YtdpoagcgglfijaaGreatDoor
open Go.RowKit Go.Shelf SP Dec QQ

theorem wrap_small {x : Int} (h : -10 ≤ x ∧ x ≤ 10) : IntKind.i64.wrap x = x := by rw [IntKind.wrap_i64]; omega
theorem cmpI_range (x y : Int) : cmpI x y = -1 ∨ cmpI x y = 0 ∨ cmpI x y = 1 := by
  unfold cmpI
  split
  · exact .inl rfl
  · split
    · exact .inr (.inl rfl)
    · exact .inr (.inr rfl)
/-- shares are in the order of their parts -/
theorem cmp_prod {p q x y : Int} (h1 : p ≤ q → x ≤ y) (h2 : q ≤ p → y ≤ x) : 0 ≤ cmpI p q * cmpI x y ∧ cmpI p q * cmpI x y ≤ 1 := by
  unfold cmpI
  split <;> split <;> (try split) <;> (try split) <;> first | omega | (exfalso; omega)
set_option maxRecDepth 100000 in
set_option maxHeartbeats 4000000 in
theorem parts04_any {t a b u : ByteArray} (z0 : t.size ≤ 9223372036854775807) (z1 : a.size ≤ 9223372036854775807) (z2 : b.size ≤ 9223372036854775807) (z3 : u.size ≤ 9223372036854775807) :
    Ret 4 #[.string t, .string a, .string b, .string u] (.bool true) := by
  intro w hg
  have hs := St.refl hg
  have KA := awake04
  have HR : Hid (Row (w.alloc (.cells #[.string t, .string a, .string b, .string u] 22)) (some ⟨w.heap.size, 0, none⟩) ([t, a, b, u].map sv)) := Row.of (Bx.new w #[.string t, .string a, .string b, .string u] 22)
  have KG := great4_any (A := some ⟨w.heap.size, 0, none⟩) (n := 4) (c := 4) (l := [t, a, b, u]) rfl (by decide) (by intro s hs; simp at hs; rcases hs with rfl | rfl | rfl | rfl <;> assumption)
  cases hG : great4 [t, a, b, u] with
  | true =>
    rw [hG] at KG
    clear hG
    go_enter Tryz.func4, Tryz.ntmps4
    go_wp2_with fail
    refine KG.step (hs.alloc _) HR.out ?_
    intro w1 hs hb
    go_wp2_with fail
    refine KA.step hs ?_
    intro w2 hs hb
    go_wp2_with fail
    go_ret
    exact ⟨rfl, hs.2⟩
  | false =>
    rw [hG] at KG
    have hsz := great4_one hG (by simp)
    have y0 : t.size ≤ 30 := hsz t (by simp)
    have y1 : a.size ≤ 30 := hsz a (by simp)
    have y2 : b.size ≤ 30 := hsz b (by simp)
    have y3 : u.size ≤ 30 := hsz u (by simp)
    clear hG hsz z0 z1 z2 z3
    have K1 := shr_any (t := t) (p := a) (a := u) (k0 := 30) (by decide) y0 y1 y3
    have K2 := shr_any (t := t) (p := b) (a := u) (k0 := 30) (by decide) y0 y2 y3
    by_cases he : shE t a u = 0
    · obtain ⟨c1, c2, c3, p1, p2, p3⟩ := shE_zero.1 he
      have K3 := shr_any (t := t) (p := ⟨#[]⟩) (a := u) (k0 := 30) (by decide) y0 (by decide) y3
      have K4 := shr_any (t := t) (p := u) (a := u) (k0 := 30) (by decide) y0 y3 y3
      have v0 : valS ⟨#[]⟩ = 0 := by decide
      have e3 : shE t ⟨#[]⟩ u = 0 := shE_zero.2 ⟨c1, by decide, c3, p1, by omega, by omega⟩
      have e4 : shE t u u = 0 := shE_zero.2 ⟨c1, c3, c3, p1, by omega, by omega⟩
      have s3 : shS t ⟨#[]⟩ u = ⟨#[]⟩ := by
        unfold shS
        rw [if_pos e3, show valS ⟨#[]⟩ = 0 by decide, shQ_zero]
        exact canS_zero
      have s4 : shS t u u = t := by
        unfold shS
        rw [if_pos e4, shQ_all _ p1]
        exact chk_eq c1
      have r4 : shR t u u = ⟨#[]⟩ := by
        unfold shR
        rw [if_pos e4, shQ_all _ p1, Int.sub_self]
        exact canS_zero
      have s1 : shS t a u = canS (shQ (valS t) (valS a) (valS u)) := if_pos he
      have r1 : shR t a u = canS (valS t - shQ (valS t) (valS a) (valS u)) := if_pos he
      have fq : ∀ {p : ByteArray}, p.size ≤ 30 → Fit 70 (shQ (valS t) (valS p) (valS u)) := fun {p} hp => by
        have fm := (Fit.val (k := 30) y0).mul (Fit.val (k := 30) hp)
        have fq : FitQ 60 (rat (valS t * valS p) (valS u)) := FitQ.mono (FitQ.rat (k := 60) (m := 30) fm (Fit.val (k := 30) y3) (by omega)) (by decide)
        exact (rnd_fit 1 fq).mono (by omega)
      have fr : Fit 71 (valS t - shQ (valS t) (valS a) (valS u)) := ((Fit.val (k := 30) y0).mono (by omega)).sub (fq y1)
      have KAd := AddR (Vs.can (fq y1) (by omega)) (Vs.can fr (by omega))
      rw [show shQ (valS t) (valS a) (valS u) + (valS t - shQ (valS t) (valS a) (valS u)) = valS t by omega, chk_eq c1] at KAd
      have KSx := size4_can (fq y1) (by omega)
      rw [e3, s3] at K3
      rw [e4, s4, r4] at K4
      rw [he, s1, r1] at K1
      by_cases hf : shE t b u = 0
      · obtain ⟨_, _, _, _, p4, p5⟩ := shE_zero.1 hf
        have s2 : shS t b u = canS (shQ (valS t) (valS b) (valS u)) := if_pos hf
        have KSy := size4_can (fq y2) (by omega)
        have KC1 := CmpR (Vs.arg (s := a) (by omega)) (Vs.arg (s := b) (by omega))
        have fab : ∀ {z : Int}, Fit 70 z → Fit 70 (absI z) := fun {z} h => by unfold Fit absI at *; split <;> omega
        have KC2 := CmpR (Vs.can (fab (fq y1)) (by omega)) (Vs.can (fab (fq y2)) (by omega))
        obtain ⟨g1, g2⟩ := cmp_prod (p := valS a) (q := valS b) (x := absI (shQ (valS t) (valS a) (valS u))) (y := absI (shQ (valS t) (valS b) (valS u))) (fun h => shQ_abs p1 p2 h) (fun h => shQ_abs p1 p4 h)
        rw [hf, s2] at K2
        generalize cmpI (absI (shQ (valS t) (valS a) (valS u))) (absI (shQ (valS t) (valS b) (valS u))) = d2 at *
        generalize cmpI (valS a) (valS b) = d1 at *
        have ew : IntKind.i64.wrap (d1 * d2) = d1 * d2 := wrap_small ⟨by omega, by omega⟩
        have q : decide (0 ≤ d1 * d2) = true := decide_eq_true g1
        generalize canS (absI (shQ (valS t) (valS a) (valS u))) = ax at *
        generalize canS (absI (shQ (valS t) (valS b) (valS u))) = ay at *
        generalize canS (valS t - shQ (valS t) (valS a) (valS u)) = rx at *
        generalize canS (shQ (valS t) (valS a) (valS u)) = sx at *
        generalize canS (shQ (valS t) (valS b) (valS u)) = sy at *
        generalize shR t b u = ry at *
        generalize shR t ⟨#[]⟩ u = rz at *
        have HW := Lib.hid ew
        clear he hf c1 c2 c3 p1 p2 p3 p4 p5 e3 e4 s3 s4 r4 s1 r1 s2 fq fr fab g1 g2 ew y0 y1 y2 y3
        go_enter Tryz.func4, Tryz.ntmps4
        go_wp2_with fail
        refine KG.step (hs.alloc _) HR.out ?_
        intro w1 hs hb
        go_wp2_with fail
        refine K1.step hs ?_
        intro w1 hs hb
        go_wp2_with fail
        refine K2.step hs ?_
        intro w1 hs hb
        go_wp2_with fail
        refine K3.step hs ?_
        intro w1 hs hb
        go_wp2_with fail
        refine K4.step hs ?_
        intro w1 hs hb
        go_wp2_with fail
        refine KAd.step hs ?_
        intro w1 hs hb
        go_wp2_with fail
        refine KC1.step hs ?_
        intro w1 hs hb
        go_wp2_with fail
        refine KSx.step hs ?_
        intro w1 hs hb
        go_wp2_with fail
        refine KSy.step hs ?_
        intro w1 hs hb
        go_wp2_with fail
        refine KC2.step hs ?_
        intro w1 hs hb
        have ew := HW.out
        go_wp2_with fail
        refine KA.step hs ?_
        intro w1 hs hb
        go_wp2_with fail
        go_ret
        exact ⟨rfl, hs.2⟩
      · have qf : (shE t b u != 0) = true := by simpa using hf
        generalize canS (valS t - shQ (valS t) (valS a) (valS u)) = rx at *
        generalize canS (shQ (valS t) (valS a) (valS u)) = sx at *
        generalize shE t b u = ef at *
        generalize shS t b u = sy at *
        generalize shR t b u = ry at *
        generalize shR t ⟨#[]⟩ u = rz at *
        clear he hf c1 c2 c3 p1 p2 p3 e3 e4 s3 s4 r4 s1 r1 fq fr y0 y1 y2 y3 KSx
        go_enter Tryz.func4, Tryz.ntmps4
        go_wp2_with fail
        refine KG.step (hs.alloc _) HR.out ?_
        intro w1 hs hb
        go_wp2_with fail
        refine K1.step hs ?_
        intro w1 hs hb
        go_wp2_with fail
        refine K2.step hs ?_
        intro w1 hs hb
        go_wp2_with fail
        refine K3.step hs ?_
        intro w1 hs hb
        go_wp2_with fail
        refine K4.step hs ?_
        intro w1 hs hb
        go_wp2_with fail
        refine KAd.step hs ?_
        intro w1 hs hb
        go_wp2_with fail
        refine KA.step hs ?_
        intro w1 hs hb
        go_wp2_with fail
        go_ret
        exact ⟨rfl, hs.2⟩
    · have qe : (shE t a u != 0) = true := by simpa using he
      have s1 : shS t a u = ⟨#[]⟩ := if_neg he
      have r1 : shR t a u = ⟨#[]⟩ := if_neg he
      rw [s1, r1] at K1
      generalize shE t a u = ee at *
      generalize shE t b u = ef at *
      generalize shS t b u = sy at *
      generalize shR t b u = ry at *
      clear he s1 r1 y0 y1 y2 y3
      go_enter Tryz.func4, Tryz.ntmps4
      go_wp2_with fail
      refine KG.step (hs.alloc _) HR.out ?_
      intro w1 hs hb
      go_wp2_with fail
      refine K1.step hs ?_
      intro w1 hs hb
      go_wp2_with fail
      refine K2.step hs ?_
      intro w1 hs hb
      go_wp2_with fail
      refine KA.step hs ?_
      intro w1 hs hb
      go_wp2_with fail
      go_ret
      exact ⟨rfl, hs.2⟩
end Go.Proofs.YtdpoagcgglfijaaGreatDoor
