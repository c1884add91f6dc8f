/- Unit prices: the walks of UnitpriceAll and UnitpriceBack: for every input they return true. Condition: the library's table and error lie as the program's text lays them. -/
import Derived.Test.YtonopbelbehheaaGreatDoorUpM
namespace Go.Proofs.YtonopbelbehheaaGreatDoor
open Go.RowKit Go.Shelf Dec QQ

set_option maxRecDepth 100000 in
set_option maxHeartbeats 4000000 in
theorem all_any (v u : ByteArray) (w : World) (hv : v.size ≤ 9223372036854775807) (hu : u.size ≤ 9223372036854775807) (hg : Gl w) :
    Calls Tryz.prog 5 #[.string v, .string u] w fun e w' => e = .returned (.bool true) ∧ Below w.heap.size w w' := by
  have hs := St.refl hg
  have KG := great44_any (A := some ⟨w.heap.size, 0, none⟩) (c := 2) (n := 2) (l := [v, u]) rfl (by omega) (by intro s hs; simp at hs; rcases hs with rfl | rfl <;> assumption)
  have R1 := Row.of (Bx.new w #[.string v, .string u] 22)
  have HR := Lib.hid R1
  clear R1
  obtain ⟨t, ht⟩ : ∃ t, (([v, u] : List ByteArray).any fun s => decide (20 < s.size)) = t := ⟨_, rfl⟩
  rw [ht] at KG
  cases t with
  | true =>
    clear ht
    go_enter Tryz.func5, Tryz.ntmps5
    go_wp2_with fail
    refine KG.step (hs.alloc _) HR.out ?_
    intro w1 hs _
    go_wp2_with fail
    refine awake44.step hs ?_
    intro wa hs _
    go_wp2_with fail
    go_ret
    exact ⟨rfl, hs.2⟩
  | false =>
    have hz : v.size ≤ 20 ∧ u.size ≤ 20 := by simpa using ht
    clear ht
    obtain ⟨zv, zu⟩ := hz
    have K1 := Cancel_any (v := v) (u := u) (p := u) (by omega) (by omega) (by omega)
    have K2 := Deal_any (u := u) (v := v) (p := nil) (b := u) 0 (by omega) (by omega) (by decide) (by omega)
    have he := cancel_err (v := v) (u := u) (p := u)
    have hl := all_law (v := v) (u := u)
    unfold DealtR.val dealV at K2
    generalize (DealR u v nil u).issued = d1 at *
    generalize (DealR u v nil u).paid = d2 at *
    generalize (DealR u v nil u).units = d3 at *
    generalize (DealR u v nil u).value = d4 at *
    generalize (DealR u v nil u).err = d5 at *
    generalize (CancelR v u u).1 = c1 at *
    generalize (CancelR v u u).2 = c2 at *
    by_cases hc : c2 = 0
    · obtain ⟨h5, h3, ha, hb⟩ := hl hc
      clear he hl
      subst hc h5 h3
      unfold isNil at ha hb
      obtain ⟨t2, q2⟩ : ∃ t, (u.toList == []) = t := ⟨_, rfl⟩
      rw [q2] at ha hb
      cases t2 with
      | true =>
        obtain ⟨e1, e2⟩ := ha rfl
        clear ha hb
        subst e1 e2
        have q3 : (d4.toList == d4.toList) = true := by simp
        unfold nil at K1 K2
        go_enter Tryz.func5, Tryz.ntmps5
        go_wp2_with fail
        refine KG.step (hs.alloc _) HR.out ?_
        intro w1 hs _
        go_wp2_with fail
        refine K1.step hs ?_
        intro w2 hs _
        go_wp2_with fail
        refine K2.step hs ?_
        intro w3 hs _
        go_wp2_with fail
        refine awake44.step (hs.alloc _) ?_
        intro wa hs _
        go_wp2_with fail
        go_ret
        exact ⟨rfl, hs.2⟩
      | false =>
        obtain ⟨e1, e2⟩ := hb rfl
        clear ha hb
        subst e1 e2
        have q3 : (c1.toList == c1.toList) = true := by simp
        unfold nil at K2
        go_enter Tryz.func5, Tryz.ntmps5
        go_wp2_with fail
        refine KG.step (hs.alloc _) HR.out ?_
        intro w1 hs _
        go_wp2_with fail
        refine K1.step hs ?_
        intro w2 hs _
        go_wp2_with fail
        refine K2.step hs ?_
        intro w3 hs _
        go_wp2_with fail
        refine awake44.step (hs.alloc _) ?_
        intro wa hs _
        go_wp2_with fail
        go_ret
        exact ⟨rfl, hs.2⟩
    · have q1 : (c2 != 0) = true := by simpa using hc
      have e1 := he hc
      clear he hl hc
      subst e1
      unfold nil at K1
      go_enter Tryz.func5, Tryz.ntmps5
      go_wp2_with fail
      refine KG.step (hs.alloc _) HR.out ?_
      intro w1 hs _
      go_wp2_with fail
      refine K1.step hs ?_
      intro w2 hs _
      go_wp2_with fail
      refine awake44.step hs ?_
      intro wa hs _
      go_wp2_with fail
      go_ret
      exact ⟨rfl, hs.2⟩
set_option maxRecDepth 100000 in
set_option maxHeartbeats 4000000 in
theorem back_any (v u p : ByteArray) (w : World) (hv : v.size ≤ 9223372036854775807) (hu : u.size ≤ 9223372036854775807) (hp : p.size ≤ 9223372036854775807) (hg : Gl w) :
    Calls Tryz.prog 7 #[.string v, .string u, .string p] w fun e w' => e = .returned (.bool true) ∧ Below w.heap.size w w' := by
  have hs := St.refl hg
  have KG := great44_any (A := some ⟨w.heap.size, 0, none⟩) (c := 3) (n := 3) (l := [v, u, p]) rfl (by omega) (by intro s hs; simp at hs; rcases hs with rfl | rfl | rfl <;> assumption)
  have R1 := Row.of (Bx.new w #[.string v, .string u, .string p] 22)
  have HR := Lib.hid R1
  clear R1
  obtain ⟨t, ht⟩ : ∃ t, (([v, u, p] : List ByteArray).any fun s => decide (20 < s.size)) = t := ⟨_, rfl⟩
  rw [ht] at KG
  cases t with
  | true =>
    clear ht
    go_enter Tryz.func7, Tryz.ntmps7
    go_wp2_with fail
    refine KG.step (hs.alloc _) HR.out ?_
    intro w1 hs _
    go_wp2_with fail
    refine awake44.step hs ?_
    intro wa hs _
    go_wp2_with fail
    go_ret
    exact ⟨rfl, hs.2⟩
  | false =>
    have hz : v.size ≤ 20 ∧ u.size ≤ 20 ∧ p.size ≤ 20 := by simpa using ht
    clear ht
    obtain ⟨zv, zu, zp⟩ := hz
    have K1 := Issue_any (v := v) (u := u) (p := p) (by omega) (by omega) (by omega)
    have he := issue_err (v := v) (u := u) (p := p)
    have hn := back_nobody (v := v) (u := u) (p := p)
    have hl := back_law (v := v) (u := u) (p := p)
    have si : (IssueR v u p).1.size ≤ 50 := by
      unfold IssueR
      split
      · exact Nat.zero_le _
      · exact Nat.le_trans (issue_size v u p) (by omega)
    have f1 : Fit 60 (valS v + valS p) := ((Fit.val zv).add (Fit.val zp)).mono (by omega)
    have f2 : Fit 60 (valS u + valS (IssueR v u p).1) := ((Fit.val (k := 50) (by omega)).add (Fit.val si)).mono (by omega)
    have K2 := AddR (Vs.arg (s := v) (by omega)) (Vs.arg (s := p) (by omega))
    have K3 := AddR (Vs.arg (s := u) (by omega)) (Vs.arg (s := (IssueR v u p).1) (by omega))
    have K4 := Cancel_any (v := canS (valS v + valS p)) (u := canS (valS u + valS (IssueR v u p).1)) (p := (IssueR v u p).1) (Nat.le_trans f1.size (by omega)) (Nat.le_trans f2.size (by omega)) (by omega)
    have s4 : (CancelR (canS (valS v + valS p)) (canS (valS u + valS (IssueR v u p).1)) (IssueR v u p).1).1.size ≤ 500 := by
      unfold CancelR
      split
      · exact Nat.zero_le _
      · have := cancel_size (canS (valS v + valS p)) (canS (valS u + valS (IssueR v u p).1)) (IssueR v u p).1
        have := f1.size
        omega
    have K5 := CmpR (Vs.arg (s := (CancelR (canS (valS v + valS p)) (canS (valS u + valS (IssueR v u p).1)) (IssueR v u p).1).1) (by omega)) (Vs.arg (s := p) (by omega))
    generalize (CancelR (canS (valS v + valS p)) (canS (valS u + valS (IssueR v u p).1)) (IssueR v u p).1).1 = c1 at *
    generalize (CancelR (canS (valS v + valS p)) (canS (valS u + valS (IssueR v u p).1)) (IssueR v u p).1).2 = c2 at *
    clear f1 f2 s4 si
    generalize canS (valS v + valS p) = a1 at *
    generalize canS (valS u + valS (IssueR v u p).1) = a2 at *
    generalize (IssueR v u p).1 = i1 at *
    generalize (IssueR v u p).2 = i2 at *
    by_cases hc : i2 = 0
    · subst hc
      have hn := hn rfl
      have hl := hl rfl
      clear he
      unfold isNil at hn hl
      obtain ⟨t2, q2⟩ : ∃ t, (u.toList == []) = t := ⟨_, rfl⟩
      obtain ⟨t3, q3⟩ : ∃ t, (v.toList == []) = t := ⟨_, rfl⟩
      rw [q2] at hn hl
      rw [q3] at hl
      have q3n : (v.toList != []) = !t3 := by rw [← q3]; rfl
      by_cases hb : t2 = true ∧ t3 = false
      · obtain ⟨rfl, rfl⟩ := hb
        have e1 := hn rfl
        clear hn hl
        subst e1
        have q4 : (i1.toList == i1.toList) = true := by simp
        go_enter Tryz.func7, Tryz.ntmps7
        go_wp2_with fail
        refine KG.step (hs.alloc _) HR.out ?_
        intro w1 hs _
        go_wp2_with fail
        refine K1.step hs ?_
        intro w2 hs _
        go_wp2_with fail
        refine awake44.step hs ?_
        intro wa hs _
        go_wp2_with fail
        go_ret
        exact ⟨rfl, hs.2⟩
      · obtain ⟨e1, e2⟩ := hl hb
        clear hn hl
        subst e1
        have q5 : decide (cmpI (valS c1) (valS p) ≤ 0) = true := by
          have := cmpI_pos (x := valS c1) (y := valS p)
          rw [decide_eq_false (show ¬ valS p < valS c1 by omega)] at this
          simpa using this
        generalize cmpI (valS c1) (valS p) = cc at *
        clear e2
        cases t2 <;> cases t3
        case true.false => exact absurd ⟨rfl, rfl⟩ hb
        all_goals
          clear hb
          go_enter Tryz.func7, Tryz.ntmps7
          go_wp2_with fail
          refine KG.step (hs.alloc _) HR.out ?_
          intro w1 hs _
          go_wp2_with fail
          refine K1.step hs ?_
          intro w2 hs _
          go_wp2_with fail
          refine K2.step hs ?_
          intro w3 hs _
          go_wp2_with fail
          refine K3.step hs ?_
          intro w4 hs _
          go_wp2_with fail
          refine K4.step hs ?_
          intro w5 hs _
          go_wp2_with fail
          refine K5.step hs ?_
          intro w6 hs _
          go_wp2_with fail
          refine awake44.step hs ?_
          intro wa hs _
          go_wp2_with fail
          go_ret
          exact ⟨rfl, hs.2⟩
    · have q1 : (i2 != 0) = true := by simpa using hc
      have e1 := he hc
      clear he hl hc hn
      subst e1
      unfold nil at K1
      go_enter Tryz.func7, Tryz.ntmps7
      go_wp2_with fail
      refine KG.step (hs.alloc _) HR.out ?_
      intro w1 hs _
      go_wp2_with fail
      refine K1.step hs ?_
      intro w2 hs _
      go_wp2_with fail
      refine awake44.step hs ?_
      intro wa hs _
      go_wp2_with fail
      go_ret
      exact ⟨rfl, hs.2⟩
end Go.Proofs.YtonopbelbehheaaGreatDoor
