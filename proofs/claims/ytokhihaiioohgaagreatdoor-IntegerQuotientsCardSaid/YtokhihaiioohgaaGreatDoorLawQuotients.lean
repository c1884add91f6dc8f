/- Integer: the walk of IntegerQuotients: for every input it returns true. Condition: the library's table and error lie as the program's text lays them. -/
import Derived.Test.YtokhihaiioohgaaGreatDoorGr01
import Derived.Test.YtokhihaiioohgaaGreatDoorVs
namespace Go.Proofs.YtokhihaiioohgaaGreatDoor
open Go.RowKit Go.Shelf Dec

set_option maxRecDepth 100000 in
set_option maxHeartbeats 8000000 in
theorem quotients_any (a b : ByteArray) (w : World) (ha : a.size ≤ 9223372036854775807) (hb : b.size ≤ 9223372036854775807) (hg : Gl w) :
    Calls Tryz.prog 7 #[.string a, .string b] w fun e w' => e = .returned (.bool true) ∧ Below w.heap.size w w' := by
  have Hg := Lib.hid hg
  clear hg
  have HG2 := Lib.hid (great2 a b w ha hb)
  have hbw : Below w.heap.size w (w.alloc (.cells #[.string a, .string b] 22)) := (Below.refl _ _).alloc (Nat.le_refl _) _
  have Hbw := Lib.hid hbw
  clear hbw
  cases hbig : (big a || big b) with
  | true =>
    rw [hbig] at HG2
    clear hbig
    go_enter Tryz.func7, Tryz.ntmps7
    go_wp2_with fail
    refine HG2.out.mono ?_
    rintro e w1 ⟨rfl, rfl⟩
    go_wp2_with fail
    refine (awake_any _ (Hg.out.below Hbw.out)).mono ?_
    rintro e w1 ⟨rfl, hb1⟩
    replace Hbw := Lib.hid (Hbw.out.trans (hb1.mono Hbw.out.size))
    clear hb1
    go_wp2_with fail
    go_ret
    exact ⟨rfl, Hbw.out⟩
  | false =>
    rw [hbig] at HG2
    simp only [Bool.or_eq_false_iff] at hbig
    have sa := big_false hbig.1
    have sb := big_false hbig.2
    clear hbig
    have Va : Vs a (valS a) := Vs.arg (by omega)
    have Vb : Vs b (valS b) := Vs.arg (by omega)
    have Fa := Fit.val sa
    have Fb := Fit.val sb
    generalize valS a = x at *
    generalize valS b = y at *
    have K1 := Lib.hid (fun w hg => DivV Va Vb w hg)
    have K2 := Lib.hid (fun w => CmpV Vb Vs.nil w)
    by_cases hy : y = 0
    · subst hy
      have e1 : divR x 0 = (⟨#[]⟩, ⟨#[]⟩, 10) := by unfold divR; rw [if_pos rfl]
      rw [e1] at K1
      rw [show cmpI 0 0 = 0 by decide] at K2
      clear e1 Va Vb Fa Fb
      go_enter Tryz.func7, Tryz.ntmps7
      go_wp2_with fail
      refine HG2.out.mono ?_
      rintro e w1 ⟨rfl, rfl⟩
      go_wp2_with fail
      refine (K1.out _ (Hg.out.below Hbw.out)).mono ?_
      rintro e w1 ⟨rfl, hb1⟩
      replace Hbw := Lib.hid (Hbw.out.trans (hb1.mono Hbw.out.size))
      clear hb1
      go_wp2_with fail
      refine (K2.out _).mono ?_
      rintro e w1 ⟨rfl, hb1⟩
      replace Hbw := Lib.hid (Hbw.out.trans (hb1.mono Hbw.out.size))
      clear hb1
      go_wp2_with fail
      refine (awake_any _ (Hg.out.below Hbw.out)).mono ?_
      rintro e w1 ⟨rfl, hb1⟩
      replace Hbw := Lib.hid (Hbw.out.trans (hb1.mono Hbw.out.size))
      clear hb1
      go_wp2_with fail
      go_ret
      exact ⟨rfl, Hbw.out⟩
    · have e1 : divR x y = (canS (x.fdiv y), canS (x.fmod y), 0) := by unfold divR; rw [if_neg hy]
      rw [e1] at K1
      have Fq : Fit 61 (x.fdiv y) := Fa.fdiv
      have Fr : Fit 60 (x.fmod y) := Fb.fmod Fa
      have Vq := Vs.can Fq (by omega)
      have Vr := Vs.can Fr (by omega)
      have Vqy := Vs.can (Fq.mul Fb) (by omega)
      have Vyr := Vs.can (Fb.sub Fr) (by omega)
      have K3 := Lib.hid (fun w hg => MulV Vq Vb w hg)
      have K4 := Lib.hid (fun w hg => AddV Vqy Vr w hg)
      have ed : x.fdiv y * y + x.fmod y = x := by rw [Int.mul_comm]; exact Int.mul_fdiv_add_fmod x y
      rw [ed] at K4
      have K5 := Lib.hid (fun w => CanV Va w)
      have K6 := Lib.hid (fun w => ChkV Fq (by omega) w)
      have K7 := Lib.hid (fun w => CmpV Vr Vs.nil w)
      have K8 := Lib.hid (fun w hg => SubV Vb Vr w hg)
      have K9 := Lib.hid (fun w => CmpV Vyr Vs.nil w)
      have f1 : cmpI (y - x.fmod y) 0 = cmpI y 0 := by
        unfold cmpI
        rcases Int.lt_or_gt_of_ne hy with h | h
        · have h1 := fmod_neg_of x h
          rw [if_pos h, if_pos (by omega)]
        · have h1 := Int.fmod_nonneg_of_pos x h
          have h2 := Int.fmod_lt_of_pos x h
          rw [if_neg (by omega), if_neg (by omega), if_neg (by omega), if_neg (by omega)]
      have f2 : 0 ≤ cmpI (x.fmod y) 0 * cmpI y 0 ∧ cmpI (x.fmod y) 0 * cmpI y 0 ≤ 1 := by
        have h0 : y < 0 → x.fmod y ≤ 0 := fun h => (fmod_neg_of x h).1
        have h9 : 0 < y → 0 ≤ x.fmod y := fun h => Int.fmod_nonneg_of_pos x h
        rcases cmpI_cases (x.fmod y) with ⟨h1, e1⟩ | ⟨h1, e1⟩ | ⟨h1, e1⟩ <;> rcases cmpI_cases y with ⟨h2, e2⟩ | ⟨h2, e2⟩ | ⟨h2, e2⟩ <;> rw [e1, e2] <;> omega
      have f3 : cmpI y 0 ≠ 0 ∧ -1 ≤ cmpI y 0 ∧ cmpI y 0 ≤ 1 := by
        rcases cmpI_cases y with ⟨h2, e2⟩ | ⟨h2, e2⟩ | ⟨h2, e2⟩ <;> rw [e2] <;> omega
      rw [f1] at K9
      have B7 := cmpI_facts (x.fmod y) 0 0
      have b1 := B7.2.2.1
      have b2 := B7.2.2.2.1
      clear B7 e1 ed f1 Va Vb Fa Fb Fq Fr Vq Vr Vqy Vyr hy
      generalize canS (x.fdiv y * y) = t1 at *
      generalize canS (x.fdiv y) = t2 at *
      generalize canS (y - x.fmod y) = t3 at *
      generalize cmpI (x.fmod y) 0 = c1 at *
      generalize cmpI y 0 = c2 at *
      generalize canS (x.fmod y) = t4 at *
      generalize canS x = t5 at *
      obtain ⟨g1, g2⟩ := f2
      obtain ⟨g3, g4, g5⟩ := f3
      have q1 : (t5.toList == t5.toList) = true := by simp
      have q2 : (c2 == 0) = false := by simpa using g3
      have q3 : decide (0 ≤ c1 * c2) = true := decide_eq_true g1
      have q4 : (c2 == c2) = true := by simp
      clear g3
      go_enter Tryz.func7, Tryz.ntmps7
      go_wp2_with fail
      refine HG2.out.mono ?_
      rintro e w1 ⟨rfl, rfl⟩
      go_wp2_with fail
      refine (K1.out _ (Hg.out.below Hbw.out)).mono ?_
      rintro e w1 ⟨rfl, hb1⟩
      replace Hbw := Lib.hid (Hbw.out.trans (hb1.mono Hbw.out.size))
      clear hb1
      go_wp2_with fail
      refine (K2.out _).mono ?_
      rintro e w1 ⟨rfl, hb1⟩
      replace Hbw := Lib.hid (Hbw.out.trans (hb1.mono Hbw.out.size))
      clear hb1
      go_wp2_with fail
      refine (K3.out _ (Hg.out.below Hbw.out)).mono ?_
      rintro e w1 ⟨rfl, hb1⟩
      replace Hbw := Lib.hid (Hbw.out.trans (hb1.mono Hbw.out.size))
      clear hb1
      go_wp2_with fail
      refine (K4.out _ (Hg.out.below Hbw.out)).mono ?_
      rintro e w1 ⟨rfl, hb1⟩
      replace Hbw := Lib.hid (Hbw.out.trans (hb1.mono Hbw.out.size))
      clear hb1
      go_wp2_with fail
      refine (K5.out _).mono ?_
      rintro e w1 ⟨rfl, hb1⟩
      replace Hbw := Lib.hid (Hbw.out.trans (hb1.mono Hbw.out.size))
      clear hb1
      go_wp2_with fail
      refine (K6.out _).mono ?_
      rintro e w1 ⟨rfl, hb1⟩
      replace Hbw := Lib.hid (Hbw.out.trans (hb1.mono Hbw.out.size))
      clear hb1
      go_wp2_with fail
      refine (K7.out _).mono ?_
      rintro e w1 ⟨rfl, hb1⟩
      replace Hbw := Lib.hid (Hbw.out.trans (hb1.mono Hbw.out.size))
      clear hb1
      go_wp2_with fail
      refine (K8.out _ (Hg.out.below Hbw.out)).mono ?_
      rintro e w1 ⟨rfl, hb1⟩
      replace Hbw := Lib.hid (Hbw.out.trans (hb1.mono Hbw.out.size))
      clear hb1
      go_wp2_with fail
      refine (K9.out _).mono ?_
      rintro e w1 ⟨rfl, hb1⟩
      replace Hbw := Lib.hid (Hbw.out.trans (hb1.mono Hbw.out.size))
      clear hb1
      go_wp2_with fail
      refine (awake_any _ (Hg.out.below Hbw.out)).mono ?_
      rintro e w1 ⟨rfl, hb1⟩
      replace Hbw := Lib.hid (Hbw.out.trans (hb1.mono Hbw.out.size))
      clear hb1
      go_wp2_with fail
      go_ret
      exact ⟨rfl, Hbw.out⟩
end Go.Proofs.YtokhihaiioohgaaGreatDoor
