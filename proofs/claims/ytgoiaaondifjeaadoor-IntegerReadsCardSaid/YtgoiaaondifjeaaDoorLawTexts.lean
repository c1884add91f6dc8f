/- Integer: the walk of IntegerTexts: for every input it returns true. Condition: the library's table and error lie as the program's text lays them. -/
import Derived.Test.YtgoiaaondifjeaaDoorLawOrder
namespace Go.Proofs.YtgoiaaondifjeaaDoor
open Go.RowKit Go.Shelf Dec

theorem val_prt (z : Int) : valS (str (prt z)) = z := by
  unfold valS
  rw [bytes_str]
  unfold prt
  by_cases h : z = 0
  · rw [if_pos h, h]; decide
  · rw [if_neg h, val_canon]
theorem size_prtF {k : Nat} {z : Int} (h : Fit k z) : (str (prt z)).size ≤ k + 1 := by
  rw [size_str]
  have h1 := h.size
  unfold canS at h1
  rw [size_str] at h1
  unfold prt
  split
  · simp
  · exact h1
theorem prs_prt {k : Nat} (hk : k ≤ 65535) {z : Int} (h : Fit k z) : prs (str (prt z)) = (canS z, 0) := by
  have := size_prtF h
  unfold prs
  rw [if_neg (by omega), val_prt, if_pos rfl]
/-- one string's slice, as great gets it -/
theorem great1 (a : ByteArray) (w : World) (ha : a.size ≤ 9223372036854775807) :
    Calls Tryd.prog 13 #[.slice (some ⟨w.heap.size, 0, none⟩) 1 1] (w.alloc (.cells #[.string a] 22)) fun e w' => e = .returned (.bool (big a)) ∧ (w.alloc (.cells #[.string a] 22)) = w' := by
  have := great_any [a] w.heap.size (w.alloc (.cells #[.string a] 22)) ?_ (by simp)
  · have e : [a].any big = big a := by simp
    rw [e] at this
    exact this
  · intro i s hi
    have h := heap_new w (.cells #[.string a] 22)
    unfold World.cell?
    rw [h]
    match i, hi with
    | 0, hi => simp at hi; subst hi; exact ⟨rfl, ha⟩
    | i + 1, hi => simp at hi

set_option maxRecDepth 100000 in
set_option maxHeartbeats 8000000 in
theorem texts_any (a s : ByteArray) (w : World) (ha : a.size ≤ 9223372036854775807) (hs : s.size ≤ 9223372036854775807) (hg : Gl w) :
    Calls Tryd.prog 5 #[.string a, .string s] w fun e w' => e = .returned (.bool true) ∧ Below w.heap.size w w' := by
  have Hg := Lib.hid hg
  clear hg
  have HG1 := Lib.hid (great1 a w ha)
  have hbw : Below w.heap.size w (w.alloc (.cells #[.string a] 22)) := (Below.refl _ _).alloc (Nat.le_refl _) _
  have Hbw := Lib.hid hbw
  clear hbw
  cases hbig : big a with
  | true =>
    rw [hbig] at HG1
    clear hbig
    go_enter Tryd.func5, Tryd.ntmps5
    go_wp2_with fail
    refine HG1.out.mono ?_
    rintro e w1 ⟨rfl, rfl⟩
    go_wp2_with fail
    refine (awake_any _ (Hg.out.below Hbw.out)).mono ?_
    rintro e w1 ⟨rfl, hb1⟩
    replace Hbw := Lib.hid (Hbw.out.trans (hb1.mono Hbw.out.size))
    clear hb1
    go_wp2_with fail
    go_ret
    exact ⟨rfl, Hbw.out⟩
  | false =>
    rw [hbig] at HG1
    have sa := big_false hbig
    clear hbig
    by_cases h60 : 60 < s.size
    · have h61 : (60 : Int) < (s.size : Int) := by omega
      have q : decide ((60 : Int) < (s.size : Int)) = true := decide_eq_true h61
      go_enter Tryd.func5, Tryd.ntmps5
      go_wp2_with fail
      refine HG1.out.mono ?_
      rintro e w1 ⟨rfl, rfl⟩
      go_wp2_with fail
      refine (awake_any _ (Hg.out.below Hbw.out)).mono ?_
      rintro e w1 ⟨rfl, hb1⟩
      replace Hbw := Lib.hid (Hbw.out.trans (hb1.mono Hbw.out.size))
      clear hb1
      go_wp2_with fail
      go_ret
      exact ⟨rfl, Hbw.out⟩
    · have h61 : ¬ (60 : Int) < (s.size : Int) := by omega
      have q : decide ((60 : Int) < (s.size : Int)) = false := decide_eq_false h61
      have Fa := Lib.hid (Fit.val sa)
      have K1 := Lib.hid (fun w => print_any a w (by omega))
      have K2 := Lib.hid (fun w => parse_any (str (prt (valS a))) w (by have := size_prtF Fa.out; omega))
      rw [prs_prt (by omega) Fa.out] at K2
      have K3 := Lib.hid (fun w => canonical_any a w (by omega))
      have K4 := Lib.hid (fun w => parse_any s w hs)
      generalize str (prt (valS a)) = t at *
      generalize canS (valS a) = u at *
      by_cases he : str (prt (valS s)) = s
      · have e1 : prs s = (canS (valS s), 0) := by unfold prs; rw [if_neg (by omega), if_pos he]
        rw [e1] at K4
        have K5 := Lib.hid (fun w => print_any (canS (valS s)) w (by have := size_canS_le s; omega))
        rw [valS_canS, he] at K5
        have K6 := Lib.hid (fun w => check_any (canS (valS s)) w (by have := size_canS_le s; omega))
        have e2 : chk (canS (valS s)) = 0 := by unfold chk; rw [valS_canS, if_pos rfl]
        rw [e2] at K6
        generalize canS (valS s) = y at *
        clear he e1 e2
        have q1 : (u.toList == u.toList) = true := by simp
        have q2 : (s.toList == s.toList) = true := by simp
        go_enter Tryd.func5, Tryd.ntmps5
        go_wp2_with fail
        refine HG1.out.mono ?_
        rintro e w1 ⟨rfl, rfl⟩
        go_wp2_with fail
        refine (K1.out _).mono ?_
        rintro e w1 ⟨rfl, hb1⟩
        replace Hbw := Lib.hid (Hbw.out.trans (hb1.mono Hbw.out.size))
        clear hb1
        go_wp2_with fail
        refine (K2.out _).mono ?_
        rintro e w1 ⟨rfl, hb1⟩
        replace Hbw := Lib.hid (Hbw.out.trans (hb1.mono Hbw.out.size))
        clear hb1
        go_wp2_with fail
        refine (K3.out _).mono ?_
        rintro e w1 ⟨rfl, hb1⟩
        replace Hbw := Lib.hid (Hbw.out.trans (hb1.mono Hbw.out.size))
        clear hb1
        go_wp2_with fail
        refine (K4.out _).mono ?_
        rintro e w1 ⟨rfl, hb1⟩
        replace Hbw := Lib.hid (Hbw.out.trans (hb1.mono Hbw.out.size))
        clear hb1
        go_wp2_with fail
        refine (K5.out _).mono ?_
        rintro e w1 ⟨rfl, hb1⟩
        replace Hbw := Lib.hid (Hbw.out.trans (hb1.mono Hbw.out.size))
        clear hb1
        go_wp2_with fail
        refine (K6.out _).mono ?_
        rintro e w1 ⟨rfl, hb1⟩
        replace Hbw := Lib.hid (Hbw.out.trans (hb1.mono Hbw.out.size))
        clear hb1
        go_wp2_with fail
        refine (awake_any _ (Hg.out.below Hbw.out)).mono ?_
        rintro e w1 ⟨rfl, hb1⟩
        replace Hbw := Lib.hid (Hbw.out.trans (hb1.mono Hbw.out.size))
        clear hb1
        go_wp2_with fail
        go_ret
        exact ⟨rfl, Hbw.out⟩
      · have e1 : prs s = (⟨#[]⟩, 3) := by unfold prs; rw [if_neg (by omega), if_neg he]
        rw [e1] at K4
        clear he e1
        have q1 : (u.toList == u.toList) = true := by simp
        go_enter Tryd.func5, Tryd.ntmps5
        go_wp2_with fail
        refine HG1.out.mono ?_
        rintro e w1 ⟨rfl, rfl⟩
        go_wp2_with fail
        refine (K1.out _).mono ?_
        rintro e w1 ⟨rfl, hb1⟩
        replace Hbw := Lib.hid (Hbw.out.trans (hb1.mono Hbw.out.size))
        clear hb1
        go_wp2_with fail
        refine (K2.out _).mono ?_
        rintro e w1 ⟨rfl, hb1⟩
        replace Hbw := Lib.hid (Hbw.out.trans (hb1.mono Hbw.out.size))
        clear hb1
        go_wp2_with fail
        refine (K3.out _).mono ?_
        rintro e w1 ⟨rfl, hb1⟩
        replace Hbw := Lib.hid (Hbw.out.trans (hb1.mono Hbw.out.size))
        clear hb1
        go_wp2_with fail
        refine (K4.out _).mono ?_
        rintro e w1 ⟨rfl, hb1⟩
        replace Hbw := Lib.hid (Hbw.out.trans (hb1.mono Hbw.out.size))
        clear hb1
        go_wp2_with fail
        refine (awake_any _ (Hg.out.below Hbw.out)).mono ?_
        rintro e w1 ⟨rfl, hb1⟩
        replace Hbw := Lib.hid (Hbw.out.trans (hb1.mono Hbw.out.size))
        clear hb1
        go_wp2_with fail
        go_ret
        exact ⟨rfl, Hbw.out⟩
end Go.Proofs.YtgoiaaondifjeaaDoor
