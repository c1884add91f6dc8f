/- Integer: the reference's Print and Parse; the walk of IntegerReads. Conditions: sizes; the library's table and error lie as the program's text lays them. -/
import Derived.Test.YtgoiaaondifjeaaDoorRefB
namespace Go.Proofs.YtgoiaaondifjeaaDoor
open Go.RowKit Go.Shelf Dec

set_option maxHeartbeats 1000000 in
theorem rprint_any (a : ByteArray) (w : World) (ha : a.size ≤ 4611686018427387904) :
    Calls Tryd.prog 27 #[.string a] w fun e w' => e = .returned (.string (str (prt (valS a)))) ∧ Below w.heap.size w w' := by
  have H1 := Lib.hid (fun w => rcanonical_any a w ha)
  by_cases h : valS a = 0
  · have HE : Hid (str (prt (valS a)) = ⟨#[48]⟩) := by show _ = _; unfold prt; rw [if_pos h]; rfl
    have H2 : Hid (∀ w, Calls Tryd.prog 28 #[.string a] w fun e w' => e = .returned (.string ⟨#[]⟩) ∧ Below w.heap.size w w') := by
      intro w; have := H1.out w; rw [h] at this; exact this
    clear H1 h
    go_enter Tryd.func27, Tryd.ntmps27
    go_wp2_with fail
    refine (H2.out _).mono ?_
    rintro e w1 ⟨rfl, hb1⟩
    go_wp2_with fail
    go_ret
    exact ⟨by rw [HE.out]; rfl, hb1⟩
  · have HE : Hid (str (prt (valS a)) = canS (valS a)) := by show _ = _; unfold prt; rw [if_neg h]; rfl
    have hne : bytes (canS (valS a)) ≠ [] := by unfold canS; rw [bytes_str]; exact fun e => h (canon_nil.1 e)
    generalize canS (valS a) = t at *
    have q : t.toList.isEmpty = false := by rw [isEmpty_bytes]; cases hh : bytes t with | nil => exact absurd hh hne | cons _ _ => rfl
    clear h hne
    go_enter Tryd.func27, Tryd.ntmps27
    go_wp2_with fail
    refine (H1.out _).mono ?_
    rintro e w1 ⟨rfl, hb1⟩
    go_wp2_with fail
    go_ret
    exact ⟨by rw [HE.out]; rfl, hb1⟩

set_option maxHeartbeats 1000000 in
theorem rparse_any (s : ByteArray) (w : World) (ha : s.size ≤ 9223372036854775807) :
    Calls Tryd.prog 12 #[.string s] w fun e w' => e = .returned (.tuple #[.string (prs s).1, .int .i64 (prs s).2]) ∧ Below w.heap.size w w' := by
  by_cases h : 65536 < s.size
  · have HE : Hid (prs s = (⟨#[]⟩, 4)) := by show _ = _; unfold prs; rw [if_pos h]
    go_enter Tryd.func12, Tryd.ntmps12
    go_wp2_with fail
    go_ret2
    exact ⟨ret_pi (by rw [HE.out]), Below.refl _ _⟩
  by_cases hz : s = ⟨#[]⟩
  · subst hz
    have HE : Hid (prs ⟨#[]⟩ = (⟨#[]⟩, 3)) := by show _ = _; decide
    clear h
    go_enter Tryd.func12, Tryd.ntmps12
    go_wp2_with fail
    go_ret2
    exact ⟨ret_pi (by rw [HE.out]), Below.refl _ _⟩
  · have qs : s.toList.isEmpty = false := by
      rw [isEmpty_bytes]
      cases hh : bytes s with
      | nil => exact absurd (bytes_inj hh) hz
      | cons _ _ => rfl
    clear hz
    have H1 := Lib.hid (fun w => rprint_any s w (by omega))
    have H2 := Lib.hid (fun w => rcanonical_any s w (by omega))
    by_cases he : str (prt (valS s)) = s
    · have HE : Hid (prs s = (canS (valS s), 0)) := by show _ = _; unfold prs; rw [if_neg h, if_pos he]
      have q : ((str (prt (valS s))).toList == s.toList) = true := by rw [toList_beq, decide_eq_true he]
      generalize str (prt (valS s)) = t at *
      generalize canS (valS s) = u at *
      clear he
      go_enter Tryd.func12, Tryd.ntmps12
      go_wp2_with fail
      refine (H1.out _).mono ?_
      rintro e w1 ⟨rfl, hb1⟩
      go_wp2_with fail
      refine (H2.out _).mono ?_
      rintro e w2 ⟨rfl, hb2⟩
      go_wp2_with fail
      go_ret2
      exact ⟨ret_pi (by rw [HE.out]), hb1.trans (hb2.mono hb1.size)⟩
    · have HE : Hid (prs s = (⟨#[]⟩, 3)) := by show _ = _; unfold prs; rw [if_neg h, if_neg he]
      have q : ((str (prt (valS s))).toList == s.toList) = false := by rw [toList_beq, decide_eq_false he]
      generalize str (prt (valS s)) = t at *
      clear he
      go_enter Tryd.func12, Tryd.ntmps12
      go_wp2_with fail
      refine (H1.out _).mono ?_
      rintro e w1 ⟨rfl, hb1⟩
      go_wp2_with fail
      go_ret2
      exact ⟨ret_pi (by rw [HE.out]), hb1⟩

set_option maxRecDepth 100000 in
set_option maxHeartbeats 8000000 in
theorem reads_any (s : ByteArray) (w : World) (hs : s.size ≤ 9223372036854775807) (hg : Gl w) :
    Calls Tryd.prog 4 #[.string s] w fun e w' => e = .returned (.bool true) ∧ Below w.heap.size w w' := by
  have Hg := Lib.hid hg
  clear hg
  have hbw : Below w.heap.size w w := Below.refl _ _
  have Hbw := Lib.hid hbw
  clear hbw
  have K1 := Lib.hid (fun w => parse_any s w hs)
  have K2 := Lib.hid (fun w => rparse_any s w hs)
  have k0 : -1 ≤ (prs s).2 ∧ (prs s).2 ≤ 100 := by unfold prs; split <;> (try split) <;> simp
  generalize (prs s).1 = t at *
  generalize (prs s).2 = k at *
  by_cases h1 : (80 : Int) < (s.size : Int)
  · have q1 := decide_eq_true h1
    by_cases h2 : (s.size : Int) ≤ 65536
    · have q2 := decide_eq_true h2
      go_enter Tryd.func4, Tryd.ntmps4
      go_wp2_with fail
      refine (awake_any _ (Hg.out.below Hbw.out)).mono ?_
      rintro e w1 ⟨rfl, hb1⟩
      replace Hbw := Lib.hid (Hbw.out.trans (hb1.mono Hbw.out.size))
      clear hb1
      go_wp2_with fail
      go_ret
      exact ⟨rfl, Hbw.out⟩
    · have q2 := decide_eq_false h2
      have e0 : (t.toList == t.toList) = true := by simp
      have e1 : (k == k) = true := by simp
      go_enter Tryd.func4, Tryd.ntmps4
      go_wp2_with fail
      refine (K1.out _).mono ?_
      rintro e w1 ⟨rfl, hb1⟩
      replace Hbw := Lib.hid (Hbw.out.trans (hb1.mono Hbw.out.size))
      clear hb1
      go_wp2_with fail
      refine (K2.out _).mono ?_
      rintro e w1 ⟨rfl, hb1⟩
      replace Hbw := Lib.hid (Hbw.out.trans (hb1.mono Hbw.out.size))
      clear hb1
      go_wp2_with fail
      refine (awake_any _ (Hg.out.below Hbw.out)).mono ?_
      rintro e w1 ⟨rfl, hb1⟩
      replace Hbw := Lib.hid (Hbw.out.trans (hb1.mono Hbw.out.size))
      clear hb1
      go_wp2_with fail
      go_ret
      exact ⟨rfl, Hbw.out⟩
  · have q1 := decide_eq_false h1
    have e0 : (t.toList == t.toList) = true := by simp
    have e1 : (k == k) = true := by simp
    go_enter Tryd.func4, Tryd.ntmps4
    go_wp2_with fail
    refine (K1.out _).mono ?_
    rintro e w1 ⟨rfl, hb1⟩
    replace Hbw := Lib.hid (Hbw.out.trans (hb1.mono Hbw.out.size))
    clear hb1
    go_wp2_with fail
    refine (K2.out _).mono ?_
    rintro e w1 ⟨rfl, hb1⟩
    replace Hbw := Lib.hid (Hbw.out.trans (hb1.mono Hbw.out.size))
    clear hb1
    go_wp2_with fail
    refine (awake_any _ (Hg.out.below Hbw.out)).mono ?_
    rintro e w1 ⟨rfl, hb1⟩
    replace Hbw := Lib.hid (Hbw.out.trans (hb1.mono Hbw.out.size))
    clear hb1
    go_wp2_with fail
    go_ret
    exact ⟨rfl, Hbw.out⟩
end Go.Proofs.YtgoiaaondifjeaaDoor
