/- Integer: the reference's Print and Parse. Conditions: sizes; the library's table and error lie as the program's text lays them. -/
import Derived.Test.YtpoppdkkidhfbaaGreatDoorRefB
namespace Go.Proofs.YtpoppdkkidhfbaaGreatDoor
open Go.RowKit Go.Shelf Dec

set_option maxHeartbeats 1000000 in
theorem rprint_any (a : ByteArray) (w : World) (ha : a.size ≤ 4611686018427387904) :
    Calls Tryz.prog 31 #[.string a] w fun e w' => e = .returned (.string (str (prt (valS a)))) ∧ Below w.heap.size w w' := by
  have H1 := Lib.hid (fun w => rcanonical_any a w ha)
  by_cases h : valS a = 0
  · have HE : Hid (str (prt (valS a)) = ⟨#[48]⟩) := by show _ = _; unfold prt; rw [if_pos h]; rfl
    have H2 : Hid (∀ w, Calls Tryz.prog 25 #[.string a] w fun e w' => e = .returned (.string ⟨#[]⟩) ∧ Below w.heap.size w w') := by
      intro w; have := H1.out w; rw [h] at this; exact this
    clear H1 h
    go_enter Tryz.func31, Tryz.ntmps31
    go_wp2_with fail
    refine (H2.out _).mono ?_
    rintro e w1 ⟨rfl, hb1⟩
    go_wp2_with fail
    go_ret
    exact ⟨by rw [HE.out]; rfl, hb1⟩
  · have HE : Hid (str (prt (valS a)) = canS (valS a)) := by show _ = _; unfold prt; rw [if_neg h]; rfl
    have hne : bytes (canS (valS a)) ≠ [] := by unfold canS; rw [bytes_str]; exact fun e => h (canon_nil.1 e)
    generalize canS (valS a) = t at *
    have q : t.toList.isEmpty = false := by rw [isEmpty_bytes]; cases hh : bytes t with | nil => exact absurd hh hne | cons _ _ => rfl
    clear h hne
    go_enter Tryz.func31, Tryz.ntmps31
    go_wp2_with fail
    refine (H1.out _).mono ?_
    rintro e w1 ⟨rfl, hb1⟩
    go_wp2_with fail
    go_ret
    exact ⟨by rw [HE.out]; rfl, hb1⟩


end Go.Proofs.YtpoppdkkidhfbaaGreatDoor
