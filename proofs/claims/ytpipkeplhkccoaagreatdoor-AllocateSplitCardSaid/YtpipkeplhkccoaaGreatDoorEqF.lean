/- slices.Equal of two rows of the same fractions. Condition: lengths that a slice can have. -/
import Derived.Test.YtpipkeplhkccoaaGreatDoorWi
namespace Go.Proofs.YtpipkeplhkccoaaGreatDoor
open Go.RowKit Go.Shelf Dec QQ

set_option maxRecDepth 100000 in
set_option maxHeartbeats 4000000 in
theorem equalFr {A A' : Option Addr} {n c c' : Nat} {xs : List Rat} (hx : xs.length = n) (hn : n ≤ 4611686018427387904) : RetI (fun w => Row w A (flatG qcells xs) ∧ Row w A' (flatG qcells xs)) 27 #[.slice A n c, .slice A' n c'] (.bool true) := by
  intro w hg hi
  have hs := St.refl hg
  have HX := Lib.hid hx
  have HI := Lib.hid hi
  have q0 : ((n : Int) != (n : Int)) = false := by simp
  clear hx hi
  go_enter Tryz.func27, Tryz.ntmps27
  go_wp2_with fail
  go_loopw [13] (fun s wr => ∃ k : Nat, k ≤ n ∧ s = .int .i64 (k : Int) ∧ St w wr) (fun s _ => (n - intOf s).toNat)
  case atStart => exact ⟨0, by omega, rfl, hs⟩
  case round =>
    obtain ⟨k, hk, rfl, hs⟩ := hrel
    by_cases hkn : k = n
    · subst hkn
      have q : decide ((k : Int) < (k : Int)) = false := decide_eq_false (by omega)
      go_wp2_with fail
      go_ret
      exact ⟨rfl, hs.2⟩
    · have hkl : k < n := by omega
      have q : decide ((k : Int) < (n : Int)) = true := decide_eq_true (by omega)
      have qn : decide (k < n) = true := decide_eq_true hkl
      obtain ⟨r, hr⟩ : ∃ r, xs[k]? = some r := ⟨xs[k]'(by rw [HX.out]; exact hkl), by simp⟩
      obtain ⟨b, o, hA, hb, hcells⟩ := row_at (cs := qcells) (m := 2) qcells_len (by decide) (HI.out.1.on hs.2) hr
      obtain ⟨b', o', hA', hb', hcells'⟩ := row_at (cs := qcells) (m := 2) qcells_len (by decide) (HI.out.2.on hs.2) hr
      subst hA hA'
      obtain ⟨f0, hf0⟩ : ∃ x, frN r = x := ⟨_, rfl⟩
      obtain ⟨f1, hf1⟩ : ∃ x, frD r = x := ⟨_, rfl⟩
      have x0 : wr.cell? ⟨b, o + k * 2, none⟩ = some (.string f0) := by have := hcells 0 _ rfl; rw [hf0, Nat.add_zero] at this; exact this
      have y0 : wr.cell? ⟨b', o' + k * 2, none⟩ = some (.string f0) := by have := hcells' 0 _ rfl; rw [hf0, Nat.add_zero] at this; exact this
      have x1 : wr.cell? ⟨b, o + k * 2 + 1, none⟩ = some (.string f1) := by have := hcells 1 _ rfl; rw [hf1] at this; exact this
      have y1 : wr.cell? ⟨b', o' + k * 2 + 1, none⟩ = some (.string f1) := by have := hcells' 1 _ rfl; rw [hf1] at this; exact this
      have eqD := fun x => neqF f0 f1 f0 f1 x
      simp only [beq_self_eq_true, Bool.and_true, Bool.not_true] at eqD
      clear hcells hcells' hr hkn hf0 hf1
      go_wp2_with fail
      go_quiet (fail)
      go_wp2_with fail
      go_roundw
      case rel => exact ⟨k + 1, by omega, by go_num, hs.drewN _⟩
      case measure => simp [intOf]; omega
end Go.Proofs.YtpipkeplhkccoaaGreatDoor
