/- slices.Equal of two rows of the same numbers. Condition: lengths that a slice can have. -/
import Derived.Test.YtpipkeplhkccoaaGreatDoorGr
import Derived.Test.YtpipkeplhkccoaaGreatDoorFa
namespace Go.Proofs.YtpipkeplhkccoaaGreatDoor
open Go.RowKit Go.Shelf Dec QQ

def icells (z : Int) : List Value := [.string (canS z)]
theorem icells_len (z : Int) : (icells z).length = 1 := rfl
set_option maxRecDepth 100000 in
set_option maxHeartbeats 4000000 in
theorem equalI {A A' : Option Addr} {n c c' : Nat} {xs : List Int} (hx : xs.length = n) (hn : n ≤ 4611686018427387904) : RetI (fun w => Row w A (flatG icells xs) ∧ Row w A' (flatG icells xs)) 26 #[.slice A n c, .slice A' n c'] (.bool true) := by
  intro w hg hi
  have hs := St.refl hg
  have HX := Lib.hid hx
  have HI := Lib.hid hi
  have q0 : ((n : Int) != (n : Int)) = false := by simp
  clear hx hi
  go_enter Tryz.func26, Tryz.ntmps26
  go_wp2_with fail
  go_loopw [13] (fun s wr => ∃ k : Nat, k ≤ n ∧ s = .int .i64 (k : Int) ∧ St w wr) (fun s _ => (n - intOf s).toNat)
  case atStart => exact ⟨0, by omega, rfl, hs⟩
  case round =>
    obtain ⟨k, hk, rfl, hs⟩ := hrel
    by_cases hkn : k = n
    · subst hkn
      have q : decide ((k : Int) < (k : Int)) = false := decide_eq_false (by omega)
      go_wp2_with fail
      go_ret
      exact ⟨rfl, hs.2⟩
    · have hkl : k < n := by omega
      have q : decide ((k : Int) < (n : Int)) = true := decide_eq_true (by omega)
      have qn : decide (k < n) = true := decide_eq_true hkl
      obtain ⟨r, hr⟩ : ∃ r, xs[k]? = some r := ⟨xs[k]'(by rw [HX.out]; exact hkl), by simp⟩
      obtain ⟨b, o, hA, hb, hcells⟩ := row_at (cs := icells) (m := 1) icells_len (by decide) (HI.out.1.on hs.2) hr
      obtain ⟨b', o', hA', hb', hcells'⟩ := row_at (cs := icells) (m := 1) icells_len (by decide) (HI.out.2.on hs.2) hr
      subst hA hA'
      obtain ⟨z, hz⟩ : ∃ z, canS r = z := ⟨_, rfl⟩
      have x0 : wr.cell? ⟨b, o + k, none⟩ = some (.string z) := by have := hcells 0 _ rfl; rw [hz, Nat.mul_one] at this; exact this
      have y0 : wr.cell? ⟨b', o' + k, none⟩ = some (.string z) := by have := hcells' 0 _ rfl; rw [hz, Nat.mul_one] at this; exact this
      have eqD : (z.toList != z.toList) = false := by simp
      clear hcells hcells' hr hkn
      go_wp2_with fail
      go_quiet (fail)
      go_wp2_with fail
      go_roundw
      case rel => exact ⟨k + 1, by omega, by go_num, hs.drewN _⟩
      case measure => simp [intOf]; omega
end Go.Proofs.YtpipkeplhkccoaaGreatDoor
