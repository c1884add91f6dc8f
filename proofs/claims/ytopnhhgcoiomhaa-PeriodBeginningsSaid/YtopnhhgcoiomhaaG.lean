/- Period: dates; for every input. -/
import Derived.Test.YtopnhhgcoiomhaaB
import Derived.Test.YtopnhhgcoiomhaaRows
import Derived.WalkKit
import Derived.ProofKit
import Derived.OpenShut
import Derived.WalkLawsBesides
import Derived.Deep.QuietTactic
import Derived.Deep.LoopGhost
import Derived.Deep.RegionWith
import Derived.BigQuiet
import Derived.Lib.Hide
namespace Go.Proofs.Ytopnhhgcoiomhaa
open Go.RowKit
/-- the length of a month; leap years -/
def leapB (y : Int) : Bool := decide (y % 4 = 0 ∧ (y % 100 ≠ 0 ∨ y % 400 = 0))
def mlen (y m : Int) : Int := if m = 2 then (if leapB y then 29 else 28) else if m = 4 ∨ m = 6 ∨ m = 9 ∨ m = 11 then 30 else 31
def yb (y : Int) : Int := 365 * (y - 1900) + ((y - 1) / 4 - (y - 1) / 100 + (y - 1) / 400) - 460
def cum (y : Int) : Nat → Int
  | 0 => 0
  | k + 1 => cum y k + mlen y (k + 1)
theorem mlen_bd (y m : Int) : 28 ≤ mlen y m ∧ mlen y m ≤ 31 := by unfold mlen; split <;> (try split) <;> omega
theorem cum_bd (y : Int) (k : Nat) : 28 * (k : Int) ≤ cum y k ∧ cum y k ≤ 31 * (k : Int) := by
  induction k with
  | zero => simp [cum]
  | succ k ih => have := mlen_bd y (k + 1); unfold cum; omega

set_option maxHeartbeats 400000 in
theorem leap_any (y : Int) (w : World) (h : 0 ≤ y) (h2 : y < 10000) :
    Calls Try.prog 43 #[.int .i64 y] w fun e w' => e = .returned (.bool (leapB y)) ∧ w = w' := by
  go_enter Try.func43, Try.ntmps43
  go_wp2
  all_goals
    go_ret
    refine ⟨congrArg (fun b => Ending.returned (Value.bool b)) ?_, rfl⟩
    simp only [leapB]
    first
      | (symm; rw [decide_eq_true_iff]; omega)
      | (rw [Bool.eq_iff_iff]; simp; omega)

set_option maxHeartbeats 1000000 in
theorem length_any (y m : Int) (w : World) (h : 0 ≤ y) (h2 : y < 10000) (h3 : 1 ≤ m) (h4 : m ≤ 12) :
    Calls Try.prog 40 #[.int .i64 y, .int .i64 m] w fun e w' => e = .returned (.int .i64 (mlen y m)) ∧ Below w.heap.size w w' := by
  obtain rfl | rfl | rfl | rfl | rfl | rfl | rfl | rfl | rfl | rfl | rfl | rfl : m = 2 ∨ m = 1 ∨ m = 3 ∨ m = 4 ∨ m = 5 ∨ m = 6 ∨ m = 7 ∨ m = 8 ∨ m = 9 ∨ m = 10 ∨ m = 11 ∨ m = 12 := by omega
  · obtain ⟨L, hL⟩ : ∃ L, leapB y = L := ⟨_, rfl⟩
    have e : mlen y 2 = if L then 29 else 28 := by unfold mlen; rw [hL]; simp
    rw [e]
    have hC := fun w => leap_any y w h h2
    rw [hL] at hC
    have HC := Lib.hid hC
    clear hC e hL
    cases L
    all_goals
      go_enter Try.func40, Try.ntmps40
      go_wp2_with (go_at_call 43; refine (HC.out _).mono ?_; rintro e w1 ⟨rfl, rfl⟩)
      go_ret
      exact ⟨rfl, (Below.refl _ _).alloc (Nat.le_refl _) _⟩
  all_goals
    go_enter Try.func40, Try.ntmps40
    go_wp2
    go_ret
    exact ⟨rfl, (Below.refl _ _).alloc (Nat.le_refl _) _⟩

theorem begin_any (y : Int) (w : World) (h : 1900 ≤ y) (h2 : y ≤ 2200) :
    Calls Try.prog 41 #[.int .i64 y] w fun e w' => e = .returned (.int .i64 (yb y)) ∧ w = w' := by
  go_enter Try.func41, Try.ntmps41
  go_wp2
  go_ret
  exact ⟨rfl, rfl⟩

set_option maxHeartbeats 1000000 in
theorem of_any (y m d : Int) (w : World) (h : 1900 ≤ y) (h2 : y ≤ 2199) (h3 : 1 ≤ m) (h4 : m ≤ 12) (h5 : 1 ≤ d) (h6 : d ≤ mlen y m) :
    Calls Try.prog 38 #[.int .i64 y, .int .i64 m, .int .i64 d] w fun e w' => e = .returned (.tuple #[.int .i64 (-25567 + (yb y + d - 1 + cum y (m.toNat - 1))), .int .i64 0]) ∧ Below w.heap.size w w' := by
  have hyb : 0 ≤ yb y ∧ yb y ≤ 200000 := by unfold yb; omega
  have hl := mlen_bd y m
  obtain ⟨L, hL⟩ : ∃ L, mlen y m = L := ⟨_, rfl⟩
  obtain ⟨Y, hY⟩ : ∃ Y, yb y = Y := ⟨_, rfl⟩
  have hC := fun w => length_any y m w (by omega) (by omega) h3 h4
  have hD := fun w => begin_any y w h (by omega)
  rw [hL] at hC hl h6
  rw [hY] at hD hyb ⊢
  have HC := Lib.hid hC
  have HD := Lib.hid hD
  clear hC hD hL hY
  have k1 : decide (y < 1900) = false := by simp; omega
  have k2 : decide (2199 < y) = false := by simp; omega
  have k3 : decide (m < 1) = false := by simp; omega
  have k4 : decide (12 < m) = false := by simp; omega
  have k5 : decide (d < 1) = false := by simp; omega
  have k6 : decide (L < d) = false := by simp; omega
  go_enter Try.func38, Try.ntmps38
  go_wp2_with (go_at_call 40; refine (HC.out _).mono ?_; rintro e w1 ⟨rfl, hb1⟩)
  go_wp2_with (go_at_call 41; refine (HD.out _).mono ?_; rintro e w2 ⟨rfl, rfl⟩)
  go_loopw [8, 9] (fun s i wr => ∃ k : Nat, (k : Int) < m ∧ i = .int .i64 (k + 1) ∧ s = .int .i64 (Y + d - 1 + cum y k) ∧ Below w.heap.size w wr) (fun _ i _ => (m - intOf i).toNat)
  case atStart => exact ⟨0, by omega, by simp, by simp [cum], hb1⟩
  case round =>
    obtain ⟨k, hk, rfl, rfl, hb⟩ := hrel
    have hcb := cum_bd y k
    by_cases hlt : (k : Int) + 1 < m
    · have hml := mlen_bd y (k + 1)
      have HS : Hid (cum y (k + 1) = cum y k + mlen y (k + 1)) := rfl
      go_wp2_with (go_at_call 40; refine (length_any y (k + 1) _ (by omega) (by omega) (by omega) (by omega)).mono ?_; rintro e w3 ⟨rfl, hb3⟩)
      go_roundw
      case rel => exact ⟨k + 1, by omega, by go_num, by rw [HS.out]; go_num, hb.trans (hb3.mono hb.size)⟩
      case measure => simp [intOf]; omega
    · go_wp2
      go_ret2
      refine ⟨?_, hb⟩
      rw [show m.toNat - 1 = k by omega]
      rfl

set_option maxHeartbeats 1000000 in
theorem day_any (y m d : Int) (w : World) (h : 1900 ≤ y) (h2 : y ≤ 2199) (h3 : 1 ≤ m) (h4 : m ≤ 12) (h5 : 1 ≤ d) (h6 : d ≤ mlen y m) (v : Int) (hv : -25567 + (yb y + d - 1 + cum y (m.toNat - 1)) = v) :
    Calls Try.prog 29 #[.int .i64 y, .int .i64 m, .int .i64 d] w fun e w' => e = .returned (.int .i64 v) ∧ Below w.heap.size w w' := by
  subst hv
  have hC := of_any y m d w h h2 h3 h4 h5 h6
  have HC := Lib.hid hC
  clear hC
  go_enter Try.func29, Try.ntmps29
  go_wp2_with (go_at_call 38; refine HC.out.mono ?_; rintro e w1 ⟨rfl, hb1⟩)
  go_ret
  exact ⟨rfl, hb1⟩
end Go.Proofs.Ytopnhhgcoiomhaa
