/- cmp.Compare, cmp.Or at two ints; the order that slices.SortFunc finds for the rests. No condition. -/
import Derived.Test.YtdpoagcgglfijaaGreatDoorSo
import Derived.Test.YtdpoagcgglfijaaGreatDoorSP
import Derived.Test.YtdpoagcgglfijaaGreatDoorIe
namespace Go.Proofs.YtdpoagcgglfijaaGreatDoor
open Go.RowKit Go.Shelf Go.Sort SP

set_option maxRecDepth 100000 in
set_option maxHeartbeats 4000000 in
theorem isnan_any (x : Int) (w : World) : Calls Tryz.prog 107 #[.int .i64 x] w fun e w' => e = .returned (.bool false) ∧ w' = w := by
  go_enter Tryz.func107, Tryz.ntmps107
  go_wp2_with fail
  go_ret
  exact ⟨by simp, rfl⟩
set_option maxRecDepth 100000 in
set_option maxHeartbeats 4000000 in
theorem cmpint_any (x y : Int) (w : World) : Calls Tryz.prog 88 #[.int .i64 x, .int .i64 y] w fun e w' => e = .returned (.int .i64 (cmpI x y)) ∧ w' = w := by
  have K1 := isnan_any x w
  have K2 := isnan_any y w
  have e : cmpI x y = if x < y then -1 else if x = y then 0 else 1 := rfl
  rcases Int.lt_trichotomy x y with h | h | h
  · rw [e, if_pos h]
    have q : decide (x < y) = true := decide_eq_true h
    clear e h
    go_enter Tryz.func88, Tryz.ntmps88
    go_wp2_with fail
    refine K1.mono ?_
    rintro e w1 ⟨rfl, rfl⟩
    go_wp2_with fail
    refine K2.mono ?_
    rintro e w1 ⟨rfl, rfl⟩
    go_wp2_with fail
    go_ret
    exact ⟨rfl, rfl⟩
  · subst h
    rw [e, if_neg (by omega), if_pos rfl]
    have q : decide (x < x) = false := decide_eq_false (by omega)
    clear e
    go_enter Tryz.func88, Tryz.ntmps88
    go_wp2_with fail
    refine K1.mono ?_
    rintro e w1 ⟨rfl, rfl⟩
    go_wp2_with fail
    refine K2.mono ?_
    rintro e w1 ⟨rfl, rfl⟩
    go_wp2_with fail
    go_ret
    exact ⟨rfl, rfl⟩
  · rw [e, if_neg (by omega), if_neg (by omega)]
    have q : decide (x < y) = false := decide_eq_false (by omega)
    have q2 : decide (y < x) = true := decide_eq_true h
    clear e h
    go_enter Tryz.func88, Tryz.ntmps88
    go_wp2_with fail
    refine K1.mono ?_
    rintro e w1 ⟨rfl, rfl⟩
    go_wp2_with fail
    refine K2.mono ?_
    rintro e w1 ⟨rfl, rfl⟩
    go_wp2_with fail
    go_ret
    exact ⟨rfl, rfl⟩
set_option maxRecDepth 100000 in
set_option maxHeartbeats 4000000 in
theorem cmpor_two (x y : Int) (b : Nat) (w : World) (h0 : w.cell? ⟨b, 0, none⟩ = some (.int .i64 x)) (h1 : w.cell? ⟨b, 1, none⟩ = some (.int .i64 y)) :
    Calls Tryz.prog 87 #[.slice (some ⟨b, 0, none⟩) 2 2] w fun e w' => e = .returned (.int .i64 (if x = 0 then y else x)) ∧ w' = w := by
  by_cases hx : x = 0
  · subst hx
    rw [if_pos rfl]
    by_cases hy : y = 0
    · subst hy
      go_enter Tryz.func87, Tryz.ntmps87
      go_wp2_with fail
      refine wp_loop_rounds 3 ?_
      rw [rounds_succ]
      go_wp2_with fail
      rw [rounds_succ]
      go_wp2_with fail
      rw [rounds_succ]
      go_wp2_with fail
      go_ret
      exact ⟨rfl, rfl⟩
    · have q : (y != 0) = true := by simpa using hy
      clear hy
      go_enter Tryz.func87, Tryz.ntmps87
      go_wp2_with fail
      refine wp_loop_rounds 3 ?_
      rw [rounds_succ]
      go_wp2_with fail
      rw [rounds_succ]
      go_wp2_with fail
      go_ret
      exact ⟨rfl, rfl⟩
  · have q : (x != 0) = true := by simpa using hx
    rw [if_neg hx]
    clear hx
    go_enter Tryz.func87, Tryz.ntmps87
    go_wp2_with fail
    refine wp_loop_rounds 3 ?_
    rw [rounds_succ]
    go_wp2_with fail
    go_ret
    exact ⟨rfl, rfl⟩
end Go.Proofs.YtdpoagcgglfijaaGreatDoor
