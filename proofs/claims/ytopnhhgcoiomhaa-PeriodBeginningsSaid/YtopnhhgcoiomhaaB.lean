/- Period: period.Check; for every input. -/
import Derived.Test.YtopnhhgcoiomhaaA
import Derived.Test.YtopnhhgcoiomhaaRows
import Derived.WalkKit
import Derived.ProofKit
import Derived.OpenShut
import Derived.WalkLawsBesides
import Derived.Deep.QuietTactic
import Derived.Deep.LoopGhost
import Derived.Deep.RegionWith
import Derived.BigQuiet
import Derived.Lib.Hide
namespace Go.Proofs.Ytopnhhgcoiomhaa
open Go.RowKit
theorem ret_int {k : IntKind} {a b : Int} (h : a = b) : Ending.returned (.int k a) = .returned (.int k b) := by rw [h]

theorem hall2 {p : Nat → Prop} {k : Nat} (h : ∀ j, j < k → p j) (h2 : p k) : ∀ j, j < k + 1 → p j := by
  intro j hj
  by_cases e : j = k
  · subst e; exact h2
  · exact h j (by omega)

set_option maxHeartbeats 1000000 in
theorem Check_any (A : Option Addr) (c : Nat) (l : List (Int × Int)) (w : World) (hc : Cl w w.heap.size A l) (hm : l.length ≤ 9223372036854775807) :
    Calls Try.prog 16 #[.slice A l.length c] w fun e w' => e = .returned (.int .i64 (chk l)) ∧ Below w.heap.size w w' := by
  by_cases hl : 64 < l.length
  · have hr : chk l = 4 := by simp [chk, hl]
    rw [hr]
    clear hr hc
    go_enter Try.func16, Try.ntmps16
    go_wp2
    go_ret
    exact ⟨rfl, Below.refl _ _⟩
  have hl' : l.length ≤ 64 := by omega
  clear hl
  have hle : decide ((64 : Int) < (l.length : Int)) = false := by simp; omega
  go_enter Try.func16, Try.ntmps16
  go_wp2
  go_loopw [10] (fun i wr => ∃ k : Nat, k ≤ l.length ∧ i = .int .i64 k ∧ Hid (∀ j, j < k → bad l j = 0) ∧ Below w.heap.size w wr) (fun i _ => l.length - (intOf i).toNat)
  case atStart => exact ⟨0, by omega, rfl, fun j hj => absurd hj (by omega), Below.refl _ _⟩
  case round =>
    obtain ⟨k, hk, rfl, H, hb⟩ := hrel
    by_cases hlt : k < l.length
    · obtain ⟨d, n, hx⟩ : ∃ d n, l[k]? = some (d, n) := ⟨l[k].1, l[k].2, by simp [hlt]⟩
      obtain ⟨b, o, hA, hB, h1, h2⟩ := hc k _ hx
      subst hA
      have g1 := (hb.cell (p := ⟨b, o + k * 2, none⟩) hB).trans h1
      have g2 := (hb.cell (p := ⟨b, o + k * 2 + 1, none⟩) hB).trans h2
      clear h1 h2
      have HX := Lib.hid hx
      clear hx
      dsimp only at g1 g2
      by_cases hd : d < -25567 ∨ 84005 ≤ d
      · clear hc
        have HD := Lib.hid hd
        go_wp2
        all_goals
          go_ret
          exact ⟨ret_int (by rw [chk_at l k hl' hlt H.out (by rw [bad_13 HX.out HD.out]; decide), bad_13 HX.out HD.out]), hb.alloc hb.size _⟩
      · have HD := Lib.hid hd
        by_cases hn : n < 0
        · clear hc
          go_wp2
          go_ret
          exact ⟨ret_int (by rw [chk_at l k hl' hlt H.out (by rw [bad_2 HX.out HD.out hn]; decide), bad_2 HX.out HD.out hn]), hb.alloc hb.size _⟩
        · cases k with
          | zero =>
            clear hc
            simp only [Nat.zero_mul, Nat.add_zero] at g1 g2
            have H0 := Lib.hid (bad_0 HX.out HD.out (by omega))
            go_wp2
            go_quiet (fail)
            go_wp2
            go_roundw
            case rel => exact ⟨1, by omega, by go_num, by intro j hj; obtain rfl : j = 0 := by omega
                                                          exact H0.out, below_drewN (hb.alloc hb.size _) _⟩
            case measure => simp [intOf]; omega
          | succ k =>
            obtain ⟨d', n', hx'⟩ : ∃ d n, l[k]? = some (d, n) := ⟨l[k].1, l[k].2, by simp [show k < l.length by omega]⟩
            obtain ⟨b', o', hA, hB', h1, h2⟩ := hc k _ hx'
            obtain ⟨rfl, rfl⟩ : b = b' ∧ o = o' := by simpa using hA
            have g3 := (hb.cell (p := ⟨b, o + k * 2, none⟩) hB).trans h1
            have g4 := (hb.cell (p := ⟨b, o + k * 2 + 1, none⟩) hB).trans h2
            clear h1 h2 hc hA
            have HX' := Lib.hid hx'
            clear hx'
            dsimp only at g3 g4
            have hn0 : 0 ≤ n := by omega
            have H8 := Lib.hid (bad_8 HX.out HX'.out hd hn0)
            have hbl : b < wr.heap.size := Nat.lt_of_lt_of_le hB hb.size
            have e1 : IntKind.i64.wrap (k : Int) = k := IntWalk.i64_in _ (by omega)
            have e2 : (k : Int).toNat = k := by omega
            have e3 : (0 : Int) ≤ k := by omega
            have e4 : (k : Int) < l.length := by omega
            by_cases h1 : d ≤ d'
            · have h1b : decide (d ≤ d') = true := by simp [h1]
              go_wp2
              go_quiet (fail)
              go_wp2
              go_ret
              exact ⟨ret_int (by rw [chk_at l (k + 1) hl' hlt H.out (by rw [H8.out, if_pos (.inl h1)]; decide), H8.out, if_pos (.inl h1)]), below_drewN (hb.alloc hb.size _) _⟩
            · have h1b : decide (d ≤ d') = false := by simp [h1]
              by_cases h2 : n < n'
              · have h2b : decide (n < n') = true := by simp [h2]
                go_wp2
                go_quiet (fail)
                go_wp2
                go_ret
                exact ⟨ret_int (by rw [chk_at l (k + 1) hl' hlt H.out (by rw [H8.out, if_pos (.inr h2)]; decide), H8.out, if_pos (.inr h2)]), below_drewN (hb.alloc hb.size _) _⟩
              · have h2b : decide (n < n') = false := by simp [h2]
                go_wp2
                go_quiet (fail)
                go_wp2
                go_roundw
                case rel => exact ⟨k + 2, by omega, by go_num, hall2 H.out (by rw [H8.out, if_neg (by omega)]), below_drewN (hb.alloc hb.size _) _⟩
                case measure => simp [intOf]; omega
    · have hk : k = l.length := by omega
      have HK := Lib.hid hk
      go_wp2
      go_ret
      exact ⟨ret_int (chk_end l hl' (by rw [← HK.out]; exact H.out)).symm, hb⟩
end Go.Proofs.Ytopnhhgcoiomhaa
