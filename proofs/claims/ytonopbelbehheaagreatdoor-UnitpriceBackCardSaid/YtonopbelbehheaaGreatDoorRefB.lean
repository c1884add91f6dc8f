/- Integer: the reference's digits, Canonical, Print, Parse: they answer as the implementation's do. Conditions: sizes. -/
import Derived.Test.YtonopbelbehheaaGreatDoorRefA
namespace Go.Proofs.YtonopbelbehheaaGreatDoor
open Go.RowKit Go.Shelf Dec

theorem head_bytes (a : ByteArray) (h : 0 < a.size) : (bytes a).head? = some a[0] := by rw [bytes_first a h]; rfl
theorem rdigits_any (a : ByteArray) (w : World) (ha : a.size ≤ 9223372036854775807) :
    Calls Tryz.prog 82 #[.string a] w fun e w' => e = .returned (.tuple #[.string (str (digs (bytes a))), .bool (negB (bytes a))]) ∧ Below w.heap.size w w' := by
  have fin : Calls Tryz.prog 82 #[.string a] w (RD (fun d n => d = str (digs (bytes a)) ∧ n = negB (bytes a)) w) := by
    by_cases h0 : 0 < a.size
    · cases h1 : ((a[0].toNat : Int) == 45) with
      | true =>
        have hc : a[0] = 45 := by have := eq_of_beq h1; apply UInt8.toNat_inj.1; show _ = 45; omega
        have hh : (bytes a).head? = some 45 := by rw [head_bytes a h0, hc]
        have hb : bare (bytes a) = bytes (a.extract 1 a.size) := by unfold bare; rw [if_pos hh, bytes_ext]
        refine rdigits_neg a _ w ha h0 h1 rfl (by have := size_ext a; omega) _ ?_ ?_
        · intro h
          unfold negB digs
          rw [hb, if_pos h, decide_eq_true hh]
          exact ⟨rfl, rfl⟩
        · intro h
          unfold negB digs
          rw [hb, if_neg (by rw [h]; decide)]
          exact ⟨rfl, by simp⟩
      | false =>
        have hc : a[0] ≠ 45 := by intro e; rw [e] at h1; cases h1
        have hh : (bytes a).head? ≠ some 45 := by rw [head_bytes a h0]; simpa using hc
        have hb : bare (bytes a) = bytes a := by unfold bare; rw [if_neg hh]
        refine rdigits_pos a w ha h0 h1 _ ?_ ?_
        · intro h
          unfold negB digs
          rw [hb, if_pos h, decide_eq_false hh]
          exact ⟨rfl, rfl⟩
        · intro h
          unfold negB digs
          rw [hb, if_neg (by rw [h]; decide), decide_eq_false hh]
          exact ⟨rfl, rfl⟩
    · have hn : bytes a = [] := by rw [← List.length_eq_zero_iff, ← size_bytes]; omega
      refine rdigits_nil a w ha (by omega) _ ?_ ?_
      · intro _; rw [hn]; exact ⟨rfl, rfl⟩
      · intro _; rw [hn]; exact ⟨rfl, rfl⟩
  refine fin.mono ?_
  rintro e w' ⟨d, n, rfl, ⟨rfl, rfl⟩, hb⟩
  exact ⟨rfl, hb⟩

set_option maxHeartbeats 1000000 in
theorem rcanonical_any (a : ByteArray) (w : World) (ha : a.size ≤ 4611686018427387904) :
    Calls Tryz.prog 84 #[.string a] w fun e w' => e = .returned (.string (canS (valS a))) ∧ Below w.heap.size w w' := by
  have HE : Hid (canS (valS a) = if negB (bytes a) then str (45 :: digs (bytes a)) else str (digs (bytes a))) := by
    show _ = _
    unfold canS valS
    rw [canon_val]
    split <;> rfl
  have H1 := Lib.hid (fun w => rdigits_any a w (by omega))
  have hl : (str (digs (bytes a))).size ≤ a.size := by rw [size_str, size_bytes a]; exact digs_len _
  have HC := Lib.hid (str_cons 45 (digs (bytes a)))
  cases hn : negB (bytes a) with
  | true =>
    rw [hn] at H1 HE
    generalize str (digs (bytes a)) = t at *
    clear hn
    go_enter Tryz.func84, Tryz.ntmps84
    go_wp2_with fail
    refine (H1.out _).mono ?_
    rintro e w1 ⟨rfl, hb1⟩
    go_wp2_with fail
    go_ret
    exact ⟨by rw [HE.out, ← HC.out]; rfl, hb1⟩
  | false =>
    rw [hn] at H1 HE
    generalize str (digs (bytes a)) = t at *
    clear hn
    go_enter Tryz.func84, Tryz.ntmps84
    go_wp2_with fail
    refine (H1.out _).mono ?_
    rintro e w1 ⟨rfl, hb1⟩
    go_wp2_with fail
    go_ret
    exact ⟨by rw [HE.out]; rfl, hb1⟩
end Go.Proofs.YtonopbelbehheaaGreatDoor
