/- Integer, the reference: the contracts of Div, Gcd and Power. Conditions: strings of up to a hundred thousand bytes (up to 12 for Power, exponents of up to 60). -/
import Derived.Test.YtahpbnmbphobgaaGreatDoorRi
import Derived.Test.YtahpbnmbphobgaaGreatDoorIe
import Derived.Test.YtahpbnmbphobgaaGreatDoorFa
namespace Go.Proofs.YtahpbnmbphobgaaGreatDoor
open Go.RowKit Go.Shelf Dec


/-- the number in a string's slot -/
def natStr : Value → Nat | .string s => (valS s).natAbs | _ => 0
theorem natStr_can (n : Nat) : natStr (.string (canS (n : Int))) = n := by show (valS (canS (n : Int))).natAbs = n; rw [valS_canS]; rfl
theorem digs_can (a : ByteArray) : str (digs (bytes a)) = canS ((valS a).natAbs : Int) := by
  unfold valS
  rw [val_abs]
  unfold canS canon
  rw [if_neg (by omega), Int.natAbs_natCast, digs_dec]
theorem fit_pow {k : Nat} {z : Int} (h : Fit k z) (m : Nat) : Fit (k * m + 1) (z ^ m) := by
  unfold Fit at *
  rw [Int.natAbs_pow, Nat.pow_succ, Nat.pow_mul]
  have h1 : z.natAbs ^ m ≤ (10 ^ k) ^ m := Nat.pow_le_pow_left (Nat.le_of_lt h) m
  have h2 : 0 < (10 ^ k) ^ m := Nat.pow_pos (Nat.pow_pos (by omega))
  omega
theorem fit_lt {k x y : Nat} (h : Fit k (y : Int)) (hl : x < y) : Fit k (x : Int) := by
  unfold Fit at *
  rw [Int.natAbs_natCast] at *
  omega
theorem fit_abs {k : Nat} {z : Int} (h : Fit k z) : Fit k ((z.natAbs : Nat) : Int) := by
  unfold Fit at *
  rw [Int.natAbs_natCast]
  exact h
theorem can_empty {z : Int} (h : z ≠ 0) : (canS z).toList.isEmpty = false := by
  cases hh : (canS z).toList with
  | nil =>
    exfalso
    apply h
    rw [toList_bytes] at hh
    have e : bytes (canS z) = [] := hh
    have := valS_canS z
    unfold valS at this
    rw [e] at this
    exact this.symm
  | cons _ _ => rfl



end Go.Proofs.YtahpbnmbphobgaaGreatDoor
