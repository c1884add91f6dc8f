/- Fractions: contracts of Floor and of Quo by any divisor; words for functions that return fractions. Conditions: strings of up to a hundred thousand bytes. -/
import Derived.Test.YtahpbnmbphobgaaGreatDoorFc
import Derived.Test.YtahpbnmbphobgaaGreatDoorOv
namespace Go.Proofs.YtahpbnmbphobgaaGreatDoor
open Go.RowKit Go.Shelf Dec QQ

/-- the end of a function that returns a fraction in a cell of its own -/
theorem ret_frac {w w1 : World} {B : Nat} (hs : St w w1) (hb : w.heap.size ≤ B) (X : Bx w1 B #[.string ⟨#[]⟩, .string ⟨#[]⟩]) (n d : ByteArray) :
    ∃ W, (w1.setCell ⟨B, 0, none⟩ (.string n)).setCell ⟨B, 1, none⟩ (.string d) = W ∧ W.cell? ⟨B, 0, none⟩ = some (.string n) ∧ W.cell? ⟨B, 1, none⟩ = some (.string d) ∧ Below w.heap.size w W := by
  have B6 := (X.set 0 (.string n)).set 1 (.string d)
  exact ⟨_, rfl, B6.cell (i := 0) rfl, B6.cell (i := 1) rfl, ((hs.set hb 0 (.string n)).set hb 1 (.string d)).2⟩
/-- what Quo returns -/
def quoQ (p q : Rat) : Rat := if q = 0 then 0 else p / q
def quoE (q : Rat) : Int := if q = 0 then 10 else 0
theorem cmpI_gt {x y : Int} : decide (0 < cmpI x y) = decide (y < x) := by
  unfold cmpI
  split
  · simp; omega
  · split
    · simp; omega
    · simp; omega
theorem fit_fdiv {k : Nat} {x y : Int} (h : Fit k x) (hy : 0 ≤ y) : Fit k (x.fdiv y) := by
  unfold Fit at *
  rw [Int.fdiv_eq_ediv_of_nonneg _ hy]
  exact Nat.lt_of_le_of_lt (Int.natAbs_ediv_le_natAbs _ _) h
theorem rat_num0 {n d : Int} : rat n d = 0 ↔ n = 0 := rat_eq_zero
end Go.Proofs.YtahpbnmbphobgaaGreatDoor
