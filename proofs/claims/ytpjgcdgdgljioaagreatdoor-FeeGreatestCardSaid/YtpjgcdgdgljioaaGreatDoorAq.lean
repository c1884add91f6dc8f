/- Attribution: sums of rational numbers over lists; what sectors contribute. No condition. -/
import Derived.Test.YtpjgcdgdgljioaaGreatDoorFa
namespace QQ
def sumQ {α : Type} (f : α → Rat) : List α → Rat
 | [] => 0
 | a :: l => f a + sumQ f l
section
variable {α : Type} {f g : α → Rat}
theorem FitQ.zero {k : Nat} (h : 1 ≤ k) : FitQ k 0 := by
 have := FitQ.int (k := k) (z := 0) (by have := pow_le h; simp; omega) h
 exact this
theorem FitQ.one {k : Nat} (h : 1 ≤ k) : FitQ k 1 := by
 have := FitQ.int (k := k) (z := 1) (by have := pow_le h; simp; omega) h
 exact this
theorem FitQ.sum {l : List α} {k : Nat} (h : ∀ a ∈ l, FitQ k (f a)) : FitQ ((k + 1) * l.length + 1) (sumQ f l) := by
 induction l with
 | nil => exact FitQ.zero (by omega)
 | cons a l ih =>
  have := (h a (by simp)).add (ih (fun b hb => h b (by simp [hb])))
  refine this.mono ?_
  simp only [List.length_cons, Nat.mul_add, Nat.mul_one]
  omega
end
end QQ
