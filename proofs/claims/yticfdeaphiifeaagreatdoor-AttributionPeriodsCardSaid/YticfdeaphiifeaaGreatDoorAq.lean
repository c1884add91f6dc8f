/- Attribution: sums of rational numbers over lists; what sectors contribute. No condition. -/
import Derived.Test.YticfdeaphiifeaaGreatDoorFa
namespace QQ
def sumQ {α : Type} (f : α → Rat) : List α → Rat
 | [] => 0
 | a :: l => f a + sumQ f l
section
variable {α : Type} {f g : α → Rat}
theorem sumQ_append (l m : List α) : sumQ f (l ++ m) = sumQ f l + sumQ f m := by
 induction l with
 | nil => simp [sumQ]; grind
 | cons a l ih => simp only [List.cons_append, sumQ, ih]; grind
theorem sumQ_take {l : List α} {k : Nat} {d : α} (h : l[k]? = some d) : sumQ f (l.take (k + 1)) = sumQ f (l.take k) + f d := by
 rw [List.take_add_one, h, sumQ_append]
 simp only [Option.toList_some, sumQ]
 grind
theorem sumQ_add (l : List α) : sumQ (fun a => f a + g a) l = sumQ f l + sumQ g l := by
 induction l with
 | nil => simp only [sumQ]; grind
 | cons a l ih => simp only [sumQ, ih]; grind
theorem sumQ_sub (l : List α) : sumQ (fun a => f a - g a) l = sumQ f l - sumQ g l := by
 induction l with
 | nil => simp only [sumQ]; grind
 | cons a l ih => simp only [sumQ, ih]; grind
theorem sumQ_mul (c : Rat) (l : List α) : sumQ (fun a => f a * c) l = sumQ f l * c := by
 induction l with
 | nil => simp only [sumQ]; grind
 | cons a l ih => simp only [sumQ, ih]; grind
theorem sumQ_congr {l : List α} (h : ∀ a ∈ l, f a = g a) : sumQ f l = sumQ g l := by
 induction l with
 | nil => rfl
 | cons a l ih => simp only [sumQ]; rw [h a (by simp), ih (fun b hb => h b (by simp [hb]))]
theorem sumQ_map {β : Type} {h : β → α} (l : List β) : sumQ f (l.map h) = sumQ (fun b => f (h b)) l := by
 induction l with
 | nil => rfl
 | cons a l ih => simp only [List.map_cons, sumQ, ih]
theorem sumQ_perm {l m : List α} (h : l.Perm m) : sumQ f l = sumQ f m := by
 induction h with
 | nil => rfl
 | cons a _ ih => simp only [sumQ, ih]
 | swap a b l => simp only [sumQ]; grind
 | trans _ _ ih1 ih2 => rw [ih1, ih2]
theorem FitQ.zero {k : Nat} (h : 1 ≤ k) : FitQ k 0 := by
 have := FitQ.int (k := k) (z := 0) (by have := pow_le h; simp; omega) h
 exact this
theorem FitQ.one {k : Nat} (h : 1 ≤ k) : FitQ k 1 := by
 have := FitQ.int (k := k) (z := 1) (by have := pow_le h; simp; omega) h
 exact this
theorem FitQ.sum {l : List α} {k : Nat} (h : ∀ a ∈ l, FitQ k (f a)) : FitQ ((k + 1) * l.length + 1) (sumQ f l) := by
 induction l with
 | nil => exact FitQ.zero (by omega)
 | cons a l ih =>
  have := (h a (by simp)).add (ih (fun b hb => h b (by simp [hb])))
  refine this.mono ?_
  simp only [List.length_cons, Nat.mul_add, Nat.mul_one]
  omega
theorem FitQ.sum_le {l : List α} {k n m : Nat} (h : ∀ a ∈ l, FitQ k (f a)) (hn : l.length ≤ n) (hm : (k + 1) * n + 1 ≤ m) : FitQ m (sumQ f l) :=
 (FitQ.sum h).mono (Nat.le_trans (Nat.add_le_add_right (Nat.mul_le_mul_left _ hn) 1) hm)
theorem FitQ.sum_take {l : List α} {k n m : Nat} (h : ∀ a ∈ l, FitQ k (f a)) (hn : l.length ≤ n) (hm : (k + 1) * n + 1 ≤ m) (i : Nat) : FitQ m (sumQ f (l.take i)) :=
 FitQ.sum_le (fun a ha => h a (List.mem_of_mem_take ha)) (Nat.le_trans (by simp; omega) hn) hm
theorem parts_sum {l : List α} {w r v b : α → Rat} (hw : sumQ w l = 1) (hv : sumQ v l = 1) (B : Rat) (hB : sumQ (fun x => v x * b x) l = B) :
  sumQ (fun x => ((w x - v x) * (b x - B) + v x * (r x - b x)) + (w x - v x) * (r x - b x)) l = sumQ (fun x => w x * r x) l - B := by
 have e : sumQ (fun x => ((w x - v x) * (b x - B) + v x * (r x - b x)) + (w x - v x) * (r x - b x)) l = sumQ (fun x => (w x * r x - v x * b x) - (w x - v x) * B) l := sumQ_congr (fun a _ => by grind)
 rw [e, sumQ_sub, sumQ_sub, sumQ_mul, sumQ_sub, hw, hv, hB]
 grind
theorem drift_sum {l : List α} {w r : α → Rat} {O : Rat} (hO : sumQ (fun x => w x * (1 + r x)) l = O) (h0 : O ≠ 0) : sumQ (fun x => w x * (1 + r x) / O) l = 1 := by
 have e : sumQ (fun x => w x * (1 + r x) / O) l = sumQ (fun x => w x * (1 + r x) * O⁻¹) l := sumQ_congr (fun a _ => by rw [Rat.div_def])
 rw [e, sumQ_mul, hO, Rat.mul_inv_cancel _ h0]
theorem own_return {l : List α} {w r : α → Rat} (hw : sumQ w l = 1) : sumQ (fun x => w x * (1 + r x)) l = 1 + sumQ (fun x => w x * r x) l := by
 have e : sumQ (fun x => w x * (1 + r x)) l = sumQ (fun x => w x + w x * r x) l := sumQ_congr (fun a _ => by grind)
 rw [e, sumQ_add, hw]
theorem drift_two {l : List α} {w r m : α → Rat} {O : Rat} (hw : sumQ w l = 1) (hO : sumQ (fun x => w x * (1 + r x)) l = O) (h0 : O ≠ 0) :
  (1 + sumQ (fun x => w x * r x) l) * (1 + sumQ (fun x => w x * (1 + r x) / O * m x) l) = sumQ (fun x => w x * ((1 + r x) * (1 + m x))) l := by
 have e : sumQ (fun x => w x * (1 + r x) / O * m x) l = sumQ (fun x => w x * (1 + r x) * m x * O⁻¹) l := sumQ_congr (fun a _ => by rw [Rat.div_def]; grind)
 rw [e, sumQ_mul, ← own_return hw, hO]
 have e2 : sumQ (fun x => w x * ((1 + r x) * (1 + m x))) l = sumQ (fun x => w x * (1 + r x) + w x * (1 + r x) * m x) l := sumQ_congr (fun a _ => by grind)
 rw [e2, sumQ_add, hO]
 have := Rat.mul_inv_cancel O h0
 grind
theorem link_step {S G H R B : Rat} (h : S = G - H) : S * (1 + B) + (R - B) * G = G * (1 + R) - H * (1 + B) := by subst h; grind
end
end QQ
