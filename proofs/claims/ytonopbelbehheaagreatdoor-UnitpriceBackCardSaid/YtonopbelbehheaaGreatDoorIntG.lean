/- Integer, plain: one group of a magnitude is set; what the loops of plus, minus, times and single keep. No program here, no condition. -/
import Derived.Test.YtonopbelbehheaaGreatDoorIntC
namespace Go.Proofs.YtonopbelbehheaaGreatDoor
namespace Dec

theorem mval_set : ∀ (l : List Nat) (j x v : Nat), l[j]? = some x → mval (l.set j v) + BB ^ j * x = mval l + BB ^ j * v := by
  intro l
  induction l with
  | nil => intro j x v h; simp at h
  | cons g l ih =>
    intro j x v h
    cases j with
    | zero =>
      simp at h
      subst h
      simp only [List.set_cons_zero, mval, Nat.pow_zero, Nat.one_mul]
      omega
    | succ j =>
      have := ih j x v (by simpa using h)
      simp only [List.set_cons_succ, mval, Nat.pow_succ]
      have e : BB * (mval (l.set j v) + BB ^ j * x) = BB * (mval l + BB ^ j * v) := by rw [this]
      rw [Nat.mul_add, Nat.mul_add] at e
      rw [Nat.mul_comm (BB ^ j) BB, Nat.mul_assoc, Nat.mul_assoc]
      omega
theorem Small.set {l : List Nat} (h : Small l) (j : Nat) {v : Nat} (hv : v < BB) : Small (l.set j v) := by
  intro g hg
  rcases List.mem_or_eq_of_mem_set hg with hg | rfl
  · exact h g hg
  · exact hv
theorem Small.at {l : List Nat} (h : Small l) {j x : Nat} (hj : l[j]? = some x) : x < BB := h x (List.mem_of_getElem? hj)
theorem mval_take_succ (l : List Nat) (k : Nat) : mval (l.take (k + 1)) = mval (l.take k) + BB ^ k * (l[k]?.getD 0) := by
  by_cases hk : k ≤ l.length
  · rw [List.take_add_one, mval_append]
    have : (l.take k).length = k := by simp; omega
    rw [this]
    cases h : l[k]? <;> simp [mval]
  · rw [List.take_of_length_le (show l.length ≤ k by omega), List.take_of_length_le (show l.length ≤ k + 1 by omega), List.getElem?_eq_none (by omega)]; simp
theorem mval_zero_of (l : List Nat) (h : ∀ (j x : Nat), l[j]? = some x → x = 0) : mval l = 0 := by
  induction l with
  | nil => rfl
  | cons g l ih =>
    have h0 := h 0 g rfl
    have := ih (fun j x hj => h (j + 1) x (by simpa using hj))
    simp [mval, h0, this]
theorem mval_take_drop (l : List Nat) (k : Nat) (hk : k ≤ l.length) : mval l = mval (l.take k) + BB ^ k * mval (l.drop k) := by
  conv => lhs; rw [← List.take_append_drop k l]
  rw [mval_append, List.length_take, Nat.min_eq_left hk]
theorem set_getElem_ne {l : List Nat} {i j v : Nat} (h : i ≠ j) : (l.set i v)[j]? = l[j]? := List.getElem?_set_ne h

theorem plus_keep {l m o : List Nat} {k cy x y : Nat} (hx : o[k]? = some x) (hy : m[k]?.getD 0 = y) (h : mval o + cy * BB ^ k = mval l + mval (m.take k)) :
    mval (o.set k ((x + cy + y) % BB)) + ((x + cy + y) / BB) * BB ^ (k + 1) = mval l + mval (m.take (k + 1)) := by
  have h1 := mval_set o k x ((x + cy + y) % BB) hx
  rw [mval_take_succ, hy]
  have h2 := Nat.mod_add_div (x + cy + y) BB
  generalize (x + cy + y) % BB = r at *
  generalize (x + cy + y) / BB = q at *
  rw [Nat.pow_succ]
  generalize BB ^ k = P at *
  have h3 : P * (r + BB * q) = P * (x + cy + y) := by rw [h2]
  grind
theorem minus_keep0 {l m o : List Nat} {k cy x y : Nat} (hx : o[k]? = some x) (hy : m[k]?.getD 0 = y) (h : mval o + mval (m.take k) = mval l + cy * BB ^ k) (hle : cy + y ≤ x) :
    mval (o.set k (x - (cy + y))) + mval (m.take (k + 1)) = mval l + 0 * BB ^ (k + 1) := by
  have h1 := mval_set o k x (x - (cy + y)) hx
  rw [mval_take_succ, hy]
  obtain ⟨d, rfl⟩ : ∃ d, x = d + (cy + y) := ⟨x - (cy + y), by omega⟩
  rw [Nat.add_sub_cancel] at h1 ⊢
  generalize BB ^ k = P at *
  grind
theorem minus_keep1 {l m o : List Nat} {k cy x y : Nat} (hx : o[k]? = some x) (hy : m[k]?.getD 0 = y) (h : mval o + mval (m.take k) = mval l + cy * BB ^ k) (hle : cy + y ≤ x + BB) :
    mval (o.set k (x + BB - (cy + y))) + mval (m.take (k + 1)) = mval l + 1 * BB ^ (k + 1) := by
  have h1 := mval_set o k x (x + BB - (cy + y)) hx
  rw [mval_take_succ, hy, Nat.pow_succ]
  obtain ⟨d, hd⟩ : ∃ d, x + BB = d + (cy + y) := ⟨x + BB - (cy + y), by omega⟩
  rw [hd, Nat.add_sub_cancel] at h1 ⊢
  generalize BB ^ k = P at *
  have h3 : P * (x + BB) = P * (d + (cy + y)) := by rw [hd]
  grind
/-- the end of minus -/
theorem minus_end {a b : Nat} {l o : List Nat} {cy : Nat} (ho : Small o) (hlen : o.length = l.length) (h : mval o + b = a + cy * BB ^ l.length) (hba : b ≤ a) (hcy : cy ≤ 1) : mval o = a - b := by
  have h1 := mval_lt o ho
  rw [hlen] at h1
  rcases Nat.eq_zero_or_pos cy with h0 | h0
  · subst h0; omega
  · obtain rfl : cy = 1 := by omega
    omega
theorem times_keep {m O o : List Nat} {i k cy x y z : Nat} (hz : o[i + k]? = some z) (hy : m[k]?.getD 0 = y) (h : mval o + cy * BB ^ (i + k) = mval O + x * mval (m.take k) * BB ^ i) :
    mval (o.set (i + k) ((cy + (z + x * y)) % BB)) + ((cy + (z + x * y)) / BB) * BB ^ (i + (k + 1)) = mval O + x * mval (m.take (k + 1)) * BB ^ i := by
  have h1 := mval_set o (i + k) z ((cy + (z + x * y)) % BB) hz
  rw [mval_take_succ, hy]
  have h2 := Nat.mod_add_div (cy + (z + x * y)) BB
  generalize (cy + (z + x * y)) % BB = r at *
  generalize (cy + (z + x * y)) / BB = q at *
  rw [Nat.pow_add, Nat.pow_add, Nat.pow_succ] at *
  generalize BB ^ k = P at *
  generalize BB ^ i = Q at *
  generalize mval (m.take k) = M at *
  generalize mval O = U at *
  generalize mval o = V at *
  generalize mval (o.set (i + k) r) = V' at *
  have h3 : Q * P * (r + BB * q) = Q * P * (cy + (z + x * y)) := by rw [h2]
  grind
theorem times_bound {cy z x y : Nat} (h1 : cy < BB) (h2 : z < BB) (h3 : x < BB) (h4 : y < BB) : x * y ≤ 999999998000000001 ∧ (cy + (z + x * y)) / BB < BB := by
  have : x * y ≤ (BB - 1) * (BB - 1) := Nat.mul_le_mul (by omega) (by omega)
  have h5 : x * y ≤ 999999998000000001 := this
  refine ⟨h5, ?_⟩
  rw [Nat.div_lt_iff_lt_mul BB_pos]
  unfold BB at *
  omega
/-- the end of a row of times -/
theorem times_row {l m O o : List Nat} {i cy x : Nat} (hz : o[i + m.length]? = some 0) (hx : l[i]? = some x) (h : mval o + cy * BB ^ (i + m.length) = mval O + x * mval m * BB ^ i) (hO : mval O = mval (l.take i) * mval m) :
    mval (o.set (i + m.length) (0 + cy)) = mval (l.take (i + 1)) * mval m := by
  have h1 := mval_set o (i + m.length) 0 (0 + cy) hz
  rw [mval_take_succ, hx, Option.getD_some]
  rw [Nat.zero_add] at h1 ⊢
  generalize BB ^ (i + m.length) = P at *
  generalize BB ^ i = Q at *
  generalize mval m = M at *
  generalize mval (l.take i) = L at *
  generalize mval (o.set (i + m.length) cy) = V' at *
  grind
theorem single_keep {l o : List Nat} {i d r x : Nat} (hx : l[i]? = some x) (ho : o[i]? = some 0) (h : mval o * d + r * BB ^ (i + 1) + mval (l.take (i + 1)) = mval l) :
    mval (o.set i ((r * BB + x) / d)) * d + ((r * BB + x) % d) * BB ^ i + mval (l.take i) = mval l := by
  have h1 := mval_set o i 0 ((r * BB + x) / d) ho
  rw [mval_take_succ, hx, Option.getD_some, Nat.pow_succ] at h
  have h2 := Nat.mod_add_div (r * BB + x) d
  generalize (r * BB + x) % d = s at *
  generalize (r * BB + x) / d = q at *
  generalize BB ^ i = P at *
  generalize mval (l.take i) = M at *
  generalize mval l = U at *
  generalize mval o = V at *
  generalize mval (o.set i q) = V' at *
  have h3 : P * (s + d * q) = P * (r * BB + x) := by rw [h2]
  grind
theorem single_bound {d r x : Nat} (hd : d ≤ BB) (hr : r < d) (hx : x < BB) : (r * BB + x) / d < BB ∧ r * BB + x ≤ 1000000000000000000 := by
  have h1 : (r + 1) * BB ≤ d * BB := Nat.mul_le_mul_right _ hr
  rw [Nat.add_mul, Nat.one_mul] at h1
  have h2 : d * BB ≤ BB * BB := Nat.mul_le_mul_right _ hd
  refine ⟨?_, ?_⟩
  · rw [Nat.div_lt_iff_lt_mul (by omega), Nat.mul_comm BB d]; omega
  · have h3 : BB * BB = 1000000000000000000 := rfl
    omega
theorem single_end {a d r : Nat} {o : List Nat} (hr : r < d) (h : mval o * d + r = a) : mval o = a / d ∧ r = a % d := by
  have e : a = r + d * mval o := by rw [← h, Nat.mul_comm]; omega
  subst e
  rw [Nat.add_mul_div_left _ _ (by omega), Nat.div_eq_of_lt hr, Nat.add_mul_mod_self_left, Nat.mod_eq_of_lt hr]
  simp
end Dec
end Go.Proofs.YtonopbelbehheaaGreatDoor
