/- Integer, plain: long division: the guess, what is subtracted, what is added back. No program here, no condition. -/
import Derived.Test.YtonopbelbehheaaGreatDoorIntG
namespace Go.Proofs.YtonopbelbehheaaGreatDoor
namespace Dec

theorem mval_drop_cons {l : List Nat} {j x : Nat} (h : l[j]? = some x) : mval (l.drop j) = x + BB * mval (l.drop (j + 1)) := by
  obtain ⟨hj, rfl⟩ := List.getElem?_eq_some_iff.1 h
  rw [List.drop_eq_getElem_cons hj]; rfl
theorem Small.drop {l : List Nat} (h : Small l) (k : Nat) : Small (l.drop k) := fun x hx => h x (List.mem_of_mem_drop hx)
theorem Small.take {l : List Nat} (h : Small l) (k : Nat) : Small (l.take k) := fun x hx => h x (List.mem_of_mem_take hx)
theorem some_at (l : List Nat) (j : Nat) (h : j < l.length) : ∃ x, l[j]? = some x := ⟨l[j], List.getElem?_eq_getElem h⟩

theorem div_parts {D k : Nat} (hk : (mag D).length = k + 2) : ∃ b0 b1 ld, (mag D)[k]? = some b0 ∧ (mag D)[k + 1]? = some b1 ∧ 0 < b1 ∧ b0 < BB ∧ b1 < BB ∧ ld < BB ^ k ∧ D = ld + BB ^ k * (b0 + BB * b1) := by
  obtain ⟨b0, h0⟩ := some_at (mag D) k (by omega)
  obtain ⟨b1, h1⟩ := some_at (mag D) (k + 1) (by omega)
  have hs := mag_small D
  refine ⟨b0, b1, mval ((mag D).take k), h0, h1, ?_, hs.at h0, hs.at h1, ?_, ?_⟩
  · have := mag_last D
    rw [List.getLast?_eq_getElem?, hk, show k + 2 - 1 = k + 1 by omega, h1] at this
    rcases Nat.eq_zero_or_pos b1 with rfl | h
    · exact absurd rfl this
    · exact h
  · have := mval_lt _ (hs.take k)
    rwa [List.length_take, hk, Nat.min_eq_left (by omega)] at this
  · have e := mval_take_drop (mag D) k (by omega)
    rw [mval_mag, mval_drop_cons h0, mval_drop_cons h1, show (mag D).drop (k + 1 + 1) = [] from List.drop_eq_nil_of_le (by omega)] at e
    simpa [mval] using e
theorem rem_parts {a : List Nat} {i k D : Nat} (ha : Small a) (hlen : i + k + 2 < a.length) (hlt : mval (a.drop (i + 1)) < D) (hD : D < BB ^ (k + 2)) :
    ∃ a0 a1 a2 lo, a[i + k]? = some a0 ∧ a[i + k + 1]? = some a1 ∧ a[i + k + 2]? = some a2 ∧ a0 < BB ∧ a1 < BB ∧ a2 < BB ∧ lo < BB ^ k ∧ mval (a.drop i) = lo + BB ^ k * (a0 + BB * (a1 + BB * a2)) ∧ mval (a.drop i) < BB * D ∧ mval (a.drop (i + k + 3)) = 0 := by
  obtain ⟨a0, h0⟩ := some_at a (i + k) (by omega)
  obtain ⟨a1, h1⟩ := some_at a (i + k + 1) (by omega)
  obtain ⟨a2, h2⟩ := some_at a (i + k + 2) (by omega)
  obtain ⟨ai, hi⟩ := some_at a i (by omega)
  have hz : mval (a.drop (i + k + 3)) = 0 := by
    have e := mval_take_drop (a.drop (i + 1)) (k + 2) (by rw [List.length_drop]; omega)
    rw [List.drop_drop, show i + 1 + (k + 2) = i + k + 3 by omega] at e
    rcases Nat.eq_zero_or_pos (mval (a.drop (i + k + 3))) with h | h
    · exact h
    · have : BB ^ (k + 2) * 1 ≤ BB ^ (k + 2) * mval (a.drop (i + k + 3)) := Nat.mul_le_mul_left _ h
      omega
  refine ⟨a0, a1, a2, mval ((a.drop i).take k), h0, h1, h2, ha.at h0, ha.at h1, ha.at h2, ?_, ?_, ?_, hz⟩
  · have := mval_lt _ ((ha.drop i).take k)
    rwa [List.length_take, List.length_drop, Nat.min_eq_left (by omega)] at this
  · have e := mval_take_drop (a.drop i) k (by rw [List.length_drop]; omega)
    rw [List.drop_drop, mval_drop_cons h0, mval_drop_cons h1, mval_drop_cons h2, hz] at e
    simpa using e
  · rw [mval_drop_cons hi]
    have h3 : BB * (mval (a.drop (i + 1)) + 1) ≤ BB * D := Nat.mul_le_mul_left _ hlt
    rw [Nat.mul_add] at h3
    have := ha.at hi
    omega

section
variable {P lo a0 a1 a2 ld b0 b1 R D : Nat}
theorem guess_lt (hD : 0 < D) (hR : R < BB * D) : R / D < BB := by
  rw [Nat.div_lt_iff_lt_mul hD]; exact hR
theorem guess_top (hR : R = lo + P * (a0 + BB * (a1 + BB * a2))) (hlo : lo < P) (hD : D = ld + P * (b0 + BB * b1)) : R / D * (b0 + BB * b1) ≤ a0 + BB * (a1 + BB * a2) := by
  have h1 : D * (R / D) ≤ R := Nat.mul_div_le R D
  generalize R / D = q at *
  generalize a0 + BB * (a1 + BB * a2) = T at *
  generalize b0 + BB * b1 = V at *
  have h2 : P * (q * V) ≤ P * T + lo := by
    have : P * (q * V) + q * ld = D * q := by rw [hD, Nat.add_mul, Nat.mul_comm q V, Nat.mul_assoc, Nat.mul_comm ld q]; omega
    omega
  have h3 : P * (q * V) < P * (T + 1) := by rw [Nat.mul_add]; omega
  have := Nat.lt_of_mul_lt_mul_left h3
  omega
theorem guess_b1 (hR : R = lo + P * (a0 + BB * (a1 + BB * a2))) (hlo : lo < P) (hD : D = ld + P * (b0 + BB * b1)) (ha0 : a0 < BB) : R / D * b1 ≤ a2 * BB + a1 := by
  have h := guess_top hR hlo hD
  generalize R / D = q at *
  rw [Nat.mul_add] at h
  have h1 : BB * (q * b1) < BB * (a2 * BB + a1 + 1) := by
    have : q * (BB * b1) = BB * (q * b1) := Nat.mul_left_comm _ _ _
    have e : BB * (a2 * BB + a1 + 1) = BB * (a1 + BB * a2) + BB := by rw [Nat.mul_comm a2 BB]; rw [Nat.mul_add]; rw [Nat.add_comm (BB * a2) a1]; omega
    omega
  have := Nat.lt_of_mul_lt_mul_left h1
  omega
theorem guess_init (hR : R = lo + P * (a0 + BB * (a1 + BB * a2))) (hlo : lo < P) (hD : D = ld + P * (b0 + BB * b1)) (ha0 : a0 < BB) (hb1 : 0 < b1) (hRD : R < BB * D) (hD0 : 0 < D) :
    R / D ≤ min ((a2 * BB + a1) / b1) (BB - 1) := by
  have h1 := guess_lt hD0 hRD
  have h2 := guess_b1 hR hlo hD ha0
  have h3 : R / D ≤ (a2 * BB + a1) / b1 := (Nat.le_div_iff_mul_le hb1).2 h2
  exact Nat.le_min.2 ⟨h3, Nat.le_sub_one_of_lt h1⟩
theorem guess_stop {g : Nat} (hR : R = lo + P * (a0 + BB * (a1 + BB * a2))) (hD : D = ld + P * (b0 + BB * b1)) (hld : ld < P) (hb1 : 0 < b1) (hb0 : b0 < BB) (hg : g < BB) (htop : g * b1 ≤ a2 * BB + a1)
    (h : BB ≤ a2 * BB + a1 - g * b1 ∨ g * b0 ≤ (a2 * BB + a1 - g * b1) * BB + a0) : g ≤ R / D + 1 := by
  have hD0 : 0 < D := by
    have : 0 < P * (b0 + BB * b1) := Nat.mul_pos (by omega) (by have := Nat.mul_pos BB_pos hb1; omega)
    omega
  -- in every case g * b2 ≤ top3
  have h3 : g * (b0 + BB * b1) ≤ a0 + BB * (a1 + BB * a2) := by
    obtain ⟨left, hleft⟩ : ∃ left, a2 * BB + a1 = g * b1 + left := ⟨a2 * BB + a1 - g * b1, by omega⟩
    rw [hleft, Nat.add_sub_cancel_left] at h
    have e : BB * (a1 + BB * a2) = BB * (g * b1) + BB * left := by rw [← Nat.mul_add, ← hleft, Nat.mul_comm a2 BB, Nat.add_comm]
    rw [e, Nat.mul_add, Nat.mul_left_comm g BB b1]
    rcases h with h | h
    · have h4 : g * b0 ≤ BB * BB := Nat.mul_le_mul (by omega) (by omega)
      have h5 : BB * BB ≤ BB * left := Nat.mul_le_mul_left _ h
      omega
    · rw [Nat.mul_comm left BB] at h
      omega
  -- (g - 1) * D ≤ R
  rcases Nat.eq_zero_or_pos g with rfl | hg0
  · exact Nat.zero_le _
  · obtain ⟨f, rfl⟩ : ∃ f, g = f + 1 := ⟨g - 1, by omega⟩
    suffices f ≤ R / D by omega
    rw [Nat.le_div_iff_mul_le hD0]
    have h6 : P * ((f + 1) * (b0 + BB * b1)) ≤ P * (a0 + BB * (a1 + BB * a2)) := Nat.mul_le_mul_left _ h3
    have h7 : f * ld ≤ BB * P := Nat.mul_le_mul (by omega) (by omega)
    have h8 : BB * P ≤ P * (b0 + BB * b1) := by
      rw [Nat.mul_comm BB P]
      refine Nat.mul_le_mul_left _ ?_
      have : BB * 1 ≤ BB * b1 := Nat.mul_le_mul_left _ hb1
      omega
    have e : f * D = f * ld + P * (f * (b0 + BB * b1)) := by rw [hD, Nat.mul_add, Nat.mul_left_comm]
    have e2 : P * ((f + 1) * (b0 + BB * b1)) = P * (f * (b0 + BB * b1)) + P * (b0 + BB * b1) := by rw [Nat.add_mul, Nat.one_mul, Nat.mul_add]
    omega
theorem guess_go {g : Nat} (hR : R = lo + P * (a0 + BB * (a1 + BB * a2))) (hlo : lo < P) (hD : D = ld + P * (b0 + BB * b1)) (htop : g * b1 ≤ a2 * BB + a1)
    (h : ¬ g * b0 ≤ (a2 * BB + a1 - g * b1) * BB + a0) : R / D < g := by
  have h1 := guess_top hR hlo hD
  rcases Nat.lt_or_ge (R / D) g with hh | hh
  · exact hh
  · exfalso
    have h2 : g * (b0 + BB * b1) ≤ R / D * (b0 + BB * b1) := Nat.mul_le_mul_right _ hh
    obtain ⟨left, hleft⟩ : ∃ left, a2 * BB + a1 = g * b1 + left := ⟨a2 * BB + a1 - g * b1, by omega⟩
    rw [hleft, Nat.add_sub_cancel_left] at h
    have e : BB * (a1 + BB * a2) = BB * (g * b1) + BB * left := by rw [← Nat.mul_add, ← hleft, Nat.mul_comm a2 BB, Nat.add_comm]
    rw [e] at h1
    have e2 : g * (b0 + BB * b1) = g * b0 + BB * (g * b1) := by rw [Nat.mul_add, Nat.mul_left_comm]
    rw [Nat.mul_comm left BB] at h
    omega
end

/-- one step of the subtraction, without a borrow -/
theorem sub_keep0 {a b o : List Nat} {i j g cy x y : Nat} (hx : o[i + j]? = some x) (hy : b[j]? = some y) (h : mval o + g * mval (b.take j) * BB ^ i = mval a + cy * BB ^ (i + j)) (hle : (g * y + cy) % BB ≤ x) :
    mval (o.set (i + j) (x - (g * y + cy) % BB)) + g * mval (b.take (j + 1)) * BB ^ i = mval a + ((g * y + cy) / BB) * BB ^ (i + (j + 1)) := by
  have h1 := mval_set o (i + j) x (x - (g * y + cy) % BB) hx
  rw [mval_take_succ, hy, Option.getD_some]
  have h2 := Nat.mod_add_div (g * y + cy) BB
  generalize (g * y + cy) % BB = r at *
  generalize (g * y + cy) / BB = q at *
  obtain ⟨d, rfl⟩ : ∃ d, x = d + r := ⟨x - r, by omega⟩
  rw [Nat.add_sub_cancel] at h1 ⊢
  rw [Nat.pow_add, Nat.pow_add, Nat.pow_succ] at *
  generalize BB ^ j = P at *
  generalize BB ^ i = Q at *
  generalize mval (b.take j) = M at *
  generalize mval (o.set (i + j) d) = V' at *
  have h3 : Q * P * (r + BB * q) = Q * P * (g * y + cy) := by rw [h2]
  grind
theorem sub_keep1 {a b o : List Nat} {i j g cy x y : Nat} (hx : o[i + j]? = some x) (hy : b[j]? = some y) (h : mval o + g * mval (b.take j) * BB ^ i = mval a + cy * BB ^ (i + j)) :
    mval (o.set (i + j) (x + BB - (g * y + cy) % BB)) + g * mval (b.take (j + 1)) * BB ^ i = mval a + ((g * y + cy) / BB + 1) * BB ^ (i + (j + 1)) := by
  have h1 := mval_set o (i + j) x (x + BB - (g * y + cy) % BB) hx
  rw [mval_take_succ, hy, Option.getD_some]
  have h2 := Nat.mod_add_div (g * y + cy) BB
  have h0 := Nat.mod_lt (g * y + cy) BB_pos
  generalize (g * y + cy) % BB = r at *
  generalize (g * y + cy) / BB = q at *
  obtain ⟨d, hd⟩ : ∃ d, x + BB = d + r := ⟨x + BB - r, by omega⟩
  rw [hd, Nat.add_sub_cancel] at h1 ⊢
  rw [Nat.pow_add, Nat.pow_add, Nat.pow_succ] at *
  generalize BB ^ j = P at *
  generalize BB ^ i = Q at *
  generalize mval (b.take j) = M at *
  generalize mval (o.set (i + j) d) = V' at *
  have h3 : Q * P * (r + BB * q) = Q * P * (g * y + cy) := by rw [h2]
  have h4 : Q * P * (x + BB) = Q * P * (d + r) := by rw [hd]
  grind
theorem sub_bound {g cy y x : Nat} (hg : g < BB) (hcy : cy < BB) (hy : y < BB) : g * y ≤ 999999998000000001 ∧ (g * y + cy) / BB < BB ∧ (x < (g * y + cy) % BB → (g * y + cy) / BB + 1 < BB) := by
  have h0 : g * y ≤ 999999998000000001 := Nat.mul_le_mul (show g ≤ 999999999 by unfold BB at hg; omega) (show y ≤ 999999999 by unfold BB at hy; omega)
  generalize g * y = p at *
  unfold BB at *
  refine ⟨h0, ?_, ?_⟩ <;> omega
theorem add_keep {o0 b o : List Nat} {i j cy x y : Nat} (hx : o[i + j]? = some x) (hy : b[j]? = some y) (h : mval o + cy * BB ^ (i + j) = mval o0 + mval (b.take j) * BB ^ i) :
    mval (o.set (i + j) ((x + (y + cy)) % BB)) + ((x + (y + cy)) / BB) * BB ^ (i + (j + 1)) = mval o0 + mval (b.take (j + 1)) * BB ^ i := by
  have h1 := mval_set o (i + j) x ((x + (y + cy)) % BB) hx
  rw [mval_take_succ, hy, Option.getD_some]
  have h2 := Nat.mod_add_div (x + (y + cy)) BB
  generalize (x + (y + cy)) % BB = r at *
  generalize (x + (y + cy)) / BB = q at *
  rw [Nat.pow_add, Nat.pow_add, Nat.pow_succ] at *
  generalize BB ^ j = P at *
  generalize BB ^ i = Q at *
  generalize mval (b.take j) = M at *
  generalize mval (o.set (i + j) r) = V' at *
  generalize mval o = V at *
  generalize mval o0 = U at *
  have h3 : Q * P * (r + BB * q) = Q * P * (x + (y + cy)) := by rw [h2]
  grind

/-- below i two lists are alike -/
def Alike (i : Nat) (a o : List Nat) : Prop := o.length = a.length ∧ ∀ t, t < i → o[t]? = a[t]?
theorem Alike.refl (i : Nat) (a : List Nat) : Alike i a a := ⟨rfl, fun _ _ => rfl⟩
theorem Alike.set {i j v : Nat} {a o : List Nat} (h : Alike i a o) (hj : i ≤ j) : Alike i a (o.set j v) :=
  ⟨by rw [List.length_set]; exact h.1, fun t ht => by rw [List.getElem?_set_ne (by omega)]; exact h.2 t ht⟩
theorem Alike.trans {i : Nat} {a o p : List Nat} (h : Alike i a o) (h2 : Alike i o p) : Alike i a p := ⟨h2.1.trans h.1, fun t ht => (h2.2 t ht).trans (h.2 t ht)⟩
theorem Alike.take {i : Nat} {a o : List Nat} (h : Alike i a o) : o.take i = a.take i := by
  apply List.ext_getElem?
  intro t
  rw [List.getElem?_take, List.getElem?_take]
  by_cases ht : t < i
  · rw [if_pos ht, if_pos ht]; exact h.2 t ht
  · rw [if_neg ht, if_neg ht]
theorem Alike.drop {i : Nat} {a o : List Nat} (h : Alike i a o) (hi : i ≤ a.length) {u v : Nat} (e : mval o + u * BB ^ i = mval a + v * BB ^ i) : mval (o.drop i) + u = mval (a.drop i) + v := by
  have h1 := mval_take_drop o i (by rw [h.1]; exact hi)
  have h2 := mval_take_drop a i hi
  rw [h.take] at h1
  rw [h1, h2] at e
  generalize mval (a.take i) = T at *
  have h3 : BB ^ i * (mval (o.drop i) + u) = BB ^ i * (mval (a.drop i) + v) := by
    rw [Nat.mul_add, Nat.mul_add, Nat.mul_comm _ u, Nat.mul_comm _ v]; omega
  exact Nat.eq_of_mul_eq_mul_left (Nat.pow_pos BB_pos) h3
/-- the groups behind the subtraction's own: those of the list before -/
theorem drop_top {a o : List Nat} {i k a2 : Nat} (ho : Small o) (hl : o.length = a.length) (h2 : a[i + k]? = some a2) (hz : mval (a.drop (i + k + 1)) = 0) (hs : ∀ t, i + k ≤ t → o[t]? = a[t]?) :
    ∃ lo, lo < BB ^ k ∧ mval (o.drop i) = lo + BB ^ k * a2 := by
  have hlen : i + k < a.length := by
    rcases Nat.lt_or_ge (i + k) a.length with h | h
    · exact h
    · rw [List.getElem?_eq_none h] at h2; cases h2
  have e := mval_take_drop (o.drop i) k (by rw [List.length_drop]; omega)
  have ho2 : o[i + k]? = some a2 := (hs (i + k) (Nat.le_refl _)).trans h2
  have hd : o.drop (i + k + 1) = a.drop (i + k + 1) := by
    apply List.ext_getElem?
    intro t
    rw [List.getElem?_drop, List.getElem?_drop]
    exact hs _ (by omega)
  rw [List.drop_drop, mval_drop_cons ho2, hd, hz, Nat.mul_zero, Nat.add_zero] at e
  refine ⟨_, ?_, e⟩
  have := mval_lt _ ((ho.drop i).take k)
  rwa [List.length_take, List.length_drop, Nat.min_eq_left (by omega)] at this

theorem div_unique {R D g r : Nat} (h : r + g * D = R) (hr : r < D) : g = R / D ∧ r = R % D := by
  subst h
  rw [Nat.add_mul_div_right _ _ (by omega), Nat.div_eq_of_lt hr, Nat.add_mul_mod_self_right, Nat.mod_eq_of_lt hr]
  simp
/-- nothing to be added back -/
theorem sub_end0 {a o : List Nat} {i k g cy a2 D : Nat} (hal : Alike i a o) (hlen : i + k < a.length) (ho2 : o[i + k]? = some a2) (h : mval o + g * D * BB ^ i = mval a + cy * BB ^ (i + k)) (hle : cy ≤ a2)
    (hq : mval (a.drop i) / D ≤ g) (hD : 0 < D) : g = mval (a.drop i) / D ∧ mval ((o.set (i + k) (a2 - cy)).drop i) = mval (a.drop i) % D := by
  have h1 := mval_set o (i + k) a2 (a2 - cy) ho2
  have hal' : Alike i a (o.set (i + k) (a2 - cy)) := hal.set (by omega)
  have e : mval (o.set (i + k) (a2 - cy)) + (g * D) * BB ^ i = mval a + 0 * BB ^ i := by
    obtain ⟨d, rfl⟩ : ∃ d, a2 = d + cy := ⟨a2 - cy, by omega⟩
    rw [Nat.add_sub_cancel] at h1 ⊢
    rw [Nat.mul_add, Nat.mul_comm _ cy] at h1
    omega
  have e2 := hal'.drop (by omega) e
  rw [Nat.add_zero] at e2
  have hg : g ≤ mval (a.drop i) / D := by rw [Nat.le_div_iff_mul_le hD]; omega
  obtain rfl : g = mval (a.drop i) / D := by omega
  refine ⟨rfl, ?_⟩
  have := Nat.mod_add_div (mval (a.drop i)) D
  rw [Nat.mul_comm] at this
  omega
/-- one too many -/
theorem sub_end1 {a o : List Nat} {i k g cy a2 D : Nat} (ho : Small o) (hal : Alike i a o) (h2 : a[i + k]? = some a2) (hz : mval (a.drop (i + k + 1)) = 0) (hs : ∀ t, i + k ≤ t → o[t]? = a[t]?)
    (h : mval o + g * D * BB ^ i = mval a + cy * BB ^ (i + k)) (hlt : a2 < cy) (hq : g ≤ mval (a.drop i) / D + 1) (hD : 0 < D) : g = mval (a.drop i) / D + 1 := by
  have hlen : i + k < a.length := by
    rcases Nat.lt_or_ge (i + k) a.length with h | h
    · exact h
    · rw [List.getElem?_eq_none h] at h2; cases h2
  obtain ⟨lo, hlo, e⟩ := drop_top ho hal.1 h2 hz hs
  have e2 : mval o + (g * D) * BB ^ i = mval a + (cy * BB ^ k) * BB ^ i := by rw [h, Nat.pow_add, Nat.mul_assoc cy, Nat.mul_comm (BB ^ i)]
  have e3 := hal.drop (by omega) e2
  have h3 : BB ^ k * (a2 + 1) ≤ BB ^ k * cy := Nat.mul_le_mul_left _ hlt
  rw [Nat.mul_add, Nat.mul_comm _ cy] at h3
  have h4 : mval (a.drop i) < g * D := by omega
  have h5 : mval (a.drop i) / D < g := by rw [Nat.div_lt_iff_lt_mul hD]; exact h4
  omega
theorem add_end {a o p : List Nat} {i k g cy c a2 D : Nat} (hp : Small p) (hal : Alike i a o) (hap : Alike i o p) (h2 : a[i + k]? = some a2) (hz : mval (a.drop (i + k + 1)) = 0) (hs : ∀ t, i + k ≤ t → o[t]? = a[t]?) (hsp : ∀ t, i + k ≤ t → p[t]? = o[t]?)
    (h : mval o + g * D * BB ^ i = mval a + cy * BB ^ (i + k)) (hg : g = mval (a.drop i) / D + 1) (hD : 0 < D) (hDk : D < BB ^ k) (h3 : mval p + c * BB ^ (i + k) = mval o + D * BB ^ i) :
    a2 + c = cy ∧ mval ((p.set (i + k) 0).drop i) = mval (a.drop i) % D := by
  have hlen : i + k < a.length := by
    rcases Nat.lt_or_ge (i + k) a.length with h | h
    · exact h
    · rw [List.getElem?_eq_none h] at h2; cases h2
  have hsp' : ∀ t, i + k ≤ t → p[t]? = a[t]? := fun t ht => (hsp t ht).trans (hs t ht)
  have hap' := hal.trans hap
  obtain ⟨lo, hlo, e⟩ := drop_top hp hap'.1 h2 hz hsp'
  have e2 : mval p + (c * BB ^ k + mval (a.drop i) / D * D) * BB ^ i = mval a + (cy * BB ^ k) * BB ^ i := by
    rw [Nat.pow_add] at h h3
    subst hg
    generalize mval (a.drop i) / D = q at *
    generalize BB ^ i = Q at *
    generalize BB ^ k = P at *
    grind
  have e3 := hap'.drop (by omega) e2
  have h5 := Nat.mod_add_div (mval (a.drop i)) D
  have h6 := Nat.mod_lt (mval (a.drop i)) hD
  rw [Nat.mul_comm D] at h5
  have e4 : lo + BB ^ k * (a2 + c) = mval (a.drop i) % D + BB ^ k * cy := by rw [Nat.mul_add, Nat.mul_comm _ c, Nat.mul_comm _ cy]; omega
  have hc : a2 + c = cy := by
    have d1 : (lo + BB ^ k * (a2 + c)) / BB ^ k = a2 + c := by rw [Nat.add_mul_div_left _ _ (Nat.pow_pos BB_pos), Nat.div_eq_of_lt hlo, Nat.zero_add]
    rw [e4, Nat.add_mul_div_left _ _ (Nat.pow_pos BB_pos), Nat.div_eq_of_lt (by omega), Nat.zero_add] at d1
    exact d1.symm
  subst hc
  refine ⟨rfl, ?_⟩
  have hp2 : p[i + k]? = some a2 := (hsp' (i + k) (Nat.le_refl _)).trans h2
  have h7 := mval_set p (i + k) a2 0 hp2
  have e5 : mval (p.set (i + k) 0) + (BB ^ k * a2) * BB ^ i = mval p + 0 * BB ^ i := by
    rw [Nat.pow_add] at h7
    generalize BB ^ i = Q at *
    generalize BB ^ k = P at *
    grind
  have e6 := (Alike.refl i p).set (v := 0) (show i ≤ i + k by omega)
  have e7 := e6.drop (by rw [hap'.1]; omega) e5
  omega

/-- the multiplied divisor: as many groups, and it divides as the divisor does -/
theorem scale_pos {v : Nat} (hv : v < BB) : 0 < BB / (v + 1) := Nat.div_pos (by omega) (by omega)
theorem scale_len {n k v : Nat} (hk : (mag n).length = k + 1) (hv : (mag n)[k]? = some v) : (mag (n * (BB / (v + 1)))).length = k + 1 := by
  have hvb := (mag_small n).at hv
  have hs := scale_pos hvb
  have hv2 := Nat.mul_div_le BB (v + 1)
  generalize BB / (v + 1) = s at *
  have h1 : n < BB ^ k * (v + 1) := by
    have e := mval_take_drop (mag n) k (by omega)
    rw [mval_mag, mval_drop_cons hv, show (mag n).drop (k + 1) = [] from List.drop_eq_nil_of_le (by omega)] at e
    have := mval_lt _ ((mag_small n).take k)
    rw [List.length_take, hk, Nat.min_eq_left (by omega)] at this
    simp only [mval, Nat.mul_zero, Nat.add_zero] at e
    rw [Nat.mul_add]; omega
  have h2 : (mag (n * s)).length ≤ k + 1 := by
    rw [mag_len_lt, Nat.pow_succ]
    have h3 : n * s < BB ^ k * (v + 1) * s := Nat.mul_lt_mul_of_pos_right h1 hs
    have h4 : BB ^ k * ((v + 1) * s) ≤ BB ^ k * BB := Nat.mul_le_mul_left _ hv2
    rw [← Nat.mul_assoc] at h4
    omega
  have h5 : ¬ (mag (n * s)).length ≤ k := by
    intro h
    rw [mag_len_lt] at h
    have h6 : n * 1 ≤ n * s := Nat.mul_le_mul_left _ hs
    have h7 : (mag n).length ≤ k := mag_len_lt.2 (by omega)
    omega
  omega
theorem scale_end {m n s r Q : Nat} (hs : 0 < s) (h : r + Q * (n * s) = m * s) (hr : r < n * s) : Q = m / n ∧ r / s = m % n := by
  obtain ⟨h1, h2⟩ := div_unique h hr
  rw [Nat.mul_div_mul_right _ _ hs] at h1
  rw [Nat.mul_mod_mul_right] at h2
  exact ⟨h1, by rw [h2, Nat.mul_div_cancel _ hs]⟩
/-- one quotient's group more -/
theorem quot_keep {a o q : List Nat} {i D A g : Nat} (hal : Alike i a o) (hi : i ≤ a.length) (hq : q[i]? = some 0) (h : mval a + mval q * D = A) (hg : g = mval (a.drop i) / D) (ho : mval (o.drop i) = mval (a.drop i) % D) :
    mval o + mval (q.set i g) * D = A := by
  have h1 := mval_take_drop o i (by rw [hal.1]; exact hi)
  have h2 := mval_take_drop a i hi
  rw [hal.take, ho] at h1
  have h3 := mval_set q i 0 g hq
  have h4 := Nat.mod_add_div (mval (a.drop i)) D
  rw [← hg] at h4
  generalize mval (a.drop i) % D = r at *
  generalize mval (a.drop i) = R at *
  generalize mval (a.take i) = T at *
  generalize mval (q.set i g) = q' at *
  generalize mval a = U at *
  generalize mval o = V at *
  generalize mval q = W at *
  generalize BB ^ i = P at *
  subst h4
  grind
end Dec
end Go.Proofs.YtonopbelbehheaaGreatDoor
