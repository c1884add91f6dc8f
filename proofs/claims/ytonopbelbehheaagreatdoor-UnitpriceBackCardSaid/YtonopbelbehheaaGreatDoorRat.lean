/- Fractions as rational numbers: numerators, denominators, sizes, comparisons. No condition. -/
namespace QQ
/-- the value of a pair of integers, where a denominator of 0 stands for 1 -/
def rat (n d : Int) : Rat := if d = 0 then (n : Rat) else (n : Rat) / (d : Rat)
theorem rat_zero (n : Int) : rat n 0 = (n : Rat) := if_pos rfl
theorem rat_of {n d : Int} (h : d ≠ 0) : rat n d = (n : Rat) / (d : Rat) := if_neg h
theorem rat_divInt {n d : Int} (h : d ≠ 0) : rat n d = Rat.divInt n d := by rw [rat_of h, Rat.divInt_eq_div]
theorem rat_one (n : Int) : rat n 1 = (n : Rat) := by rw [rat_of (by decide)]; show (n : Rat) / 1 = n; grind
theorem intCast_ne {d : Int} (h : d ≠ 0) : (d : Rat) ≠ 0 := by
  intro e
  exact h (Rat.intCast_inj.1 (by rw [e]; rfl))
theorem rat_neg (n d : Int) (h : d ≠ 0) : rat (-n) (-d) = rat n d := by
  rw [rat_of h, rat_of (by omega)]
  have := intCast_ne h
  rw [Rat.intCast_neg, Rat.intCast_neg]
  grind
theorem rat_negn (n d : Int) : rat (-n) d = -rat n d := by
  unfold rat
  split <;> grind
theorem fdiv_gcd (n : Int) (d : Int) (m : Int) : m.fdiv (Nat.gcd n.natAbs d.natAbs : Nat) = m / (Int.gcd d n : Nat) := by
  rw [Int.fdiv_eq_ediv_of_nonneg _ (Int.natCast_nonneg _)]
  show _ = m / ((Nat.gcd d.natAbs n.natAbs : Nat) : Int)
  rw [Nat.gcd_comm]
theorem rat_num {n d : Int} (h : 0 < d) : (rat n d).num = n.fdiv (Nat.gcd n.natAbs d.natAbs : Nat) := by
  rw [rat_divInt (by omega), Rat.num_divInt, Int.sign_eq_one_of_pos h, Int.one_mul, fdiv_gcd]
theorem rat_den {n d : Int} (h : 0 < d) : ((rat n d).den : Int) = d.fdiv (Nat.gcd n.natAbs d.natAbs : Nat) := by
  rw [rat_divInt (by omega), Rat.den_divInt, if_neg (by omega), fdiv_gcd]
  rw [Int.natCast_ediv]
  congr 1
  omega
theorem rat_num_den (q : Rat) : rat q.num q.den = q := by
  rw [rat_divInt (by have := q.den_nz; omega), Rat.num_divInt_den]
theorem rat_le {n d : Int} : (rat n d).num.natAbs ≤ n.natAbs ∧ (d ≠ 0 → (rat n d).den ≤ d.natAbs) ∧ (d = 0 → (rat n d).den = 1) := by
  by_cases h : d = 0
  · subst h
    rw [rat_zero]
    exact ⟨by simp, by simp, by simp⟩
  · refine ⟨?_, fun _ => ?_, fun e => absurd e h⟩
    · rw [rat_divInt h, Rat.num_divInt]
      refine Nat.le_trans (Int.natAbs_ediv_le_natAbs _ _) ?_
      rw [Int.natAbs_mul]
      have : d.sign.natAbs ≤ 1 := by rcases Int.lt_trichotomy d 0 with h1 | h1 | h1
                                     · rw [Int.sign_eq_neg_one_of_neg h1]; decide
                                     · exact absurd h1 h
                                     · rw [Int.sign_eq_one_of_pos h1]; decide
      calc d.sign.natAbs * n.natAbs ≤ 1 * n.natAbs := Nat.mul_le_mul_right _ this
        _ = n.natAbs := Nat.one_mul _
    · rw [rat_divInt h, Rat.den_divInt, if_neg h]
      exact Nat.div_le_self _ _
theorem rat_add {a b c d : Int} (hb : b ≠ 0) (hd : d ≠ 0) : rat (a * d + c * b) (b * d) = rat a b + rat c d := by
  have h1 := intCast_ne hb
  have h2 := intCast_ne hd
  rw [rat_of hb, rat_of hd, rat_of (Int.mul_ne_zero hb hd)]
  rw [Rat.intCast_add, Rat.intCast_mul, Rat.intCast_mul, Rat.intCast_mul]
  grind
theorem rat_sub {a b c d : Int} (hb : b ≠ 0) (hd : d ≠ 0) : rat (a * d - c * b) (b * d) = rat a b - rat c d := by
  have h1 := intCast_ne hb
  have h2 := intCast_ne hd
  rw [rat_of hb, rat_of hd, rat_of (Int.mul_ne_zero hb hd)]
  rw [Rat.intCast_sub, Rat.intCast_mul, Rat.intCast_mul, Rat.intCast_mul]
  grind
theorem rat_mul {a b c d : Int} (hb : b ≠ 0) (hd : d ≠ 0) : rat (a * c) (b * d) = rat a b * rat c d := by
  have h1 := intCast_ne hb
  have h2 := intCast_ne hd
  rw [rat_of hb, rat_of hd, rat_of (Int.mul_ne_zero hb hd)]
  rw [Rat.intCast_mul, Rat.intCast_mul]
  grind
theorem rat_quo {a b c d : Int} (hb : b ≠ 0) (hc : c ≠ 0) (hd : d ≠ 0) : rat (a * d) (b * c) = rat a b / rat c d := by
  have h1 := intCast_ne hb
  have h2 := intCast_ne hd
  have h3 := intCast_ne hc
  rw [rat_of hb, rat_of hd, rat_of (Int.mul_ne_zero hb hc)]
  rw [Rat.intCast_mul, Rat.intCast_mul]
  grind
theorem rat_ne {c d : Int} (hc : c ≠ 0) : rat c d ≠ 0 := by
  have h3 := intCast_ne hc
  by_cases hd : d = 0
  · subst hd; rw [rat_zero]; exact h3
  · have h2 := intCast_ne hd
    rw [rat_of hd]
    grind
theorem rat_eq_zero {c d : Int} : rat c d = 0 ↔ c = 0 := by
  refine ⟨fun h => Decidable.byContradiction fun hc => rat_ne hc h, fun h => ?_⟩
  subst h
  unfold rat
  split
  · rfl
  · show (0 : Rat) / (d : Rat) = 0; rw [Rat.div_def, Rat.zero_mul]
/-- the sign of a comparison -/
def cmpQ (x y : Rat) : Int := if x < y then -1 else if x = y then 0 else 1
theorem cmpQ_neg {x y : Rat} : cmpQ x y < 0 ↔ x < y := by
  unfold cmpQ
  split
  · simp [*]
  · split <;> simp [*]
theorem num_sub_neg (x y : Rat) : (x - y).num < 0 ↔ x < y := by
  have h : (x - y).num < 0 ↔ ¬ 0 ≤ x - y := by rw [← Rat.num_nonneg]; omega
  rw [h]
  grind
theorem num_sub_zero (x y : Rat) : (x - y).num = 0 ↔ x = y := by
  rw [Rat.num_eq_zero]
  grind
theorem cmp_num (x y : Rat) : (if (x - y).num < 0 then -1 else if (x - y).num = 0 then 0 else 1 : Int) = cmpQ x y := by
  unfold cmpQ
  simp only [num_sub_neg, num_sub_zero]
theorem cmp_cross {a b c d : Int} (hb : 0 < b) (hd : 0 < d) : (if a * d < c * b then -1 else if a * d = c * b then 0 else 1 : Int) = cmpQ (rat a b) (rat c d) := by
  have h1 : (0 : Rat) < (b : Rat) := Rat.intCast_pos.2 hb
  have h2 : (0 : Rat) < (d : Rat) := Rat.intCast_pos.2 hd
  have e1 : a * d < c * b ↔ rat a b < rat c d := by
    rw [rat_of (by omega), rat_of (by omega), Rat.div_lt_iff h1, ← Rat.intCast_lt_intCast, Rat.intCast_mul, Rat.intCast_mul]
    have : (c : Rat) / d * b = c * b / d := by grind
    rw [this, Rat.lt_div_iff h2]
  have e2 : a * d = c * b ↔ rat a b = rat c d := by
    rw [rat_of (by omega), rat_of (by omega), ← Rat.intCast_inj, Rat.intCast_mul, Rat.intCast_mul]
    grind
  unfold cmpQ
  simp only [e1, e2]
theorem floor_rat {n d : Int} (h : d ≠ 0) : n.fdiv d = (rat n d).floor := by
  rcases Int.lt_trichotomy d 0 with h1 | h1 | h1
  · rw [← Int.neg_fdiv_neg, ← rat_neg _ _ h]
    rw [Int.fdiv_eq_ediv_of_nonneg _ (by omega)]
    have hm := rat_divInt (n := -n) (d := -d) (by omega)
    obtain ⟨m, hm2⟩ : ∃ m : Nat, -d = m := ⟨(-d).toNat, by omega⟩
    rw [hm2] at hm ⊢
    rw [hm]
    apply Int.le_antisymm
    · rw [Rat.le_floor_iff, Rat.divInt_eq_div]
      have hp : (0 : Rat) < ((m : Int) : Rat) := Rat.intCast_pos.2 (by omega)
      rw [← Rat.not_lt, Rat.div_lt_iff hp, Rat.not_lt, ← Rat.intCast_mul, Rat.intCast_le_intCast]
      exact Int.ediv_mul_le _ (by omega)
    · have : (Rat.divInt (-n) m).floor < (-n) / (m : Int) + 1 := by
        rw [Rat.floor_lt_iff, Rat.divInt_eq_div]
        have hp : (0 : Rat) < ((m : Int) : Rat) := Rat.intCast_pos.2 (by omega)
        rw [Rat.div_lt_iff hp, ← Rat.intCast_mul, Rat.intCast_lt_intCast]
        exact Int.lt_ediv_add_one_mul_self _ (by omega)
      omega
  · exact absurd h1 h
  · rw [Int.fdiv_eq_ediv_of_nonneg _ (by omega)]
    have hm := rat_divInt (n := n) (d := d) (by omega)
    rw [hm]
    have hp : (0 : Rat) < (d : Rat) := Rat.intCast_pos.2 (by omega)
    apply Int.le_antisymm
    · rw [Rat.le_floor_iff, Rat.divInt_eq_div]
      rw [← Rat.not_lt, Rat.div_lt_iff hp, Rat.not_lt, ← Rat.intCast_mul, Rat.intCast_le_intCast]
      exact Int.ediv_mul_le _ (by omega)
    · have : (Rat.divInt n d).floor < n / d + 1 := by
        rw [Rat.floor_lt_iff, Rat.divInt_eq_div]
        rw [Rat.div_lt_iff hp, ← Rat.intCast_mul, Rat.intCast_lt_intCast]
        exact Int.lt_ediv_add_one_mul_self _ (by omega)
      omega
/-- numerator and denominator of at most k digits -/
def FitQ (k : Nat) (q : Rat) : Prop := q.num.natAbs < 10 ^ k ∧ q.den < 10 ^ k
theorem pow_le {k m : Nat} (h : k ≤ m) : 10 ^ k ≤ 10 ^ m := Nat.pow_le_pow_right (by omega) h
theorem FitQ.mono {k m : Nat} {q : Rat} (h : FitQ k q) (hk : k ≤ m) : FitQ m q := ⟨Nat.lt_of_lt_of_le h.1 (pow_le hk), Nat.lt_of_lt_of_le h.2 (pow_le hk)⟩
theorem FitQ.rat {k m : Nat} {n d : Int} (hn : n.natAbs < 10 ^ k) (hd : d.natAbs < 10 ^ m) (hm : 1 ≤ m) : FitQ (max k m) (rat n d) := by
  have h := rat_le (n := n) (d := d)
  refine ⟨Nat.lt_of_lt_of_le (Nat.lt_of_le_of_lt h.1 hn) (pow_le (by omega)), ?_⟩
  by_cases e : d = 0
  · rw [h.2.2 e]
    have := pow_le (show 1 ≤ max k m by omega)
    omega
  · exact Nat.lt_of_lt_of_le (Nat.lt_of_le_of_lt (h.2.1 e) hd) (pow_le (by omega))
theorem FitQ.int {k : Nat} {z : Int} (h : z.natAbs < 10 ^ k) (hk : 1 ≤ k) : FitQ k (z : Rat) := by
  refine ⟨h, ?_⟩
  have := pow_le hk
  simp
  omega
theorem den_pos (q : Rat) : 1 ≤ q.den := Nat.pos_of_ne_zero q.den_nz
theorem FitQ.of_rat {k m : Nat} {q : Rat} {n d : Int} (e : q = QQ.rat n d) (hn : n.natAbs < 10 ^ k) (hd : d.natAbs < 10 ^ m) (hm : m ≤ k) (h1 : 1 ≤ m) : FitQ k q := by
  rw [e]
  exact (FitQ.rat hn hd h1).mono (by omega)
theorem mul_lt10 {a b k m : Nat} (ha : a < 10 ^ k) (hb : b < 10 ^ m) : a * b < 10 ^ (k + m) := by
  rw [Nat.pow_add]
  exact Nat.mul_lt_mul_of_lt_of_le ha (Nat.le_of_lt hb) (Nat.pow_pos (by omega))
theorem FitQ.pos {k : Nat} {q : Rat} (h : FitQ k q) : 1 ≤ k := by
  rcases Nat.lt_or_ge k 1 with h1 | h1
  · have h2 := h.2
    have h3 := den_pos q
    obtain rfl : k = 0 := by omega
    simp at h2
    omega
  · exact h1
theorem nz (q : Rat) : (q.den : Int) ≠ 0 := by have := q.den_nz; omega
theorem FitQ.mul {k m : Nat} {p q : Rat} (h : FitQ k p) (h2 : FitQ m q) : FitQ (k + m) (p * q) := by
  refine FitQ.of_rat (n := p.num * q.num) (d := p.den * q.den) (k := k + m) (m := k + m) ?_ ?_ ?_ (Nat.le_refl _) (by have := h.pos; omega)
  · rw [rat_mul (nz p) (nz q), rat_num_den, rat_num_den]
  · rw [Int.natAbs_mul]; exact mul_lt10 h.1 h2.1
  · rw [Int.natAbs_mul]; exact mul_lt10 h.2 h2.2
theorem FitQ.add {k m : Nat} {p q : Rat} (h : FitQ k p) (h2 : FitQ m q) : FitQ (k + m + 1) (p + q) := by
  refine FitQ.of_rat (n := p.num * q.den + q.num * p.den) (d := p.den * q.den) (k := k + m + 1) (m := k + m) ?_ ?_ ?_ (by omega) (by have := h.pos; omega)
  · rw [rat_add (nz p) (nz q), rat_num_den, rat_num_den]
  · have a1 := mul_lt10 h.1 h2.2
    have a2 := mul_lt10 h2.1 h.2
    rw [Nat.add_comm m k] at a2
    have := Int.natAbs_add_le (p.num * q.den) (q.num * p.den)
    rw [Int.natAbs_mul, Int.natAbs_mul, Int.natAbs_natCast, Int.natAbs_natCast] at this
    rw [Nat.pow_succ]
    omega
  · rw [Int.natAbs_mul]; exact mul_lt10 h.2 h2.2
theorem FitQ.neg {k : Nat} {q : Rat} (h : FitQ k q) : FitQ k (-q) := by
  refine ⟨?_, h.2⟩
  rw [Rat.neg_num, Int.natAbs_neg]
  exact h.1
theorem FitQ.sub {k m : Nat} {p q : Rat} (h : FitQ k p) (h2 : FitQ m q) : FitQ (k + m + 1) (p - q) := by
  rw [Rat.sub_eq_add_neg]
  exact h.add h2.neg
theorem FitQ.inv {k : Nat} {q : Rat} (h : FitQ k q) : FitQ k q⁻¹ := by
  have hp := pow_le h.pos
  refine ⟨?_, ?_⟩
  · rw [Rat.num_inv, Int.natAbs_mul, Int.natAbs_natCast]
    have : q.num.sign.natAbs ≤ 1 := by
      rcases Int.lt_trichotomy q.num 0 with h1 | h1 | h1
      · rw [Int.sign_eq_neg_one_of_neg h1]; decide
      · rw [h1]; decide
      · rw [Int.sign_eq_one_of_pos h1]; decide
    exact Nat.lt_of_le_of_lt (Nat.le_trans (Nat.mul_le_mul_right _ this) (by omega)) h.2
  · rw [Rat.den_inv]
    split
    · omega
    · exact h.1
theorem FitQ.div {k m : Nat} {p q : Rat} (h : FitQ k p) (h2 : FitQ m q) : FitQ (k + m) (p / q) := by
  rw [Rat.div_def]
  exact h.mul h2.inv
end QQ
