/- Dates: the plain laws of years, months and days from 1900 on. No condition. Parts of years as rational numbers: the plain laws. No condition. Parts of years: what Fraction returns, and the plain laws of it. No condition. -/
import Derived.Test.YtahpbnmbphobgaaGreatDoorFa
namespace Go.Proofs.YtahpbnmbphobgaaGreatDoor
open Go.RowKit Go.Shelf Dec

/-- leap years -/
def leapN (y : Nat) : Bool := (y % 4 == 0 && !(y % 100 == 0)) || y % 400 == 0
/-- days of a year -/
def ylen (y : Nat) : Nat := if leapN y then 366 else 365
/-- days from January 1, 1900 to the beginning of a year -/
def beginN (y : Nat) : Nat := 365 * (y - 1900) + ((y - 1) / 4 + (y - 1) / 400 - (y - 1) / 100) - 460
/-- days of a month -/
def lenN (y m : Nat) : Nat := if m = 2 ∧ leapN y = true then 29 else [0, 31, 28, 31, 30, 31, 30, 31, 31, 30, 31, 30, 31].getD m 0
/-- days of a year before a month -/
def cumN (y : Nat) : Nat → Nat
  | 0 => 0
  | m + 1 => cumN y m + lenN y m
theorem begin_first : beginN 1900 = 0 := by decide
theorem begin_end : beginN 2200 = 109573 := by decide
theorem div_step4 (y : Nat) (h : 1 ≤ y) : y / 4 = (y - 1) / 4 + if y % 4 = 0 then 1 else 0 := by split <;> omega
theorem div_step100 (y : Nat) (h : 1 ≤ y) : y / 100 = (y - 1) / 100 + if y % 100 = 0 then 1 else 0 := by split <;> omega
theorem div_step400 (y : Nat) (h : 1 ≤ y) : y / 400 = (y - 1) / 400 + if y % 400 = 0 then 1 else 0 := by split <;> omega
theorem leapN_eq (y : Nat) : leapN y = decide ((y % 4 = 0 ∧ ¬ y % 100 = 0) ∨ y % 400 = 0) := by
  unfold leapN
  by_cases h4 : y % 4 = 0 <;> by_cases h1 : y % 100 = 0 <;> by_cases h400 : y % 400 = 0 <;> simp [h4, h1, h400]
set_option maxRecDepth 100000 in
theorem begin_next {y : Nat} (h : 1900 ≤ y) : beginN (y + 1) = beginN y + ylen y := by
  have a4 := div_step4 y (by omega)
  have a1 := div_step100 y (by omega)
  have a400 := div_step400 y (by omega)
  have hl : ylen y = if (y % 4 = 0 ∧ ¬ y % 100 = 0) ∨ y % 400 = 0 then 366 else 365 := by
    unfold ylen
    rw [leapN_eq]
    by_cases hh : (y % 4 = 0 ∧ ¬ y % 100 = 0) ∨ y % 400 = 0 <;> simp [hh]
  have b1 : y % 100 = 0 → y % 4 = 0 := by omega
  have b4 : y % 400 = 0 → y % 100 = 0 := by omega
  have c : 460 ≤ (y - 1) / 4 + (y - 1) / 400 - (y - 1) / 100 := by omega
  have c2 : (y - 1) / 100 ≤ (y - 1) / 4 := by omega
  have k : y + 1 - 1900 = (y - 1900) + 1 := by omega
  rw [hl]
  unfold beginN
  rw [Nat.add_sub_cancel, a4, a1, a400, k]
  by_cases h4 : y % 4 = 0
  · by_cases h1 : y % 100 = 0
    · by_cases h400 : y % 400 = 0
      · rw [if_pos h4, if_pos h1, if_pos h400, if_pos (.inr h400)]; omega
      · rw [if_pos h4, if_pos h1, if_neg h400, if_neg (fun hh => by rcases hh with hh | hh; exact hh.2 h1; exact h400 hh)]; omega
    · rw [if_pos h4, if_neg h1, if_neg (fun hh => h1 (b4 hh)), if_pos (.inl ⟨h4, h1⟩)]; omega
  · rw [if_neg h4, if_neg (fun hh => h4 (b1 hh)), if_neg (fun hh => h4 (b1 (b4 hh))), if_neg (fun hh => by rcases hh with hh | hh; exact h4 hh.1; exact h4 (b1 (b4 hh)))]; omega
theorem ylen_ge (y : Nat) : 365 ≤ ylen y ∧ ylen y ≤ 366 := by unfold ylen; split <;> omega
theorem lenN_cases {y m : Nat} (h1 : 1 ≤ m) (h2 : m ≤ 12) : 28 ≤ lenN y m ∧ lenN y m ≤ 31 := by
  unfold lenN
  split
  · omega
  · rename_i h
    match m, h1, h2 with
    | 1, _, _ | 2, _, _ | 3, _, _ | 4, _, _ | 5, _, _ | 6, _, _ | 7, _, _ | 8, _, _ | 9, _, _ | 10, _, _ | 11, _, _ | 12, _, _ => simp
theorem cum_zero (y : Nat) : cumN y 1 = 0 := by simp [cumN, lenN]
theorem cum_next (y m : Nat) : cumN y (m + 1) = cumN y m + lenN y m := rfl
theorem cum_end (y : Nat) : cumN y 13 = ylen y := by
  unfold ylen
  cases h : leapN y <;> simp [cumN, lenN, h]
theorem begin_mono {y z : Nat} (h : 1900 ≤ y) (hz : y ≤ z) : beginN y ≤ beginN z := by
  induction z with
  | zero => omega
  | succ z ih =>
    by_cases e : y = z + 1
    · rw [e]; exact Nat.le_refl _
    · rw [begin_next (by omega)]; have := ih (by omega); omega
theorem cum_mono {y m k : Nat} (hz : m ≤ k) : cumN y m ≤ cumN y k := by
  induction k with
  | zero => have : m = 0 := by omega
            rw [this]; exact Nat.le_refl _
  | succ z ih =>
    by_cases e : m = z + 1
    · rw [e]; exact Nat.le_refl _
    · rw [cum_next]; have := ih (by omega); omega
/-- the search of the year -/
def yFrom (n : Nat) : Nat → Nat → Nat
  | 0, y => y
  | k + 1, y => if beginN (y + 1) ≤ n then yFrom n k (y + 1) else y
def mFrom (y r : Nat) : Nat → Nat → Nat
  | 0, m => m
  | k + 1, m => if cumN y (m + 1) ≤ r then mFrom y r k (m + 1) else m
/-- year, month and day of the day n after January 1, 1900 -/
def yN (n : Nat) : Nat := yFrom n 300 1900
def mN (n : Nat) : Nat := mFrom (yN n) (n - beginN (yN n)) 12 1
def dN (n : Nat) : Nat := n - beginN (yN n) - cumN (yN n) (mN n) + 1
theorem yFrom_spec (n : Nat) : ∀ k y, beginN y ≤ n → n < beginN (y + k) → beginN (yFrom n k y) ≤ n ∧ n < beginN (yFrom n k y + 1) ∧ y ≤ yFrom n k y ∧ yFrom n k y < y + k := by
  intro k
  induction k with
  | zero => intro y h1 h2; rw [Nat.add_zero] at h2; omega
  | succ k ih =>
    intro y h1 h2
    unfold yFrom
    split
    · rename_i h
      have := ih (y + 1) h (by rw [show y + 1 + k = y + (k + 1) by omega]; exact h2)
      exact ⟨this.1, this.2.1, by omega, by omega⟩
    · rename_i h
      exact ⟨h1, by omega, by omega, by omega⟩
theorem mFrom_spec (y r : Nat) : ∀ k m, cumN y m ≤ r → r < cumN y (m + k) → cumN y (mFrom y r k m) ≤ r ∧ r < cumN y (mFrom y r k m + 1) ∧ m ≤ mFrom y r k m ∧ mFrom y r k m < m + k := by
  intro k
  induction k with
  | zero => intro m h1 h2; rw [Nat.add_zero] at h2; omega
  | succ k ih =>
    intro m h1 h2
    unfold mFrom
    split
    · rename_i h
      have := ih (m + 1) h (by rw [show m + 1 + k = m + (k + 1) by omega]; exact h2)
      exact ⟨this.1, this.2.1, by omega, by omega⟩
    · rename_i h
      exact ⟨h1, by omega, by omega, by omega⟩
/-- what the year, month and day of a number of days are -/
structure IsDate (n y m d : Nat) : Prop where
  y0 : 1900 ≤ y
  y1 : y ≤ 2199
  m0 : 1 ≤ m
  m1 : m ≤ 12
  d0 : 1 ≤ d
  d1 : d ≤ lenN y m
  at_ : n + 1 = beginN y + cumN y m + d
theorem year_spec {n : Nat} (h : n < 109573) : beginN (yN n) ≤ n ∧ n < beginN (yN n + 1) ∧ 1900 ≤ yN n ∧ yN n ≤ 2199 := by
  have := yFrom_spec n 300 1900 (by rw [begin_first]; omega) (by show n < beginN 2200; rw [begin_end]; exact h)
  unfold yN
  exact ⟨this.1, this.2.1, this.2.2.1, by omega⟩
theorem date_spec {n : Nat} (h : n < 109573) : IsDate n (yN n) (mN n) (dN n) := by
  obtain ⟨h1, h2, h3, h4⟩ := year_spec h
  rw [begin_next h3] at h2
  have := mFrom_spec (yN n) (n - beginN (yN n)) 12 1 (by rw [cum_zero]; omega) (by show _ < cumN (yN n) 13; rw [cum_end]; omega)
  have e : mFrom (yN n) (n - beginN (yN n)) 12 1 = mN n := rfl
  rw [e, cum_next] at this
  obtain ⟨g1, g2, g3, g4⟩ := this
  exact ⟨h3, h4, g3, by omega, by unfold dN; omega, by unfold dN; omega, by unfold dN; omega⟩
theorem IsDate.in_year {n y m d : Nat} (h : IsDate n y m d) : beginN y ≤ n ∧ n < beginN (y + 1) := by
  have h1 := h.at_
  have h2 := h.d0
  have h3 := h.d1
  have h4 := cum_mono (y := y) (m := m + 1) (k := 13) (by have := h.m1; omega)
  rw [cum_next, cum_end] at h4
  rw [begin_next h.y0]
  omega
theorem year_unique {n y z : Nat} (hy : 1900 ≤ y) (hz : 1900 ≤ z) (h1 : beginN y ≤ n) (h2 : n < beginN (y + 1)) (h3 : beginN z ≤ n) (h4 : n < beginN (z + 1)) : y = z := by
  rcases Nat.lt_trichotomy y z with h | h | h
  · have := begin_mono (y := y + 1) (z := z) (by omega) (by omega); omega
  · exact h
  · have := begin_mono (y := z + 1) (z := y) (by omega) (by omega); omega
theorem IsDate.unique {n y m d y' m' d' : Nat} (h : IsDate n y m d) (h' : IsDate n y' m' d') : y = y' ∧ m = m' ∧ d = d' := by
  have e := year_unique h.y0 h'.y0 h.in_year.1 h.in_year.2 h'.in_year.1 h'.in_year.2
  subst e
  have a1 := h.at_
  have a2 := h'.at_
  have b1 := h.d1
  have b2 := h'.d1
  have c1 := h.d0
  have c2 := h'.d0
  have e : m = m' := by
    rcases Nat.lt_trichotomy m m' with hl | hl | hl
    · have := cum_mono (y := y) (m := m + 1) (k := m') (by omega); rw [cum_next] at this; omega
    · exact hl
    · have := cum_mono (y := y) (m := m' + 1) (k := m) (by omega); rw [cum_next] at this; omega
  subst e
  exact ⟨rfl, rfl, by omega⟩
theorem IsDate.lt {n y m d : Nat} (h : IsDate n y m d) : n < 109573 := by
  have := begin_mono (y := y + 1) (z := 2200) (by have := h.y0; omega) (by have := h.y1; omega)
  rw [begin_end] at this
  have := h.in_year.2
  omega
theorem IsDate.fns {n y m d : Nat} (h : IsDate n y m d) : yN n = y ∧ mN n = m ∧ dN n = d := (date_spec h.lt).unique h
theorem begin_le (k : Nat) (hk : k ≤ 300) : beginN (1900 + k) ≤ 366 * k := by
  unfold beginN
  omega
/-- later days have later dates -/
theorem IsDate.order {n y m d n' y' m' d' : Nat} (h : IsDate n y m d) (h' : IsDate n' y' m' d') (hl : n ≤ n') : y < y' ∨ (y = y' ∧ (m < m' ∨ (m = m' ∧ d ≤ d'))) := by
  rcases Nat.lt_trichotomy y y' with hy | hy | hy
  · exact .inl hy
  · subst hy
    refine .inr ⟨rfl, ?_⟩
    have a1 := h.at_
    have a2 := h'.at_
    have b2 := h'.d1
    have c1 := h.d0
    rcases Nat.lt_trichotomy m m' with hm | hm | hm
    · exact .inl hm
    · subst hm
      exact .inr ⟨rfl, by omega⟩
    · have := cum_mono (y := y) (m := m' + 1) (k := m) (by omega)
      rw [cum_next] at this
      omega
  · have := begin_mono (y := y' + 1) (z := y) (by have := h'.y0; omega) (by omega)
    have := h'.in_year.2
    have := h.in_year.1
    omega
end Go.Proofs.YtahpbnmbphobgaaGreatDoor
namespace Go.Proofs.YtahpbnmbphobgaaGreatDoor
open Go.RowKit Go.Shelf Dec
open QQ

/-- the number of 30E/360 -/
def eN (n : Nat) : Int := 360 * (yN n : Int) + 30 * (mN n : Int) + (min (dN n) 30 : Nat)
/-- the days of the bond basis -/
def tN (a b : Nat) : Int := 360 * ((yN b : Int) - (yN a : Int)) + 30 * ((mN b : Int) - (mN a : Int)) + ((if min (dN a) 30 = 30 then min (dN b) 30 else dN b : Nat) : Int) - ((min (dN a) 30 : Nat) : Int)
/-- years and parts of years from the year 0 on, by calendar years -/
def actQ (n : Nat) : Rat := rat ((yN n * ylen (yN n) + (n - beginN (yN n)) : Nat) : Int) (ylen (yN n) : Int)
/-- days by a convention -/
def daysC (c : Int) (a b : Nat) : Int := if c = 3 then tN a b else if c = 4 then eN b - eN a else (b : Int) - (a : Int)
/-- the part of a year by a convention -/
def partQ (c : Int) (a b : Nat) : Rat := if c = 5 then actQ b - actQ a else rat (daysC c a b) (if c = 2 then 365 else 360)

theorem rat_plus {x y d : Int} (h : d ≠ 0) : rat x d + rat y d = rat (x + y) d := by
  rw [rat_of h, rat_of h, rat_of h, Rat.intCast_add]
  grind
theorem rat_mono {x y d : Int} (h : 0 < d) (hl : x ≤ y) : rat x d ≤ rat y d := by
  rw [rat_of (by omega), rat_of (by omega)]
  have h1 : (0 : Rat) < (d : Rat) := by exact_mod_cast h
  have h2 : (x : Rat) ≤ (y : Rat) := by exact_mod_cast hl
  rw [Rat.div_def, Rat.div_def]
  exact Rat.mul_le_mul_of_nonneg_right h2 (Rat.le_of_lt (Rat.inv_pos.2 h1))
theorem part_sum {c : Int} (hc : c ≠ 3) (a b d : Nat) : partQ c a b + partQ c b d = partQ c a d := by
  unfold partQ
  by_cases h5 : c = 5
  · rw [if_pos h5, if_pos h5, if_pos h5]; grind
  · rw [if_neg h5, if_neg h5, if_neg h5, rat_plus (by split <;> decide)]
    congr 1
    unfold daysC
    rw [if_neg hc, if_neg hc, if_neg hc]
    split <;> omega
theorem eN_mono {a b : Nat} (hb : b < 109573) (h : a ≤ b) : eN a ≤ eN b := by
  have ha := date_spec (n := a) (by omega)
  have hb' := date_spec hb
  unfold eN
  have h1 := lenN_cases (y := yN a) ha.m0 ha.m1
  have h2 := ha.d1
  have h3 := hb'.d0
  have h4 := ha.m1
  have h5 := hb'.m0
  rcases ha.order hb' h with hh | ⟨hh, hh' | ⟨hh', hh''⟩⟩ <;> omega
theorem tN_mono {a b d : Nat} (_ha : a < 109573) (hd : d < 109573) (h : b ≤ d) : tN a b ≤ tN a d := by
  have hb := date_spec (n := b) (by omega)
  have hd' := date_spec hd
  unfold tN
  have h1 := lenN_cases (y := yN b) hb.m0 hb.m1
  have h2 := hb.d1
  have h3 := hd'.d0
  have h4 := hb.m1
  have h5 := hd'.m0
  rcases hb.order hd' h with hh | ⟨hh, hh' | ⟨hh', hh''⟩⟩ <;> split <;> omega
theorem tN_self {a : Nat} : tN a a = 0 := by
  unfold tN
  split <;> omega
theorem actQ_eq (n : Nat) (h : n < 109573) : actQ n = (yN n : Rat) + rat ((n : Int) - (beginN (yN n) : Int)) (ylen (yN n) : Int) := by
  obtain ⟨h1, _, _, _⟩ := year_spec h
  have hl := ylen_ge (yN n)
  unfold actQ
  rw [show ((yN n * ylen (yN n) + (n - beginN (yN n)) : Nat) : Int) = (yN n : Int) * (ylen (yN n) : Int) + ((n : Int) - (beginN (yN n) : Int)) by rw [Int.natCast_add, Int.natCast_mul]; omega]
  rw [← rat_plus (by omega)]
  congr 1
  rw [rat_of (by omega), Rat.intCast_mul]
  have : ((ylen (yN n) : Int) : Rat) ≠ 0 := intCast_ne (by omega)
  show _ = ((yN n : Int) : Rat)
  grind
/-- within a year -/
theorem actQ_in {y n : Nat} (hy : 1900 ≤ y) (h1 : beginN y ≤ n) (h2 : n < beginN (y + 1)) (h : n < 109573) : actQ n = (y : Rat) + rat ((n : Int) - (beginN y : Int)) (ylen y : Int) := by
  have hs := year_spec h
  have e := year_unique hs.2.2.1 hy hs.1 hs.2.1 h1 h2
  rw [actQ_eq n h, e]
theorem actQ_begin {y : Nat} (h : 1900 ≤ y) (h' : y ≤ 2199) : actQ (beginN y) = (y : Rat) := by
  have hb : beginN y < 109573 := by
    have := begin_mono (y := y + 1) (z := 2200) (by omega) (by omega)
    rw [begin_end] at this
    have e := begin_next h
    have := ylen_ge y
    omega
  rw [actQ_in h (Nat.le_refl _) (by rw [begin_next h]; have := ylen_ge y; omega) hb, Int.sub_self]
  have : rat 0 (ylen y : Int) = 0 := rat_eq_zero.2 rfl
  rw [this]
  grind
/-- a step within a year, or up to its end -/
theorem actQ_step {a e y : Nat} (hy : yN a = y) (ha : a ≤ e) (he : e ≤ beginN (y + 1)) (h : e < 109573) : actQ e - actQ a = rat ((e : Int) - (a : Int)) (ylen y : Int) := by
  obtain ⟨s1, s2, s3, s4⟩ := year_spec (n := a) (by omega)
  rw [hy] at s1 s2 s3 s4
  have hl := ylen_ge y
  rw [actQ_in s3 s1 s2 (by omega)]
  by_cases hlt : e < beginN (y + 1)
  · rw [actQ_in s3 (by omega) hlt h, show (e : Int) - (a : Int) = ((e : Int) - (beginN y : Int)) - ((a : Int) - (beginN y : Int)) by omega]
    have := rat_plus (x := ((e : Int) - (beginN y : Int)) - ((a : Int) - (beginN y : Int))) (y := (a : Int) - (beginN y : Int)) (d := (ylen y : Int)) (by omega)
    rw [show ((e : Int) - (beginN y : Int)) - ((a : Int) - (beginN y : Int)) + ((a : Int) - (beginN y : Int)) = (e : Int) - (beginN y : Int) by omega] at this
    rw [← this]
    grind
  · have ee : e = beginN (y + 1) := by omega
    have hy2 : y + 1 ≤ 2199 := by
      rcases Nat.lt_or_ge 2199 (y + 1) with hh | hh
      · have : y + 1 = 2200 := by omega
        rw [ee, this, begin_end] at h
        omega
      · exact hh
    rw [ee, actQ_begin (by omega) hy2, begin_next s3]
    have := rat_plus (x := ((beginN y + ylen y : Nat) : Int) - (a : Int)) (y := (a : Int) - (beginN y : Int)) (d := (ylen y : Int)) (by omega)
    rw [show ((beginN y + ylen y : Nat) : Int) - (a : Int) + ((a : Int) - (beginN y : Int)) = (ylen y : Int) by omega] at this
    have h1 : rat (ylen y : Int) (ylen y : Int) = 1 := by
      rw [rat_of (by omega)]
      have : ((ylen y : Int) : Rat) ≠ 0 := intCast_ne (by omega)
      grind
    rw [h1] at this
    have e2 : ((y + 1 : Nat) : Rat) = (y : Rat) + 1 := by exact_mod_cast rfl
    rw [e2, ← this]
    grind
theorem actQ_mono {a b : Nat} (hb : b < 109573) (h : a ≤ b) : actQ a ≤ actQ b := by
  have key : ∀ k a b, b - a ≤ k → a ≤ b → b < 109573 → actQ a ≤ actQ b := by
    intro k
    induction k with
    | zero => intro a b h1 h2 _; have : a = b := by omega
              rw [this]; exact Rat.le_refl
    | succ k ih =>
      intro a b h1 h2 h3
      by_cases e : a = b
      · rw [e]; exact Rat.le_refl
      · refine Rat.le_trans ?_ (ih (a + 1) b (by omega) (by omega) h3)
        obtain ⟨s1, s2, s3, s4⟩ := year_spec (n := a) (by omega)
        have := actQ_step (a := a) (e := a + 1) rfl (by omega) (by omega) (by omega)
        have hl := ylen_ge (yN a)
        have hp : 0 ≤ rat (((a + 1 : Nat) : Int) - (a : Int)) (ylen (yN a) : Int) := by
          have := rat_mono (x := 0) (y := ((a + 1 : Nat) : Int) - (a : Int)) (d := (ylen (yN a) : Int)) (by omega) (by omega)
          rwa [show rat 0 (ylen (yN a) : Int) = 0 from rat_eq_zero.2 rfl] at this
        rw [← this] at hp
        grind
  exact key _ a b (Nat.le_refl _) h hb
theorem part_mono {c : Int} {a b d : Nat} (ha : a < 109573) (hd : d < 109573) (h : b ≤ d) : partQ c a b ≤ partQ c a d := by
  unfold partQ
  split
  · have := actQ_mono hd h
    grind
  · refine rat_mono (by split <;> decide) ?_
    unfold daysC
    split
    · exact tN_mono ha hd h
    · split
      · have := eN_mono hd h; omega
      · omega
theorem part_self (c : Int) (a : Nat) : partQ c a a = 0 := by
  unfold partQ
  split
  · grind
  · refine rat_eq_zero.2 ?_
    unfold daysC
    split
    · exact tN_self
    · split <;> omega
end Go.Proofs.YtahpbnmbphobgaaGreatDoor
namespace Go.Proofs.YtahpbnmbphobgaaGreatDoor
open Go.RowKit Go.Shelf Dec
open QQ

/-- a number of the calendar's days -/
def IsDay (D : Int) (n : Nat) : Prop := D = (n : Int) - 25567 ∧ n < 109573
def notDay (D : Int) : Bool := decide (D < -25567) || decide (84005 < D)
theorem day_cases (D : Int) : (notDay D = true ∧ (D < -25567 ∨ 84005 < D)) ∨ (notDay D = false ∧ ∃ n, IsDay D n) := by
  unfold notDay
  by_cases h1 : D < -25567
  · exact .inl ⟨by simp [h1], .inl h1⟩
  · by_cases h2 : 84005 < D
    · exact .inl ⟨by simp [h2], .inr h2⟩
    · exact .inr ⟨by simp [h1, h2], (D + 25567).toNat, by omega, by omega⟩
theorem IsDay.not {D : Int} {n : Nat} (h : IsDay D n) : notDay D = false := by
  rcases day_cases D with h1 | h1
  · have := h.1; have := h.2; omega
  · exact h1.1
/-- the number of a day -/
def dayNum (D : Int) : Nat := (D + 25567).toNat
theorem IsDay.num {D : Int} {n : Nat} (h : IsDay D n) : dayNum D = n := by unfold dayNum; have := h.1; omega
/-- what Fraction returns -/
def fracR (c A B : Int) : Rat × Int :=
  if c < 1 ∨ 5 < c then (0, 2) else if (notDay A || notDay B) = true then (0, 13) else if B < A then (0, 8) else (partQ c (dayNum A) (dayNum B), 0)
def daysR (c A B : Int) : Int × Int :=
  if c < 1 ∨ 5 < c then (0, 2) else if (notDay A || notDay B) = true then (0, 13) else if B < A then (0, 8) else (daysC c (dayNum A) (dayNum B), 0)
theorem fracR_ok {c A B : Int} (h : (fracR c A B).2 = 0) : 1 ≤ c ∧ c ≤ 5 ∧ (∃ n, IsDay A n) ∧ (∃ n, IsDay B n) ∧ A ≤ B ∧ fracR c A B = (partQ c (dayNum A) (dayNum B), 0) := by
  unfold fracR at *
  by_cases h1 : c < 1 ∨ 5 < c
  · rw [if_pos h1] at h; cases h
  · rw [if_neg h1] at h ⊢
    rcases day_cases A with hA | hA
    · rw [hA.1] at h; simp at h
    · rcases day_cases B with hB | hB
      · rw [hB.1] at h; simp at h
      · rw [hA.1, hB.1] at h ⊢
        rw [if_neg (by decide)] at h ⊢
        by_cases h2 : B < A
        · rw [if_pos h2] at h; cases h
        · rw [if_neg h2]
          exact ⟨by omega, by omega, hA.2, hB.2, by omega, rfl⟩
theorem fracR_in {c A B : Int} {n m : Nat} (h1 : 1 ≤ c) (h5 : c ≤ 5) (hA : IsDay A n) (hB : IsDay B m) (hl : A ≤ B) : fracR c A B = (partQ c n m, 0) := by
  unfold fracR
  rw [if_neg (by omega), hA.not, hB.not, if_neg (by decide), if_neg (by omega), hA.num, hB.num]
theorem sums_law {c A B C : Int} (h1 : (fracR c A B).2 = 0) (h2 : (fracR c B C).2 = 0) :
    (fracR c A C).2 = 0 ∧ (c ≠ 3 → (fracR c A B).1 + (fracR c B C).1 = (fracR c A C).1) := by
  obtain ⟨c1, c5, ⟨n, hA⟩, ⟨m, hB⟩, l1, e1⟩ := fracR_ok h1
  obtain ⟨_, _, _, ⟨k, hC⟩, l2, e2⟩ := fracR_ok h2
  rw [e1, e2, fracR_in c1 c5 hA hC (by omega), hA.num, hB.num, hC.num]
  exact ⟨rfl, fun h => part_sum h n m k⟩
theorem grows_law {c A B C : Int} (h1 : (fracR c A B).2 = 0) (h2 : (fracR c A C).2 = 0) :
    fracR c A A = (0, 0) ∧ (B ≤ C → (fracR c A B).1 ≤ (fracR c A C).1) ∧ (C ≤ B → (fracR c A C).1 ≤ (fracR c A B).1) := by
  obtain ⟨c1, c5, ⟨n, hA⟩, ⟨m, hB⟩, l1, e1⟩ := fracR_ok h1
  obtain ⟨_, _, _, ⟨k, hC⟩, l2, e2⟩ := fracR_ok h2
  rw [e1, e2, fracR_in c1 c5 hA hA (by omega), hA.num, hB.num, hC.num, part_self]
  refine ⟨rfl, fun h => part_mono hA.2 hC.2 ?_, fun h => part_mono hA.2 hB.2 ?_⟩
  · have := hB.1; have := hC.1; omega
  · have := hB.1; have := hC.1; omega
/-- the number of the first day of a year -/
theorem first_date {y : Nat} (h0 : 1900 ≤ y) (h1 : y ≤ 2199) : IsDate (beginN y) y 1 1 :=
  ⟨h0, h1, by omega, by omega, by omega, Nat.le_trans (by omega) (lenN_cases (y := y) (m := 1) (by omega) (by omega)).1, by rw [cum_zero]⟩
theorem years_law {y z : Nat} (h0 : 1900 ≤ y) (h1 : y ≤ z) (h2 : z ≤ 2199) : fracR 5 ((beginN y : Int) - 25567) ((beginN z : Int) - 25567) = ((((z : Int) - (y : Int) : Int) : Rat), 0) := by
  have ha := first_date h0 (by omega)
  have hb := first_date (y := z) (by omega) h2
  have hl := begin_mono h0 h1
  rw [fracR_in (n := beginN y) (m := beginN z) (by omega) (by omega) ⟨rfl, ha.lt⟩ ⟨rfl, hb.lt⟩ (by omega)]
  unfold partQ
  rw [if_pos rfl, actQ_begin h0 (by omega), actQ_begin (by omega) h2, Rat.intCast_sub]
  rfl
theorem rat_scale {x k : Int} (hk : k ≠ 0) {d : Int} (hd : d ≠ 0) : rat (k * x) (k * d) = rat x d := by
  have h0 : k * d ≠ 0 := Int.mul_ne_zero hk hd
  rw [rat_of h0, rat_of hd, Rat.intCast_mul, Rat.intCast_mul]
  have h1 := intCast_ne hk
  have h2 := intCast_ne hd
  grind
theorem months_law {n m y mo d y' mo' k : Nat} (hA : IsDate n y mo d) (hB : IsDate m y' mo' d) (hd : d ≤ 28) (hm : 12 * y' + mo' = 12 * y + mo + k) :
    partQ 4 n m = rat k 12 ∧ partQ 3 n m = rat k 12 := by
  obtain ⟨a1, a2, a3⟩ := hA.fns
  obtain ⟨b1, b2, b3⟩ := hB.fns
  have e : rat (30 * (k : Int)) 360 = rat k 12 := rat_scale (k := 30) (d := 12) (by decide) (by decide)
  have e4 : daysC 4 n m = 30 * (k : Int) := by
    unfold daysC eN
    rw [if_neg (by decide), if_pos rfl, a1, a2, a3, b1, b2, b3]
    omega
  have e3 : daysC 3 n m = 30 * (k : Int) := by
    unfold daysC tN
    rw [if_pos rfl, a1, a2, a3, b1, b2, b3, if_neg (by omega)]
    omega
  unfold partQ
  rw [if_neg (by decide), if_neg (by decide), e3, e4, if_neg (by decide), if_neg (by decide)]
  exact ⟨e, e⟩
theorem pow10 : (10 : Nat) ^ 6 = 1000000 ∧ (10 : Nat) ^ 7 = 10000000 ∧ (10 : Nat) ^ 3 = 1000 := by decide
theorem eN_bound {n : Nat} (h : n < 109573) : 0 ≤ eN n ∧ eN n < 900000 := by
  have := date_spec h
  unfold eN
  have h1 := this.y1
  have h2 := this.m1
  omega
theorem tN_bound {n m : Nat} (h : n < 109573) (h' : m < 109573) : (tN n m).natAbs < 1000000 := by
  have a := date_spec h
  have b := date_spec h'
  have a0 := a.y0
  have a1 := a.y1
  have a2 := a.m1
  have b0 := b.y0
  have b1 := b.y1
  have b2 := b.m1
  have a3 := a.d1
  have b3 := b.d1
  have a4 := (lenN_cases (y := yN n) a.m0 a.m1).2
  have b4 := (lenN_cases (y := yN m) b.m0 b.m1).2
  unfold tN
  split <;> omega
theorem days_bound {c : Int} {n m : Nat} (h : n < 109573) (h' : m < 109573) : (daysC c n m).natAbs < 1000000 := by
  unfold daysC
  split
  · exact tN_bound h h'
  · split
    · have := eN_bound h; have := eN_bound h'; omega
    · omega
theorem act_fit {n : Nat} (h : n < 109573) : FitQ 6 (actQ n) := by
  obtain ⟨h1, h2, h3, h4⟩ := year_spec h
  have hl := ylen_ge (yN n)
  have hn := begin_next h3
  obtain ⟨p6, _, p3⟩ := pow10
  unfold actQ
  refine (FitQ.rat (k := 6) (m := 3) ?_ ?_ (by omega)).mono (by omega)
  · have : yN n * ylen (yN n) ≤ 2199 * 366 := Nat.mul_le_mul h4 hl.2
    rw [p6, Int.natAbs_natCast]
    omega
  · rw [p3]
    omega
theorem part_fit {c : Int} {n m : Nat} (h : n < 109573) (h' : m < 109573) : FitQ 13 (partQ c n m) := by
  unfold partQ
  split
  · exact (FitQ.sub (act_fit h') (act_fit h)).mono (by omega)
  · have := days_bound (c := c) h h'
    obtain ⟨p6, _, p3⟩ := pow10
    refine (FitQ.rat (k := 6) (m := 3) (by rw [p6]; exact this) (by rw [p3]; split <;> decide) (by omega)).mono (by omega)
theorem frac_fit (c A B : Int) : FitQ 13 (fracR c A B).1 := by
  by_cases h : (fracR c A B).2 = 0
  · obtain ⟨_, _, ⟨n, hA⟩, ⟨m, hB⟩, _, e⟩ := fracR_ok h
    rw [e, hA.num, hB.num]
    exact part_fit hA.2 hB.2
  · unfold fracR at *
    have z : FitQ 13 (0 : Rat) := ⟨by decide, by decide⟩
    split
    · exact z
    · split
      · exact z
      · split
        · exact z
        · rename_i a b c'; rw [if_neg a, if_neg b, if_neg c'] at h; exact absurd rfl h
end Go.Proofs.YtahpbnmbphobgaaGreatDoor
