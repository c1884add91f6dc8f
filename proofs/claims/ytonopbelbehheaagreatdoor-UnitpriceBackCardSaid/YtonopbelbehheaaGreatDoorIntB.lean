/- Integer, plain: magnitudes: numbers in groups of nine digits, the lowest one first. No program here, no condition. -/
import Derived.Test.YtonopbelbehheaaGreatDoorIntA
namespace Go.Proofs.YtonopbelbehheaaGreatDoor
namespace Dec

def BB : Nat := 1000000000
theorem BB_pos : 0 < BB := by decide
/-- the value of a list of groups -/
def mval : List Nat → Nat
  | [] => 0
  | g :: m => g + BB * mval m
/-- the groups of a number -/
def magF : Nat → Nat → List Nat
  | 0, _ => []
  | f + 1, n => if n = 0 then [] else n % BB :: magF f (n / BB)
def mag (n : Nat) : List Nat := magF n n
def Small (m : List Nat) : Prop := ∀ g ∈ m, g < BB

theorem magF_more : ∀ (f g n : Nat), n ≤ f → n ≤ g → magF f n = magF g n := by
  intro f
  induction f with
  | zero =>
    intro g n h1 h2
    obtain rfl : n = 0 := by omega
    cases g <;> simp [magF]
  | succ f ih =>
    intro g n h1 h2
    cases g with
    | zero => obtain rfl : n = 0 := by omega
              simp [magF]
    | succ g =>
      unfold magF
      by_cases h0 : n = 0
      · simp [h0]
      · have : n / BB < n := Nat.div_lt_self (by omega) (by decide)
        rw [if_neg h0, if_neg h0, ih g (n / BB) (by omega) (by omega)]
theorem mag_zero : mag 0 = [] := rfl
theorem mag_pos {n : Nat} (h : n ≠ 0) : mag n = n % BB :: mag (n / BB) := by
  unfold mag
  cases n with
  | zero => exact absurd rfl h
  | succ n =>
    have : (n + 1) / BB < n + 1 := Nat.div_lt_self (by omega) (by decide)
    rw [show magF (n + 1) (n + 1) = (n + 1) % BB :: magF n ((n + 1) / BB) by simp [magF]]
    rw [magF_more n ((n + 1) / BB) ((n + 1) / BB) (by omega) (Nat.le_refl _)]
theorem mag_ind {P : Nat → Prop} (h0 : P 0) (hs : ∀ n, n ≠ 0 → P (n / BB) → P n) (n : Nat) : P n := by
  induction n using Nat.strongRecOn with
  | _ n ih =>
    by_cases h : n = 0
    · subst h; exact h0
    · exact hs n h (ih (n / BB) (Nat.div_lt_self (by omega) (by decide)))
theorem mval_mag (n : Nat) : mval (mag n) = n := by
  induction n using mag_ind with
  | h0 => rfl
  | hs n h ih => rw [mag_pos h]; unfold mval; rw [ih]; exact Nat.mod_add_div n BB
theorem mag_small (n : Nat) : Small (mag n) := by
  induction n using mag_ind with
  | h0 => intro g hg; simp [mag_zero] at hg
  | hs n h ih =>
    intro g hg
    rw [mag_pos h] at hg
    rcases List.mem_cons.1 hg with rfl | hg
    · exact Nat.mod_lt _ BB_pos
    · exact ih g hg
theorem mval_append (a b : List Nat) : mval (a ++ b) = mval a + BB ^ a.length * mval b := by
  induction a with
  | nil => simp [mval]
  | cons g a ih => simp only [List.cons_append, mval, ih, List.length_cons, Nat.pow_succ]; grind
theorem mval_lt (m : List Nat) (h : Small m) : mval m < BB ^ m.length := by
  induction m with
  | nil => simp [mval]
  | cons g m ih =>
    have h1 := ih (fun x hx => h x (List.mem_cons_of_mem _ hx))
    have h2 := h g List.mem_cons_self
    simp only [mval, List.length_cons, Nat.pow_succ]
    have : BB * (mval m + 1) ≤ BB * BB ^ m.length := Nat.mul_le_mul_left _ h1
    rw [Nat.mul_add, Nat.mul_one] at this
    rw [Nat.mul_comm (BB ^ m.length) BB]
    omega
theorem mag_nil {n : Nat} : mag n = [] ↔ n = 0 := by
  constructor
  · intro h; have := mval_mag n; rw [h] at this; exact this.symm
  · rintro rfl; rfl
theorem mag_inj {m n : Nat} (h : mag m = mag n) : m = n := by rw [← mval_mag m, h, mval_mag]
theorem Small.cons {g : Nat} {m : List Nat} (h : Small (g :: m)) : g < BB ∧ Small m := ⟨h g List.mem_cons_self, fun x hx => h x (List.mem_cons_of_mem _ hx)⟩
/-- groups without a zero on top are those of their value -/
theorem mag_mval (m : List Nat) (h : Small m) (h0 : m.getLast? ≠ some 0) : mag (mval m) = m := by
  induction m with
  | nil => rfl
  | cons g m ih =>
    obtain ⟨hg, hm⟩ := h.cons
    cases m with
    | nil =>
      have : g ≠ 0 := by simpa using h0
      simp only [mval, Nat.mul_zero, Nat.add_zero]
      rw [mag_pos this, Nat.mod_eq_of_lt hg, Nat.div_eq_of_lt hg, mag_zero]
    | cons g' m' =>
      have e := ih hm (by simpa using h0)
      have hv : mval (g' :: m') ≠ 0 := fun hz => by rw [hz, mag_zero] at e; cases e
      have hn : mval (g :: g' :: m') = g + BB * mval (g' :: m') := rfl
      have hpos : BB * mval (g' :: m') ≠ 0 := Nat.mul_ne_zero (by decide) hv
      rw [mag_pos (by rw [hn]; omega), hn, Nat.add_mul_mod_self_left, Nat.mod_eq_of_lt hg, Nat.add_mul_div_left _ _ BB_pos, Nat.div_eq_of_lt hg, Nat.zero_add, e]
theorem mag_last (n : Nat) : (mag n).getLast? ≠ some 0 := by
  induction n using mag_ind with
  | h0 => simp [mag_zero]
  | hs n h ih =>
    rw [mag_pos h]
    cases hm : mag (n / BB) with
    | nil =>
      have : n / BB = 0 := mag_nil.1 hm
      have hlt : n < BB := by
        rcases Nat.lt_or_ge n BB with hh | hh
        · exact hh
        · have := Nat.div_pos hh BB_pos; omega
      simp [Nat.mod_eq_of_lt hlt, h]
    | cons g m => rw [hm] at ih; simpa using ih
theorem mag_len_lt {n k : Nat} : (mag n).length ≤ k ↔ n < BB ^ k := by
  induction n using mag_ind generalizing k with
  | h0 => simp [mag_zero, Nat.pow_pos BB_pos]
  | hs n h ih =>
    rw [mag_pos h]
    cases k with
    | zero => simp; omega
    | succ k =>
      rw [List.length_cons, Nat.add_le_add_iff_right, ih, Nat.pow_succ, Nat.div_lt_iff_lt_mul BB_pos]
/-- groups whose number is just that of their value -/
theorem mag_of_len (m : List Nat) (h : Small m) (hl : m = [] ∨ BB ^ (m.length - 1) ≤ mval m) : mag (mval m) = m := by
  refine mag_mval m h ?_
  rcases hl with rfl | hl
  · simp
  · intro hlast
    have hne : m ≠ [] := by intro e; subst e; simp at hlast
    obtain ⟨s, d, rfl⟩ : ∃ s d, m = s ++ [d] := ⟨m.dropLast, m.getLast hne, (List.dropLast_concat_getLast hne).symm⟩
    have : d = 0 := by simpa using hlast
    subst this
    have hs : Small s := fun x hx => h x (by simp [hx])
    have h1 := mval_lt s hs
    rw [mval_append] at hl
    simp [mval] at hl
    omega
/-- zeros on top are dropped -/
def cutL (m : List Nat) : List Nat := mag (mval m)
theorem mval_zeros (k : Nat) : mval (List.replicate k 0) = 0 := by
  induction k with
  | zero => rfl
  | succ k ih => simp [List.replicate_succ, mval, ih]
theorem cut_take (m : List Nat) (h : Small m) (k : Nat) (hk : k ≤ m.length) (hz : ∀ i, k ≤ i → i < m.length → m[i]? = some 0) (hp : k = 0 ∨ m[k - 1]? ≠ some 0) : m.take k = cutL m := by
  have hs : Small (m.take k) := fun x hx => h x (List.mem_of_mem_take hx)
  have hd : m.drop k = List.replicate (m.length - k) 0 := by
    apply List.ext_getElem?
    intro i
    rw [List.getElem?_drop, List.getElem?_replicate]
    by_cases hi : i < m.length - k
    · rw [if_pos hi]; exact hz (k + i) (by omega) (by omega)
    · rw [if_neg hi, List.getElem?_eq_none (by omega)]
  have hv : mval m = mval (m.take k) := by
    conv => lhs; rw [← List.take_append_drop k m]
    rw [mval_append, hd, mval_zeros, Nat.mul_zero, Nat.add_zero]
  unfold cutL
  rw [hv]
  refine (mag_mval _ hs ?_).symm
  rcases hp with rfl | hp
  · simp
  · intro hl
    by_cases hk0 : k = 0
    · subst hk0; simp at hl
    · apply hp
      rw [List.getLast?_eq_getElem?, List.length_take, Nat.min_eq_left hk, List.getElem?_take, if_pos (by omega)] at hl
      exact hl
end Dec
end Go.Proofs.YtonopbelbehheaaGreatDoor
