/- Integer, plain: decimal texts, their values, the canonical text of an integer; magnitudes in groups of nine digits. No program here, no condition. Integer, plain: magnitudes: numbers in groups of nine digits, the lowest one first. No program here, no condition. Integer, plain: from texts to groups and back; comparing. No program here, no condition. Integer, plain: one group of a magnitude is set; what the loops of plus, minus, times and single keep. No program here, no condition. Integer, plain: long division: the guess, what is subtracted, what is added back. No program here, no condition. -/
import Derived.Below
namespace Go.Proofs.YtahpbnmbphobgaaGreatDoor
namespace Dec

abbrev Bytes := List UInt8

def isDig (b : UInt8) : Bool := decide (48 ≤ b.toNat ∧ b.toNat ≤ 57)
def natOf (ds : Bytes) : Nat := ds.foldl (fun n d => 10 * n + (d.toNat - 48)) 0
def digB (n : Nat) : UInt8 := UInt8.ofNat (48 + n % 10)

theorem digB_toNat (n : Nat) : (digB n).toNat = 48 + n % 10 := by
  unfold digB
  rw [UInt8.toNat_ofNat']
  omega
theorem isDig_digB (n : Nat) : isDig (digB n) = true := by
  unfold isDig; rw [digB_toNat]; simp; omega

theorem foldl_natOf (ds : Bytes) : ∀ a : Nat, ds.foldl (fun n d => 10 * n + (d.toNat - 48)) a = a * 10 ^ ds.length + natOf ds := by
  induction ds with
  | nil => intro a; simp [natOf]
  | cons d ds ih =>
    intro a
    have h1 := ih (10 * a + (d.toNat - 48))
    have h2 := ih (10 * 0 + (d.toNat - 48))
    simp only [natOf, List.foldl_cons, List.length_cons] at *
    rw [h1, h2, Nat.pow_succ]
    grind
theorem natOf_append (a b : Bytes) : natOf (a ++ b) = natOf a * 10 ^ b.length + natOf b := by
  unfold natOf
  rw [List.foldl_append, foldl_natOf b]
  rfl
theorem natOf_nil : natOf [] = 0 := rfl
theorem natOf_one (d : UInt8) : natOf [d] = d.toNat - 48 := by simp [natOf]
theorem natOf_cons (d : UInt8) (ds : Bytes) : natOf (d :: ds) = (d.toNat - 48) * 10 ^ ds.length + natOf ds := by
  have := natOf_append [d] ds
  simpa [natOf_one] using this
theorem natOf_lt (ds : Bytes) (h : ∀ d ∈ ds, isDig d = true) : natOf ds < 10 ^ ds.length := by
  induction ds with
  | nil => simp [natOf]
  | cons d ds ih =>
    have h1 := ih (fun x hx => h x (List.mem_cons_of_mem _ hx))
    have h2 := h d List.mem_cons_self
    unfold isDig at h2
    simp at h2
    rw [natOf_cons, List.length_cons, Nat.pow_succ]
    have : (d.toNat - 48) * 10 ^ ds.length ≤ 9 * 10 ^ ds.length := Nat.mul_le_mul_right _ (by omega)
    omega

/-- the decimal digits of a number; none for 0 -/
def decF : Nat → Nat → Bytes
  | 0, _ => []
  | f + 1, n => if n = 0 then [] else decF f (n / 10) ++ [digB n]
def dec (n : Nat) : Bytes := decF n n

theorem decF_more : ∀ (f g n : Nat), n ≤ f → n ≤ g → decF f n = decF g n := by
  intro f
  induction f with
  | zero =>
    intro g n h1 h2
    obtain rfl : n = 0 := by omega
    cases g <;> simp [decF]
  | succ f ih =>
    intro g n h1 h2
    cases g with
    | zero => obtain rfl : n = 0 := by omega
              simp [decF]
    | succ g =>
      unfold decF
      by_cases h0 : n = 0
      · simp [h0]
      · rw [if_neg h0, if_neg h0, ih g (n / 10) (by omega) (by omega)]
theorem dec_zero : dec 0 = [] := rfl
theorem dec_pos {n : Nat} (h : n ≠ 0) : dec n = dec (n / 10) ++ [digB n] := by
  unfold dec
  cases n with
  | zero => exact absurd rfl h
  | succ n =>
    show decF (n + 1) (n + 1) = _
    rw [show decF (n + 1) (n + 1) = decF n ((n + 1) / 10) ++ [digB (n + 1)] by simp [decF]]
    rw [decF_more n ((n + 1) / 10) ((n + 1) / 10) (by omega) (Nat.le_refl _)]
theorem dec_ind {P : Nat → Prop} (h0 : P 0) (hs : ∀ n, n ≠ 0 → P (n / 10) → P n) (n : Nat) : P n := by
  induction n using Nat.strongRecOn with
  | _ n ih =>
    by_cases h : n = 0
    · subst h; exact h0
    · exact hs n h (ih (n / 10) (by omega))
theorem natOf_dec (n : Nat) : natOf (dec n) = n := by
  induction n using dec_ind with
  | h0 => rfl
  | hs n h ih => rw [dec_pos h, natOf_append, ih, natOf_one, digB_toNat]; simp; omega
theorem dec_dig (n : Nat) : ∀ d ∈ dec n, isDig d = true := by
  induction n using dec_ind with
  | h0 => intro d hd; simp [dec_zero] at hd
  | hs n h ih =>
    intro d hd
    rw [dec_pos h, List.mem_append] at hd
    rcases hd with hd | hd
    · exact ih d hd
    · simp at hd; subst hd; exact isDig_digB n
theorem dec_nil {n : Nat} : dec n = [] ↔ n = 0 := by
  constructor
  · intro h
    have := natOf_dec n
    rw [h] at this
    exact this.symm
  · rintro rfl; rfl
theorem head_app {a b : Bytes} (h : a ≠ []) : (a ++ b).head? = a.head? := by cases a with | nil => exact absurd rfl h | cons x a => rfl
/-- no zero stands ahead -/
theorem dec_head (n : Nat) : ∀ d, (dec n).head? = some d → d ≠ 48 := by
  induction n using dec_ind with
  | h0 => intro d hd; simp [dec_zero] at hd
  | hs n h ih =>
    intro d hd
    rw [dec_pos h] at hd
    by_cases h10 : n / 10 = 0
    · rw [h10, dec_zero] at hd
      simp at hd
      subst hd
      intro e
      have := digB_toNat n
      rw [e] at this
      simp at this
      omega
    · have hne : dec (n / 10) ≠ [] := fun e => h10 (dec_nil.1 e)
      rw [head_app hne] at hd
      exact ih d hd
theorem digB_of {d : UInt8} (h : isDig d = true) (n : Nat) (hn : n % 10 = d.toNat - 48) : digB n = d := by
  unfold isDig at h; simp at h
  apply UInt8.toNat_inj.1
  rw [digB_toNat]
  omega
/-- a text of digits without a zero ahead is the text of its value -/
theorem dec_natOf (t : Bytes) (h : ∀ d ∈ t, isDig d = true) (h0 : ∀ d, t.head? = some d → d ≠ 48) : dec (natOf t) = t := by
  induction hn : t.length generalizing t with
  | zero => have : t = [] := List.eq_nil_of_length_eq_zero hn
            subst this; rfl
  | succ n ih =>
    have hne : t ≠ [] := by intro e; subst e; simp at hn
    obtain ⟨s, d, rfl⟩ : ∃ s d, t = s ++ [d] := ⟨t.dropLast, t.getLast hne, (List.dropLast_concat_getLast hne).symm⟩
    have hs : s.length = n := by simpa using hn
    have hd : isDig d = true := h d (by simp)
    have hsd : ∀ x ∈ s, isDig x = true := fun x hx => h x (by simp [hx])
    have hd' := hd
    unfold isDig at hd'
    simp at hd'
    have hval : natOf (s ++ [d]) = natOf s * 10 + (d.toNat - 48) := by rw [natOf_append, natOf_one]; simp
    by_cases hse : s = []
    · subst hse
      have h1 : d ≠ 48 := h0 d rfl
      have h2 : d.toNat ≠ 48 := fun e => h1 (UInt8.toNat_inj.1 e)
      rw [hval]
      simp only [natOf_nil, Nat.zero_mul, Nat.zero_add, List.nil_append]
      rw [dec_pos (by omega), show (d.toNat - 48) / 10 = 0 by omega, dec_zero, digB_of hd _ (by omega)]
      rfl
    · have hh : ∀ x, s.head? = some x → x ≠ 48 := fun x hx => h0 x (by rw [head_app hse]; exact hx)
      have e := ih s hsd hh hs
      have hpos : natOf s ≠ 0 := by
        intro e0
        rw [e0, dec_zero] at e
        exact hse e.symm
      rw [hval, dec_pos (by omega), show (natOf s * 10 + (d.toNat - 48)) / 10 = natOf s by omega, e, digB_of hd _ (by omega)]
theorem dec_inj {m n : Nat} (h : dec m = dec n) : m = n := by rw [← natOf_dec m, h, natOf_dec]
theorem dec_len {n k : Nat} : (dec n).length ≤ k ↔ n < 10 ^ k := by
  induction n using dec_ind generalizing k with
  | h0 => simp [dec_zero, Nat.pow_pos]
  | hs n h ih =>
    rw [dec_pos h]
    cases k with
    | zero => simp; omega
    | succ k =>
      rw [List.length_append, List.length_singleton, Nat.add_le_add_iff_right, ih, Nat.pow_succ]
      omega

/-! ### texts and integers -/
/-- the digits behind an optional minus sign, without zeros ahead, and the sign; none for whatever is no integer's text -/
def bare (s : Bytes) : Bytes := if s.head? = some 45 then s.drop 1 else s
def digs (s : Bytes) : Bytes := if (bare s).all isDig then (bare s).dropWhile (· == 48) else []
def negB (s : Bytes) : Bool := decide (s.head? = some 45) && !(digs s).isEmpty
def val (s : Bytes) : Int := if negB s then -(natOf (digs s) : Int) else natOf (digs s)
/-- the canonical text of an integer -/
def canon (z : Int) : Bytes := if z < 0 then 45 :: dec z.natAbs else dec z.natAbs

theorem digs_dig (s : Bytes) : ∀ d ∈ digs s, isDig d = true := by
  unfold digs
  by_cases h : (bare s).all isDig = true
  · rw [if_pos h]
    intro d hd
    exact List.all_eq_true.1 h d ((List.dropWhile_sublist _).subset hd)
  · rw [if_neg h]; intro d hd; simp at hd
theorem dropWhile_head (p : UInt8 → Bool) : ∀ (l : Bytes) d, (l.dropWhile p).head? = some d → p d = false := by
  intro l
  induction l with
  | nil => intro d h; simp at h
  | cons a l ih =>
    intro d h
    rw [List.dropWhile_cons] at h
    by_cases ha : p a = true
    · rw [if_pos ha] at h; exact ih d h
    · rw [if_neg ha] at h; simp at h; subst h; simpa using ha
theorem digs_head (s : Bytes) : ∀ d, (digs s).head? = some d → d ≠ 48 := by
  intro d h
  unfold digs at h
  by_cases hb : (bare s).all isDig = true
  · rw [if_pos hb] at h
    have := dropWhile_head _ _ _ h
    simpa using this
  · rw [if_neg hb] at h; simp at h
theorem digs_dec (s : Bytes) : dec (natOf (digs s)) = digs s := dec_natOf _ (digs_dig s) (digs_head s)
theorem natOf_digs {s : Bytes} : natOf (digs s) = 0 ↔ digs s = [] := by
  constructor
  · intro h; have := digs_dec s; rw [h, dec_zero] at this; exact this.symm
  · intro h; rw [h]; rfl
theorem val_neg (s : Bytes) : val s < 0 ↔ negB s = true := by
  unfold val
  by_cases h : negB s = true
  · rw [if_pos h]
    have : natOf (digs s) ≠ 0 := by
      intro e
      rw [natOf_digs] at e
      unfold negB at h
      rw [e] at h
      simp at h
    simp [h]; omega
  · rw [if_neg h]; simp [h]
theorem val_abs (s : Bytes) : (val s).natAbs = natOf (digs s) := by
  unfold val; split <;> simp
/-- what Canonical returns -/
theorem canon_val (s : Bytes) : canon (val s) = if negB s then 45 :: digs s else digs s := by
  unfold canon
  rw [val_abs, digs_dec]
  by_cases h : negB s = true
  · rw [if_pos ((val_neg s).2 h), if_pos h]
  · rw [if_neg (fun hh => h ((val_neg s).1 hh)), if_neg h]
theorem dec_all (n : Nat) : (dec n).all isDig = true := List.all_eq_true.2 (dec_dig n)
theorem dropWhile_dec (n : Nat) : (dec n).dropWhile (· == 48) = dec n := by
  cases h : dec n with
  | nil => rfl
  | cons a l =>
    have := dec_head n a (by rw [h]; rfl)
    rw [List.dropWhile_cons, if_neg (by simpa using this)]
theorem dec_no_minus (n : Nat) : (dec n).head? ≠ some 45 := by
  intro h
  have := dec_dig n 45 (List.mem_of_mem_head? (by rw [h]; rfl))
  revert this; decide
theorem bare_canon (z : Int) : bare (canon z) = dec z.natAbs := by
  unfold canon bare
  by_cases h : z < 0
  · rw [if_pos h]; simp
  · rw [if_neg h, if_neg (dec_no_minus _)]
theorem digs_canon (z : Int) : digs (canon z) = dec z.natAbs := by
  unfold digs
  rw [bare_canon, if_pos (dec_all _), dropWhile_dec]
theorem negB_canon (z : Int) : negB (canon z) = decide (z < 0) := by
  unfold negB
  rw [digs_canon]
  by_cases h : z < 0
  · have : dec z.natAbs ≠ [] := fun e => by rw [dec_nil] at e; omega
    simp [canon, h, this]
  · have := dec_no_minus z.natAbs
    simp [canon, h, this]
theorem val_canon (z : Int) : val (canon z) = z := by
  unfold val
  rw [negB_canon, digs_canon, natOf_dec]
  by_cases h : z < 0
  · simp [h]; omega
  · simp [h]; omega
theorem canon_inj {y z : Int} (h : canon y = canon z) : y = z := by rw [← val_canon y, h, val_canon]
theorem canon_zero : canon 0 = [] := rfl
theorem canon_nil {z : Int} : canon z = [] ↔ z = 0 := ⟨fun h => canon_inj (h.trans canon_zero.symm), fun h => by rw [h]; rfl⟩
theorem val_nil : val [] = 0 := rfl
end Dec
end Go.Proofs.YtahpbnmbphobgaaGreatDoor
namespace Go.Proofs.YtahpbnmbphobgaaGreatDoor
namespace Dec

def BB : Nat := 1000000000
theorem BB_pos : 0 < BB := by decide
/-- the value of a list of groups -/
def mval : List Nat → Nat
  | [] => 0
  | g :: m => g + BB * mval m
/-- the groups of a number -/
def magF : Nat → Nat → List Nat
  | 0, _ => []
  | f + 1, n => if n = 0 then [] else n % BB :: magF f (n / BB)
def mag (n : Nat) : List Nat := magF n n
def Small (m : List Nat) : Prop := ∀ g ∈ m, g < BB

theorem magF_more : ∀ (f g n : Nat), n ≤ f → n ≤ g → magF f n = magF g n := by
  intro f
  induction f with
  | zero =>
    intro g n h1 h2
    obtain rfl : n = 0 := by omega
    cases g <;> simp [magF]
  | succ f ih =>
    intro g n h1 h2
    cases g with
    | zero => obtain rfl : n = 0 := by omega
              simp [magF]
    | succ g =>
      unfold magF
      by_cases h0 : n = 0
      · simp [h0]
      · have : n / BB < n := Nat.div_lt_self (by omega) (by decide)
        rw [if_neg h0, if_neg h0, ih g (n / BB) (by omega) (by omega)]
theorem mag_zero : mag 0 = [] := rfl
theorem mag_pos {n : Nat} (h : n ≠ 0) : mag n = n % BB :: mag (n / BB) := by
  unfold mag
  cases n with
  | zero => exact absurd rfl h
  | succ n =>
    have : (n + 1) / BB < n + 1 := Nat.div_lt_self (by omega) (by decide)
    rw [show magF (n + 1) (n + 1) = (n + 1) % BB :: magF n ((n + 1) / BB) by simp [magF]]
    rw [magF_more n ((n + 1) / BB) ((n + 1) / BB) (by omega) (Nat.le_refl _)]
theorem mag_ind {P : Nat → Prop} (h0 : P 0) (hs : ∀ n, n ≠ 0 → P (n / BB) → P n) (n : Nat) : P n := by
  induction n using Nat.strongRecOn with
  | _ n ih =>
    by_cases h : n = 0
    · subst h; exact h0
    · exact hs n h (ih (n / BB) (Nat.div_lt_self (by omega) (by decide)))
theorem mval_mag (n : Nat) : mval (mag n) = n := by
  induction n using mag_ind with
  | h0 => rfl
  | hs n h ih => rw [mag_pos h]; unfold mval; rw [ih]; exact Nat.mod_add_div n BB
theorem mag_small (n : Nat) : Small (mag n) := by
  induction n using mag_ind with
  | h0 => intro g hg; simp [mag_zero] at hg
  | hs n h ih =>
    intro g hg
    rw [mag_pos h] at hg
    rcases List.mem_cons.1 hg with rfl | hg
    · exact Nat.mod_lt _ BB_pos
    · exact ih g hg
theorem mval_append (a b : List Nat) : mval (a ++ b) = mval a + BB ^ a.length * mval b := by
  induction a with
  | nil => simp [mval]
  | cons g a ih => simp only [List.cons_append, mval, ih, List.length_cons, Nat.pow_succ]; grind
theorem mval_lt (m : List Nat) (h : Small m) : mval m < BB ^ m.length := by
  induction m with
  | nil => simp [mval]
  | cons g m ih =>
    have h1 := ih (fun x hx => h x (List.mem_cons_of_mem _ hx))
    have h2 := h g List.mem_cons_self
    simp only [mval, List.length_cons, Nat.pow_succ]
    have : BB * (mval m + 1) ≤ BB * BB ^ m.length := Nat.mul_le_mul_left _ h1
    rw [Nat.mul_add, Nat.mul_one] at this
    rw [Nat.mul_comm (BB ^ m.length) BB]
    omega
theorem mag_nil {n : Nat} : mag n = [] ↔ n = 0 := by
  constructor
  · intro h; have := mval_mag n; rw [h] at this; exact this.symm
  · rintro rfl; rfl
theorem mag_inj {m n : Nat} (h : mag m = mag n) : m = n := by rw [← mval_mag m, h, mval_mag]
theorem Small.cons {g : Nat} {m : List Nat} (h : Small (g :: m)) : g < BB ∧ Small m := ⟨h g List.mem_cons_self, fun x hx => h x (List.mem_cons_of_mem _ hx)⟩
/-- groups without a zero on top are those of their value -/
theorem mag_mval (m : List Nat) (h : Small m) (h0 : m.getLast? ≠ some 0) : mag (mval m) = m := by
  induction m with
  | nil => rfl
  | cons g m ih =>
    obtain ⟨hg, hm⟩ := h.cons
    cases m with
    | nil =>
      have : g ≠ 0 := by simpa using h0
      simp only [mval, Nat.mul_zero, Nat.add_zero]
      rw [mag_pos this, Nat.mod_eq_of_lt hg, Nat.div_eq_of_lt hg, mag_zero]
    | cons g' m' =>
      have e := ih hm (by simpa using h0)
      have hv : mval (g' :: m') ≠ 0 := fun hz => by rw [hz, mag_zero] at e; cases e
      have hn : mval (g :: g' :: m') = g + BB * mval (g' :: m') := rfl
      have hpos : BB * mval (g' :: m') ≠ 0 := Nat.mul_ne_zero (by decide) hv
      rw [mag_pos (by rw [hn]; omega), hn, Nat.add_mul_mod_self_left, Nat.mod_eq_of_lt hg, Nat.add_mul_div_left _ _ BB_pos, Nat.div_eq_of_lt hg, Nat.zero_add, e]
theorem mag_last (n : Nat) : (mag n).getLast? ≠ some 0 := by
  induction n using mag_ind with
  | h0 => simp [mag_zero]
  | hs n h ih =>
    rw [mag_pos h]
    cases hm : mag (n / BB) with
    | nil =>
      have : n / BB = 0 := mag_nil.1 hm
      have hlt : n < BB := by
        rcases Nat.lt_or_ge n BB with hh | hh
        · exact hh
        · have := Nat.div_pos hh BB_pos; omega
      simp [Nat.mod_eq_of_lt hlt, h]
    | cons g m => rw [hm] at ih; simpa using ih
theorem mag_len_lt {n k : Nat} : (mag n).length ≤ k ↔ n < BB ^ k := by
  induction n using mag_ind generalizing k with
  | h0 => simp [mag_zero, Nat.pow_pos BB_pos]
  | hs n h ih =>
    rw [mag_pos h]
    cases k with
    | zero => simp; omega
    | succ k =>
      rw [List.length_cons, Nat.add_le_add_iff_right, ih, Nat.pow_succ, Nat.div_lt_iff_lt_mul BB_pos]
/-- groups whose number is just that of their value -/
theorem mag_of_len (m : List Nat) (h : Small m) (hl : m = [] ∨ BB ^ (m.length - 1) ≤ mval m) : mag (mval m) = m := by
  refine mag_mval m h ?_
  rcases hl with rfl | hl
  · simp
  · intro hlast
    have hne : m ≠ [] := by intro e; subst e; simp at hlast
    obtain ⟨s, d, rfl⟩ : ∃ s d, m = s ++ [d] := ⟨m.dropLast, m.getLast hne, (List.dropLast_concat_getLast hne).symm⟩
    have : d = 0 := by simpa using hlast
    subst this
    have hs : Small s := fun x hx => h x (by simp [hx])
    have h1 := mval_lt s hs
    rw [mval_append] at hl
    simp [mval] at hl
    omega
/-- zeros on top are dropped -/
def cutL (m : List Nat) : List Nat := mag (mval m)
theorem mval_zeros (k : Nat) : mval (List.replicate k 0) = 0 := by
  induction k with
  | zero => rfl
  | succ k ih => simp [List.replicate_succ, mval, ih]
theorem cut_take (m : List Nat) (h : Small m) (k : Nat) (hk : k ≤ m.length) (hz : ∀ i, k ≤ i → i < m.length → m[i]? = some 0) (hp : k = 0 ∨ m[k - 1]? ≠ some 0) : m.take k = cutL m := by
  have hs : Small (m.take k) := fun x hx => h x (List.mem_of_mem_take hx)
  have hd : m.drop k = List.replicate (m.length - k) 0 := by
    apply List.ext_getElem?
    intro i
    rw [List.getElem?_drop, List.getElem?_replicate]
    by_cases hi : i < m.length - k
    · rw [if_pos hi]; exact hz (k + i) (by omega) (by omega)
    · rw [if_neg hi, List.getElem?_eq_none (by omega)]
  have hv : mval m = mval (m.take k) := by
    conv => lhs; rw [← List.take_append_drop k m]
    rw [mval_append, hd, mval_zeros, Nat.mul_zero, Nat.add_zero]
  unfold cutL
  rw [hv]
  refine (mag_mval _ hs ?_).symm
  rcases hp with rfl | hp
  · simp
  · intro hl
    by_cases hk0 : k = 0
    · subst hk0; simp at hl
    · apply hp
      rw [List.getLast?_eq_getElem?, List.length_take, Nat.min_eq_left hk, List.getElem?_take, if_pos (by omega)] at hl
      exact hl
end Dec
end Go.Proofs.YtahpbnmbphobgaaGreatDoor
namespace Go.Proofs.YtahpbnmbphobgaaGreatDoor
namespace Dec

/-- what FormatUint writes -/
def fmt (n : Nat) : Bytes := if n = 0 then [48] else dec n
def pad9 (g : Nat) : Bytes := List.replicate (9 - (fmt g).length) 48 ++ fmt g

theorem fmt_dig (n : Nat) : ∀ d ∈ fmt n, isDig d = true := by
  unfold fmt; split
  · intro d hd; simp at hd; subst hd; decide
  · exact dec_dig n
theorem natOf_fmt (n : Nat) : natOf (fmt n) = n := by
  unfold fmt; split
  · rename_i h; subst h; decide
  · exact natOf_dec n
theorem fmt_len {n : Nat} (h : n < BB) : 1 ≤ (fmt n).length ∧ (fmt n).length ≤ 9 := by
  unfold fmt; split
  · simp
  · rename_i h0
    constructor
    · have : dec n ≠ [] := fun e => h0 (dec_nil.1 e)
      exact List.length_pos_iff.2 this
    · exact dec_len.2 h
theorem natOf_zeros (k : Nat) : natOf (List.replicate k 48) = 0 := by
  induction k with
  | zero => rfl
  | succ k ih => rw [List.replicate_succ, natOf_cons, ih]; simp
theorem pad9_len {g : Nat} (h : g < BB) : (pad9 g).length = 9 := by
  have := fmt_len h; unfold pad9; rw [List.length_append, List.length_replicate]; omega
theorem natOf_pad9 (g : Nat) : natOf (pad9 g) = g := by
  unfold pad9; rw [natOf_append, natOf_zeros, natOf_fmt]; omega
theorem pad9_dig (g : Nat) : ∀ d ∈ pad9 g, isDig d = true := by
  intro d hd
  unfold pad9 at hd
  rcases List.mem_append.1 hd with hd | hd
  · have := List.eq_of_mem_replicate hd; subst this; decide
  · exact fmt_dig g d hd
/-- one group more -/
theorem dec_step {v g : Nat} (hv : v ≠ 0) (hg : g < BB) : dec (g + BB * v) = dec v ++ pad9 g := by
  have e : natOf (dec v ++ pad9 g) = g + BB * v := by
    rw [natOf_append, natOf_dec, natOf_pad9, pad9_len hg, Nat.mul_comm]; unfold BB; omega
  rw [← e]
  refine dec_natOf _ (fun d hd => ?_) (fun d hd => ?_)
  · rcases List.mem_append.1 hd with hd | hd
    · exact dec_dig v d hd
    · exact pad9_dig g d hd
  · have hne : dec v ≠ [] := fun e => hv (dec_nil.1 e)
    rw [head_app hne] at hd
    exact dec_head v d hd

theorem BB_pow (k : Nat) : BB ^ k = 10 ^ (9 * k) := by rw [Nat.pow_mul]; rfl
theorem drop_split (s : Bytes) (a b : Nat) (h : a ≤ b) (hb : b ≤ s.length) : s.drop a = (s.take b).drop a ++ s.drop b := by
  conv => lhs; rw [← List.take_append_drop b s]
  rw [List.drop_append_of_le_length (by rw [List.length_take]; omega)]
/-- after k groups have been read from the end -/
def rdG (s : Bytes) : Nat → List Nat
  | 0 => []
  | k + 1 => rdG s k ++ [natOf ((s.take (s.length - 9 * k)).drop (s.length - 9 * (k + 1)))]
theorem rdG_len (s : Bytes) (k : Nat) : (rdG s k).length = k := by induction k with
  | zero => rfl
  | succ k ih => simp [rdG, ih]
theorem mem_mid {s : Bytes} {a b : Nat} {d : UInt8} (h : d ∈ (s.take a).drop b) : d ∈ s := List.mem_of_mem_take (List.mem_of_mem_drop h)
theorem rdG_small (s : Bytes) (h : ∀ d ∈ s, isDig d = true) (k : Nat) : Small (rdG s k) := by
  induction k with
  | zero => intro g hg; simp [rdG] at hg
  | succ k ih =>
    intro g hg
    rcases List.mem_append.1 hg with hg | hg
    · exact ih g hg
    · simp at hg
      subst hg
      have h1 := natOf_lt _ (fun d (hd : d ∈ (s.take (s.length - 9 * k)).drop (s.length - 9 * (k + 1))) => h d (mem_mid hd))
      refine Nat.lt_of_lt_of_le h1 ?_
      show 10 ^ _ ≤ 10 ^ 9
      refine Nat.pow_le_pow_right (by omega) ?_
      rw [List.length_drop, List.length_take]; omega
theorem mval_rdG (s : Bytes) (k : Nat) (hk : 9 * k ≤ s.length + 8) : mval (rdG s k) = natOf (s.drop (s.length - 9 * k)) := by
  induction k with
  | zero => simp [rdG, mval, natOf]
  | succ k ih =>
    rw [rdG, mval_append, ih (by omega), rdG_len]
    have e := drop_split s (s.length - 9 * (k + 1)) (s.length - 9 * k) (by omega) (by omega)
    rw [e, natOf_append, List.length_drop, show s.length - (s.length - 9 * k) = 9 * k by omega, ← BB_pow]
    simp [mval]
    grind
/-- all groups -/
theorem rdG_all (s : Bytes) (h : ∀ d ∈ s, isDig d = true) (h0 : ∀ d, s.head? = some d → d ≠ 48) (k : Nat) (hk : s.length ≤ 9 * k) (hk' : 9 * k ≤ s.length + 8) : rdG s k = mag (natOf s) := by
  have e : mval (rdG s k) = natOf s := by rw [mval_rdG s k hk', show s.length - 9 * k = 0 by omega, List.drop_zero]
  rw [← e]
  refine (mag_of_len _ (rdG_small s h k) ?_).symm
  by_cases hk0 : k = 0
  · subst hk0; exact .inl rfl
  · right
    rw [rdG_len, e, BB_pow]
    cases s with
    | nil => simp at hk'; omega
    | cons a t =>
      have ha := h a List.mem_cons_self
      have ha0 : a ≠ 48 := h0 a rfl
      unfold isDig at ha
      simp at ha
      have ha1 : a.toNat ≠ 48 := fun e => ha0 (UInt8.toNat_inj.1 e)
      rw [natOf_cons]
      have h1 : 10 ^ (9 * (k - 1)) ≤ 10 ^ t.length := Nat.pow_le_pow_right (by omega) (by simp at hk'; omega)
      have h2 : 1 * 10 ^ t.length ≤ (a.toNat - 48) * 10 ^ t.length := Nat.mul_le_mul_right _ (by omega)
      omega

/-- the sign of a comparison -/
def CmpIs (r : Int) (a b : Nat) : Prop := (r < 0 ↔ a < b) ∧ (r = 0 ↔ a = b)
theorem mval_top {l m : List Nat} (hl : Small l) (hlen : l.length = m.length) : ∀ (i x y : Nat), l[i]? = some x → m[i]? = some y → x < y → (∀ j, i < j → l[j]? = m[j]?) → mval l < mval m := by
  induction l generalizing m with
  | nil => intro i x y h; simp at h
  | cons g l ih =>
    intro i x y hx hy hlt hab
    cases m with
    | nil => simp at hlen
    | cons g' m =>
      obtain ⟨hg, hls⟩ := hl.cons
      cases i with
      | zero =>
        simp at hx hy
        subst hx hy
        have : l = m := by
          apply List.ext_getElem?
          intro j
          have := hab (j + 1) (by omega)
          simpa using this
        subst this
        simp only [mval]; omega
      | succ i =>
        have := ih hls (by simpa using hlen) i x y (by simpa using hx) (by simpa using hy) hlt (fun j hj => by have := hab (j + 1) (by omega); simpa using this)
        simp only [mval]
        have h2 : BB * (mval l + 1) ≤ BB * mval m := Nat.mul_le_mul_left _ this
        rw [Nat.mul_add, Nat.mul_one] at h2
        omega
theorem cmp_len {a b : Nat} (h : (mag a).length < (mag b).length) : a < b := by
  have h1 : a < BB ^ (mag a).length := mag_len_lt.1 (Nat.le_refl _)
  have h2 : ¬ b < BB ^ (mag a).length := fun hh => by have := mag_len_lt.2 hh; omega
  omega
end Dec
end Go.Proofs.YtahpbnmbphobgaaGreatDoor
namespace Go.Proofs.YtahpbnmbphobgaaGreatDoor
namespace Dec

theorem mval_set : ∀ (l : List Nat) (j x v : Nat), l[j]? = some x → mval (l.set j v) + BB ^ j * x = mval l + BB ^ j * v := by
  intro l
  induction l with
  | nil => intro j x v h; simp at h
  | cons g l ih =>
    intro j x v h
    cases j with
    | zero =>
      simp at h
      subst h
      simp only [List.set_cons_zero, mval, Nat.pow_zero, Nat.one_mul]
      omega
    | succ j =>
      have := ih j x v (by simpa using h)
      simp only [List.set_cons_succ, mval, Nat.pow_succ]
      have e : BB * (mval (l.set j v) + BB ^ j * x) = BB * (mval l + BB ^ j * v) := by rw [this]
      rw [Nat.mul_add, Nat.mul_add] at e
      rw [Nat.mul_comm (BB ^ j) BB, Nat.mul_assoc, Nat.mul_assoc]
      omega
theorem Small.set {l : List Nat} (h : Small l) (j : Nat) {v : Nat} (hv : v < BB) : Small (l.set j v) := by
  intro g hg
  rcases List.mem_or_eq_of_mem_set hg with hg | rfl
  · exact h g hg
  · exact hv
theorem Small.at {l : List Nat} (h : Small l) {j x : Nat} (hj : l[j]? = some x) : x < BB := h x (List.mem_of_getElem? hj)
theorem mval_take_succ (l : List Nat) (k : Nat) : mval (l.take (k + 1)) = mval (l.take k) + BB ^ k * (l[k]?.getD 0) := by
  by_cases hk : k ≤ l.length
  · rw [List.take_add_one, mval_append]
    have : (l.take k).length = k := by simp; omega
    rw [this]
    cases h : l[k]? <;> simp [mval]
  · rw [List.take_of_length_le (show l.length ≤ k by omega), List.take_of_length_le (show l.length ≤ k + 1 by omega), List.getElem?_eq_none (by omega)]; simp
theorem mval_zero_of (l : List Nat) (h : ∀ (j x : Nat), l[j]? = some x → x = 0) : mval l = 0 := by
  induction l with
  | nil => rfl
  | cons g l ih =>
    have h0 := h 0 g rfl
    have := ih (fun j x hj => h (j + 1) x (by simpa using hj))
    simp [mval, h0, this]
theorem mval_take_drop (l : List Nat) (k : Nat) (hk : k ≤ l.length) : mval l = mval (l.take k) + BB ^ k * mval (l.drop k) := by
  conv => lhs; rw [← List.take_append_drop k l]
  rw [mval_append, List.length_take, Nat.min_eq_left hk]
theorem set_getElem_ne {l : List Nat} {i j v : Nat} (h : i ≠ j) : (l.set i v)[j]? = l[j]? := List.getElem?_set_ne h

theorem plus_keep {l m o : List Nat} {k cy x y : Nat} (hx : o[k]? = some x) (hy : m[k]?.getD 0 = y) (h : mval o + cy * BB ^ k = mval l + mval (m.take k)) :
    mval (o.set k ((x + cy + y) % BB)) + ((x + cy + y) / BB) * BB ^ (k + 1) = mval l + mval (m.take (k + 1)) := by
  have h1 := mval_set o k x ((x + cy + y) % BB) hx
  rw [mval_take_succ, hy]
  have h2 := Nat.mod_add_div (x + cy + y) BB
  generalize (x + cy + y) % BB = r at *
  generalize (x + cy + y) / BB = q at *
  rw [Nat.pow_succ]
  generalize BB ^ k = P at *
  have h3 : P * (r + BB * q) = P * (x + cy + y) := by rw [h2]
  grind
theorem minus_keep0 {l m o : List Nat} {k cy x y : Nat} (hx : o[k]? = some x) (hy : m[k]?.getD 0 = y) (h : mval o + mval (m.take k) = mval l + cy * BB ^ k) (hle : cy + y ≤ x) :
    mval (o.set k (x - (cy + y))) + mval (m.take (k + 1)) = mval l + 0 * BB ^ (k + 1) := by
  have h1 := mval_set o k x (x - (cy + y)) hx
  rw [mval_take_succ, hy]
  obtain ⟨d, rfl⟩ : ∃ d, x = d + (cy + y) := ⟨x - (cy + y), by omega⟩
  rw [Nat.add_sub_cancel] at h1 ⊢
  generalize BB ^ k = P at *
  grind
theorem minus_keep1 {l m o : List Nat} {k cy x y : Nat} (hx : o[k]? = some x) (hy : m[k]?.getD 0 = y) (h : mval o + mval (m.take k) = mval l + cy * BB ^ k) (hle : cy + y ≤ x + BB) :
    mval (o.set k (x + BB - (cy + y))) + mval (m.take (k + 1)) = mval l + 1 * BB ^ (k + 1) := by
  have h1 := mval_set o k x (x + BB - (cy + y)) hx
  rw [mval_take_succ, hy, Nat.pow_succ]
  obtain ⟨d, hd⟩ : ∃ d, x + BB = d + (cy + y) := ⟨x + BB - (cy + y), by omega⟩
  rw [hd, Nat.add_sub_cancel] at h1 ⊢
  generalize BB ^ k = P at *
  have h3 : P * (x + BB) = P * (d + (cy + y)) := by rw [hd]
  grind
/-- the end of minus -/
theorem minus_end {a b : Nat} {l o : List Nat} {cy : Nat} (ho : Small o) (hlen : o.length = l.length) (h : mval o + b = a + cy * BB ^ l.length) (hba : b ≤ a) (hcy : cy ≤ 1) : mval o = a - b := by
  have h1 := mval_lt o ho
  rw [hlen] at h1
  rcases Nat.eq_zero_or_pos cy with h0 | h0
  · subst h0; omega
  · obtain rfl : cy = 1 := by omega
    omega
theorem times_keep {m O o : List Nat} {i k cy x y z : Nat} (hz : o[i + k]? = some z) (hy : m[k]?.getD 0 = y) (h : mval o + cy * BB ^ (i + k) = mval O + x * mval (m.take k) * BB ^ i) :
    mval (o.set (i + k) ((cy + (z + x * y)) % BB)) + ((cy + (z + x * y)) / BB) * BB ^ (i + (k + 1)) = mval O + x * mval (m.take (k + 1)) * BB ^ i := by
  have h1 := mval_set o (i + k) z ((cy + (z + x * y)) % BB) hz
  rw [mval_take_succ, hy]
  have h2 := Nat.mod_add_div (cy + (z + x * y)) BB
  generalize (cy + (z + x * y)) % BB = r at *
  generalize (cy + (z + x * y)) / BB = q at *
  rw [Nat.pow_add, Nat.pow_add, Nat.pow_succ] at *
  generalize BB ^ k = P at *
  generalize BB ^ i = Q at *
  generalize mval (m.take k) = M at *
  generalize mval O = U at *
  generalize mval o = V at *
  generalize mval (o.set (i + k) r) = V' at *
  have h3 : Q * P * (r + BB * q) = Q * P * (cy + (z + x * y)) := by rw [h2]
  grind
theorem times_bound {cy z x y : Nat} (h1 : cy < BB) (h2 : z < BB) (h3 : x < BB) (h4 : y < BB) : x * y ≤ 999999998000000001 ∧ (cy + (z + x * y)) / BB < BB := by
  have : x * y ≤ (BB - 1) * (BB - 1) := Nat.mul_le_mul (by omega) (by omega)
  have h5 : x * y ≤ 999999998000000001 := this
  refine ⟨h5, ?_⟩
  rw [Nat.div_lt_iff_lt_mul BB_pos]
  unfold BB at *
  omega
/-- the end of a row of times -/
theorem times_row {l m O o : List Nat} {i cy x : Nat} (hz : o[i + m.length]? = some 0) (hx : l[i]? = some x) (h : mval o + cy * BB ^ (i + m.length) = mval O + x * mval m * BB ^ i) (hO : mval O = mval (l.take i) * mval m) :
    mval (o.set (i + m.length) (0 + cy)) = mval (l.take (i + 1)) * mval m := by
  have h1 := mval_set o (i + m.length) 0 (0 + cy) hz
  rw [mval_take_succ, hx, Option.getD_some]
  rw [Nat.zero_add] at h1 ⊢
  generalize BB ^ (i + m.length) = P at *
  generalize BB ^ i = Q at *
  generalize mval m = M at *
  generalize mval (l.take i) = L at *
  generalize mval (o.set (i + m.length) cy) = V' at *
  grind
theorem single_keep {l o : List Nat} {i d r x : Nat} (hx : l[i]? = some x) (ho : o[i]? = some 0) (h : mval o * d + r * BB ^ (i + 1) + mval (l.take (i + 1)) = mval l) :
    mval (o.set i ((r * BB + x) / d)) * d + ((r * BB + x) % d) * BB ^ i + mval (l.take i) = mval l := by
  have h1 := mval_set o i 0 ((r * BB + x) / d) ho
  rw [mval_take_succ, hx, Option.getD_some, Nat.pow_succ] at h
  have h2 := Nat.mod_add_div (r * BB + x) d
  generalize (r * BB + x) % d = s at *
  generalize (r * BB + x) / d = q at *
  generalize BB ^ i = P at *
  generalize mval (l.take i) = M at *
  generalize mval l = U at *
  generalize mval o = V at *
  generalize mval (o.set i q) = V' at *
  have h3 : P * (s + d * q) = P * (r * BB + x) := by rw [h2]
  grind
theorem single_bound {d r x : Nat} (hd : d ≤ BB) (hr : r < d) (hx : x < BB) : (r * BB + x) / d < BB ∧ r * BB + x ≤ 1000000000000000000 := by
  have h1 : (r + 1) * BB ≤ d * BB := Nat.mul_le_mul_right _ hr
  rw [Nat.add_mul, Nat.one_mul] at h1
  have h2 : d * BB ≤ BB * BB := Nat.mul_le_mul_right _ hd
  refine ⟨?_, ?_⟩
  · rw [Nat.div_lt_iff_lt_mul (by omega), Nat.mul_comm BB d]; omega
  · have h3 : BB * BB = 1000000000000000000 := rfl
    omega
theorem single_end {a d r : Nat} {o : List Nat} (hr : r < d) (h : mval o * d + r = a) : mval o = a / d ∧ r = a % d := by
  have e : a = r + d * mval o := by rw [← h, Nat.mul_comm]; omega
  subst e
  rw [Nat.add_mul_div_left _ _ (by omega), Nat.div_eq_of_lt hr, Nat.add_mul_mod_self_left, Nat.mod_eq_of_lt hr]
  simp
end Dec
end Go.Proofs.YtahpbnmbphobgaaGreatDoor
namespace Go.Proofs.YtahpbnmbphobgaaGreatDoor
namespace Dec

theorem mval_drop_cons {l : List Nat} {j x : Nat} (h : l[j]? = some x) : mval (l.drop j) = x + BB * mval (l.drop (j + 1)) := by
  obtain ⟨hj, rfl⟩ := List.getElem?_eq_some_iff.1 h
  rw [List.drop_eq_getElem_cons hj]; rfl
theorem Small.drop {l : List Nat} (h : Small l) (k : Nat) : Small (l.drop k) := fun x hx => h x (List.mem_of_mem_drop hx)
theorem Small.take {l : List Nat} (h : Small l) (k : Nat) : Small (l.take k) := fun x hx => h x (List.mem_of_mem_take hx)
theorem some_at (l : List Nat) (j : Nat) (h : j < l.length) : ∃ x, l[j]? = some x := ⟨l[j], List.getElem?_eq_getElem h⟩

theorem div_parts {D k : Nat} (hk : (mag D).length = k + 2) : ∃ b0 b1 ld, (mag D)[k]? = some b0 ∧ (mag D)[k + 1]? = some b1 ∧ 0 < b1 ∧ b0 < BB ∧ b1 < BB ∧ ld < BB ^ k ∧ D = ld + BB ^ k * (b0 + BB * b1) := by
  obtain ⟨b0, h0⟩ := some_at (mag D) k (by omega)
  obtain ⟨b1, h1⟩ := some_at (mag D) (k + 1) (by omega)
  have hs := mag_small D
  refine ⟨b0, b1, mval ((mag D).take k), h0, h1, ?_, hs.at h0, hs.at h1, ?_, ?_⟩
  · have := mag_last D
    rw [List.getLast?_eq_getElem?, hk, show k + 2 - 1 = k + 1 by omega, h1] at this
    rcases Nat.eq_zero_or_pos b1 with rfl | h
    · exact absurd rfl this
    · exact h
  · have := mval_lt _ (hs.take k)
    rwa [List.length_take, hk, Nat.min_eq_left (by omega)] at this
  · have e := mval_take_drop (mag D) k (by omega)
    rw [mval_mag, mval_drop_cons h0, mval_drop_cons h1, show (mag D).drop (k + 1 + 1) = [] from List.drop_eq_nil_of_le (by omega)] at e
    simpa [mval] using e
theorem rem_parts {a : List Nat} {i k D : Nat} (ha : Small a) (hlen : i + k + 2 < a.length) (hlt : mval (a.drop (i + 1)) < D) (hD : D < BB ^ (k + 2)) :
    ∃ a0 a1 a2 lo, a[i + k]? = some a0 ∧ a[i + k + 1]? = some a1 ∧ a[i + k + 2]? = some a2 ∧ a0 < BB ∧ a1 < BB ∧ a2 < BB ∧ lo < BB ^ k ∧ mval (a.drop i) = lo + BB ^ k * (a0 + BB * (a1 + BB * a2)) ∧ mval (a.drop i) < BB * D ∧ mval (a.drop (i + k + 3)) = 0 := by
  obtain ⟨a0, h0⟩ := some_at a (i + k) (by omega)
  obtain ⟨a1, h1⟩ := some_at a (i + k + 1) (by omega)
  obtain ⟨a2, h2⟩ := some_at a (i + k + 2) (by omega)
  obtain ⟨ai, hi⟩ := some_at a i (by omega)
  have hz : mval (a.drop (i + k + 3)) = 0 := by
    have e := mval_take_drop (a.drop (i + 1)) (k + 2) (by rw [List.length_drop]; omega)
    rw [List.drop_drop, show i + 1 + (k + 2) = i + k + 3 by omega] at e
    rcases Nat.eq_zero_or_pos (mval (a.drop (i + k + 3))) with h | h
    · exact h
    · have : BB ^ (k + 2) * 1 ≤ BB ^ (k + 2) * mval (a.drop (i + k + 3)) := Nat.mul_le_mul_left _ h
      omega
  refine ⟨a0, a1, a2, mval ((a.drop i).take k), h0, h1, h2, ha.at h0, ha.at h1, ha.at h2, ?_, ?_, ?_, hz⟩
  · have := mval_lt _ ((ha.drop i).take k)
    rwa [List.length_take, List.length_drop, Nat.min_eq_left (by omega)] at this
  · have e := mval_take_drop (a.drop i) k (by rw [List.length_drop]; omega)
    rw [List.drop_drop, mval_drop_cons h0, mval_drop_cons h1, mval_drop_cons h2, hz] at e
    simpa using e
  · rw [mval_drop_cons hi]
    have h3 : BB * (mval (a.drop (i + 1)) + 1) ≤ BB * D := Nat.mul_le_mul_left _ hlt
    rw [Nat.mul_add] at h3
    have := ha.at hi
    omega

section
variable {P lo a0 a1 a2 ld b0 b1 R D : Nat}
theorem guess_lt (hD : 0 < D) (hR : R < BB * D) : R / D < BB := by
  rw [Nat.div_lt_iff_lt_mul hD]; exact hR
theorem guess_top (hR : R = lo + P * (a0 + BB * (a1 + BB * a2))) (hlo : lo < P) (hD : D = ld + P * (b0 + BB * b1)) : R / D * (b0 + BB * b1) ≤ a0 + BB * (a1 + BB * a2) := by
  have h1 : D * (R / D) ≤ R := Nat.mul_div_le R D
  generalize R / D = q at *
  generalize a0 + BB * (a1 + BB * a2) = T at *
  generalize b0 + BB * b1 = V at *
  have h2 : P * (q * V) ≤ P * T + lo := by
    have : P * (q * V) + q * ld = D * q := by rw [hD, Nat.add_mul, Nat.mul_comm q V, Nat.mul_assoc, Nat.mul_comm ld q]; omega
    omega
  have h3 : P * (q * V) < P * (T + 1) := by rw [Nat.mul_add]; omega
  have := Nat.lt_of_mul_lt_mul_left h3
  omega
theorem guess_b1 (hR : R = lo + P * (a0 + BB * (a1 + BB * a2))) (hlo : lo < P) (hD : D = ld + P * (b0 + BB * b1)) (ha0 : a0 < BB) : R / D * b1 ≤ a2 * BB + a1 := by
  have h := guess_top hR hlo hD
  generalize R / D = q at *
  rw [Nat.mul_add] at h
  have h1 : BB * (q * b1) < BB * (a2 * BB + a1 + 1) := by
    have : q * (BB * b1) = BB * (q * b1) := Nat.mul_left_comm _ _ _
    have e : BB * (a2 * BB + a1 + 1) = BB * (a1 + BB * a2) + BB := by rw [Nat.mul_comm a2 BB]; rw [Nat.mul_add]; rw [Nat.add_comm (BB * a2) a1]; omega
    omega
  have := Nat.lt_of_mul_lt_mul_left h1
  omega
theorem guess_init (hR : R = lo + P * (a0 + BB * (a1 + BB * a2))) (hlo : lo < P) (hD : D = ld + P * (b0 + BB * b1)) (ha0 : a0 < BB) (hb1 : 0 < b1) (hRD : R < BB * D) (hD0 : 0 < D) :
    R / D ≤ min ((a2 * BB + a1) / b1) (BB - 1) := by
  have h1 := guess_lt hD0 hRD
  have h2 := guess_b1 hR hlo hD ha0
  have h3 : R / D ≤ (a2 * BB + a1) / b1 := (Nat.le_div_iff_mul_le hb1).2 h2
  exact Nat.le_min.2 ⟨h3, Nat.le_sub_one_of_lt h1⟩
theorem guess_stop {g : Nat} (hR : R = lo + P * (a0 + BB * (a1 + BB * a2))) (hD : D = ld + P * (b0 + BB * b1)) (hld : ld < P) (hb1 : 0 < b1) (hb0 : b0 < BB) (hg : g < BB) (htop : g * b1 ≤ a2 * BB + a1)
    (h : BB ≤ a2 * BB + a1 - g * b1 ∨ g * b0 ≤ (a2 * BB + a1 - g * b1) * BB + a0) : g ≤ R / D + 1 := by
  have hD0 : 0 < D := by
    have : 0 < P * (b0 + BB * b1) := Nat.mul_pos (by omega) (by have := Nat.mul_pos BB_pos hb1; omega)
    omega
  -- in every case g * b2 ≤ top3
  have h3 : g * (b0 + BB * b1) ≤ a0 + BB * (a1 + BB * a2) := by
    obtain ⟨left, hleft⟩ : ∃ left, a2 * BB + a1 = g * b1 + left := ⟨a2 * BB + a1 - g * b1, by omega⟩
    rw [hleft, Nat.add_sub_cancel_left] at h
    have e : BB * (a1 + BB * a2) = BB * (g * b1) + BB * left := by rw [← Nat.mul_add, ← hleft, Nat.mul_comm a2 BB, Nat.add_comm]
    rw [e, Nat.mul_add, Nat.mul_left_comm g BB b1]
    rcases h with h | h
    · have h4 : g * b0 ≤ BB * BB := Nat.mul_le_mul (by omega) (by omega)
      have h5 : BB * BB ≤ BB * left := Nat.mul_le_mul_left _ h
      omega
    · rw [Nat.mul_comm left BB] at h
      omega
  -- (g - 1) * D ≤ R
  rcases Nat.eq_zero_or_pos g with rfl | hg0
  · exact Nat.zero_le _
  · obtain ⟨f, rfl⟩ : ∃ f, g = f + 1 := ⟨g - 1, by omega⟩
    suffices f ≤ R / D by omega
    rw [Nat.le_div_iff_mul_le hD0]
    have h6 : P * ((f + 1) * (b0 + BB * b1)) ≤ P * (a0 + BB * (a1 + BB * a2)) := Nat.mul_le_mul_left _ h3
    have h7 : f * ld ≤ BB * P := Nat.mul_le_mul (by omega) (by omega)
    have h8 : BB * P ≤ P * (b0 + BB * b1) := by
      rw [Nat.mul_comm BB P]
      refine Nat.mul_le_mul_left _ ?_
      have : BB * 1 ≤ BB * b1 := Nat.mul_le_mul_left _ hb1
      omega
    have e : f * D = f * ld + P * (f * (b0 + BB * b1)) := by rw [hD, Nat.mul_add, Nat.mul_left_comm]
    have e2 : P * ((f + 1) * (b0 + BB * b1)) = P * (f * (b0 + BB * b1)) + P * (b0 + BB * b1) := by rw [Nat.add_mul, Nat.one_mul, Nat.mul_add]
    omega
theorem guess_go {g : Nat} (hR : R = lo + P * (a0 + BB * (a1 + BB * a2))) (hlo : lo < P) (hD : D = ld + P * (b0 + BB * b1)) (htop : g * b1 ≤ a2 * BB + a1)
    (h : ¬ g * b0 ≤ (a2 * BB + a1 - g * b1) * BB + a0) : R / D < g := by
  have h1 := guess_top hR hlo hD
  rcases Nat.lt_or_ge (R / D) g with hh | hh
  · exact hh
  · exfalso
    have h2 : g * (b0 + BB * b1) ≤ R / D * (b0 + BB * b1) := Nat.mul_le_mul_right _ hh
    obtain ⟨left, hleft⟩ : ∃ left, a2 * BB + a1 = g * b1 + left := ⟨a2 * BB + a1 - g * b1, by omega⟩
    rw [hleft, Nat.add_sub_cancel_left] at h
    have e : BB * (a1 + BB * a2) = BB * (g * b1) + BB * left := by rw [← Nat.mul_add, ← hleft, Nat.mul_comm a2 BB, Nat.add_comm]
    rw [e] at h1
    have e2 : g * (b0 + BB * b1) = g * b0 + BB * (g * b1) := by rw [Nat.mul_add, Nat.mul_left_comm]
    rw [Nat.mul_comm left BB] at h
    omega
end

/-- one step of the subtraction, without a borrow -/
theorem sub_keep0 {a b o : List Nat} {i j g cy x y : Nat} (hx : o[i + j]? = some x) (hy : b[j]? = some y) (h : mval o + g * mval (b.take j) * BB ^ i = mval a + cy * BB ^ (i + j)) (hle : (g * y + cy) % BB ≤ x) :
    mval (o.set (i + j) (x - (g * y + cy) % BB)) + g * mval (b.take (j + 1)) * BB ^ i = mval a + ((g * y + cy) / BB) * BB ^ (i + (j + 1)) := by
  have h1 := mval_set o (i + j) x (x - (g * y + cy) % BB) hx
  rw [mval_take_succ, hy, Option.getD_some]
  have h2 := Nat.mod_add_div (g * y + cy) BB
  generalize (g * y + cy) % BB = r at *
  generalize (g * y + cy) / BB = q at *
  obtain ⟨d, rfl⟩ : ∃ d, x = d + r := ⟨x - r, by omega⟩
  rw [Nat.add_sub_cancel] at h1 ⊢
  rw [Nat.pow_add, Nat.pow_add, Nat.pow_succ] at *
  generalize BB ^ j = P at *
  generalize BB ^ i = Q at *
  generalize mval (b.take j) = M at *
  generalize mval (o.set (i + j) d) = V' at *
  have h3 : Q * P * (r + BB * q) = Q * P * (g * y + cy) := by rw [h2]
  grind
theorem sub_keep1 {a b o : List Nat} {i j g cy x y : Nat} (hx : o[i + j]? = some x) (hy : b[j]? = some y) (h : mval o + g * mval (b.take j) * BB ^ i = mval a + cy * BB ^ (i + j)) :
    mval (o.set (i + j) (x + BB - (g * y + cy) % BB)) + g * mval (b.take (j + 1)) * BB ^ i = mval a + ((g * y + cy) / BB + 1) * BB ^ (i + (j + 1)) := by
  have h1 := mval_set o (i + j) x (x + BB - (g * y + cy) % BB) hx
  rw [mval_take_succ, hy, Option.getD_some]
  have h2 := Nat.mod_add_div (g * y + cy) BB
  have h0 := Nat.mod_lt (g * y + cy) BB_pos
  generalize (g * y + cy) % BB = r at *
  generalize (g * y + cy) / BB = q at *
  obtain ⟨d, hd⟩ : ∃ d, x + BB = d + r := ⟨x + BB - r, by omega⟩
  rw [hd, Nat.add_sub_cancel] at h1 ⊢
  rw [Nat.pow_add, Nat.pow_add, Nat.pow_succ] at *
  generalize BB ^ j = P at *
  generalize BB ^ i = Q at *
  generalize mval (b.take j) = M at *
  generalize mval (o.set (i + j) d) = V' at *
  have h3 : Q * P * (r + BB * q) = Q * P * (g * y + cy) := by rw [h2]
  have h4 : Q * P * (x + BB) = Q * P * (d + r) := by rw [hd]
  grind
theorem sub_bound {g cy y x : Nat} (hg : g < BB) (hcy : cy < BB) (hy : y < BB) : g * y ≤ 999999998000000001 ∧ (g * y + cy) / BB < BB ∧ (x < (g * y + cy) % BB → (g * y + cy) / BB + 1 < BB) := by
  have h0 : g * y ≤ 999999998000000001 := Nat.mul_le_mul (show g ≤ 999999999 by unfold BB at hg; omega) (show y ≤ 999999999 by unfold BB at hy; omega)
  generalize g * y = p at *
  unfold BB at *
  refine ⟨h0, ?_, ?_⟩ <;> omega
theorem add_keep {o0 b o : List Nat} {i j cy x y : Nat} (hx : o[i + j]? = some x) (hy : b[j]? = some y) (h : mval o + cy * BB ^ (i + j) = mval o0 + mval (b.take j) * BB ^ i) :
    mval (o.set (i + j) ((x + (y + cy)) % BB)) + ((x + (y + cy)) / BB) * BB ^ (i + (j + 1)) = mval o0 + mval (b.take (j + 1)) * BB ^ i := by
  have h1 := mval_set o (i + j) x ((x + (y + cy)) % BB) hx
  rw [mval_take_succ, hy, Option.getD_some]
  have h2 := Nat.mod_add_div (x + (y + cy)) BB
  generalize (x + (y + cy)) % BB = r at *
  generalize (x + (y + cy)) / BB = q at *
  rw [Nat.pow_add, Nat.pow_add, Nat.pow_succ] at *
  generalize BB ^ j = P at *
  generalize BB ^ i = Q at *
  generalize mval (b.take j) = M at *
  generalize mval (o.set (i + j) r) = V' at *
  generalize mval o = V at *
  generalize mval o0 = U at *
  have h3 : Q * P * (r + BB * q) = Q * P * (x + (y + cy)) := by rw [h2]
  grind

/-- below i two lists are alike -/
def Alike (i : Nat) (a o : List Nat) : Prop := o.length = a.length ∧ ∀ t, t < i → o[t]? = a[t]?
theorem Alike.refl (i : Nat) (a : List Nat) : Alike i a a := ⟨rfl, fun _ _ => rfl⟩
theorem Alike.set {i j v : Nat} {a o : List Nat} (h : Alike i a o) (hj : i ≤ j) : Alike i a (o.set j v) :=
  ⟨by rw [List.length_set]; exact h.1, fun t ht => by rw [List.getElem?_set_ne (by omega)]; exact h.2 t ht⟩
theorem Alike.trans {i : Nat} {a o p : List Nat} (h : Alike i a o) (h2 : Alike i o p) : Alike i a p := ⟨h2.1.trans h.1, fun t ht => (h2.2 t ht).trans (h.2 t ht)⟩
theorem Alike.take {i : Nat} {a o : List Nat} (h : Alike i a o) : o.take i = a.take i := by
  apply List.ext_getElem?
  intro t
  rw [List.getElem?_take, List.getElem?_take]
  by_cases ht : t < i
  · rw [if_pos ht, if_pos ht]; exact h.2 t ht
  · rw [if_neg ht, if_neg ht]
theorem Alike.drop {i : Nat} {a o : List Nat} (h : Alike i a o) (hi : i ≤ a.length) {u v : Nat} (e : mval o + u * BB ^ i = mval a + v * BB ^ i) : mval (o.drop i) + u = mval (a.drop i) + v := by
  have h1 := mval_take_drop o i (by rw [h.1]; exact hi)
  have h2 := mval_take_drop a i hi
  rw [h.take] at h1
  rw [h1, h2] at e
  generalize mval (a.take i) = T at *
  have h3 : BB ^ i * (mval (o.drop i) + u) = BB ^ i * (mval (a.drop i) + v) := by
    rw [Nat.mul_add, Nat.mul_add, Nat.mul_comm _ u, Nat.mul_comm _ v]; omega
  exact Nat.eq_of_mul_eq_mul_left (Nat.pow_pos BB_pos) h3
/-- the groups behind the subtraction's own: those of the list before -/
theorem drop_top {a o : List Nat} {i k a2 : Nat} (ho : Small o) (hl : o.length = a.length) (h2 : a[i + k]? = some a2) (hz : mval (a.drop (i + k + 1)) = 0) (hs : ∀ t, i + k ≤ t → o[t]? = a[t]?) :
    ∃ lo, lo < BB ^ k ∧ mval (o.drop i) = lo + BB ^ k * a2 := by
  have hlen : i + k < a.length := by
    rcases Nat.lt_or_ge (i + k) a.length with h | h
    · exact h
    · rw [List.getElem?_eq_none h] at h2; cases h2
  have e := mval_take_drop (o.drop i) k (by rw [List.length_drop]; omega)
  have ho2 : o[i + k]? = some a2 := (hs (i + k) (Nat.le_refl _)).trans h2
  have hd : o.drop (i + k + 1) = a.drop (i + k + 1) := by
    apply List.ext_getElem?
    intro t
    rw [List.getElem?_drop, List.getElem?_drop]
    exact hs _ (by omega)
  rw [List.drop_drop, mval_drop_cons ho2, hd, hz, Nat.mul_zero, Nat.add_zero] at e
  refine ⟨_, ?_, e⟩
  have := mval_lt _ ((ho.drop i).take k)
  rwa [List.length_take, List.length_drop, Nat.min_eq_left (by omega)] at this

theorem div_unique {R D g r : Nat} (h : r + g * D = R) (hr : r < D) : g = R / D ∧ r = R % D := by
  subst h
  rw [Nat.add_mul_div_right _ _ (by omega), Nat.div_eq_of_lt hr, Nat.add_mul_mod_self_right, Nat.mod_eq_of_lt hr]
  simp
/-- nothing to be added back -/
theorem sub_end0 {a o : List Nat} {i k g cy a2 D : Nat} (hal : Alike i a o) (hlen : i + k < a.length) (ho2 : o[i + k]? = some a2) (h : mval o + g * D * BB ^ i = mval a + cy * BB ^ (i + k)) (hle : cy ≤ a2)
    (hq : mval (a.drop i) / D ≤ g) (hD : 0 < D) : g = mval (a.drop i) / D ∧ mval ((o.set (i + k) (a2 - cy)).drop i) = mval (a.drop i) % D := by
  have h1 := mval_set o (i + k) a2 (a2 - cy) ho2
  have hal' : Alike i a (o.set (i + k) (a2 - cy)) := hal.set (by omega)
  have e : mval (o.set (i + k) (a2 - cy)) + (g * D) * BB ^ i = mval a + 0 * BB ^ i := by
    obtain ⟨d, rfl⟩ : ∃ d, a2 = d + cy := ⟨a2 - cy, by omega⟩
    rw [Nat.add_sub_cancel] at h1 ⊢
    rw [Nat.mul_add, Nat.mul_comm _ cy] at h1
    omega
  have e2 := hal'.drop (by omega) e
  rw [Nat.add_zero] at e2
  have hg : g ≤ mval (a.drop i) / D := by rw [Nat.le_div_iff_mul_le hD]; omega
  obtain rfl : g = mval (a.drop i) / D := by omega
  refine ⟨rfl, ?_⟩
  have := Nat.mod_add_div (mval (a.drop i)) D
  rw [Nat.mul_comm] at this
  omega
/-- one too many -/
theorem sub_end1 {a o : List Nat} {i k g cy a2 D : Nat} (ho : Small o) (hal : Alike i a o) (h2 : a[i + k]? = some a2) (hz : mval (a.drop (i + k + 1)) = 0) (hs : ∀ t, i + k ≤ t → o[t]? = a[t]?)
    (h : mval o + g * D * BB ^ i = mval a + cy * BB ^ (i + k)) (hlt : a2 < cy) (hq : g ≤ mval (a.drop i) / D + 1) (hD : 0 < D) : g = mval (a.drop i) / D + 1 := by
  have hlen : i + k < a.length := by
    rcases Nat.lt_or_ge (i + k) a.length with h | h
    · exact h
    · rw [List.getElem?_eq_none h] at h2; cases h2
  obtain ⟨lo, hlo, e⟩ := drop_top ho hal.1 h2 hz hs
  have e2 : mval o + (g * D) * BB ^ i = mval a + (cy * BB ^ k) * BB ^ i := by rw [h, Nat.pow_add, Nat.mul_assoc cy, Nat.mul_comm (BB ^ i)]
  have e3 := hal.drop (by omega) e2
  have h3 : BB ^ k * (a2 + 1) ≤ BB ^ k * cy := Nat.mul_le_mul_left _ hlt
  rw [Nat.mul_add, Nat.mul_comm _ cy] at h3
  have h4 : mval (a.drop i) < g * D := by omega
  have h5 : mval (a.drop i) / D < g := by rw [Nat.div_lt_iff_lt_mul hD]; exact h4
  omega
theorem add_end {a o p : List Nat} {i k g cy c a2 D : Nat} (hp : Small p) (hal : Alike i a o) (hap : Alike i o p) (h2 : a[i + k]? = some a2) (hz : mval (a.drop (i + k + 1)) = 0) (hs : ∀ t, i + k ≤ t → o[t]? = a[t]?) (hsp : ∀ t, i + k ≤ t → p[t]? = o[t]?)
    (h : mval o + g * D * BB ^ i = mval a + cy * BB ^ (i + k)) (hg : g = mval (a.drop i) / D + 1) (hD : 0 < D) (hDk : D < BB ^ k) (h3 : mval p + c * BB ^ (i + k) = mval o + D * BB ^ i) :
    a2 + c = cy ∧ mval ((p.set (i + k) 0).drop i) = mval (a.drop i) % D := by
  have hlen : i + k < a.length := by
    rcases Nat.lt_or_ge (i + k) a.length with h | h
    · exact h
    · rw [List.getElem?_eq_none h] at h2; cases h2
  have hsp' : ∀ t, i + k ≤ t → p[t]? = a[t]? := fun t ht => (hsp t ht).trans (hs t ht)
  have hap' := hal.trans hap
  obtain ⟨lo, hlo, e⟩ := drop_top hp hap'.1 h2 hz hsp'
  have e2 : mval p + (c * BB ^ k + mval (a.drop i) / D * D) * BB ^ i = mval a + (cy * BB ^ k) * BB ^ i := by
    rw [Nat.pow_add] at h h3
    subst hg
    generalize mval (a.drop i) / D = q at *
    generalize BB ^ i = Q at *
    generalize BB ^ k = P at *
    grind
  have e3 := hap'.drop (by omega) e2
  have h5 := Nat.mod_add_div (mval (a.drop i)) D
  have h6 := Nat.mod_lt (mval (a.drop i)) hD
  rw [Nat.mul_comm D] at h5
  have e4 : lo + BB ^ k * (a2 + c) = mval (a.drop i) % D + BB ^ k * cy := by rw [Nat.mul_add, Nat.mul_comm _ c, Nat.mul_comm _ cy]; omega
  have hc : a2 + c = cy := by
    have d1 : (lo + BB ^ k * (a2 + c)) / BB ^ k = a2 + c := by rw [Nat.add_mul_div_left _ _ (Nat.pow_pos BB_pos), Nat.div_eq_of_lt hlo, Nat.zero_add]
    rw [e4, Nat.add_mul_div_left _ _ (Nat.pow_pos BB_pos), Nat.div_eq_of_lt (by omega), Nat.zero_add] at d1
    exact d1.symm
  subst hc
  refine ⟨rfl, ?_⟩
  have hp2 : p[i + k]? = some a2 := (hsp' (i + k) (Nat.le_refl _)).trans h2
  have h7 := mval_set p (i + k) a2 0 hp2
  have e5 : mval (p.set (i + k) 0) + (BB ^ k * a2) * BB ^ i = mval p + 0 * BB ^ i := by
    rw [Nat.pow_add] at h7
    generalize BB ^ i = Q at *
    generalize BB ^ k = P at *
    grind
  have e6 := (Alike.refl i p).set (v := 0) (show i ≤ i + k by omega)
  have e7 := e6.drop (by rw [hap'.1]; omega) e5
  omega

/-- the multiplied divisor: as many groups, and it divides as the divisor does -/
theorem scale_pos {v : Nat} (hv : v < BB) : 0 < BB / (v + 1) := Nat.div_pos (by omega) (by omega)
theorem scale_len {n k v : Nat} (hk : (mag n).length = k + 1) (hv : (mag n)[k]? = some v) : (mag (n * (BB / (v + 1)))).length = k + 1 := by
  have hvb := (mag_small n).at hv
  have hs := scale_pos hvb
  have hv2 := Nat.mul_div_le BB (v + 1)
  generalize BB / (v + 1) = s at *
  have h1 : n < BB ^ k * (v + 1) := by
    have e := mval_take_drop (mag n) k (by omega)
    rw [mval_mag, mval_drop_cons hv, show (mag n).drop (k + 1) = [] from List.drop_eq_nil_of_le (by omega)] at e
    have := mval_lt _ ((mag_small n).take k)
    rw [List.length_take, hk, Nat.min_eq_left (by omega)] at this
    simp only [mval, Nat.mul_zero, Nat.add_zero] at e
    rw [Nat.mul_add]; omega
  have h2 : (mag (n * s)).length ≤ k + 1 := by
    rw [mag_len_lt, Nat.pow_succ]
    have h3 : n * s < BB ^ k * (v + 1) * s := Nat.mul_lt_mul_of_pos_right h1 hs
    have h4 : BB ^ k * ((v + 1) * s) ≤ BB ^ k * BB := Nat.mul_le_mul_left _ hv2
    rw [← Nat.mul_assoc] at h4
    omega
  have h5 : ¬ (mag (n * s)).length ≤ k := by
    intro h
    rw [mag_len_lt] at h
    have h6 : n * 1 ≤ n * s := Nat.mul_le_mul_left _ hs
    have h7 : (mag n).length ≤ k := mag_len_lt.2 (by omega)
    omega
  omega
theorem scale_end {m n s r Q : Nat} (hs : 0 < s) (h : r + Q * (n * s) = m * s) (hr : r < n * s) : Q = m / n ∧ r / s = m % n := by
  obtain ⟨h1, h2⟩ := div_unique h hr
  rw [Nat.mul_div_mul_right _ _ hs] at h1
  rw [Nat.mul_mod_mul_right] at h2
  exact ⟨h1, by rw [h2, Nat.mul_div_cancel _ hs]⟩
/-- one quotient's group more -/
theorem quot_keep {a o q : List Nat} {i D A g : Nat} (hal : Alike i a o) (hi : i ≤ a.length) (hq : q[i]? = some 0) (h : mval a + mval q * D = A) (hg : g = mval (a.drop i) / D) (ho : mval (o.drop i) = mval (a.drop i) % D) :
    mval o + mval (q.set i g) * D = A := by
  have h1 := mval_take_drop o i (by rw [hal.1]; exact hi)
  have h2 := mval_take_drop a i hi
  rw [hal.take, ho] at h1
  have h3 := mval_set q i 0 g hq
  have h4 := Nat.mod_add_div (mval (a.drop i)) D
  rw [← hg] at h4
  generalize mval (a.drop i) % D = r at *
  generalize mval (a.drop i) = R at *
  generalize mval (a.take i) = T at *
  generalize mval (q.set i g) = q' at *
  generalize mval a = U at *
  generalize mval o = V at *
  generalize mval q = W at *
  generalize BB ^ i = P at *
  subst h4
  grind
end Dec
end Go.Proofs.YtahpbnmbphobgaaGreatDoor
