/- Integer, plain: decimal texts, their values, the canonical text of an integer; magnitudes in groups of nine digits. No program here, no condition. -/
import Derived.Below
namespace Go.Proofs.YtonopbelbehheaaGreatDoor
namespace Dec

abbrev Bytes := List UInt8

def isDig (b : UInt8) : Bool := decide (48 ≤ b.toNat ∧ b.toNat ≤ 57)
def natOf (ds : Bytes) : Nat := ds.foldl (fun n d => 10 * n + (d.toNat - 48)) 0
def digB (n : Nat) : UInt8 := UInt8.ofNat (48 + n % 10)

theorem digB_toNat (n : Nat) : (digB n).toNat = 48 + n % 10 := by
  unfold digB
  rw [UInt8.toNat_ofNat']
  omega
theorem isDig_digB (n : Nat) : isDig (digB n) = true := by
  unfold isDig; rw [digB_toNat]; simp; omega

theorem foldl_natOf (ds : Bytes) : ∀ a : Nat, ds.foldl (fun n d => 10 * n + (d.toNat - 48)) a = a * 10 ^ ds.length + natOf ds := by
  induction ds with
  | nil => intro a; simp [natOf]
  | cons d ds ih =>
    intro a
    have h1 := ih (10 * a + (d.toNat - 48))
    have h2 := ih (10 * 0 + (d.toNat - 48))
    simp only [natOf, List.foldl_cons, List.length_cons] at *
    rw [h1, h2, Nat.pow_succ]
    grind
theorem natOf_append (a b : Bytes) : natOf (a ++ b) = natOf a * 10 ^ b.length + natOf b := by
  unfold natOf
  rw [List.foldl_append, foldl_natOf b]
  rfl
theorem natOf_nil : natOf [] = 0 := rfl
theorem natOf_one (d : UInt8) : natOf [d] = d.toNat - 48 := by simp [natOf]
theorem natOf_cons (d : UInt8) (ds : Bytes) : natOf (d :: ds) = (d.toNat - 48) * 10 ^ ds.length + natOf ds := by
  have := natOf_append [d] ds
  simpa [natOf_one] using this
theorem natOf_lt (ds : Bytes) (h : ∀ d ∈ ds, isDig d = true) : natOf ds < 10 ^ ds.length := by
  induction ds with
  | nil => simp [natOf]
  | cons d ds ih =>
    have h1 := ih (fun x hx => h x (List.mem_cons_of_mem _ hx))
    have h2 := h d List.mem_cons_self
    unfold isDig at h2
    simp at h2
    rw [natOf_cons, List.length_cons, Nat.pow_succ]
    have : (d.toNat - 48) * 10 ^ ds.length ≤ 9 * 10 ^ ds.length := Nat.mul_le_mul_right _ (by omega)
    omega

/-- the decimal digits of a number; none for 0 -/
def decF : Nat → Nat → Bytes
  | 0, _ => []
  | f + 1, n => if n = 0 then [] else decF f (n / 10) ++ [digB n]
def dec (n : Nat) : Bytes := decF n n

theorem decF_more : ∀ (f g n : Nat), n ≤ f → n ≤ g → decF f n = decF g n := by
  intro f
  induction f with
  | zero =>
    intro g n h1 h2
    obtain rfl : n = 0 := by omega
    cases g <;> simp [decF]
  | succ f ih =>
    intro g n h1 h2
    cases g with
    | zero => obtain rfl : n = 0 := by omega
              simp [decF]
    | succ g =>
      unfold decF
      by_cases h0 : n = 0
      · simp [h0]
      · rw [if_neg h0, if_neg h0, ih g (n / 10) (by omega) (by omega)]
theorem dec_zero : dec 0 = [] := rfl
theorem dec_pos {n : Nat} (h : n ≠ 0) : dec n = dec (n / 10) ++ [digB n] := by
  unfold dec
  cases n with
  | zero => exact absurd rfl h
  | succ n =>
    show decF (n + 1) (n + 1) = _
    rw [show decF (n + 1) (n + 1) = decF n ((n + 1) / 10) ++ [digB (n + 1)] by simp [decF]]
    rw [decF_more n ((n + 1) / 10) ((n + 1) / 10) (by omega) (Nat.le_refl _)]
theorem dec_ind {P : Nat → Prop} (h0 : P 0) (hs : ∀ n, n ≠ 0 → P (n / 10) → P n) (n : Nat) : P n := by
  induction n using Nat.strongRecOn with
  | _ n ih =>
    by_cases h : n = 0
    · subst h; exact h0
    · exact hs n h (ih (n / 10) (by omega))
theorem natOf_dec (n : Nat) : natOf (dec n) = n := by
  induction n using dec_ind with
  | h0 => rfl
  | hs n h ih => rw [dec_pos h, natOf_append, ih, natOf_one, digB_toNat]; simp; omega
theorem dec_dig (n : Nat) : ∀ d ∈ dec n, isDig d = true := by
  induction n using dec_ind with
  | h0 => intro d hd; simp [dec_zero] at hd
  | hs n h ih =>
    intro d hd
    rw [dec_pos h, List.mem_append] at hd
    rcases hd with hd | hd
    · exact ih d hd
    · simp at hd; subst hd; exact isDig_digB n
theorem dec_nil {n : Nat} : dec n = [] ↔ n = 0 := by
  constructor
  · intro h
    have := natOf_dec n
    rw [h] at this
    exact this.symm
  · rintro rfl; rfl
theorem head_app {a b : Bytes} (h : a ≠ []) : (a ++ b).head? = a.head? := by cases a with | nil => exact absurd rfl h | cons x a => rfl
/-- no zero stands ahead -/
theorem dec_head (n : Nat) : ∀ d, (dec n).head? = some d → d ≠ 48 := by
  induction n using dec_ind with
  | h0 => intro d hd; simp [dec_zero] at hd
  | hs n h ih =>
    intro d hd
    rw [dec_pos h] at hd
    by_cases h10 : n / 10 = 0
    · rw [h10, dec_zero] at hd
      simp at hd
      subst hd
      intro e
      have := digB_toNat n
      rw [e] at this
      simp at this
      omega
    · have hne : dec (n / 10) ≠ [] := fun e => h10 (dec_nil.1 e)
      rw [head_app hne] at hd
      exact ih d hd
theorem digB_of {d : UInt8} (h : isDig d = true) (n : Nat) (hn : n % 10 = d.toNat - 48) : digB n = d := by
  unfold isDig at h; simp at h
  apply UInt8.toNat_inj.1
  rw [digB_toNat]
  omega
/-- a text of digits without a zero ahead is the text of its value -/
theorem dec_natOf (t : Bytes) (h : ∀ d ∈ t, isDig d = true) (h0 : ∀ d, t.head? = some d → d ≠ 48) : dec (natOf t) = t := by
  induction hn : t.length generalizing t with
  | zero => have : t = [] := List.eq_nil_of_length_eq_zero hn
            subst this; rfl
  | succ n ih =>
    have hne : t ≠ [] := by intro e; subst e; simp at hn
    obtain ⟨s, d, rfl⟩ : ∃ s d, t = s ++ [d] := ⟨t.dropLast, t.getLast hne, (List.dropLast_concat_getLast hne).symm⟩
    have hs : s.length = n := by simpa using hn
    have hd : isDig d = true := h d (by simp)
    have hsd : ∀ x ∈ s, isDig x = true := fun x hx => h x (by simp [hx])
    have hd' := hd
    unfold isDig at hd'
    simp at hd'
    have hval : natOf (s ++ [d]) = natOf s * 10 + (d.toNat - 48) := by rw [natOf_append, natOf_one]; simp
    by_cases hse : s = []
    · subst hse
      have h1 : d ≠ 48 := h0 d rfl
      have h2 : d.toNat ≠ 48 := fun e => h1 (UInt8.toNat_inj.1 e)
      rw [hval]
      simp only [natOf_nil, Nat.zero_mul, Nat.zero_add, List.nil_append]
      rw [dec_pos (by omega), show (d.toNat - 48) / 10 = 0 by omega, dec_zero, digB_of hd _ (by omega)]
      rfl
    · have hh : ∀ x, s.head? = some x → x ≠ 48 := fun x hx => h0 x (by rw [head_app hse]; exact hx)
      have e := ih s hsd hh hs
      have hpos : natOf s ≠ 0 := by
        intro e0
        rw [e0, dec_zero] at e
        exact hse e.symm
      rw [hval, dec_pos (by omega), show (natOf s * 10 + (d.toNat - 48)) / 10 = natOf s by omega, e, digB_of hd _ (by omega)]
theorem dec_inj {m n : Nat} (h : dec m = dec n) : m = n := by rw [← natOf_dec m, h, natOf_dec]
theorem dec_len {n k : Nat} : (dec n).length ≤ k ↔ n < 10 ^ k := by
  induction n using dec_ind generalizing k with
  | h0 => simp [dec_zero, Nat.pow_pos]
  | hs n h ih =>
    rw [dec_pos h]
    cases k with
    | zero => simp; omega
    | succ k =>
      rw [List.length_append, List.length_singleton, Nat.add_le_add_iff_right, ih, Nat.pow_succ]
      omega

/-! ### texts and integers -/
/-- the digits behind an optional minus sign, without zeros ahead, and the sign; none for whatever is no integer's text -/
def bare (s : Bytes) : Bytes := if s.head? = some 45 then s.drop 1 else s
def digs (s : Bytes) : Bytes := if (bare s).all isDig then (bare s).dropWhile (· == 48) else []
def negB (s : Bytes) : Bool := decide (s.head? = some 45) && !(digs s).isEmpty
def val (s : Bytes) : Int := if negB s then -(natOf (digs s) : Int) else natOf (digs s)
/-- the canonical text of an integer -/
def canon (z : Int) : Bytes := if z < 0 then 45 :: dec z.natAbs else dec z.natAbs

theorem digs_dig (s : Bytes) : ∀ d ∈ digs s, isDig d = true := by
  unfold digs
  by_cases h : (bare s).all isDig = true
  · rw [if_pos h]
    intro d hd
    exact List.all_eq_true.1 h d ((List.dropWhile_sublist _).subset hd)
  · rw [if_neg h]; intro d hd; simp at hd
theorem dropWhile_head (p : UInt8 → Bool) : ∀ (l : Bytes) d, (l.dropWhile p).head? = some d → p d = false := by
  intro l
  induction l with
  | nil => intro d h; simp at h
  | cons a l ih =>
    intro d h
    rw [List.dropWhile_cons] at h
    by_cases ha : p a = true
    · rw [if_pos ha] at h; exact ih d h
    · rw [if_neg ha] at h; simp at h; subst h; simpa using ha
theorem digs_head (s : Bytes) : ∀ d, (digs s).head? = some d → d ≠ 48 := by
  intro d h
  unfold digs at h
  by_cases hb : (bare s).all isDig = true
  · rw [if_pos hb] at h
    have := dropWhile_head _ _ _ h
    simpa using this
  · rw [if_neg hb] at h; simp at h
theorem digs_dec (s : Bytes) : dec (natOf (digs s)) = digs s := dec_natOf _ (digs_dig s) (digs_head s)
theorem natOf_digs {s : Bytes} : natOf (digs s) = 0 ↔ digs s = [] := by
  constructor
  · intro h; have := digs_dec s; rw [h, dec_zero] at this; exact this.symm
  · intro h; rw [h]; rfl
theorem val_neg (s : Bytes) : val s < 0 ↔ negB s = true := by
  unfold val
  by_cases h : negB s = true
  · rw [if_pos h]
    have : natOf (digs s) ≠ 0 := by
      intro e
      rw [natOf_digs] at e
      unfold negB at h
      rw [e] at h
      simp at h
    simp [h]; omega
  · rw [if_neg h]; simp [h]
theorem val_abs (s : Bytes) : (val s).natAbs = natOf (digs s) := by
  unfold val; split <;> simp
/-- what Canonical returns -/
theorem canon_val (s : Bytes) : canon (val s) = if negB s then 45 :: digs s else digs s := by
  unfold canon
  rw [val_abs, digs_dec]
  by_cases h : negB s = true
  · rw [if_pos ((val_neg s).2 h), if_pos h]
  · rw [if_neg (fun hh => h ((val_neg s).1 hh)), if_neg h]
theorem dec_all (n : Nat) : (dec n).all isDig = true := List.all_eq_true.2 (dec_dig n)
theorem dropWhile_dec (n : Nat) : (dec n).dropWhile (· == 48) = dec n := by
  cases h : dec n with
  | nil => rfl
  | cons a l =>
    have := dec_head n a (by rw [h]; rfl)
    rw [List.dropWhile_cons, if_neg (by simpa using this)]
theorem dec_no_minus (n : Nat) : (dec n).head? ≠ some 45 := by
  intro h
  have := dec_dig n 45 (List.mem_of_mem_head? (by rw [h]; rfl))
  revert this; decide
theorem bare_canon (z : Int) : bare (canon z) = dec z.natAbs := by
  unfold canon bare
  by_cases h : z < 0
  · rw [if_pos h]; simp
  · rw [if_neg h, if_neg (dec_no_minus _)]
theorem digs_canon (z : Int) : digs (canon z) = dec z.natAbs := by
  unfold digs
  rw [bare_canon, if_pos (dec_all _), dropWhile_dec]
theorem negB_canon (z : Int) : negB (canon z) = decide (z < 0) := by
  unfold negB
  rw [digs_canon]
  by_cases h : z < 0
  · have : dec z.natAbs ≠ [] := fun e => by rw [dec_nil] at e; omega
    simp [canon, h, this]
  · have := dec_no_minus z.natAbs
    simp [canon, h, this]
theorem val_canon (z : Int) : val (canon z) = z := by
  unfold val
  rw [negB_canon, digs_canon, natOf_dec]
  by_cases h : z < 0
  · simp [h]; omega
  · simp [h]; omega
theorem canon_inj {y z : Int} (h : canon y = canon z) : y = z := by rw [← val_canon y, h, val_canon]
theorem canon_zero : canon 0 = [] := rfl
theorem canon_nil {z : Int} : canon z = [] ↔ z = 0 := ⟨fun h => canon_inj (h.trans canon_zero.symm), fun h => by rw [h]; rfl⟩
theorem val_nil : val [] = 0 := rfl
end Dec
end Go.Proofs.YtonopbelbehheaaGreatDoor
