/- Integer, plain: from texts to groups and back; comparing. No program here, no condition. -/
import Derived.Test.YtonopbelbehheaaGreatDoorIntB
namespace Go.Proofs.YtonopbelbehheaaGreatDoor
namespace Dec

/-- what FormatUint writes -/
def fmt (n : Nat) : Bytes := if n = 0 then [48] else dec n
def pad9 (g : Nat) : Bytes := List.replicate (9 - (fmt g).length) 48 ++ fmt g

theorem fmt_dig (n : Nat) : ∀ d ∈ fmt n, isDig d = true := by
  unfold fmt; split
  · intro d hd; simp at hd; subst hd; decide
  · exact dec_dig n
theorem natOf_fmt (n : Nat) : natOf (fmt n) = n := by
  unfold fmt; split
  · rename_i h; subst h; decide
  · exact natOf_dec n
theorem fmt_len {n : Nat} (h : n < BB) : 1 ≤ (fmt n).length ∧ (fmt n).length ≤ 9 := by
  unfold fmt; split
  · simp
  · rename_i h0
    constructor
    · have : dec n ≠ [] := fun e => h0 (dec_nil.1 e)
      exact List.length_pos_iff.2 this
    · exact dec_len.2 h
theorem natOf_zeros (k : Nat) : natOf (List.replicate k 48) = 0 := by
  induction k with
  | zero => rfl
  | succ k ih => rw [List.replicate_succ, natOf_cons, ih]; simp
theorem pad9_len {g : Nat} (h : g < BB) : (pad9 g).length = 9 := by
  have := fmt_len h; unfold pad9; rw [List.length_append, List.length_replicate]; omega
theorem natOf_pad9 (g : Nat) : natOf (pad9 g) = g := by
  unfold pad9; rw [natOf_append, natOf_zeros, natOf_fmt]; omega
theorem pad9_dig (g : Nat) : ∀ d ∈ pad9 g, isDig d = true := by
  intro d hd
  unfold pad9 at hd
  rcases List.mem_append.1 hd with hd | hd
  · have := List.eq_of_mem_replicate hd; subst this; decide
  · exact fmt_dig g d hd
/-- one group more -/
theorem dec_step {v g : Nat} (hv : v ≠ 0) (hg : g < BB) : dec (g + BB * v) = dec v ++ pad9 g := by
  have e : natOf (dec v ++ pad9 g) = g + BB * v := by
    rw [natOf_append, natOf_dec, natOf_pad9, pad9_len hg, Nat.mul_comm]; unfold BB; omega
  rw [← e]
  refine dec_natOf _ (fun d hd => ?_) (fun d hd => ?_)
  · rcases List.mem_append.1 hd with hd | hd
    · exact dec_dig v d hd
    · exact pad9_dig g d hd
  · have hne : dec v ≠ [] := fun e => hv (dec_nil.1 e)
    rw [head_app hne] at hd
    exact dec_head v d hd

theorem BB_pow (k : Nat) : BB ^ k = 10 ^ (9 * k) := by rw [Nat.pow_mul]; rfl
theorem drop_split (s : Bytes) (a b : Nat) (h : a ≤ b) (hb : b ≤ s.length) : s.drop a = (s.take b).drop a ++ s.drop b := by
  conv => lhs; rw [← List.take_append_drop b s]
  rw [List.drop_append_of_le_length (by rw [List.length_take]; omega)]
/-- after k groups have been read from the end -/
def rdG (s : Bytes) : Nat → List Nat
  | 0 => []
  | k + 1 => rdG s k ++ [natOf ((s.take (s.length - 9 * k)).drop (s.length - 9 * (k + 1)))]
theorem rdG_len (s : Bytes) (k : Nat) : (rdG s k).length = k := by induction k with
  | zero => rfl
  | succ k ih => simp [rdG, ih]
theorem mem_mid {s : Bytes} {a b : Nat} {d : UInt8} (h : d ∈ (s.take a).drop b) : d ∈ s := List.mem_of_mem_take (List.mem_of_mem_drop h)
theorem rdG_small (s : Bytes) (h : ∀ d ∈ s, isDig d = true) (k : Nat) : Small (rdG s k) := by
  induction k with
  | zero => intro g hg; simp [rdG] at hg
  | succ k ih =>
    intro g hg
    rcases List.mem_append.1 hg with hg | hg
    · exact ih g hg
    · simp at hg
      subst hg
      have h1 := natOf_lt _ (fun d (hd : d ∈ (s.take (s.length - 9 * k)).drop (s.length - 9 * (k + 1))) => h d (mem_mid hd))
      refine Nat.lt_of_lt_of_le h1 ?_
      show 10 ^ _ ≤ 10 ^ 9
      refine Nat.pow_le_pow_right (by omega) ?_
      rw [List.length_drop, List.length_take]; omega
theorem mval_rdG (s : Bytes) (k : Nat) (hk : 9 * k ≤ s.length + 8) : mval (rdG s k) = natOf (s.drop (s.length - 9 * k)) := by
  induction k with
  | zero => simp [rdG, mval, natOf]
  | succ k ih =>
    rw [rdG, mval_append, ih (by omega), rdG_len]
    have e := drop_split s (s.length - 9 * (k + 1)) (s.length - 9 * k) (by omega) (by omega)
    rw [e, natOf_append, List.length_drop, show s.length - (s.length - 9 * k) = 9 * k by omega, ← BB_pow]
    simp [mval]
    grind
/-- all groups -/
theorem rdG_all (s : Bytes) (h : ∀ d ∈ s, isDig d = true) (h0 : ∀ d, s.head? = some d → d ≠ 48) (k : Nat) (hk : s.length ≤ 9 * k) (hk' : 9 * k ≤ s.length + 8) : rdG s k = mag (natOf s) := by
  have e : mval (rdG s k) = natOf s := by rw [mval_rdG s k hk', show s.length - 9 * k = 0 by omega, List.drop_zero]
  rw [← e]
  refine (mag_of_len _ (rdG_small s h k) ?_).symm
  by_cases hk0 : k = 0
  · subst hk0; exact .inl rfl
  · right
    rw [rdG_len, e, BB_pow]
    cases s with
    | nil => simp at hk'; omega
    | cons a t =>
      have ha := h a List.mem_cons_self
      have ha0 : a ≠ 48 := h0 a rfl
      unfold isDig at ha
      simp at ha
      have ha1 : a.toNat ≠ 48 := fun e => ha0 (UInt8.toNat_inj.1 e)
      rw [natOf_cons]
      have h1 : 10 ^ (9 * (k - 1)) ≤ 10 ^ t.length := Nat.pow_le_pow_right (by omega) (by simp at hk'; omega)
      have h2 : 1 * 10 ^ t.length ≤ (a.toNat - 48) * 10 ^ t.length := Nat.mul_le_mul_right _ (by omega)
      omega

/-- the sign of a comparison -/
def CmpIs (r : Int) (a b : Nat) : Prop := (r < 0 ↔ a < b) ∧ (r = 0 ↔ a = b)
theorem mval_top {l m : List Nat} (hl : Small l) (hlen : l.length = m.length) : ∀ (i x y : Nat), l[i]? = some x → m[i]? = some y → x < y → (∀ j, i < j → l[j]? = m[j]?) → mval l < mval m := by
  induction l generalizing m with
  | nil => intro i x y h; simp at h
  | cons g l ih =>
    intro i x y hx hy hlt hab
    cases m with
    | nil => simp at hlen
    | cons g' m =>
      obtain ⟨hg, hls⟩ := hl.cons
      cases i with
      | zero =>
        simp at hx hy
        subst hx hy
        have : l = m := by
          apply List.ext_getElem?
          intro j
          have := hab (j + 1) (by omega)
          simpa using this
        subst this
        simp only [mval]; omega
      | succ i =>
        have := ih hls (by simpa using hlen) i x y (by simpa using hx) (by simpa using hy) hlt (fun j hj => by have := hab (j + 1) (by omega); simpa using this)
        simp only [mval]
        have h2 : BB * (mval l + 1) ≤ BB * mval m := Nat.mul_le_mul_left _ this
        rw [Nat.mul_add, Nat.mul_one] at h2
        omega
theorem cmp_len {a b : Nat} (h : (mag a).length < (mag b).length) : a < b := by
  have h1 : a < BB ^ (mag a).length := mag_len_lt.1 (Nat.le_refl _)
  have h2 : ¬ b < BB ^ (mag a).length := fun hh => by have := mag_len_lt.2 hh; omega
  omega
end Dec
end Go.Proofs.YtonopbelbehheaaGreatDoor
