/- Integer: values of bounded length; what comparisons know of each other. No condition. -/
import Derived.Test.YtonopbelbehheaaGreatDoorApiA
import Derived.Test.YtonopbelbehheaaGreatDoorApiC
import Derived.Test.YtonopbelbehheaaGreatDoorApiE
namespace Go.Proofs.YtonopbelbehheaaGreatDoor
open Go.RowKit Go.Shelf Dec

theorem abs_val (a : ByteArray) : (valS a).natAbs < 10 ^ a.size := by
  unfold valS
  rw [val_abs]
  have h1 := natOf_lt (digs (bytes a)) (digs_dig _)
  have h2 := digs_len (bytes a)
  rw [← size_bytes] at h2
  have h3 : 10 ^ (digs (bytes a)).length ≤ 10 ^ a.size := Nat.pow_le_pow_right (by omega) (by omega)
  omega
theorem size_canS {z : Int} {k : Nat} (h : z.natAbs < 10 ^ k) : (canS z).size ≤ k + 1 := by
  unfold canS
  rw [size_str]
  have := dec_len.2 h
  unfold canon
  split <;> simp <;> omega
/-- a value of at most k digits -/
def Fit (k : Nat) (z : Int) : Prop := z.natAbs < 10 ^ k
theorem Fit.val {a : ByteArray} {k : Nat} (h : a.size ≤ k) : Fit k (valS a) := Nat.lt_of_lt_of_le (abs_val a) (Nat.pow_le_pow_right (by omega) h)
theorem Fit.mono {k m : Nat} {z : Int} (h : Fit k z) (hk : k ≤ m) : Fit m z := Nat.lt_of_lt_of_le h (Nat.pow_le_pow_right (by omega) hk)
theorem Fit.add {k : Nat} {y z : Int} (h : Fit k y) (h2 : Fit k z) : Fit (k + 1) (y + z) := by
  unfold Fit at *
  rw [Nat.pow_succ]
  have : (y + z).natAbs ≤ y.natAbs + z.natAbs := Int.natAbs_add_le y z
  omega
theorem Fit.sub {k : Nat} {y z : Int} (h : Fit k y) (h2 : Fit k z) : Fit (k + 1) (y - z) := by
  unfold Fit at *
  rw [Nat.pow_succ]
  have : (y - z).natAbs ≤ y.natAbs + z.natAbs := Int.natAbs_sub_le y z
  omega
theorem Fit.neg {k : Nat} {z : Int} (h : Fit k z) : Fit k (-z) := by unfold Fit at *; rw [Int.natAbs_neg]; exact h
theorem Fit.mul {k m : Nat} {y z : Int} (h : Fit k y) (h2 : Fit m z) : Fit (k + m) (y * z) := by
  unfold Fit at *
  rw [Nat.pow_add, Int.natAbs_mul]
  exact Nat.mul_lt_mul_of_lt_of_le h (Nat.le_of_lt h2) (Nat.pow_pos (by omega))
theorem Fit.zero (k : Nat) : Fit k 0 := Nat.pow_pos (by omega)
theorem Fit.size {k : Nat} {z : Int} (h : Fit k z) : (canS z).size ≤ k + 1 := size_canS h

theorem cmp_can (u v : Int) (k : Nat) (hk : k ≤ 1000000) (hu : Fit k u) (hv : Fit k v) (w : World) :
    Calls Tryz.prog 29 #[.string (canS u), .string (canS v)] w fun e w' => e = .returned (.int .i64 (cmpI u v)) ∧ Below w.heap.size w w' := by
  have := Compare_any (canS u) (canS v) w (by have := hu.size; omega) (by have := hv.size; omega)
  rwa [valS_canS, valS_canS] at this
theorem cmp_nil (a : ByteArray) (ha : a.size ≤ 1000000) (w : World) :
    Calls Tryz.prog 29 #[.string a, .string ⟨#[]⟩] w fun e w' => e = .returned (.int .i64 (cmpI (valS a) 0)) ∧ Below w.heap.size w w' :=
  Compare_any a ⟨#[]⟩ w (by omega) (by decide)
theorem cmp_canil (u : Int) (k : Nat) (hk : k ≤ 1000000) (hu : Fit k u) (w : World) :
    Calls Tryz.prog 29 #[.string (canS u), .string ⟨#[]⟩] w fun e w' => e = .returned (.int .i64 (cmpI u 0)) ∧ Below w.heap.size w w' := by
  have := Compare_any (canS u) ⟨#[]⟩ w (by have := hu.size; omega) (by decide)
  rwa [valS_canS] at this
theorem cmpI_mul (x y z : Int) : cmpI (x * z) (y * z) = cmpI x y * cmpI z 0 := by
  unfold cmpI
  rcases Int.lt_trichotomy z 0 with h | h | h
  · have k1 : x * z < y * z ↔ y < x := Int.mul_lt_mul_right_of_neg h
    have k2 : x * z = y * z ↔ x = y := ⟨fun e => Int.eq_of_mul_eq_mul_right (by omega) e, fun e => by rw [e]⟩
    simp only [k1, k2]
    rw [if_pos h]
    split <;> split <;> (try split) <;> (try split) <;> omega
  · subst h; simp
  · have k1 : x * z < y * z ↔ x < y := Int.mul_lt_mul_right h
    have k2 : x * z = y * z ↔ x = y := ⟨fun e => Int.eq_of_mul_eq_mul_right (by omega) e, fun e => by rw [e]⟩
    simp only [k1, k2]
    rw [if_neg (by omega : ¬ z < 0), if_neg (by omega : ¬ z = 0)]
    split <;> (try split) <;> omega
/-- what Compare's results know of each other -/
theorem cmpI_facts (x y z : Int) : cmpI x y = -cmpI y x ∧ (cmpI x y = cmpI y z → cmpI x z = cmpI x y) ∧ -1 ≤ cmpI x y ∧ cmpI x y ≤ 1 ∧ (cmpI x y = 0 ↔ x = y) ∧ cmpI (x + z) (y + z) = cmpI x y ∧ cmpI (x - y) 0 = cmpI x y := by
  unfold cmpI
  refine ⟨?_, ?_, ?_, ?_, ?_, ?_, ?_⟩ <;> (repeat' split) <;> omega

theorem val_prt (z : Int) : valS (str (prt z)) = z := by
  unfold valS
  rw [bytes_str]
  unfold prt
  by_cases h : z = 0
  · rw [if_pos h, h]; decide
  · rw [if_neg h, val_canon]
theorem size_prtF {k : Nat} {z : Int} (h : Fit k z) : (str (prt z)).size ≤ k + 1 := by
  rw [size_str]
  have h1 := h.size
  unfold canS at h1
  rw [size_str] at h1
  unfold prt
  split
  · simp
  · exact h1
theorem prs_prt {k : Nat} (hk : k ≤ 65535) {z : Int} (h : Fit k z) : prs (str (prt z)) = (canS z, 0) := by
  have := size_prtF h
  unfold prs
  rw [if_neg (by omega), val_prt, if_pos rfl]
theorem cmpI_cases (r : Int) : (r < 0 ∧ cmpI r 0 = -1) ∨ (r = 0 ∧ cmpI r 0 = 0) ∨ (0 < r ∧ cmpI r 0 = 1) := by
  unfold cmpI
  rcases Int.lt_trichotomy r 0 with h | h | h
  · left; exact ⟨h, if_pos h⟩
  · right; left; exact ⟨h, by rw [if_neg (by omega), if_pos h]⟩
  · right; right; exact ⟨h, by rw [if_neg (by omega), if_neg (by omega)]⟩
/-- a string of a value, not too long -/
def Vs (s : ByteArray) (z : Int) : Prop := valS s = z ∧ s.size ≤ 1000000
theorem Vs.arg {s : ByteArray} (h : s.size ≤ 1000000) : Vs s (valS s) := ⟨rfl, h⟩
theorem Vs.can {z : Int} {k : Nat} (h : Fit k z) (hk : k ≤ 999999) : Vs (canS z) z := ⟨valS_canS z, by have := h.size; omega⟩
theorem Vs.nil : Vs ⟨#[]⟩ 0 := ⟨rfl, by decide⟩
theorem Fit.of {k : Nat} {z : Int} (h : z.natAbs < 10 ^ k) : Fit k z := h
theorem Fit.one {k : Nat} (h : 1 ≤ k) : Fit k 1 := Nat.lt_of_lt_of_le (by decide : (1 : Int).natAbs < 10 ^ 1) (Nat.pow_le_pow_right (by omega) h)
theorem Fit.fdiv {k : Nat} {x y : Int} (h : Fit k x) : Fit (k + 1) (x.fdiv y) := by
  unfold Fit at *
  rw [Nat.pow_succ]
  have h1 : (x.fdiv y).natAbs ≤ x.natAbs + 1 := by
    rcases Int.lt_trichotomy y 0 with hy | hy | hy
    · have e : x.fdiv y = (-x).fdiv (-y) := (Int.neg_fdiv_neg x y).symm
      rw [e]
      have h2 := Int.fdiv_eq_ediv_of_nonneg (-x) (b := -y) (by omega)
      rw [h2]
      have := Int.natAbs_ediv_le_natAbs (-x) (-y)
      omega
    · subst hy; simp
    · rw [Int.fdiv_eq_ediv_of_nonneg x (by omega)]
      have := Int.natAbs_ediv_le_natAbs x y
      omega
  have : 1 ≤ 10 ^ k := Nat.pow_pos (by omega)
  omega
theorem fmod_neg_of (x : Int) {y : Int} (hy : y < 0) : x.fmod y ≤ 0 ∧ y < x.fmod y := by
  have h := Int.neg_fmod_neg x y
  have h1 := Int.fmod_nonneg_of_pos (-x) (b := -y) (by omega)
  have h2 := Int.fmod_lt_of_pos (-x) (b := -y) (by omega)
  omega
theorem Fit.fmod {k : Nat} {x y : Int} (h : Fit k y) (hx : Fit k x) : Fit k (x.fmod y) := by
  unfold Fit at *
  rcases Int.lt_trichotomy y 0 with hy | hy | hy
  · have h1 := fmod_neg_of x hy
    omega
  · subst hy; simpa using hx
  · have h1 := Int.fmod_nonneg_of_pos x hy
    have h2 := Int.fmod_lt_of_pos x hy
    omega
end Go.Proofs.YtonopbelbehheaaGreatDoor
