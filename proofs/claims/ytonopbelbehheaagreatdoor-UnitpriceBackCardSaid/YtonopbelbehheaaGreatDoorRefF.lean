/- Integer, the reference: contracts of Small, Neg, Check and Compare. Conditions: sizes below 2^40. -/
import Derived.Test.YtonopbelbehheaaGreatDoorRefE
namespace Go.Proofs.YtonopbelbehheaaGreatDoor
open Go.RowKit Go.Shelf Dec

theorem toList_bytes (s : ByteArray) : s.toList = bytes s := by
  unfold bytes
  rw [ByteArray.toList_eq]
theorem natOf_take_le (l : Bytes) (k : Nat) : natOf (l.take k) ≤ natOf l := by
  conv => rhs; rw [← List.take_append_drop k l]
  rw [natOf_append]
  have : natOf (l.take k) * 1 ≤ natOf (l.take k) * 10 ^ (l.drop k).length := Nat.mul_le_mul_left _ (Nat.pow_pos (by omega))
  omega
theorem less_natOf : ∀ (s t : Bytes), s.length = t.length → (∀ d ∈ s, isDig d = true) → (∀ d ∈ t, isDig d = true) → Op.bytesLess s t = decide (natOf s < natOf t) := by
  intro s
  induction s with
  | nil => intro t hl _ _; cases t with
    | nil => rfl
    | cons _ _ => cases hl
  | cons a s ih =>
    intro t hl hs ht
    cases t with
    | nil => cases hl
    | cons b t =>
      have hl2 : s.length = t.length := by simpa using hl
      have h1 := natOf_lt s (fun d hd => hs d (List.mem_cons_of_mem _ hd))
      have h2 := natOf_lt t (fun d hd => ht d (List.mem_cons_of_mem _ hd))
      have h3 := ih t hl2 (fun d hd => hs d (List.mem_cons_of_mem _ hd)) (fun d hd => ht d (List.mem_cons_of_mem _ hd))
      have ha := hs a List.mem_cons_self
      have hb := ht b List.mem_cons_self
      unfold isDig at ha hb
      have ha := of_decide_eq_true ha
      have hb := of_decide_eq_true hb
      rw [natOf_cons, natOf_cons, hl2]
      rw [hl2] at h1
      show (a < b || (a == b && Op.bytesLess s t)) = _
      rw [h3]
      generalize 10 ^ t.length = P at *
      generalize natOf s = x at *
      generalize natOf t = y at *
      rcases Nat.lt_trichotomy a.toNat b.toNat with h | h | h
      · have e1 : decide (a < b) = true := decide_eq_true (UInt8.lt_iff_toNat_lt.2 h)
        rw [e1, Bool.true_or]
        symm
        apply decide_eq_true
        have h5 : (a.toNat - 48 + 1) * P ≤ (b.toNat - 48) * P := Nat.mul_le_mul_right _ (by omega)
        rw [Nat.add_mul] at h5
        omega
      · have e0 : a = b := UInt8.toNat_inj.1 h
        subst e0
        have e1 : decide (a < a) = false := decide_eq_false (fun hh => Nat.lt_irrefl _ (UInt8.lt_iff_toNat_lt.1 hh))
        rw [e1, Bool.false_or, beq_self_eq_true, Bool.true_and]
        exact decide_eq_decide.2 (by omega)
      · have e1 : decide (a < b) = false := decide_eq_false (fun hh => by have := UInt8.lt_iff_toNat_lt.1 hh; omega)
        have e2 : (a == b) = false := by rw [beq_eq_false_iff_ne]; intro e; rw [e] at h; omega
        rw [e1, e2, Bool.false_and, Bool.false_or]
        symm
        apply decide_eq_false
        have h5 : (b.toNat - 48 + 1) * P ≤ (a.toNat - 48) * P := Nat.mul_le_mul_right _ (by omega)
        rw [Nat.add_mul] at h5
        omega
theorem natOf_inj_len {s t : Bytes} (hl : s.length = t.length) (hs : ∀ d ∈ s, isDig d = true) (ht : ∀ d ∈ t, isDig d = true) (h : natOf s = natOf t) : s = t := by
  induction s generalizing t with
  | nil => cases t with
    | nil => rfl
    | cons _ _ => cases hl
  | cons a s ih =>
    cases t with
    | nil => cases hl
    | cons b t =>
      have hl2 : s.length = t.length := by simpa using hl
      have h1 := natOf_lt s (fun d hd => hs d (List.mem_cons_of_mem _ hd))
      have h2 := natOf_lt t (fun d hd => ht d (List.mem_cons_of_mem _ hd))
      have ha := hs a List.mem_cons_self
      have hb := ht b List.mem_cons_self
      unfold isDig at ha hb
      have ha := of_decide_eq_true ha
      have hb := of_decide_eq_true hb
      rw [natOf_cons, natOf_cons, hl2] at h
      rw [hl2] at h1
      have key : a.toNat = b.toNat := by
        generalize 10 ^ t.length = P at *
        rcases Nat.lt_trichotomy a.toNat b.toNat with h3 | h3 | h3
        · have h5 : (a.toNat - 48 + 1) * P ≤ (b.toNat - 48) * P := Nat.mul_le_mul_right _ (by omega)
          rw [Nat.add_mul] at h5
          omega
        · exact h3
        · have h5 : (b.toNat - 48 + 1) * P ≤ (a.toNat - 48) * P := Nat.mul_le_mul_right _ (by omega)
          rw [Nat.add_mul] at h5
          omega
      have e0 : a = b := UInt8.toNat_inj.1 key
      subst e0
      rw [ih hl2 (fun d hd => hs d (List.mem_cons_of_mem _ hd)) (fun d hd => ht d (List.mem_cons_of_mem _ hd)) (by omega)]
/-- comparing two strings of as many digits -/
theorem less_S {s t : ByteArray} (hl : s.size = t.size) (hs : ∀ d ∈ bytes s, isDig d = true) (ht : ∀ d ∈ bytes t, isDig d = true) : Op.bytesLess s.toList t.toList = decide (natOf (bytes s) < natOf (bytes t)) := by
  rw [toList_bytes, toList_bytes]
  exact less_natOf _ _ (by rw [← size_bytes, ← size_bytes]; exact hl) hs ht
theorem eq_S {s t : ByteArray} (hl : s.size = t.size) (hs : ∀ d ∈ bytes s, isDig d = true) (ht : ∀ d ∈ bytes t, isDig d = true) : (s.toList == t.toList) = decide (natOf (bytes s) = natOf (bytes t)) := by
  rw [toList_beq]
  apply decide_eq_decide.2
  constructor
  · intro h; rw [h]
  · intro h; exact bytes_inj (natOf_inj_len (by rw [← size_bytes, ← size_bytes]; exact hl) hs ht h)
theorem natOf_big {s : Bytes} (h0 : ∀ d, s.head? = some d → d ≠ 48) (h : ∀ d ∈ s, isDig d = true) {k : Nat} (hk : k < s.length) : 10 ^ k ≤ natOf s := by
  have h1 := dec_natOf s h h0
  rcases Nat.lt_or_ge (natOf s) (10 ^ k) with h2 | h2
  · have := dec_len.2 h2
    rw [h1] at this
    omega
  · exact h2
end Go.Proofs.YtonopbelbehheaaGreatDoor
