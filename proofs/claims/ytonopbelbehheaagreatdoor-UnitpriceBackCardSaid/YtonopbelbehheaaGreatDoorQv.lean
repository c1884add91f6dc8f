/- Fractions: strings and values. No condition. -/
import Derived.Test.YtonopbelbehheaaGreatDoorVs
import Derived.Test.YtonopbelbehheaaGreatDoorRat
namespace Go.Proofs.YtonopbelbehheaaGreatDoor
open Go.RowKit Go.Shelf Dec QQ

/-- the strings of a canonical fraction -/
def frN (q : Rat) : ByteArray := canS q.num
def frD (q : Rat) : ByteArray := if q.den = 1 then ⟨#[]⟩ else canS q.den
/-- the value of a pair of strings -/
def ratV (n d : ByteArray) : Rat := rat (valS n) (valS d)
/-- a pair of strings as Go holds it; a canonical one -/
def FV (n d : ByteArray) : Value := .agg #[.string n, .string d]
def FR (q : Rat) : Value := .agg #[.string (frN q), .string (frD q)]
theorem frN_zero : frN 0 = ⟨#[]⟩ := by decide +kernel
theorem frD_zero : frD 0 = ⟨#[]⟩ := rfl
theorem ratV_fr (q : Rat) : ratV (frN q) (frD q) = q := by
  unfold ratV frN frD
  by_cases h : q.den = 1
  · rw [if_pos h, valS_canS]
    have := rat_num_den q
    rw [h] at this
    show rat q.num 0 = q
    rw [rat_zero]
    rw [← rat_one]
    exact this
  · rw [if_neg h, valS_canS, valS_canS, rat_num_den]
theorem fr_inj {p q : Rat} (h1 : frN p = frN q) (h2 : frD p = frD q) : p = q := by rw [← ratV_fr p, ← ratV_fr q, h1, h2]
/-- a pair of strings of a value, neither too long -/
def Vq (n d : ByteArray) (q : Rat) : Prop := ratV n d = q ∧ n.size ≤ 100000 ∧ d.size ≤ 100000
theorem Vq.arg {n d : ByteArray} (h : n.size ≤ 100000) (h2 : d.size ≤ 100000) : Vq n d (ratV n d) := ⟨rfl, h, h2⟩
theorem FitQ.sizes {k : Nat} {q : Rat} (h : FitQ k q) : (frN q).size ≤ k + 1 ∧ (frD q).size ≤ k + 1 := by
  refine ⟨size_canS h.1, ?_⟩
  unfold frD
  split
  · exact Nat.zero_le _
  · exact size_canS (by have := h.2; omega)
theorem Vq.fr {k : Nat} {q : Rat} (h : FitQ k q) (hk : k ≤ 99999) : Vq (frN q) (frD q) q := by
  have := FitQ.sizes h
  exact ⟨ratV_fr q, by omega, by omega⟩
theorem FitQ.arg {n d : ByteArray} {k : Nat} (h : n.size ≤ k) (h2 : d.size ≤ k) (hk : 1 ≤ k) : FitQ k (ratV n d) := by
  have := FitQ.rat (Fit.val h) (Fit.val h2) hk
  rwa [Nat.max_self] at this
end Go.Proofs.YtonopbelbehheaaGreatDoor
