/- Attribution: amounts by contributions: plain laws. No condition. -/
import Derived.Test.YtndkglmokhndnaaGreatDoorEqG
import Derived.Test.YtndkglmokhndnaaGreatDoorAt4
import Derived.Test.YtndkglmokhndnaaGreatDoorFq
import Derived.Test.YtndkglmokhndnaaGreatDoorUa
namespace Go.Proofs.YtndkglmokhndnaaGreatDoor
open Go.RowKit Go.Shelf Dec QQ

/-- the amounts of the first n contributions -/
def amtsL (T : Rat) (A : Int) (l : List PrtS) (n : Nat) : List Int := (List.range n).map fun i => amtL T A l (i + 1) - amtL T A l i
theorem amtsL_len (T : Rat) (A : Int) (l : List PrtS) (n : Nat) : (amtsL T A l n).length = n := by simp [amtsL]
theorem amtsL_succ (T : Rat) (A : Int) (l : List PrtS) (k : Nat) : amtsL T A l (k + 1) = amtsL T A l k ++ [amtL T A l (k + 1) - amtL T A l k] := by
  unfold amtsL
  rw [List.range_succ, List.map_append]
  rfl
theorem amtsL_at {T : Rat} {A : Int} {l : List PrtS} {n k : Nat} (h : k < n) : (amtsL T A l n)[k]? = some (amtL T A l (k + 1) - amtL T A l k) := by
  unfold amtsL
  rw [List.getElem?_map, List.getElem?_range h]
  rfl
theorem amt_start (T : Rat) (A : Int) (l : List PrtS) : amtL T A l 0 = 0 := by
  unfold amtL
  rw [List.take_zero, show sumQ PrtS.all [] = 0 from rfl, Rat.mul_zero, Rat.div_def, Rat.zero_mul]
  exact Rat.floor_intCast 0
/-- why an amount cannot be divided, or 0 -/
def amtE (l : List PrtS) (a : ByteArray) : Int := if totE l ≠ 0 then totE l else if chk a ≠ 0 then 1 else if totQ l = 0 then 10 else 0
def amtR (l : List PrtS) (a : ByteArray) : List Int := if amtE l a = 0 then amtsL (totQ l) (valS a) l l.length else []
theorem amtE_ok {l : List PrtS} {a : ByteArray} : amtE l a = 0 ↔ totE l = 0 ∧ chk a = 0 ∧ totQ l ≠ 0 := by
  unfold amtE
  by_cases h1 : totE l = 0
  · rw [if_neg (by simpa using h1)]
    by_cases h2 : chk a = 0
    · rw [if_neg (by simpa using h2)]
      by_cases h3 : totQ l = 0
      · rw [if_pos h3]; simp [h3]
      · rw [if_neg h3]; simp [h1, h2, h3]
    · rw [if_pos h2]; simp [h2]
  · rw [if_pos h1]; simp [h1]
theorem floor_fit {k : Nat} {q : Rat} (h : FitQ k q) : Fit k q.floor := by
  have h1 : q.floor = q.num.fdiv (q.den : Int) := by
    rw [floor_rat (by have := q.den_nz; omega), rat_num_den]
  rw [h1]
  exact fit_fdiv h.1 (by omega)
/-- the numbers of the walk -/
theorem FewP.amt {T : Rat} {k0 : Nat} {l : List PrtS} (h : FewP k0 l) {a : ByteArray} {m : Nat} (ha : a.size ≤ m) (hm : 1 ≤ m) (hq : FitQ (5 * (3 * k0 + 3) + 1) T) (k : Nat) :
    FitQ m ((valS a : Int) : Rat) ∧ FitQ (m + (5 * (3 * k0 + 3) + 1)) ((valS a : Int) * sumQ PrtS.all (l.take k)) ∧ FitQ (m + (5 * (3 * k0 + 3) + 1) + (5 * (3 * k0 + 3) + 1)) ((valS a : Int) * sumQ PrtS.all (l.take k) / T) := by
  have h1 : FitQ m ((valS a : Int) : Rat) := FitQ.int (Fit.val ha) hm
  have h2 := h1.mul (h.sum k)
  exact ⟨h1, h2, h2.div hq⟩
/-- a beginning of valid parts is valid -/
theorem totE_take {l : List PrtS} (h : totE l = 0) (i : Nat) : totE (l.take i) = 0 ∧ totQ (l.take i) = sumQ PrtS.all (l.take i) := by
  have hE : totE (l.take i) = 0 := by
    unfold totE at h ⊢
    split at h
    · cases h
    · rename_i h32
      rw [if_neg (by rw [List.length_take]; omega)]
      refine errL_none fun j hj => ?_
      rw [List.length_take] at hj
      have := errL_zero h j (by omega)
      unfold prtErr at this ⊢
      rwa [List.getElem?_take, if_pos (by omega)]
  refine ⟨hE, ?_⟩
  unfold totQ
  rw [if_pos hE]
theorem totE_len {l : List PrtS} (h : totE l = 0) : l.length ≤ 32 := by
  unfold totE at h
  split at h
  · cases h
  · omega
theorem totQ_ok {l : List PrtS} (h : totE l = 0) : totQ l = sumQ PrtS.all l := if_pos h
end Go.Proofs.YtndkglmokhndnaaGreatDoor
