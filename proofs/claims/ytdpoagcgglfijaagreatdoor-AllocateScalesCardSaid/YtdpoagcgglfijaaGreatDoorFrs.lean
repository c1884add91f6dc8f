/- Allocation: Fractions, where all fractions are canonical and not negative. Condition: up to twelve fractions of bounded length. -/
import Derived.Test.YtdpoagcgglfijaaGreatDoorFcf
import Derived.Test.YtdpoagcgglfijaaGreatDoorSF
import Derived.Test.YtdpoagcgglfijaaGreatDoorDv
import Derived.Test.YtdpoagcgglfijaaGreatDoorWi
import Derived.Test.YtdpoagcgglfijaaGreatDoorDh
import Derived.Test.YtdpoagcgglfijaaGreatDoorWc
namespace Go.Proofs.YtdpoagcgglfijaaGreatDoor
open Go.RowKit Go.Shelf Dec QQ SP

def fbad (s : PqS) : Bool := (chkF s.n s.d != 0) || decide (valS s.n < 0)
set_option maxRecDepth 100000 in
set_option maxHeartbeats 4000000 in
theorem frs4_1 {s : PqS} (h1 : s.n.size ≤ 100000) (h2 : s.d.size ≤ 100000) : Ret 54 #[pqV s] (.bool (fbad s)) := by
  intro w hg
  obtain ⟨a, b⟩ := s
  dsimp only at h1 h2
  have hs := (St.refl hg).alloc (.cells #[.string a, .string b] 38)
  have X := Bx.new w #[.string a, .string b] 38
  have K1 := ChkF (a := a) (b := b) h1 h2
  have K2 := neg4_any (a := a) (by omega)
  have x0 := X.cell (i := 0) (v := .string a) rfl
  have x1 := X.cell (i := 1) (v := .string b) rfl
  unfold fbad pqV
  dsimp only
  unfold FV at K1
  generalize decide (valS a < 0) = v2 at *
  by_cases h : chkF a b = 0
  · rw [h] at K1 ⊢
    go_enter Tryz.func54, Tryz.ntmps54
    go_wp2_with fail
    refine K1.step hs ?_
    intro w1 hs hb
    replace X := X.on hb
    clear x0 x1
    have x0 := X.cell (i := 0) (v := .string a) rfl
    go_wp2_with fail
    refine K2.step hs ?_
    intro w2 hs hb
    go_wp2_with fail
    go_ret
    exact ⟨by simp, hs.2⟩
  · have q : (chkF a b != 0) = true := by simpa using h
    rw [q]
    generalize chkF a b = e at *
    clear h
    go_enter Tryz.func54, Tryz.ntmps54
    go_wp2_with fail
    refine K1.step hs ?_
    intro w1 hs hb
    clear x0 x1
    go_wp2_with fail
    go_ret
    exact ⟨by simp, hs.2⟩
theorem sumR_snoc (l : List Rat) (q : Rat) : sumR (l ++ [q]) = sumR l + q := by
  induction l with
  | nil =>
    show q + 0 = 0 + q
    grind
  | cons a l ih =>
    show a + sumR (l ++ [q]) = a + sumR l + q
    rw [ih]
    grind
theorem sumR_succ {qs : List Rat} {k : Nat} {q : Rat} (h : qs[k]? = some q) : sumR (qs.take (k + 1)) = sumR (qs.take k) + q := by
  rw [List.take_add_one, h, Option.toList_some, sumR_snoc]
theorem dn_at {qs : List Rat} {k : Nat} {q : Rat} (h : qs[k]? = some q) : SP.dn qs k = (q.den : Int) := by
  unfold SP.dn
  rw [List.getD_eq_getElem?_getD, h]
  rfl
theorem prd_le {qs : List Rat} {K : Nat} (h : ∀ q ∈ qs, FitQ K q) : ∀ k, (prdTo qs k).natAbs ≤ 10 ^ (K * k)
  | 0 => by show (1 : Int).natAbs ≤ _; rw [Nat.mul_zero]; decide
  | k + 1 => by
    have h1 := prd_le h k
    have h2 : (SP.dn qs k).natAbs ≤ 10 ^ K := by
      have hp : 0 < 10 ^ K := Nat.pow_pos (by omega)
      cases hq : qs[k]? with
      | none =>
        have : SP.dn qs k = 1 := by unfold SP.dn; rw [List.getD_eq_getElem?_getD, hq]; rfl
        rw [this]
        show 1 ≤ _
        omega
      | some q =>
        rw [dn_at hq]
        have := (h q (List.mem_of_getElem? hq)).2
        show q.den ≤ _
        omega
    show (prdTo qs k * SP.dn qs k).natAbs ≤ _
    rw [Int.natAbs_mul, Nat.mul_succ, Nat.pow_add]
    exact Nat.mul_le_mul h1 h2
theorem lcm_fit {qs : List Rat} {K : Nat} (h : ∀ q ∈ qs, FitQ K q) (k : Nat) : Fit (K * k + 1) (lcmTo qs k) := by
  have h1 := prd_le h k
  have h2 := lcm_le qs k
  have h3 := lcm_pos qs k
  have h4 := prd_pos qs k
  have h5 : (10 : Nat) ^ (K * k + 1) = 10 ^ (K * k) * 10 := Nat.pow_succ _ _
  unfold Fit
  rw [h5]
  generalize 10 ^ (K * k) = p at *
  omega
theorem sumR_fit {qs : List Rat} {K : Nat} (h : ∀ q ∈ qs, FitQ K q) : ∀ k, k ≤ qs.length → FitQ ((K + 1) * k + 1) (sumR (qs.take k))
  | 0, _ => by
    rw [List.take_zero]
    exact FitQ.int (k := 1) (z := 0) (by decide) (by decide)
  | k + 1, hk => by
    have e : qs[k]? = some qs[k] := List.getElem?_eq_getElem (by omega)
    rw [sumR_succ e]
    have := (sumR_fit h k (by omega)).add (h _ (List.mem_of_getElem? e))
    exact FitQ.mono this (by rw [Nat.mul_succ]; omega)
theorem frW_at {qs : List Rat} {C : Int} {k : Nat} {q : Rat} (h : qs[k]? = some q) : (frW qs C)[k]? = some (q.num * (C / (q.den : Int))) := by
  unfold frW
  rw [List.getElem?_map, h]
  rfl
theorem frW_fit {qs : List Rat} {C : Int} {K m : Nat} (h : ∀ q ∈ qs, FitQ K q) (hC : Fit m C) : ∀ x ∈ frW qs C, Fit (K + m) x := by
  intro x hx
  unfold frW at hx
  obtain ⟨q, hq, rfl⟩ := List.mem_map.1 hx
  have h1 : Fit K q.num := (h q hq).1
  have h2 : Fit m (C / (q.den : Int)) := Nat.lt_of_le_of_lt (Int.natAbs_ediv_le_natAbs _ _) hC
  exact h1.mul h2
theorem lcm_succ {qs : List Rat} {k : Nat} {q : Rat} (h : qs[k]? = some q) : lcmTo qs (k + 1) = lcmTo qs k * ((q.den : Int).fdiv (Nat.gcd (lcmTo qs k).natAbs (q.den : Int).natAbs : Nat)) := by
  show lcmTo qs k * (SP.dn qs k / (Int.gcd (lcmTo qs k) (SP.dn qs k) : Int)) = _
  rw [dn_at h, Int.fdiv_eq_ediv_of_nonneg _ (by omega)]
  rfl
end Go.Proofs.YtdpoagcgglfijaaGreatDoor
