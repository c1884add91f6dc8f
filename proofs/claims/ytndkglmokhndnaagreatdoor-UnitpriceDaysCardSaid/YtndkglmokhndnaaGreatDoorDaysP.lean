/- Unit prices: what a run's results know of each other: beginnings, units, values. No condition. -/
import Derived.Test.YtndkglmokhndnaaGreatDoorEqD
namespace Go.Proofs.YtndkglmokhndnaaGreatDoor
open Go.RowKit Go.Shelf Dec QQ

theorem runTo_succ {l : List DealIn} {k : Nat} {u : ByteArray} {xs : List DealtR} (h : runTo l (k + 1) = some (u, xs)) :
    ∃ v ys d, runTo l k = some (v, ys) ∧ l[k]? = some d ∧ stepErr l k v = 0 ∧ u = (DealR v d.v d.p d.b).units ∧ xs = ys ++ [DealR v d.v d.p d.b] := by
  change (match runTo l k, l[k]? with
    | some (u, xs), some d => if stepErr l k u = 0 then some ((DealR u d.v d.p d.b).units, xs ++ [DealR u d.v d.p d.b]) else none
    | _, _ => none) = some (u, xs) at h
  cases h1 : runTo l k with
  | none => rw [h1] at h; simp at h
  | some a =>
    obtain ⟨v, ys⟩ := a
    cases h2 : l[k]? with
    | none => rw [h1, h2] at h; simp at h
    | some d =>
      rw [h1, h2] at h
      simp only at h
      split at h
      · rename_i h0
        injection h with h
        injection h with h3 h4
        exact ⟨v, ys, d, rfl, rfl, h0, h3.symm, h4.symm⟩
      · cases h
theorem runTo_len {l : List DealIn} : ∀ {k : Nat} {u : ByteArray} {xs : List DealtR}, runTo l k = some (u, xs) → xs.length = k
  | 0, u, xs, h => by cases h; rfl
  | k + 1, u, xs, h => by
    obtain ⟨v, ys, d, h1, _, _, _, rfl⟩ := runTo_succ h
    simp [runTo_len h1]
/-- a run's beginning -/
theorem runTo_down {l : List DealIn} {n : Nat} {u : ByteArray} {xs : List DealtR} (h : runTo l n = some (u, xs)) : ∀ k, k ≤ n → ∃ v, runTo l k = some (v, xs.take k) := by
  induction n generalizing u xs with
  | zero =>
    intro k hk
    obtain rfl : k = 0 := by omega
    cases h
    exact ⟨nil, rfl⟩
  | succ n ih =>
    intro k hk
    obtain ⟨v, ys, d, h1, _, _, _, rfl⟩ := runTo_succ h
    by_cases e : k = n + 1
    · subst e
      rw [List.take_of_length_le (by simp [runTo_len h1])]
      exact ⟨u, h⟩
    · obtain ⟨v2, hv⟩ := ih h1 k (by omega)
      rw [List.take_append_of_le_length (by rw [runTo_len h1]; omega)]
      exact ⟨v2, hv⟩
theorem stepErr_take {l : List DealIn} {k m : Nat} (h : m < k) (u : ByteArray) : stepErr (l.take k) m u = stepErr l m u := by
  unfold stepErr
  have e1 : (l.take k)[m]? = l[m]? := by rw [List.getElem?_take, if_pos h]
  have e2 : (l.take k)[m - 1]? = l[m - 1]? := by rw [List.getElem?_take, if_pos (by omega)]
  rw [e1, e2]
theorem runTo_take {l : List DealIn} {k : Nat} : ∀ {m : Nat}, m ≤ k → runTo (l.take k) m = runTo l m
  | 0, _ => rfl
  | m + 1, h => by
    have ih := runTo_take (l := l) (k := k) (m := m) (by omega)
    show (match runTo (l.take k) m, (l.take k)[m]? with
      | some (u, xs), some d => if stepErr (l.take k) m u = 0 then some ((DealR u d.v d.p d.b).units, xs ++ [DealR u d.v d.p d.b]) else none
      | _, _ => none) = (match runTo l m, l[m]? with
      | some (u, xs), some d => if stepErr l m u = 0 then some ((DealR u d.v d.p d.b).units, xs ++ [DealR u d.v d.p d.b]) else none
      | _, _ => none)
    rw [ih, List.getElem?_take, if_pos (by omega)]
    simp only [stepErr_take (show m < k by omega)]
/-- a beginning of the days has the beginning of the results -/
theorem runsTo_take {l : List DealIn} {xs ys : List DealtR} {k : Nat} {f : Int} (h : RunsTo l xs 0) (hk : k ≤ l.length) (h2 : RunsTo (l.take k) ys f) : f = 0 ∧ ys = xs.take k ∧ xs.length = l.length := by
  rcases h with ⟨_, _, _, _, _, _, h0, _⟩ | ⟨u, hr, _⟩
  · exact absurd rfl h0
  · obtain ⟨v, hv⟩ := runTo_down hr k hk
    have h3 : RunsTo (l.take k) (xs.take k) 0 := .inr ⟨v, by rw [List.length_take, Nat.min_eq_left hk, runTo_take (Nat.le_refl k)]; exact hv, rfl⟩
    obtain ⟨e1, e2⟩ := runsTo_unique h2 h3
    exact ⟨e2, e1, runTo_len hr⟩
theorem step_deal {l : List DealIn} {k : Nat} {u : ByteArray} {d : DealIn} (hd : l[k]? = some d) (h : stepErr l k u = 0) : (DealR u d.v d.p d.b).err = 0 := by
  unfold stepErr at h
  rw [hd] at h
  change (if 0 < k ∧ (match l[k - 1]? with | none => false | some c => decide (d.day ≤ c.day)) = true then (8 : Int) else (DealR u d.v d.p d.b).err) = 0 at h
  by_cases hc : 0 < k ∧ (match l[k - 1]? with | none => false | some c => decide (d.day ≤ c.day)) = true
  · rw [if_pos hc] at h
    exact absurd h (by decide)
  · rw [if_neg hc] at h
    exact h
/-- the day i of a run: units before and after, value -/
theorem run_day {l : List DealIn} {n : Nat} {u : ByteArray} {xs : List DealtR} (h : runTo l n = some (u, xs)) {i : Nat} (hi : i < n) {v : ByteArray} {ys : List DealtR} (hv : runTo l i = some (v, ys)) :
    ∃ d r, l[i]? = some d ∧ xs[i]? = some r ∧ runTo l (i + 1) = some (r.units, xs.take (i + 1)) ∧ r = DealR v d.v d.p d.b ∧ r.units = canS (valS v + valS r.issued - valS d.b) ∧ r.value = canS (valS d.v + valS d.p - valS r.paid) := by
  obtain ⟨v2, h2⟩ := runTo_down h (i + 1) (by omega)
  obtain ⟨v3, zs, d, h3, hd, h0, h4, h5⟩ := runTo_succ h2
  rw [hv] at h3
  injection h3 with h3
  injection h3 with h3 h6
  subst h3 h6
  obtain ⟨_, _, e⟩ := DealR_ok (step_deal hd h0)
  refine ⟨d, DealR v d.v d.p d.b, hd, ?_, by rw [← h4]; exact h2, rfl, by rw [e], by rw [e]⟩
  have hl := runTo_len hv
  have : (xs.take (i + 1))[i]? = some (DealR v d.v d.p d.b) := by rw [h5, ← hl]; simp
  rwa [List.getElem?_take, if_pos (by omega)] at this
theorem run_size {l : List DealIn} (hz : ∀ d ∈ l, d.v.size ≤ 20 ∧ d.p.size ≤ 20 ∧ d.b.size ≤ 20) : ∀ {k : Nat} {u : ByteArray} {xs : List DealtR}, runTo l k = some (u, xs) → u.size + 50 ≤ 50 * 2 ^ k
  | 0, u, xs, h => by cases h; decide
  | k + 1, u, xs, h => by
    obtain ⟨v, ys, d, h1, hd, _, rfl, _⟩ := runTo_succ h
    have ih := run_size hz h1
    have hs := deal_size0 v d.v d.p d.b
    have hdz := hz d (List.mem_of_getElem? hd)
    have : 2 ^ (k + 1) = 2 * 2 ^ k := by rw [Nat.pow_succ]; omega
    omega
theorem deal_sizes (u v p b : ByteArray) : (DealR u v p b).issued.size ≤ p.size + u.size + 2 ∧ (DealR u v p b).paid.size ≤ v.size + b.size + 2 := by
  unfold DealR
  split
  · exact ⟨Nat.zero_le _, Nat.zero_le _⟩
  · unfold dealR
    split
    · exact ⟨Nat.zero_le _, Nat.zero_le _⟩
    · split
      · exact ⟨Nat.zero_le _, Nat.zero_le _⟩
      · exact ⟨issue_size v u p, cancel_size v u b⟩
/-- the beginning of a row -/
theorem Row.take {w : World} {A : Option Addr} {vs : List Value} (h : Row w A vs) (k : Nat) : Row w A (vs.take k) := by
  intro i v hv
  rw [List.getElem?_take] at hv
  split at hv
  · exact h i v hv
  · cases hv
theorem dflat_take (l : List DealIn) (k : Nat) : dflat (l.take k) = (dflat l).take (4 * k) := by
  induction l generalizing k with
  | nil => simp [dflat]
  | cons d l ih =>
    cases k with
    | zero => simp [dflat]
    | succ k =>
      show dcells d ++ dflat (l.take k) = (dcells d ++ dflat l).take (4 * (k + 1))
      have : (dcells d).length = 4 := rfl
      rw [ih, List.take_append, this, show 4 * (k + 1) - 4 = 4 * k by omega, List.take_of_length_le (l := dcells d) (by rw [this]; omega)]
theorem rflat_take (l : List DealtR) (k : Nat) : rflat (l.take k) = (rflat l).take (4 * k) := by
  induction l generalizing k with
  | nil => simp [rflat]
  | cons d l ih =>
    cases k with
    | zero => simp [rflat]
    | succ k =>
      show rcells d ++ rflat (l.take k) = (rcells d ++ rflat l).take (4 * (k + 1))
      have : (rcells d).length = 4 := rfl
      rw [ih, List.take_append, this, show 4 * (k + 1) - 4 = 4 * k by omega, List.take_of_length_le (l := rcells d) (by rw [this]; omega)]
end Go.Proofs.YtndkglmokhndnaaGreatDoor
