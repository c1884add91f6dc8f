/- Lists of structs as rows of cells: cells, beginnings, ends; own results. No condition. -/
import Derived.Test.YtahpbnmbphobgaaGreatDoorOwn
namespace Go.Proofs.YtahpbnmbphobgaaGreatDoor
open Go.RowKit Go.Shelf Dec QQ

/-- the cells of a list of structs -/
def flatG {α : Type} (cs : α → List Value) (l : List α) : List Value := l.flatMap cs
section
variable {α : Type} {cs : α → List Value} {m : Nat}
theorem flatG_len (hm : ∀ a, (cs a).length = m) (l : List α) : (flatG cs l).length = m * l.length := by
  induction l with
  | nil => simp [flatG]
  | cons d l ih =>
    show (cs d ++ flatG cs l).length = _
    rw [List.length_append, hm, ih, List.length_cons, Nat.mul_add, Nat.mul_one, Nat.add_comm]
theorem flatG_at (hm : ∀ a, (cs a).length = m) {l : List α} {k j : Nat} {d : α} {x : Value} (h : l[k]? = some d) (hj : (cs d)[j]? = some x) : (flatG cs l)[k * m + j]? = some x := by
  induction l generalizing k with
  | nil => simp at h
  | cons e l ih =>
    have hjm : j < m := by rw [← hm d]; exact (List.getElem?_eq_some_iff.1 hj).1
    cases k with
    | zero =>
      simp at h
      subst h
      show (cs e ++ flatG cs l)[0 * m + j]? = some x
      rw [List.getElem?_append_left (by rw [hm]; omega), Nat.zero_mul, Nat.zero_add]
      exact hj
    | succ k =>
      simp at h
      show (cs e ++ flatG cs l)[(k + 1) * m + j]? = some x
      have e1 : (k + 1) * m = k * m + m := by rw [Nat.succ_mul]
      rw [List.getElem?_append_right (by rw [hm]; omega), hm, show (k + 1) * m + j - m = k * m + j by omega]
      exact ih h
theorem flatG_snoc (l : List α) (r : α) : flatG cs (l ++ [r]) = flatG cs l ++ cs r := by simp [flatG]
theorem flatG_take (hm : ∀ a, (cs a).length = m) (l : List α) (k : Nat) : flatG cs (l.take k) = (flatG cs l).take (m * k) := by
  induction l generalizing k with
  | nil => simp [flatG]
  | cons d l ih =>
    cases k with
    | zero => simp [flatG]
    | succ k =>
      show cs d ++ flatG cs (l.take k) = (cs d ++ flatG cs l).take (m * (k + 1))
      have e1 : m * (k + 1) = m + m * k := by rw [Nat.mul_succ, Nat.add_comm]
      rw [ih, List.take_append, hm, show m * (k + 1) - m = m * k by omega, List.take_of_length_le (l := cs d) (by rw [hm]; omega)]
/-- the beginning of a row -/
theorem RowG.take {w : World} {A : Option Addr} {vs : List Value} (h : Row w A vs) (k : Nat) : Row w A (vs.take k) := by
  intro i v hv
  rw [List.getElem?_take] at hv
  split at hv
  · exact h i v hv
  · cases hv
theorem RowG.cut (hm : ∀ a, (cs a).length = m) {w : World} {A : Option Addr} {l : List α} (h : Row w A (flatG cs l)) (k : Nat) : Row w A (flatG cs (l.take k)) := by
  rw [flatG_take hm]
  exact RowG.take h _
/-- the cells of one struct of a row -/
theorem row_at (hm : ∀ a, (cs a).length = m) (h0 : 0 < m) {w : World} {A : Option Addr} {l : List α} {k : Nat} {d : α} (h : Row w A (flatG cs l)) (hk : l[k]? = some d) :
    ∃ b o, A = some ⟨b, o, none⟩ ∧ b < w.heap.size ∧ ∀ j x, (cs d)[j]? = some x → w.cell? ⟨b, o + (k * m + j), none⟩ = some x := by
  obtain ⟨x, hx⟩ : ∃ x, (cs d)[0]? = some x := ⟨(cs d)[0]'(by rw [hm]; exact h0), by simp⟩
  obtain ⟨b, o, hA, hb, _⟩ := h _ _ (flatG_at hm hk hx)
  refine ⟨b, o, hA, hb, fun j y hy => ?_⟩
  obtain ⟨b', o', hA', _, hc⟩ := h _ _ (flatG_at hm hk hy)
  rw [hA] at hA'
  injection hA' with hA'
  injection hA' with h1 h2
  subst h1 h2
  exact hc
/-- a list of structs that the call has made -/
def OutG (cs : α → List Value) (T : TypeId) (m : Nat) (base : Nat) (w : World) (v : Value) (n : Nat) (xs : List α) : Prop := xs.length = n ∧ w.ownsRow base T m v n (flatG cs xs)
theorem OutG.row {T : TypeId} {base n : Nat} {w : World} {v : Value} {xs : List α} (h : OutG cs T m base w v n xs) : ∃ A c, v = .slice A n c ∧ Row w A (flatG cs xs) := by
  rcases h.2.2 with ⟨rfl, h0⟩ | ⟨g, cap, cur, rfl, e2, e3, e4, e5, e6, e7⟩
  · subst h0
    have : xs = [] := List.length_eq_zero_iff.1 h.1
    subst this
    exact ⟨none, 0, rfl, fun i v hv => by simp [flatG] at hv⟩
  · refine ⟨_, _, rfl, fun i v hv => ⟨g, 0, rfl, (Array.getElem?_eq_some_iff.1 e3).1, ?_⟩⟩
    have hl := (List.getElem?_eq_some_iff.1 hv).1
    rw [← e7] at hv
    have h2 : i < n * m := by rw [List.getElem?_take] at hv; split at hv; assumption; cases hv
    rw [List.getElem?_take, if_pos h2, Array.getElem?_toList] at hv
    rw [Nat.zero_add]
    simp [World.cell?, e3, hv]
theorem OutG.on {T : TypeId} {base n : Nat} {w w' : World} {v : Value} {xs : List α} (h : OutG cs T m base w v n xs) (hb : Below w.heap.size w w') : OutG cs T m base w' v n xs := ⟨h.1, own_below h.2 hb⟩
end
end Go.Proofs.YtahpbnmbphobgaaGreatDoor
