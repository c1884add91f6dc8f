/- Integer, the reference: the contract of Div. Conditions: strings of up to a hundred thousand bytes. Integer, the reference: Div, the long way that needs no putting right. Conditions: strings of up to a hundred thousand bytes. Integer, the reference: Div, the long way that is put right. Conditions: strings of up to a hundred thousand bytes. Integer, the reference: the contract of Div. Conditions: strings of up to a hundred thousand bytes. -/
import Derived.Test.YtahpbnmbphobgaaGreatDoorRh
import Derived.Test.YtahpbnmbphobgaaGreatDoorFd
namespace Go.Proofs.YtahpbnmbphobgaaGreatDoor
open Go.RowKit Go.Shelf Dec

theorem mag_len_mono {a b : Nat} (h : a ≤ b) : (mag a).length ≤ (mag b).length := by
  rw [mag_len_lt]
  exact Nat.lt_of_le_of_lt h (mag_len_lt.1 (Nat.le_refl _))
theorem mag_len_zero {n : Nat} : (mag n).length = 0 ↔ n = 0 := by
  constructor
  · intro h
    have := mag_len_lt (n := n) (k := 0)
    have h2 := this.1 (by omega)
    simp at h2
    exact h2
  · intro h; subst h; rw [mag_zero]; rfl
theorem mg_one_r (w : World) : Mg .i64 (w.alloc (.cells #[.int .i64 1] 3)) (w.alloc (.cells #[.int .i64 1] 3)).heap.size (some ⟨w.heap.size, 0, none⟩) (mag 1) := by
  have := mg_new1 w 1
  rw [mag_single (by omega) (by decide)]
  exact this
theorem mg_set {w : World} {A : Option Addr} {l : List Nat} {b i : Nat} {v v' : Value} (h : Mg .i64 w w.heap.size A l) (hc : w.cell? ⟨b, i, none⟩ = some v) (hv : ∀ n, v ≠ .int .i64 n) : Mg .i64 (w.setCell ⟨b, i, none⟩ v') (w.setCell ⟨b, i, none⟩ v').heap.size A l := by
  intro j g hg
  obtain ⟨b', o, hA, hB, hcell⟩ := h j g hg
  refine ⟨b', o, hA, by simpa [World.setCell] using hB, ?_⟩
  rw [World.cell?_setCell_other]
  · exact hcell
  · intro e
    injection e with e1 e2
    subst e1 e2
    rw [hc] at hcell
    exact hv _ (Option.some.inj hcell)
/-- the quotient and the rest, where nothing is put right -/
theorem rdiv_plain {x y : Int} {nx ny : Bool} (hx : decide (x < 0) = nx) (hy' : decide (y < 0) = ny) (hy : y ≠ 0) (h : (nx != ny) = false ∨ x.natAbs % y.natAbs = 0) :
    sgn (nx != ny) (x.natAbs / y.natAbs) = x.fdiv y ∧ sgn nx (x.natAbs % y.natAbs) = x.fmod y := by
  by_cases e : nx = ny
  · have e1 : decide (x < 0) = decide (y < 0) := by rw [hx, hy', e]
    have := div_same x y hy e1
    rw [hy'] at this
    subst e
    simpa using this
  · have hb : (nx != ny) = true := by simpa using e
    have hr : x.natAbs % y.natAbs = 0 := by
      rcases h with h | h
      · rw [hb] at h; cases h
      · exact h
    have := div_zero_rest x y hy (by rw [hx, hy']; exact e) hr
    rw [hr] at this ⊢
    rw [hb]
    refine ⟨this.1, ?_⟩
    rw [← this.2]
    unfold sgn
    split <;> split <;> rfl
theorem rdiv_right {x y : Int} {nx ny : Bool} (hx : decide (x < 0) = nx) (hy' : decide (y < 0) = ny) (hy : y ≠ 0) (h : (nx != ny) = true) (hr : x.natAbs % y.natAbs ≠ 0) :
    sgn true (x.natAbs / y.natAbs) + sgn true 1 = x.fdiv y ∧ sgn nx (x.natAbs % y.natAbs) + sgn ny y.natAbs = x.fmod y := by
  have e : nx ≠ ny := by simpa using h
  have := div_diff x y hy (by rw [hx, hy']; exact e) hr
  rw [← this.1, ← this.2, hy']
  have hlt : x.natAbs % y.natAbs < y.natAbs := Nat.mod_lt _ (by omega)
  constructor
  · unfold sgn; simp; omega
  · unfold sgn
    cases nx <;> cases ny <;> simp at e ⊢ <;> omega
end Go.Proofs.YtahpbnmbphobgaaGreatDoor
namespace Go.Proofs.YtahpbnmbphobgaaGreatDoor
open Go.RowKit Go.Shelf Dec

end Go.Proofs.YtahpbnmbphobgaaGreatDoor
namespace Go.Proofs.YtahpbnmbphobgaaGreatDoor
open Go.RowKit Go.Shelf Dec

end Go.Proofs.YtahpbnmbphobgaaGreatDoor
namespace Go.Proofs.YtahpbnmbphobgaaGreatDoor
open Go.RowKit Go.Shelf Dec

theorem tdiv_sgn (x y : Int) : x.tdiv y = sgn (decide (x < 0) != decide (y < 0)) (x.natAbs / y.natAbs) ∧ x.tmod y = sgn (decide (x < 0)) (x.natAbs % y.natAbs) := by
  have pos : ∀ (n : Nat), decide ((n : Int) < 0) = false := fun n => decide_eq_false (by omega)
  have neg : ∀ (n : Nat), decide (-((n + 1 : Nat) : Int) < 0) = true := fun n => decide_eq_true (by omega)
  have cx : (∃ n : Nat, x = n) ∨ ∃ n : Nat, x = -((n + 1 : Nat) : Int) := by
    rcases Int.lt_or_le x 0 with h | h
    · exact .inr ⟨x.natAbs - 1, by omega⟩
    · exact .inl ⟨x.natAbs, by omega⟩
  have cy : (∃ n : Nat, y = n) ∨ ∃ n : Nat, y = -((n + 1 : Nat) : Int) := by
    rcases Int.lt_or_le y 0 with h | h
    · exact .inr ⟨y.natAbs - 1, by omega⟩
    · exact .inl ⟨y.natAbs, by omega⟩
  rcases cx with ⟨m, rfl⟩ | ⟨m, rfl⟩ <;> rcases cy with ⟨n, rfl⟩ | ⟨n, rfl⟩
  · rw [pos, pos]; exact ⟨rfl, rfl⟩
  · rw [pos, neg, Int.tdiv_neg, Int.tmod_neg, Int.natAbs_neg]; exact ⟨rfl, rfl⟩
  · rw [neg, pos, Int.neg_tdiv, Int.neg_tmod, Int.natAbs_neg]; exact ⟨rfl, rfl⟩
  · rw [neg, neg, Int.neg_tdiv, Int.tdiv_neg, Int.neg_neg, Int.neg_tmod, Int.tmod_neg, Int.natAbs_neg, Int.natAbs_neg]; exact ⟨rfl, rfl⟩
theorem tdiv_floor {x y : Int} (hy : y ≠ 0) :
    (((x.tmod y != 0) = false ∨ (decide (x.tmod y < 0) != decide (y < 0)) = false) → x.tdiv y = x.fdiv y ∧ x.tmod y = x.fmod y) ∧
    ((x.tmod y != 0) = true → (decide (x.tmod y < 0) != decide (y < 0)) = true → x.tdiv y - 1 = x.fdiv y ∧ x.tmod y + y = x.fmod y) := by
  obtain ⟨e1, e2⟩ := tdiv_sgn x y
  have hr : x.tmod y = 0 ↔ x.natAbs % y.natAbs = 0 := by
    rw [e2]
    unfold sgn
    split <;> omega
  have hs : x.tmod y ≠ 0 → decide (x.tmod y < 0) = decide (x < 0) := by
    intro h
    have h' : x.natAbs % y.natAbs ≠ 0 := fun e => h (hr.2 e)
    rw [e2]
    unfold sgn
    cases hx : decide (x < 0) with
    | true =>
      simp only [if_true]
      exact decide_eq_true (by omega)
    | false =>
      simp only [Bool.false_eq_true, if_false]
      exact decide_eq_false (by omega)
  constructor
  · intro h
    have hh : (decide (x < 0) != decide (y < 0)) = false ∨ x.natAbs % y.natAbs = 0 := by
      by_cases h0 : x.tmod y = 0
      · exact .inr (hr.1 h0)
      · rcases h with h | h
        · exact absurd (by simpa using h) h0
        · rw [hs h0] at h; exact .inl h
    have := rdiv_plain (x := x) (y := y) rfl rfl hy hh
    rw [e1, e2]
    exact this
  · intro h1 h2
    have h0 : x.tmod y ≠ 0 := by simpa using h1
    rw [hs h0] at h2
    have := rdiv_right (x := x) (y := y) rfl rfl hy h2 (fun e => h0 (hr.2 e))
    rw [← this.1, ← this.2, e1, e2, h2]
    refine ⟨rfl, ?_⟩
    rw [sgn_val]

end Go.Proofs.YtahpbnmbphobgaaGreatDoor
