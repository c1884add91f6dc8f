/- Period: how an argument of closings is opened; for every input. -/
import Derived.Test.YtopnhhgcoiomhaaA
import Derived.Test.YtopnhhgcoiomhaaL
import Derived.Test.YtopnhhgcoiomhaaRows
import Derived.WalkKit
import Derived.ProofKit
import Derived.OpenShut
import Derived.WalkLawsBesides
import Derived.Deep.QuietTactic
import Derived.Deep.LoopGhost
import Derived.Deep.RegionWith
import Derived.BigQuiet
import Derived.Lib.Hide
namespace Go.Proofs.Ytopnhhgcoiomhaa
open Go.RowKit Go.ChangeShapes Go.WideShapes Go.Deep Go.ChangeAt
theorem list_of {α : Type} (Q : Nat → α → Prop) : ∀ n : Nat, (∀ i, i < n → ∃ x, Q i x) → ∃ l : List α, l.length = n ∧ ∀ i x, l[i]? = some x → Q i x := by
  intro n
  induction n with
  | zero => intro _; exact ⟨[], rfl, fun i x h => by simp at h⟩
  | succ n ih =>
    intro h
    obtain ⟨l, hl, hq⟩ := ih (fun i hi => h i (by omega))
    obtain ⟨x, hx⟩ := h n (by omega)
    refine ⟨l ++ [x], by simp [hl], fun i y hy => ?_⟩
    by_cases hi : i < n
    · rw [List.getElem?_append_left (by omega)] at hy; exact hq i y hy
    · rw [List.getElem?_append_right (by omega)] at hy
      have : i - l.length = 0 := by
        rcases Nat.eq_zero_or_pos (i - l.length) with h0 | h0
        · exact h0
        · have hlt := (List.getElem?_eq_some_iff.1 hy).1; simp at hlt; omega
      rw [this] at hy
      simp at hy
      subst hy
      obtain rfl : i = n := by omega
      exact hx
theorem cell_lt {w : World} {p : Addr} {v : Value} (h : w.cell? p = some v) : p.block < w.heap.size := by
  rcases Nat.lt_or_ge p.block w.heap.size with h1 | h1
  · exact h1
  · simp [World.cell?, h1] at h

theorem laidOut : laidOutB Try.prog = true := by kernel_rfl
theorem cells30 : Try.prog.cellsOf 30 = 2 := by kernel_rfl
theorem own : ownKnob Try.prog.godebug = none := by kernel_rfl

/-- an argument of type []api.Close reads as a list of closings -/
theorem open_cl {H : Type} {enc : TypeId × Value → H} {W : World} {base : Nat} {v : Value} {d : DataW H} {p : List MemPlace}
    (hv : Value.okWide Try.prog W .any base 22 v) (h : DataW.Trod enc Try.prog W 0 (fun _ => true) true 22 v d p) :
    ∃ (A : Option Addr) (c : Nat) (l : List (Int × Int)), v = .slice A l.length c ∧ Cl W W.heap.size A l ∧ l.length ≤ 9223372036854775807 ∧ ∀ (i : Nat) (x : Int × Int), l[i]? = some x → -9223372036854775808 ≤ x.1 ∧ x.1 ≤ 9223372036854775807 ∧ -9223372036854775808 ≤ x.2 ∧ x.2 ≤ 9223372036854775807 := by
  obtain ⟨a0, len, cap, rfl⟩ := okWide_slice Try.underlying22 hv
  obtain ⟨fuel, hf⟩ := h
  rcases open_slice_fields (fs := _) Try.underlying22 Try.underlying30 (by kernel_rfl) cells30 hf with ⟨hcs, hx⟩ | ⟨a, len', cap', m, D, Pl, hcs, _, hl, hm, hmm, hx, hi⟩
  · have e : a0 = none ∧ len = 0 ∧ cap = 0 := by simpa [Value.cells] using hcs
    obtain ⟨rfl, rfl, rfl⟩ := e
    exact ⟨none, 0, [], rfl, fun i x h => by simp at h, by simp, fun i x h => by simp at h⟩
  · have e : a0 = some a ∧ len = len' ∧ cap = cap' := by simpa [Value.cells] using hcs
    obtain ⟨rfl, rfl, rfl⟩ := e
    have hmc : m = cap := by simpa using hmm
    obtain ⟨l, hlen, hq⟩ := list_of (fun i (x : Int × Int) => W.cell? (a.add (i * 2)) = some (.int .i64 x.1) ∧ W.cell? (a.add (i * 2 + 1)) = some (.int .i64 x.2) ∧ -9223372036854775808 ≤ x.1 ∧ x.1 ≤ 9223372036854775807 ∧ -9223372036854775808 ≤ x.2 ∧ x.2 ≤ 9223372036854775807) len (fun i hil => by
      obtain ⟨ys, n, _, _, hyl, hff⟩ := hi i (by omega)
      obtain ⟨v0, y0, hc0, _, ht0⟩ := hff 0 _ rfl
      obtain ⟨v1, y1, hc1, _, ht1⟩ := hff 1 _ rfl
      obtain ⟨x0, e0, _, f0⟩ := DataW.trod_int Try.underlying25 ht0
      obtain ⟨x1, e1, _, f1⟩ := DataW.trod_int Try.underlying3 ht1
      simp at e0 e1
      subst e0 e1
      have b0 : -9223372036854775808 ≤ x0 ∧ x0 ≤ 9223372036854775807 := by simpa [Lit.wf, IntKind.min, IntKind.max, IntKind.signed, IntKind.bits] using f0
      have b1 : -9223372036854775808 ≤ x1 ∧ x1 ≤ 9223372036854775807 := by simpa [Lit.wf, IntKind.min, IntKind.max, IntKind.signed, IntKind.bits] using f1
      exact ⟨(x0, x1), hc0, hc1, b0.1, b0.2, b1.1, b1.2⟩)
    refine ⟨some a, cap, l, by rw [hlen], fun i x hix => ?_, by unfold maxLen at hm; omega, fun i x hix => (hq i x hix).2.2⟩
    obtain ⟨g0, g1, _⟩ := hq i x hix
    obtain ⟨b, o, spot⟩ := a
    have hi0 : 0 < l.length := by have := (List.getElem?_eq_some_iff.1 hix).1; omega
    have hspot : spot = none := by
      obtain ⟨f0, _, _⟩ := hq 0 (l[0]) (by simp [hi0])
      simpa [Addr.add] using World.cell?_spot f0
    subst hspot
    rw [Go.WideShapes.add_plain] at g0 g1
    exact ⟨b, o, rfl, cell_lt (p := ⟨b, o + i * 2, none⟩) g0, g0, by rw [Nat.add_assoc]; exact g1⟩
end Go.Proofs.Ytopnhhgcoiomhaa
