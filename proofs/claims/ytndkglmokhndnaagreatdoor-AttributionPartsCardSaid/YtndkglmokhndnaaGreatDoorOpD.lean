/- A law's argument of days of deals, as the walks read it. No condition. -/
import Derived.Test.YtndkglmokhndnaaGreatDoorLf
import Derived.Test.YtndkglmokhndnaaGreatDoorRunP
import Derived.Deep.Slices
import Derived.Deep.Fields
namespace Go.Proofs.YtndkglmokhndnaaGreatDoor
open Go.ChangeShapes Go.WideShapes Go.ChangeAt Go.RowKit Go.Deep

section
variable {H : Type} {enc : TypeId × Value → H} {P : Program} {w : World} {base : Nat} {spare : Nat → Bool} {held : Bool}
theorem open_slice_fields {t e : TypeId} {fs : Array Field} {fuel : Nat} {cs : List Value} {x : DataW H × List MemPlace} (ht : P.underlying t = some (.slice e)) (he : P.underlying e = some (.struct fs))
    (hone : oneCellFields P fs = true) (hC : P.cellsOf e = fs.size) (h : DataW.trod enc P w base spare held fuel t cs = some x) :
    (cs = [.slice none 0 0] ∧ x = (.nil, [])) ∨
    ∃ (a : Addr) (len cap m : Nat) (D : Nat → DataW H) (Pl : Nat → List MemPlace), cs = [.slice (some a) len cap] ∧ base ≤ a.block ∧ len ≤ cap ∧ cap ≤ maxLen ∧ m = (if spare a.block then cap else len) ∧
      x = (.slice ((List.range len).map D) ((List.range (m - len)).map fun j => D (len + j)), MemPlace.row a (m * fs.size) ++ (List.range m).flatMap Pl) ∧
      ∀ i, i < m → ∃ (ys : List (DataW H × List MemPlace)) (n : Nat), D i = .agg (ys.map (·.1)) ∧ Pl i = ys.flatMap (·.2) ∧ ys.length = fs.size ∧
        ∀ (j : Nat) (f : Field), fs[j]? = some f → ∃ (v : Value) (y : DataW H × List MemPlace), w.cell? (a.add (i * fs.size + j)) = some v ∧ ys[j]? = some y ∧ DataW.trod enc P w base spare held n f.type [v] = some y := by
  rcases open_slice ht h with h0 | ⟨a, len, cap, m, n, D, Pl, hcs, hb, hl, hm, hmm, hx, hi⟩
  · exact .inl h0
  · refine .inr ⟨a, len, cap, m, D, Pl, hcs, hb, hl, hm, hmm, by rw [hC] at hx; exact hx, fun i him => ?_⟩
    obtain ⟨cs', hc, ht'⟩ := hi i him
    rw [hC] at hc
    obtain ⟨ys, n', hn', hy, hlen, hyl, hf⟩ := DataW.trod_struct he ht'
    obtain ⟨_, hcl, hat⟩ := World.cells?_some hc
    simp only [Prod.mk.injEq] at hy
    refine ⟨ys, n', hy.1, hy.2, hyl, fun j f hj => ?_⟩
    obtain ⟨ho, hk⟩ := hone_of hone j f hj
    have hjl : j < fs.size := (Array.getElem?_eq_some_iff.1 hj).1
    have hcell := hat j hjl
    have hv : cs'[j]? = some (cs'[j]'(by omega)) := List.getElem?_eq_getElem (by omega)
    have h1 := hf j f hj
    rw [ho, hk] at h1
    have hone' : (cs'.drop j).take 1 = [cs'[j]'(by omega)] := by
      rw [List.drop_eq_getElem_cons (by omega)]
      rfl
    rw [hone'] at h1
    have hys : ys[j]? = some (ys[j]'(by omega)) := List.getElem?_eq_getElem (by omega)
    refine ⟨_, _, ?_, hys, h1.trans hys⟩
    rw [← Go.Deep.add_add, hcell, hv]

end
theorem list_of {α : Type} (Q : Nat → α → Prop) : ∀ n : Nat, (∀ i, i < n → ∃ x, Q i x) → ∃ l : List α, l.length = n ∧ ∀ i x, l[i]? = some x → Q i x := by
  intro n
  induction n with
  | zero => intro _; exact ⟨[], rfl, fun i x h => by simp at h⟩
  | succ n ih =>
    intro h
    obtain ⟨l, hl, hq⟩ := ih (fun i hi => h i (by omega))
    obtain ⟨x, hx⟩ := h n (by omega)
    refine ⟨l ++ [x], by simp [hl], fun i y hy => ?_⟩
    by_cases hi : i < n
    · rw [List.getElem?_append_left (by omega)] at hy; exact hq i y hy
    · rw [List.getElem?_append_right (by omega)] at hy
      have : i - l.length = 0 := by
        rcases Nat.eq_zero_or_pos (i - l.length) with h0 | h0
        · exact h0
        · have hlt := (List.getElem?_eq_some_iff.1 hy).1; simp at hlt; omega
      rw [this] at hy
      simp at hy
      subst hy
      obtain rfl : i = n := by omega
      exact hx

theorem dflat_inv {l : List DealIn} {i : Nat} {x : Value} (h : (dflat l)[i]? = some x) : ∃ k j d, i = 4 * k + j ∧ l[k]? = some d ∧ (dcells d)[j]? = some x := by
  induction l generalizing i with
  | nil => simp [dflat] at h
  | cons e l ih =>
    change (dcells e ++ dflat l)[i]? = some x at h
    by_cases hi : i < 4
    · rw [List.getElem?_append_left (by simp [dcells]; omega)] at h
      exact ⟨0, i, e, by omega, rfl, h⟩
    · rw [List.getElem?_append_right (by simp [dcells]; omega)] at h
      obtain ⟨k, j, d, e1, e2, e3⟩ := ih h
      refine ⟨k + 1, j, d, ?_, by simpa using e2, e3⟩
      simp [dcells] at e1
      omega
theorem cellsDeal : Tryz.prog.cellsOf 37 = 4 := by kernel_rfl
set_option maxRecDepth 100000 in
/-- an argument of type []api.Deal reads as a list of days -/
theorem open_deals {H : Type} {enc : TypeId × Value → H} {W : World} {base : Nat} {v : Value} {d : DataW H} {p : List MemPlace}
    (hv : Value.okWide Tryz.prog W .any base 22 v) (h : DataW.Trod enc Tryz.prog W 0 (fun _ => true) true 22 v d p) :
    (∃ A c, v = .slice A 0 c) ∨ ∃ (bb oo c : Nat) (l : List DealIn), v = .slice (some ⟨bb, oo, none⟩) l.length c ∧ Row W (some ⟨bb, oo, none⟩) (dflat l) ∧ l.length ≤ 9223372036854775807 ∧ l.length ≤ c ∧ c ≤ 9223372036854775807 ∧ ∀ x ∈ l, x.v.size ≤ 9223372036854775807 ∧ x.p.size ≤ 9223372036854775807 ∧ x.b.size ≤ 9223372036854775807 := by
  obtain ⟨a0, len, cap, rfl⟩ := okWide_slice Tryz.underlying22 hv
  obtain ⟨fuel, hf⟩ := h
  rcases open_slice_fields (fs := _) Tryz.underlying22 Tryz.underlying37 (by kernel_rfl) cellsDeal hf with ⟨hcs, hx⟩ | ⟨a, len', cap', m, D, Pl, hcs, _, hl, hm, hmm, hx, hi⟩
  · have e : a0 = none ∧ len = 0 ∧ cap = 0 := by simpa [Value.cells] using hcs
    obtain ⟨rfl, rfl, rfl⟩ := e
    exact .inl ⟨none, 0, rfl⟩
  · have e : a0 = some a ∧ len = len' ∧ cap = cap' := by simpa [Value.cells] using hcs
    obtain ⟨rfl, rfl, rfl⟩ := e
    have hmc : m = cap := by simpa using hmm
    by_cases h0 : len = 0
    · subst h0
      exact .inl ⟨_, _, rfl⟩
    · obtain ⟨l, hlen, hq⟩ := list_of (fun i (x : DealIn) => (W.cell? (a.add (i * 4)) = some (.int .i64 x.day) ∧ W.cell? (a.add (i * 4 + 1)) = some (.string x.v) ∧ W.cell? (a.add (i * 4 + 2)) = some (.string x.p) ∧ W.cell? (a.add (i * 4 + 3)) = some (.string x.b)) ∧ x.v.size ≤ 9223372036854775807 ∧ x.p.size ≤ 9223372036854775807 ∧ x.b.size ≤ 9223372036854775807) len (fun i hil => by
        obtain ⟨ys, n, _, _, hyl, hff⟩ := hi i (by omega)
        obtain ⟨v0, y0, hc0, _, ht0⟩ := hff 0 _ rfl
        obtain ⟨v1, y1, hc1, _, ht1⟩ := hff 1 _ rfl
        obtain ⟨v2, y2, hc2, _, ht2⟩ := hff 2 _ rfl
        obtain ⟨v3, y3, hc3, _, ht3⟩ := hff 3 _ rfl
        obtain ⟨x0, e0, _, f0⟩ := DataW.trod_int Tryz.underlying35 ht0
        obtain ⟨x1, e1, _, f1⟩ := DataW.trod_string Tryz.underlying30 ht1
        obtain ⟨x2, e2, _, f2⟩ := DataW.trod_string Tryz.underlying30 ht2
        obtain ⟨x3, e3, _, f3⟩ := DataW.trod_string Tryz.underlying30 ht3
        simp at e0 e1 e2 e3
        subst e0 e1 e2 e3
        exact ⟨⟨x0, x1, x2, x3⟩, ⟨hc0, hc1, hc2, hc3⟩, f1, f2, f3⟩)
      obtain ⟨b, o, spot⟩ := a
      have hspot : spot = none := by
        obtain ⟨f0, _⟩ := hq 0 (l[0]'(by omega)) (by simp)
        simpa [Addr.add] using World.cell?_spot f0.1
      subst hspot
      refine .inr ⟨b, o, cap, l, by rw [hlen], ?_, by unfold maxLen at hm; omega, by omega, by unfold maxLen at hm; omega, ?_⟩
      · intro i x hix
        obtain ⟨k, j, d, e1, e2, e3⟩ := dflat_inv hix
        obtain ⟨g, _⟩ := hq k d e2
        simp only [Go.WideShapes.add_plain] at g
        have hlt : b < W.heap.size := block_lt_of_cell g.1
        refine ⟨b, o, rfl, hlt, ?_⟩
        subst e1
        have hj : j < 4 := by
          have := (List.getElem?_eq_some_iff.1 e3).1
          simpa [dcells] using this
        match j, hj, e3 with
        | 0, _, e3 => simp [dcells] at e3; subst e3; rw [show o + (4 * k + 0) = o + k * 4 by omega]; exact g.1
        | 1, _, e3 => simp [dcells] at e3; subst e3; rw [show o + (4 * k + 1) = o + (k * 4 + 1) by omega]; exact g.2.1
        | 2, _, e3 => simp [dcells] at e3; subst e3; rw [show o + (4 * k + 2) = o + (k * 4 + 2) by omega]; exact g.2.2.1
        | 3, _, e3 => simp [dcells] at e3; subst e3; rw [show o + (4 * k + 3) = o + (k * 4 + 3) by omega]; exact g.2.2.2
      · intro x hx
        obtain ⟨i, hi2, rfl⟩ := List.mem_iff_getElem.1 hx
        exact (hq i _ (List.getElem?_eq_getElem hi2)).2
end Go.Proofs.YtndkglmokhndnaaGreatDoor
