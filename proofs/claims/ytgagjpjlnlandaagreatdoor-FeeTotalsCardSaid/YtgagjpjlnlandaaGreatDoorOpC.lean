/- A law's argument of charges, as the walks read it. No condition. -/
import Derived.Test.YtgagjpjlnlandaaGreatDoorOpF
import Derived.Test.YtgagjpjlnlandaaGreatDoorFe5
namespace Go.Proofs.YtgagjpjlnlandaaGreatDoor
open Go.ChangeShapes Go.WideShapes Go.ChangeAt Go.RowKit Go.Deep

theorem cellsF_ch : Tryz.prog.cellsOf 75 = 5 := by kernel_rfl
def ChS.big (x : ChS) : Prop := x.mg.size ≤ 9223372036854775807 ∧ x.pf.size ≤ 9223372036854775807 ∧ x.mn.size ≤ 9223372036854775807 ∧ x.md.size ≤ 9223372036854775807
set_option maxRecDepth 100000 in
theorem chs_one {H : Type} {enc : TypeId × Value → H} {w : World} {base n : Nat} {spare : Nat → Bool} {held : Bool} {cs : List Value} {y : DataW H × List MemPlace} (h : DataW.trod enc Tryz.prog w base spare held n 75 cs = some y) : ∃ x : ChS, cs = chcells x ∧ x.big := by
  obtain ⟨ys, n', _, _, hl, hyl, hf⟩ := DataW.trod_struct Tryz.underlying75 h
  rw [cellsF_ch] at hl
  match cs, hl with
  | [c0, c1, c2, c3, c4], _ =>
    have h0 := hf 0 _ rfl
    change DataW.trod enc Tryz.prog w base spare held n' 43 (List.take (Tryz.prog.cellsOf 43) (List.drop 0 [c0, c1, c2, c3, c4])) = ys[0]? at h0
    rw [cellsF_day] at h0
    rw [List.getElem?_eq_getElem (by rw [hyl]; decide)] at h0
    obtain ⟨s0, e0, _, _⟩ := DataW.trod_int Tryz.underlying43 h0
    simp at e0
    have h1 := hf 1 _ rfl
    change DataW.trod enc Tryz.prog w base spare held n' 32 (List.take (Tryz.prog.cellsOf 32) (List.drop 1 [c0, c1, c2, c3, c4])) = ys[1]? at h1
    rw [cells_intF] at h1
    rw [List.getElem?_eq_getElem (by rw [hyl]; decide)] at h1
    obtain ⟨s1, e1, _, f1⟩ := DataW.trod_string Tryz.underlying32 h1
    simp at e1
    have h2 := hf 2 _ rfl
    change DataW.trod enc Tryz.prog w base spare held n' 32 (List.take (Tryz.prog.cellsOf 32) (List.drop 2 [c0, c1, c2, c3, c4])) = ys[2]? at h2
    rw [cells_intF] at h2
    rw [List.getElem?_eq_getElem (by rw [hyl]; decide)] at h2
    obtain ⟨s2, e2, _, f2⟩ := DataW.trod_string Tryz.underlying32 h2
    simp at e2
    have h3 := hf 3 _ rfl
    change DataW.trod enc Tryz.prog w base spare held n' 34 (List.take (Tryz.prog.cellsOf 34) (List.drop 3 [c0, c1, c2, c3, c4])) = ys[3]? at h3
    rw [cells_fracF] at h3
    obtain ⟨s3, s4, e3, e4, f3, f4⟩ := frac_openF (by rw [List.getElem?_eq_getElem (by rw [hyl]; decide)]; rfl) h3
    subst e0 e1 e2 e3 e4
    exact ⟨⟨s0, s1, s2, s3, s4⟩, rfl, f1, f2, f3, f4⟩
set_option maxRecDepth 100000 in
/-- an argument of type []api.Charge reads as a list -/
theorem open_chs {H : Type} {enc : TypeId × Value → H} {W : World} {base : Nat} {v : Value} {d : DataW H} {p : List MemPlace}
    (hv : Value.okWide Tryz.prog W .any base 72 v) (h : DataW.Trod enc Tryz.prog W 0 (fun _ => true) true 72 v d p) :
    ∃ (A : Option Addr) (c : Nat) (l : List ChS), v = .slice A l.length c ∧ Row W A (flatG chcells l) ∧ l.length ≤ c ∧ c ≤ 9223372036854775807 ∧ ∀ x ∈ l, x.big := by
  obtain ⟨a0, len, cap, rfl⟩ := okWide_slice Tryz.underlying72 hv
  obtain ⟨fuel, hf⟩ := h
  rcases open_slice Tryz.underlying72 hf with ⟨hcs, hx⟩ | ⟨a, len', cap', m, n, D, Pl, hcs, _, hl, hm, hmm, hx, hi⟩
  · have e : a0 = none ∧ len = 0 ∧ cap = 0 := by simpa [Value.cells] using hcs
    obtain ⟨rfl, rfl, rfl⟩ := e
    exact ⟨none, 0, [], rfl, fun i v hv => by simp [flatG] at hv, by simp, by omega, fun x hx => by cases hx⟩
  · have e : a0 = some a ∧ len = len' ∧ cap = cap' := by simpa [Value.cells] using hcs
    obtain ⟨rfl, rfl, rfl⟩ := e
    have hmc : m = cap := by simpa using hmm
    by_cases h0 : len = 0
    · subst h0
      exact ⟨_, _, [], rfl, fun i v hv => by simp [flatG] at hv, by simp, by unfold maxLen at hm; omega, fun x hx => by cases hx⟩
    · obtain ⟨l, hlen, hq⟩ := list_of (fun i (x : ChS) => (W.cell? (a.add (i * 5 + 0)) = some (.int .i64 x.day) ∧ W.cell? (a.add (i * 5 + 1)) = some (.string x.mg) ∧ W.cell? (a.add (i * 5 + 2)) = some (.string x.pf) ∧ W.cell? (a.add (i * 5 + 3)) = some (.string x.mn) ∧ W.cell? (a.add (i * 5 + 4)) = some (.string x.md)) ∧ x.big) len (fun i hil => by
        obtain ⟨cs', hc, ht'⟩ := hi i (by omega)
        rw [cellsF_ch] at hc
        obtain ⟨x, hx, hb⟩ := chs_one ht'
        obtain ⟨_, hcl, hat⟩ := World.cells?_some hc
        subst hx
        have key : ∀ j, j < 5 → W.cell? (a.add (i * 5 + j)) = (chcells x)[j]? := fun j hj => by rw [← Go.Deep.add_add]; exact hat j hj
        exact ⟨x, ⟨key 0 (by decide), key 1 (by decide), key 2 (by decide), key 3 (by decide), key 4 (by decide)⟩, hb⟩)
      obtain ⟨b, o, spot⟩ := a
      have hspot : spot = none := by
        obtain ⟨f0, _⟩ := hq 0 (l[0]'(by omega)) (by simp)
        simpa [Addr.add] using World.cell?_spot f0.1
      subst hspot
      refine ⟨some ⟨b, o, none⟩, cap, l, by rw [hlen], ?_, by omega, by unfold maxLen at hm; omega, ?_⟩
      · intro i x hix
        obtain ⟨k, j, d, e1, e2, e3⟩ := flatG_invF chcells_len hix
        obtain ⟨g, _⟩ := hq k d e2
        simp only [Go.WideShapes.add_plain] at g
        have hlt : b < W.heap.size := block_lt_of_cell g.1
        refine ⟨b, o, rfl, hlt, ?_⟩
        subst e1
        have hj : j < 5 := by
          have := (List.getElem?_eq_some_iff.1 e3).1
          simpa [chcells] using this
        match j, hj, e3 with
        | 0, _, e3 => simp [chcells] at e3; subst e3; exact g.1
        | 1, _, e3 => simp [chcells] at e3; subst e3; exact g.2.1
        | 2, _, e3 => simp [chcells] at e3; subst e3; exact g.2.2.1
        | 3, _, e3 => simp [chcells] at e3; subst e3; exact g.2.2.2.1
        | 4, _, e3 => simp [chcells] at e3; subst e3; exact g.2.2.2.2
      · intro x hx
        obtain ⟨i, hi2, rfl⟩ := List.mem_iff_getElem.1 hx
        exact (hq i _ (List.getElem?_eq_getElem hi2)).2
end Go.Proofs.YtgagjpjlnlandaaGreatDoor
