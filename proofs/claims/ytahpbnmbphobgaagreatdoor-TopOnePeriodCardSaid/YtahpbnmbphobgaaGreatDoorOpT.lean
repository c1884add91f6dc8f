/- A law's argument of points, as the walks read it. No condition. -/
import Derived.Test.YtahpbnmbphobgaaGreatDoorLf
import Derived.Deep.Slices
import Derived.Deep.Fields
import Derived.Test.YtahpbnmbphobgaaGreatDoorGr
import Derived.Test.YtahpbnmbphobgaaGreatDoorOwn
namespace Go.Proofs.YtahpbnmbphobgaaGreatDoor
open Go.ChangeShapes Go.WideShapes Go.ChangeAt Go.RowKit Go.Deep

theorem flatG_invF {α : Type} {cs : α → List Value} {m : Nat} (hm : ∀ a, (cs a).length = m) {l : List α} {i : Nat} {x : Value} (h : (flatG cs l)[i]? = some x) : ∃ k j d, i = k * m + j ∧ l[k]? = some d ∧ (cs d)[j]? = some x := by
  induction l generalizing i with
  | nil => simp [flatG] at h
  | cons e l ih =>
    change (cs e ++ flatG cs l)[i]? = some x at h
    by_cases hi : i < m
    · rw [List.getElem?_append_left (by rw [hm]; omega)] at h
      exact ⟨0, i, e, by omega, rfl, h⟩
    · rw [List.getElem?_append_right (by rw [hm]; omega), hm] at h
      obtain ⟨k, j, d, e1, e2, e3⟩ := ih h
      refine ⟨k + 1, j, d, ?_, by simpa using e2, e3⟩
      rw [Nat.succ_mul]
      omega
theorem cells_intF : Tryz.prog.cellsOf 27 = 1 := by kernel_rfl
theorem cellsF_day : Tryz.prog.cellsOf 26 = 1 := by kernel_rfl
/-- a point -/
structure PtS where
  day : Int
  v : ByteArray
  f : ByteArray
def ptcells (p : PtS) : List Value := [.int .i64 p.day, .string p.v, .string p.f]
theorem ptcells_len (c : PtS) : (ptcells c).length = 3 := rfl
theorem cellsF_pt : Tryz.prog.cellsOf 29 = 3 := by kernel_rfl
def PtS.big (x : PtS) : Prop := x.v.size ≤ 9223372036854775807 ∧ x.f.size ≤ 9223372036854775807
set_option maxRecDepth 100000 in
theorem pts_one {H : Type} {enc : TypeId × Value → H} {w : World} {base n : Nat} {spare : Nat → Bool} {held : Bool} {cs : List Value} {y : DataW H × List MemPlace} (h : DataW.trod enc Tryz.prog w base spare held n 29 cs = some y) : ∃ x : PtS, cs = ptcells x ∧ x.big := by
  obtain ⟨ys, n', _, _, hl, hyl, hf⟩ := DataW.trod_struct Tryz.underlying29 h
  rw [cellsF_pt] at hl
  match cs, hl with
  | [c0, c1, c2], _ =>
    have h0 := hf 0 _ rfl
    change DataW.trod enc Tryz.prog w base spare held n' 26 (List.take (Tryz.prog.cellsOf 26) (List.drop 0 [c0, c1, c2])) = ys[0]? at h0
    rw [cellsF_day] at h0
    rw [List.getElem?_eq_getElem (by rw [hyl]; decide)] at h0
    obtain ⟨s0, e0, _, _⟩ := DataW.trod_int Tryz.underlying26 h0
    simp at e0
    have h1 := hf 1 _ rfl
    change DataW.trod enc Tryz.prog w base spare held n' 27 (List.take (Tryz.prog.cellsOf 27) (List.drop 1 [c0, c1, c2])) = ys[1]? at h1
    rw [cells_intF] at h1
    rw [List.getElem?_eq_getElem (by rw [hyl]; decide)] at h1
    obtain ⟨s1, e1, _, f1⟩ := DataW.trod_string Tryz.underlying27 h1
    simp at e1
    have h2 := hf 2 _ rfl
    change DataW.trod enc Tryz.prog w base spare held n' 27 (List.take (Tryz.prog.cellsOf 27) (List.drop 2 [c0, c1, c2])) = ys[2]? at h2
    rw [cells_intF] at h2
    rw [List.getElem?_eq_getElem (by rw [hyl]; decide)] at h2
    obtain ⟨s2, e2, _, f2⟩ := DataW.trod_string Tryz.underlying27 h2
    simp at e2
    subst e0 e1 e2
    exact ⟨⟨s0, s1, s2⟩, rfl, f1, f2⟩
set_option maxRecDepth 100000 in
/-- an argument of type []api.Point reads as a list -/
theorem open_pts {H : Type} {enc : TypeId × Value → H} {W : World} {base : Nat} {v : Value} {d : DataW H} {p : List MemPlace}
    (hv : Value.okWide Tryz.prog W .any base 22 v) (h : DataW.Trod enc Tryz.prog W 0 (fun _ => true) true 22 v d p) :
    ∃ (A : Option Addr) (c : Nat) (l : List PtS), v = .slice A l.length c ∧ Row W A (flatG ptcells l) ∧ l.length ≤ c ∧ c ≤ 9223372036854775807 ∧ ∀ x ∈ l, x.big := by
  obtain ⟨a0, len, cap, rfl⟩ := okWide_slice Tryz.underlying22 hv
  obtain ⟨fuel, hf⟩ := h
  rcases open_slice Tryz.underlying22 hf with ⟨hcs, hx⟩ | ⟨a, len', cap', m, n, D, Pl, hcs, _, hl, hm, hmm, hx, hi⟩
  · have e : a0 = none ∧ len = 0 ∧ cap = 0 := by simpa [Value.cells] using hcs
    obtain ⟨rfl, rfl, rfl⟩ := e
    exact ⟨none, 0, [], rfl, fun i v hv => by simp [flatG] at hv, by simp, by omega, fun x hx => by cases hx⟩
  · have e : a0 = some a ∧ len = len' ∧ cap = cap' := by simpa [Value.cells] using hcs
    obtain ⟨rfl, rfl, rfl⟩ := e
    have hmc : m = cap := by simpa using hmm
    by_cases h0 : len = 0
    · subst h0
      exact ⟨_, _, [], rfl, fun i v hv => by simp [flatG] at hv, by simp, by unfold maxLen at hm; omega, fun x hx => by cases hx⟩
    · obtain ⟨l, hlen, hq⟩ := list_of (fun i (x : PtS) => (W.cell? (a.add (i * 3 + 0)) = some (.int .i64 x.day) ∧ W.cell? (a.add (i * 3 + 1)) = some (.string x.v) ∧ W.cell? (a.add (i * 3 + 2)) = some (.string x.f)) ∧ x.big) len (fun i hil => by
        obtain ⟨cs', hc, ht'⟩ := hi i (by omega)
        rw [cellsF_pt] at hc
        obtain ⟨x, hx, hb⟩ := pts_one ht'
        obtain ⟨_, hcl, hat⟩ := World.cells?_some hc
        subst hx
        have key : ∀ j, j < 3 → W.cell? (a.add (i * 3 + j)) = (ptcells x)[j]? := fun j hj => by rw [← Go.Deep.add_add]; exact hat j hj
        exact ⟨x, ⟨key 0 (by decide), key 1 (by decide), key 2 (by decide)⟩, hb⟩)
      obtain ⟨b, o, spot⟩ := a
      have hspot : spot = none := by
        obtain ⟨f0, _⟩ := hq 0 (l[0]'(by omega)) (by simp)
        simpa [Addr.add] using World.cell?_spot f0.1
      subst hspot
      refine ⟨some ⟨b, o, none⟩, cap, l, by rw [hlen], ?_, by omega, by unfold maxLen at hm; omega, ?_⟩
      · intro i x hix
        obtain ⟨k, j, d, e1, e2, e3⟩ := flatG_invF ptcells_len hix
        obtain ⟨g, _⟩ := hq k d e2
        simp only [Go.WideShapes.add_plain] at g
        have hlt : b < W.heap.size := block_lt_of_cell g.1
        refine ⟨b, o, rfl, hlt, ?_⟩
        subst e1
        have hj : j < 3 := by
          have := (List.getElem?_eq_some_iff.1 e3).1
          simpa [ptcells] using this
        match j, hj, e3 with
        | 0, _, e3 => simp [ptcells] at e3; subst e3; exact g.1
        | 1, _, e3 => simp [ptcells] at e3; subst e3; exact g.2.1
        | 2, _, e3 => simp [ptcells] at e3; subst e3; exact g.2.2
      · intro x hx
        obtain ⟨i, hi2, rfl⟩ := List.mem_iff_getElem.1 hx
        exact (hq i _ (List.getElem?_eq_getElem hi2)).2
end Go.Proofs.YtahpbnmbphobgaaGreatDoor
