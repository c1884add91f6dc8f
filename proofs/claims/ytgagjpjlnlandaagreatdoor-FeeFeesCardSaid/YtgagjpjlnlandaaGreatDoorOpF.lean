/- A law's arguments of terms, points and charges, as the walks read them. No condition. -/
import Derived.Test.YtgagjpjlnlandaaGreatDoorLf
import Derived.Deep.Slices
import Derived.Deep.Fields
import Derived.Test.YtgagjpjlnlandaaGreatDoorGr
import Derived.Test.YtgagjpjlnlandaaGreatDoorFe4
namespace Go.Proofs.YtgagjpjlnlandaaGreatDoor
open Go.ChangeShapes Go.WideShapes Go.ChangeAt Go.RowKit Go.Deep

theorem flatG_invF {α : Type} {cs : α → List Value} {m : Nat} (hm : ∀ a, (cs a).length = m) {l : List α} {i : Nat} {x : Value} (h : (flatG cs l)[i]? = some x) : ∃ k j d, i = k * m + j ∧ l[k]? = some d ∧ (cs d)[j]? = some x := by
  induction l generalizing i with
  | nil => simp [flatG] at h
  | cons e l ih =>
    change (cs e ++ flatG cs l)[i]? = some x at h
    by_cases hi : i < m
    · rw [List.getElem?_append_left (by rw [hm]; omega)] at h
      exact ⟨0, i, e, by omega, rfl, h⟩
    · rw [List.getElem?_append_right (by rw [hm]; omega), hm] at h
      obtain ⟨k, j, d, e1, e2, e3⟩ := ih h
      refine ⟨k + 1, j, d, ?_, by simpa using e2, e3⟩
      rw [Nat.succ_mul]
      omega
theorem cells_fracF : Tryz.prog.cellsOf 34 = 2 := by kernel_rfl
theorem cells_intF : Tryz.prog.cellsOf 32 = 1 := by kernel_rfl
theorem frac_openF {H : Type} {enc : TypeId × Value → H} {w : World} {base n : Nat} {spare : Nat → Bool} {held : Bool} {c0 c1 : Value} {x : Option (DataW H × List MemPlace)} (hx : x.isSome = true)
    (h : DataW.trod enc Tryz.prog w base spare held n 34 [c0, c1] = x) : ∃ s t, c0 = .string s ∧ c1 = .string t ∧ s.size ≤ 9223372036854775807 ∧ t.size ≤ 9223372036854775807 := by
  obtain ⟨x, rfl⟩ := Option.isSome_iff_exists.1 hx
  obtain ⟨ys, n', _, _, _, hyl, hf⟩ := DataW.trod_struct Tryz.underlying34 h
  have h0 := hf 0 _ rfl
  have h1 := hf 1 _ rfl
  change DataW.trod enc Tryz.prog w base spare held n' 32 (List.take (Tryz.prog.cellsOf 32) (List.drop 0 [c0, c1])) = ys[0]? at h0
  change DataW.trod enc Tryz.prog w base spare held n' 32 (List.take (Tryz.prog.cellsOf 32) (List.drop 1 [c0, c1])) = ys[1]? at h1
  rw [cells_intF] at h0 h1
  rw [List.getElem?_eq_getElem (by rw [hyl]; decide)] at h0 h1
  obtain ⟨s, e0, _, f0⟩ := DataW.trod_string Tryz.underlying32 h0
  obtain ⟨t, e1, _, f1⟩ := DataW.trod_string Tryz.underlying32 h1
  simp at e0 e1
  exact ⟨s, t, e0, e1, f0, f1⟩
theorem cellsF_day : Tryz.prog.cellsOf 43 = 1 := by kernel_rfl
theorem cellsF_i64 : Tryz.prog.cellsOf 3 = 1 := by kernel_rfl
def tlist (T : TermS) : List Value := [.string T.mn, .string T.md, .string T.pn, .string T.pd, .int .i64 T.cnt]
theorem cellsF_terms : Tryz.prog.cellsOf 54 = 5 := by kernel_rfl
set_option maxRecDepth 100000 in
theorem terms_one {H : Type} {enc : TypeId × Value → H} {w : World} {base n : Nat} {spare : Nat → Bool} {held : Bool} {cs : List Value} {y : DataW H × List MemPlace} (h : DataW.trod enc Tryz.prog w base spare held n 54 cs = some y) : ∃ x : TermS, cs = tlist x ∧ x.big := by
  obtain ⟨ys, n', _, _, hl, hyl, hf⟩ := DataW.trod_struct Tryz.underlying54 h
  rw [cellsF_terms] at hl
  match cs, hl with
  | [c0, c1, c2, c3, c4], _ =>
    have h0 := hf 0 _ rfl
    change DataW.trod enc Tryz.prog w base spare held n' 34 (List.take (Tryz.prog.cellsOf 34) (List.drop 0 [c0, c1, c2, c3, c4])) = ys[0]? at h0
    rw [cells_fracF] at h0
    obtain ⟨s0, s1, e0, e1, f0, f1⟩ := frac_openF (by rw [List.getElem?_eq_getElem (by rw [hyl]; decide)]; rfl) h0
    have h1 := hf 1 _ rfl
    change DataW.trod enc Tryz.prog w base spare held n' 34 (List.take (Tryz.prog.cellsOf 34) (List.drop 2 [c0, c1, c2, c3, c4])) = ys[1]? at h1
    rw [cells_fracF] at h1
    obtain ⟨s2, s3, e2, e3, f2, f3⟩ := frac_openF (by rw [List.getElem?_eq_getElem (by rw [hyl]; decide)]; rfl) h1
    have h2 := hf 2 _ rfl
    change DataW.trod enc Tryz.prog w base spare held n' 3 (List.take (Tryz.prog.cellsOf 3) (List.drop 4 [c0, c1, c2, c3, c4])) = ys[2]? at h2
    rw [cellsF_i64] at h2
    rw [List.getElem?_eq_getElem (by rw [hyl]; decide)] at h2
    obtain ⟨s4, e4, _, _⟩ := DataW.trod_int Tryz.underlying3 h2
    simp at e4
    subst e0 e1 e2 e3 e4
    exact ⟨⟨s0, s1, s2, s3, s4⟩, rfl, f0, f1, f2, f3⟩
set_option maxRecDepth 100000 in
theorem open_terms {H : Type} {enc : TypeId × Value → H} {W : World} {base : Nat} {v : Value} {d : DataW H} {p : List MemPlace} (hv : Value.okWide Tryz.prog W .any base 54 v) (h : DataW.Trod enc Tryz.prog W 0 (fun _ => true) true 54 v d p) :
    ∃ T : TermS, v = tval T ∧ T.big := by
  obtain ⟨cs, rfl, _⟩ := okWide_struct Tryz.underlying54 hv
  obtain ⟨fuel, hf⟩ := h
  obtain ⟨T, e, hb⟩ := terms_one hf
  refine ⟨T, ?_, hb⟩
  have e2 : cs.toList = tlist T := e
  have e3 : cs = (tlist T).toArray := by rw [← e2]
  rw [e3]
  rfl
end Go.Proofs.YtgagjpjlnlandaaGreatDoor
