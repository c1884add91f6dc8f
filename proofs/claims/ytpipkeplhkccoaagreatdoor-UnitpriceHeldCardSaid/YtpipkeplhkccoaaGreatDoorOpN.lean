/- A law's argument of numbers, as the walks read it. No condition. -/
import Derived.Test.YtpipkeplhkccoaaGreatDoorLf
import Derived.Deep.Slices
import Derived.Deep.Fields
import Derived.Test.YtpipkeplhkccoaaGreatDoorOwn
namespace Go.Proofs.YtpipkeplhkccoaaGreatDoor
open Go.ChangeShapes Go.WideShapes Go.ChangeAt Go.RowKit Go.Deep

theorem cells_intN : Tryz.prog.cellsOf 22 = 1 := by kernel_rfl
set_option maxRecDepth 100000 in
/-- an argument of type []api.Int reads as a list -/
theorem open_nums {H : Type} {enc : TypeId × Value → H} {W : World} {base : Nat} {v : Value} {d : DataW H} {p : List MemPlace}
    (hv : Value.okWide Tryz.prog W .any base 25 v) (h : DataW.Trod enc Tryz.prog W 0 (fun _ => true) true 25 v d p) :
    ∃ (A : Option Addr) (c : Nat) (l : List ByteArray), v = .slice A l.length c ∧ Row W A (l.map sv) ∧ l.length ≤ c ∧ c ≤ 9223372036854775807 ∧ ∀ x ∈ l, x.size ≤ 9223372036854775807 := by
  obtain ⟨a0, len, cap, rfl⟩ := okWide_slice Tryz.underlying25 hv
  obtain ⟨fuel, hf⟩ := h
  rcases open_slice Tryz.underlying25 hf with ⟨hcs, hx⟩ | ⟨a, len', cap', m, n, D, Pl, hcs, _, hl, hm, hmm, hx, hi⟩
  · have e : a0 = none ∧ len = 0 ∧ cap = 0 := by simpa [Value.cells] using hcs
    obtain ⟨rfl, rfl, rfl⟩ := e
    exact ⟨none, 0, [], rfl, fun i v hv => by simp at hv, by simp, by omega, fun x hx => by cases hx⟩
  · have e : a0 = some a ∧ len = len' ∧ cap = cap' := by simpa [Value.cells] using hcs
    obtain ⟨rfl, rfl, rfl⟩ := e
    have hmc : m = cap := by simpa using hmm
    by_cases h0 : len = 0
    · subst h0
      exact ⟨_, _, [], rfl, fun i v hv => by simp at hv, by simp, by unfold maxLen at hm; omega, fun x hx => by cases hx⟩
    · obtain ⟨l, hlen, hq⟩ := list_of (fun i (x : ByteArray) => W.cell? (a.add (i * 1 + 0)) = some (.string x) ∧ x.size ≤ 9223372036854775807) len (fun i hil => by
        obtain ⟨cs', hc, ht'⟩ := hi i (by omega)
        rw [cells_intN] at hc
        obtain ⟨s, e, _, f⟩ := DataW.trod_string Tryz.underlying22 ht'
        obtain ⟨_, hcl, hat⟩ := World.cells?_some hc
        subst e
        have h0 := hat 0 (by decide)
        rw [Go.Deep.add_add] at h0
        exact ⟨s, h0, f⟩)
      obtain ⟨b, o, spot⟩ := a
      have hspot : spot = none := by
        obtain ⟨f0, _⟩ := hq 0 (l[0]'(by omega)) (by simp)
        simpa [Addr.add] using World.cell?_spot f0
      subst hspot
      refine ⟨some ⟨b, o, none⟩, cap, l, by rw [hlen], ?_, by omega, by unfold maxLen at hm; omega, ?_⟩
      · intro i x hix
        rw [List.getElem?_map] at hix
        obtain ⟨s, hs, rfl⟩ := Option.map_eq_some_iff.1 hix
        obtain ⟨g, _⟩ := hq i s hs
        simp only [Go.WideShapes.add_plain] at g
        rw [show o + (i * 1 + 0) = o + i by omega] at g
        exact ⟨b, o, rfl, block_lt_of_cell g, g⟩
      · intro x hx
        obtain ⟨i, hi2, rfl⟩ := List.mem_iff_getElem.1 hx
        exact (hq i _ (List.getElem?_eq_getElem hi2)).2
end Go.Proofs.YtpipkeplhkccoaaGreatDoor
