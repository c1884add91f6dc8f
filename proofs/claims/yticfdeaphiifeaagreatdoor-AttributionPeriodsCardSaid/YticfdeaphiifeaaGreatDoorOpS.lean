/- A law's arguments of sectors and of parts, as the walks read them. No condition. -/
import Derived.Test.YticfdeaphiifeaaGreatDoorCards
import Derived.Test.YticfdeaphiifeaaGreatDoorTie
import Derived.ProofKit
import Derived.OpenShut
import Derived.Deep.DeepHandedRow
import Derived.Lib.LaidTab
import Derived.Lib.LaidU8
import Derived.LaidLaws
import Derived.Lay
import Derived.ChangeMaps5
import Derived.Deep.Slices
import Derived.Deep.Fields
import Derived.Test.YticfdeaphiifeaaGreatDoorAw
import Derived.Test.YticfdeaphiifeaaGreatDoorAt1
set_option maxRecDepth 100000
namespace Go.Proofs.YticfdeaphiifeaaGreatDoor
open Go.ChangeShapes Go.WideShapes Go.ChangeAt Go.RowKit Go.Deep
theorem flatG_inv {α : Type} {cs : α → List Value} {m : Nat} (hm : ∀ a, (cs a).length = m) {l : List α} {i : Nat} {x : Value} (h : (flatG cs l)[i]? = some x) : ∃ k j d, i = k * m + j ∧ l[k]? = some d ∧ (cs d)[j]? = some x := by
 induction l generalizing i with
 | nil => simp [flatG] at h
 | cons e l ih =>
  change (cs e ++ flatG cs l)[i]? = some x at h
  by_cases hi : i < m
  ·rw [List.getElem?_append_left (by rw [hm]; omega)] at h
   exact ⟨0, i, e, by omega, rfl, h⟩
  ·rw [List.getElem?_append_right (by rw [hm]; omega), hm] at h
   obtain ⟨k, j, d, e1, e2, e3⟩ := ih h
   refine ⟨k + 1, j, d, ?_, by simpa using e2, e3⟩
   rw [Nat.succ_mul]
   omega
theorem cells_frac : Tryz.prog.cellsOf 34 = 2 := by kernel_rfl
theorem cells_int : Tryz.prog.cellsOf 32 = 1 := by kernel_rfl
theorem cells_string : Tryz.prog.cellsOf 9 = 1 := by kernel_rfl
theorem cells_sec : Tryz.prog.cellsOf 73 = 9 := by kernel_rfl
theorem cells_prt : Tryz.prog.cellsOf 36 = 7 := by kernel_rfl
theorem frac_open {H : Type} {enc : TypeId × Value → H} {w : World} {base n : Nat} {spare : Nat → Bool} {held : Bool} {c0 c1 : Value} {x : Option (DataW H × List MemPlace)} (hx : x.isSome = true)
  (h : DataW.trod enc Tryz.prog w base spare held n 34 [c0, c1] = x) : ∃ s t, c0 = .string s ∧ c1 = .string t ∧ s.size ≤ 9223372036854775807 ∧ t.size ≤ 9223372036854775807 := by
 obtain ⟨x, rfl⟩ := Option.isSome_iff_exists.1 hx
 obtain ⟨ys, n', _, _, _, hyl, hf⟩ := DataW.trod_struct Tryz.underlying34 h
 have h0 := hf 0 _ rfl
 have h1 := hf 1 _ rfl
 change DataW.trod enc Tryz.prog w base spare held n' 32 (List.take (Tryz.prog.cellsOf 32) (List.drop 0 [c0, c1])) = ys[0]? at h0
 change DataW.trod enc Tryz.prog w base spare held n' 32 (List.take (Tryz.prog.cellsOf 32) (List.drop 1 [c0, c1])) = ys[1]? at h1
 rw [cells_int] at h0 h1
 rw [List.getElem?_eq_getElem (by rw [hyl]; decide)] at h0 h1
 obtain ⟨s, e0, _, f0⟩ := DataW.trod_string Tryz.underlying32 h0
 obtain ⟨t, e1, _, f1⟩ := DataW.trod_string Tryz.underlying32 h1
 simp at e0 e1
 exact ⟨s, t, e0, e1, f0, f1⟩
def SecS.big (x : SecS) : Prop := x.nm.size ≤ 9223372036854775807 ∧ x.wn.size ≤ 9223372036854775807 ∧ x.wd.size ≤ 9223372036854775807 ∧ x.rn.size ≤ 9223372036854775807 ∧ x.rd.size ≤ 9223372036854775807 ∧ x.vn.size ≤ 9223372036854775807 ∧ x.vd.size ≤ 9223372036854775807 ∧ x.bn.size ≤ 9223372036854775807 ∧ x.bd.size ≤ 9223372036854775807
theorem secs_one {H : Type} {enc : TypeId × Value → H} {w : World} {base n : Nat} {spare : Nat → Bool} {held : Bool} {cs : List Value} {y : DataW H × List MemPlace} (h : DataW.trod enc Tryz.prog w base spare held n 73 cs = some y) : ∃ x : SecS, cs = scells x ∧ x.big := by
 obtain ⟨ys, n', _, _, hl, hyl, hf⟩ := DataW.trod_struct Tryz.underlying73 h
 rw [cells_sec] at hl
 match cs, hl with
 | [c0, c1, c2, c3, c4, c5, c6, c7, c8], _ =>
  have h0 := hf 0 _ rfl
  change DataW.trod enc Tryz.prog w base spare held n' 9 (List.take (Tryz.prog.cellsOf 9) (List.drop 0 [c0, c1, c2, c3, c4, c5, c6, c7, c8])) = ys[0]? at h0
  rw [cells_string, List.getElem?_eq_getElem (by rw [hyl]; decide)] at h0
  obtain ⟨s0, e0, _, f0⟩ := DataW.trod_string Tryz.underlying9 h0
  simp at e0
  have h1 := hf 1 _ rfl
  change DataW.trod enc Tryz.prog w base spare held n' 34 (List.take (Tryz.prog.cellsOf 34) (List.drop 1 [c0, c1, c2, c3, c4, c5, c6, c7, c8])) = ys[1]? at h1
  rw [cells_frac] at h1
  obtain ⟨s1, s2, e1, e2, f1, f2⟩ := frac_open (by rw [List.getElem?_eq_getElem (by rw [hyl]; decide)]; rfl) h1
  have h2 := hf 2 _ rfl
  change DataW.trod enc Tryz.prog w base spare held n' 34 (List.take (Tryz.prog.cellsOf 34) (List.drop 3 [c0, c1, c2, c3, c4, c5, c6, c7, c8])) = ys[2]? at h2
  rw [cells_frac] at h2
  obtain ⟨s3, s4, e3, e4, f3, f4⟩ := frac_open (by rw [List.getElem?_eq_getElem (by rw [hyl]; decide)]; rfl) h2
  have h3 := hf 3 _ rfl
  change DataW.trod enc Tryz.prog w base spare held n' 34 (List.take (Tryz.prog.cellsOf 34) (List.drop 5 [c0, c1, c2, c3, c4, c5, c6, c7, c8])) = ys[3]? at h3
  rw [cells_frac] at h3
  obtain ⟨s5, s6, e5, e6, f5, f6⟩ := frac_open (by rw [List.getElem?_eq_getElem (by rw [hyl]; decide)]; rfl) h3
  have h4 := hf 4 _ rfl
  change DataW.trod enc Tryz.prog w base spare held n' 34 (List.take (Tryz.prog.cellsOf 34) (List.drop 7 [c0, c1, c2, c3, c4, c5, c6, c7, c8])) = ys[4]? at h4
  rw [cells_frac] at h4
  obtain ⟨s7, s8, e7, e8, f7, f8⟩ := frac_open (by rw [List.getElem?_eq_getElem (by rw [hyl]; decide)]; rfl) h4
  subst e0 e1 e2 e3 e4 e5 e6 e7 e8
  exact ⟨⟨s0, s1, s2, s3, s4, s5, s6, s7, s8⟩, rfl, f0, f1, f2, f3, f4, f5, f6, f7, f8⟩
theorem open_secs {H : Type} {enc : TypeId × Value → H} {W : World} {base : Nat} {v : Value} {d : DataW H} {p : List MemPlace}
  (hv : Value.okWide Tryz.prog W .any base 24 v) (h : DataW.Trod enc Tryz.prog W 0 (fun _ => true) true 24 v d p) :
  ∃ (A : Option Addr) (c : Nat) (l : List SecS), v = .slice A l.length c ∧ Row W A (flatG scells l) ∧ l.length ≤ c ∧ c ≤ 9223372036854775807 ∧ ∀ x ∈ l, x.big := by
 obtain ⟨a0, len, cap, rfl⟩ := okWide_slice Tryz.underlying24 hv
 obtain ⟨fuel, hf⟩ := h
 rcases open_slice Tryz.underlying24 hf with ⟨hcs, hx⟩ | ⟨a, len', cap', m, n, D, Pl, hcs, _, hl, hm, hmm, hx, hi⟩
 ·have e : a0 = none ∧ len = 0 ∧ cap = 0 := by simpa [Value.cells] using hcs
  obtain ⟨rfl, rfl, rfl⟩ := e
  exact ⟨none, 0, [], rfl, fun i v hv => by simp [flatG] at hv, by simp, by omega, fun x hx => by cases hx⟩
 ·have e : a0 = some a ∧ len = len' ∧ cap = cap' := by simpa [Value.cells] using hcs
  obtain ⟨rfl, rfl, rfl⟩ := e
  have hmc : m = cap := by simpa using hmm
  by_cases h0 : len = 0
  ·subst h0
   exact ⟨_, _, [], rfl, fun i v hv => by simp [flatG] at hv, by simp, by unfold maxLen at hm; omega, fun x hx => by cases hx⟩
  ·obtain ⟨l, hlen, hq⟩ := list_of (fun i (x : SecS) => (W.cell? (a.add (i * 9 + 0)) = some (.string x.nm) ∧ W.cell? (a.add (i * 9 + 1)) = some (.string x.wn) ∧ W.cell? (a.add (i * 9 + 2)) = some (.string x.wd) ∧ W.cell? (a.add (i * 9 + 3)) = some (.string x.rn) ∧ W.cell? (a.add (i * 9 + 4)) = some (.string x.rd) ∧ W.cell? (a.add (i * 9 + 5)) = some (.string x.vn) ∧ W.cell? (a.add (i * 9 + 6)) = some (.string x.vd) ∧ W.cell? (a.add (i * 9 + 7)) = some (.string x.bn) ∧ W.cell? (a.add (i * 9 + 8)) = some (.string x.bd)) ∧ x.big) len (fun i hil => by
    obtain ⟨cs', hc, ht'⟩ := hi i (by omega)
    rw [cells_sec] at hc
    obtain ⟨x, hx, hb⟩ := secs_one ht'
    obtain ⟨_, hcl, hat⟩ := World.cells?_some hc
    subst hx
    have key : ∀ j, j < 9 → W.cell? (a.add (i * 9 + j)) = (scells x)[j]? := fun j hj => by rw [← Go.Deep.add_add]; exact hat j hj
    exact ⟨x, ⟨key 0 (by decide), key 1 (by decide), key 2 (by decide), key 3 (by decide), key 4 (by decide), key 5 (by decide), key 6 (by decide), key 7 (by decide), key 8 (by decide)⟩, hb⟩)
   obtain ⟨b, o, spot⟩ := a
   have hspot : spot = none := by
    obtain ⟨f0, _⟩ := hq 0 (l[0]'(by omega)) (by simp)
    simpa [Addr.add] using World.cell?_spot f0.1
   subst hspot
   refine ⟨some ⟨b, o, none⟩, cap, l, by rw [hlen], ?_, by omega, by unfold maxLen at hm; omega, ?_⟩
   ·intro i x hix
    obtain ⟨k, j, d, e1, e2, e3⟩ := flatG_inv scells_len hix
    obtain ⟨g, _⟩ := hq k d e2
    simp only [Go.WideShapes.add_plain] at g
    have hlt : b < W.heap.size := block_lt_of_cell g.1
    refine ⟨b, o, rfl, hlt, ?_⟩
    subst e1
    have hj : j < 9 := by
     have := (List.getElem?_eq_some_iff.1 e3).1
     simpa [scells] using this
    match j, hj, e3 with
    | 0, _, e3 => simp [scells] at e3; subst e3; exact g.1
    | 1, _, e3 => simp [scells] at e3; subst e3; exact g.2.1
    | 2, _, e3 => simp [scells] at e3; subst e3; exact g.2.2.1
    | 3, _, e3 => simp [scells] at e3; subst e3; exact g.2.2.2.1
    | 4, _, e3 => simp [scells] at e3; subst e3; exact g.2.2.2.2.1
    | 5, _, e3 => simp [scells] at e3; subst e3; exact g.2.2.2.2.2.1
    | 6, _, e3 => simp [scells] at e3; subst e3; exact g.2.2.2.2.2.2.1
    | 7, _, e3 => simp [scells] at e3; subst e3; exact g.2.2.2.2.2.2.2.1
    | 8, _, e3 => simp [scells] at e3; subst e3; exact g.2.2.2.2.2.2.2.2
   ·intro x hx
    obtain ⟨i, hi2, rfl⟩ := List.mem_iff_getElem.1 hx
    exact (hq i _ (List.getElem?_eq_getElem hi2)).2
def PrtS.big (x : PrtS) : Prop := x.nm.size ≤ 9223372036854775807 ∧ x.an.size ≤ 9223372036854775807 ∧ x.ad.size ≤ 9223372036854775807 ∧ x.sn.size ≤ 9223372036854775807 ∧ x.sd.size ≤ 9223372036854775807 ∧ x.jn.size ≤ 9223372036854775807 ∧ x.jd.size ≤ 9223372036854775807
theorem prts_one {H : Type} {enc : TypeId × Value → H} {w : World} {base n : Nat} {spare : Nat → Bool} {held : Bool} {cs : List Value} {y : DataW H × List MemPlace} (h : DataW.trod enc Tryz.prog w base spare held n 36 cs = some y) : ∃ x : PrtS, cs = pcells x ∧ x.big := by
 obtain ⟨ys, n', _, _, hl, hyl, hf⟩ := DataW.trod_struct Tryz.underlying36 h
 rw [cells_prt] at hl
 match cs, hl with
 | [c0, c1, c2, c3, c4, c5, c6], _ =>
  have h0 := hf 0 _ rfl
  change DataW.trod enc Tryz.prog w base spare held n' 9 (List.take (Tryz.prog.cellsOf 9) (List.drop 0 [c0, c1, c2, c3, c4, c5, c6])) = ys[0]? at h0
  rw [cells_string, List.getElem?_eq_getElem (by rw [hyl]; decide)] at h0
  obtain ⟨s0, e0, _, f0⟩ := DataW.trod_string Tryz.underlying9 h0
  simp at e0
  have h1 := hf 1 _ rfl
  change DataW.trod enc Tryz.prog w base spare held n' 34 (List.take (Tryz.prog.cellsOf 34) (List.drop 1 [c0, c1, c2, c3, c4, c5, c6])) = ys[1]? at h1
  rw [cells_frac] at h1
  obtain ⟨s1, s2, e1, e2, f1, f2⟩ := frac_open (by rw [List.getElem?_eq_getElem (by rw [hyl]; decide)]; rfl) h1
  have h2 := hf 2 _ rfl
  change DataW.trod enc Tryz.prog w base spare held n' 34 (List.take (Tryz.prog.cellsOf 34) (List.drop 3 [c0, c1, c2, c3, c4, c5, c6])) = ys[2]? at h2
  rw [cells_frac] at h2
  obtain ⟨s3, s4, e3, e4, f3, f4⟩ := frac_open (by rw [List.getElem?_eq_getElem (by rw [hyl]; decide)]; rfl) h2
  have h3 := hf 3 _ rfl
  change DataW.trod enc Tryz.prog w base spare held n' 34 (List.take (Tryz.prog.cellsOf 34) (List.drop 5 [c0, c1, c2, c3, c4, c5, c6])) = ys[3]? at h3
  rw [cells_frac] at h3
  obtain ⟨s5, s6, e5, e6, f5, f6⟩ := frac_open (by rw [List.getElem?_eq_getElem (by rw [hyl]; decide)]; rfl) h3
  subst e0 e1 e2 e3 e4 e5 e6
  exact ⟨⟨s0, s1, s2, s3, s4, s5, s6⟩, rfl, f0, f1, f2, f3, f4, f5, f6⟩
theorem open_prts {H : Type} {enc : TypeId × Value → H} {W : World} {base : Nat} {v : Value} {d : DataW H} {p : List MemPlace}
  (hv : Value.okWide Tryz.prog W .any base 27 v) (h : DataW.Trod enc Tryz.prog W 0 (fun _ => true) true 27 v d p) :
  ∃ (A : Option Addr) (c : Nat) (l : List PrtS), v = .slice A l.length c ∧ Row W A (flatG pcells l) ∧ l.length ≤ c ∧ c ≤ 9223372036854775807 ∧ ∀ x ∈ l, x.big := by
 obtain ⟨a0, len, cap, rfl⟩ := okWide_slice Tryz.underlying27 hv
 obtain ⟨fuel, hf⟩ := h
 rcases open_slice Tryz.underlying27 hf with ⟨hcs, hx⟩ | ⟨a, len', cap', m, n, D, Pl, hcs, _, hl, hm, hmm, hx, hi⟩
 ·have e : a0 = none ∧ len = 0 ∧ cap = 0 := by simpa [Value.cells] using hcs
  obtain ⟨rfl, rfl, rfl⟩ := e
  exact ⟨none, 0, [], rfl, fun i v hv => by simp [flatG] at hv, by simp, by omega, fun x hx => by cases hx⟩
 ·have e : a0 = some a ∧ len = len' ∧ cap = cap' := by simpa [Value.cells] using hcs
  obtain ⟨rfl, rfl, rfl⟩ := e
  have hmc : m = cap := by simpa using hmm
  by_cases h0 : len = 0
  ·subst h0
   exact ⟨_, _, [], rfl, fun i v hv => by simp [flatG] at hv, by simp, by unfold maxLen at hm; omega, fun x hx => by cases hx⟩
  ·obtain ⟨l, hlen, hq⟩ := list_of (fun i (x : PrtS) => (W.cell? (a.add (i * 7 + 0)) = some (.string x.nm) ∧ W.cell? (a.add (i * 7 + 1)) = some (.string x.an) ∧ W.cell? (a.add (i * 7 + 2)) = some (.string x.ad) ∧ W.cell? (a.add (i * 7 + 3)) = some (.string x.sn) ∧ W.cell? (a.add (i * 7 + 4)) = some (.string x.sd) ∧ W.cell? (a.add (i * 7 + 5)) = some (.string x.jn) ∧ W.cell? (a.add (i * 7 + 6)) = some (.string x.jd)) ∧ x.big) len (fun i hil => by
    obtain ⟨cs', hc, ht'⟩ := hi i (by omega)
    rw [cells_prt] at hc
    obtain ⟨x, hx, hb⟩ := prts_one ht'
    obtain ⟨_, hcl, hat⟩ := World.cells?_some hc
    subst hx
    have key : ∀ j, j < 7 → W.cell? (a.add (i * 7 + j)) = (pcells x)[j]? := fun j hj => by rw [← Go.Deep.add_add]; exact hat j hj
    exact ⟨x, ⟨key 0 (by decide), key 1 (by decide), key 2 (by decide), key 3 (by decide), key 4 (by decide), key 5 (by decide), key 6 (by decide)⟩, hb⟩)
   obtain ⟨b, o, spot⟩ := a
   have hspot : spot = none := by
    obtain ⟨f0, _⟩ := hq 0 (l[0]'(by omega)) (by simp)
    simpa [Addr.add] using World.cell?_spot f0.1
   subst hspot
   refine ⟨some ⟨b, o, none⟩, cap, l, by rw [hlen], ?_, by omega, by unfold maxLen at hm; omega, ?_⟩
   ·intro i x hix
    obtain ⟨k, j, d, e1, e2, e3⟩ := flatG_inv pcells_len hix
    obtain ⟨g, _⟩ := hq k d e2
    simp only [Go.WideShapes.add_plain] at g
    have hlt : b < W.heap.size := block_lt_of_cell g.1
    refine ⟨b, o, rfl, hlt, ?_⟩
    subst e1
    have hj : j < 7 := by
     have := (List.getElem?_eq_some_iff.1 e3).1
     simpa [pcells] using this
    match j, hj, e3 with
    | 0, _, e3 => simp [pcells] at e3; subst e3; exact g.1
    | 1, _, e3 => simp [pcells] at e3; subst e3; exact g.2.1
    | 2, _, e3 => simp [pcells] at e3; subst e3; exact g.2.2.1
    | 3, _, e3 => simp [pcells] at e3; subst e3; exact g.2.2.2.1
    | 4, _, e3 => simp [pcells] at e3; subst e3; exact g.2.2.2.2.1
    | 5, _, e3 => simp [pcells] at e3; subst e3; exact g.2.2.2.2.2.1
    | 6, _, e3 => simp [pcells] at e3; subst e3; exact g.2.2.2.2.2.2
   ·intro x hx
    obtain ⟨i, hi2, rfl⟩ := List.mem_iff_getElem.1 hx
    exact (hq i _ (List.getElem?_eq_getElem hi2)).2
end Go.Proofs.YticfdeaphiifeaaGreatDoor
