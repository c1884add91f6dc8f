/- Attribution: lists of lists of sectors, as the walks read them; looking through them. Conditions: lengths that a machine has. -/
import Derived.Test.YticfdeaphiifeaaGreatDoorOpS
set_option maxHeartbeats 4000000
set_option maxRecDepth 100000
namespace Go.Proofs.YticfdeaphiifeaaGreatDoor
open Go.RowKit Go.Shelf Go.Deep Go.WideShapes Dec QQ
def NSec (W : World) (v : Value) (l : List SecS) : Prop := ∃ A c, v = .slice A l.length c ∧ Row W A (flatG scells l) ∧ l.length ≤ c ∧ c ≤ 9223372036854775807
theorem NSec.on {w w' : World} {v : Value} {l : List SecS} (h : NSec w v l) (hb : Below w.heap.size w w') : NSec w' v l := by
 obtain ⟨A, c, e, hr, h1, h2⟩ := h
 exact ⟨A, c, e, hr.on hb, h1, h2⟩
def NRow (W : World) (A : Option Addr) (L : List (List SecS)) : Prop := ∀ i l, L[i]? = some l → ∃ b o v, A = some ⟨b, o, none⟩ ∧ b < W.heap.size ∧ W.cell? ⟨b, o + i, none⟩ = some v ∧ NSec W v l
theorem NRow.on {w w' : World} {A : Option Addr} {L : List (List SecS)} (h : NRow w A L) (hb : Below w.heap.size w w') : NRow w' A L := by
 intro i l hl
 obtain ⟨b, o, v, e, h1, h2, h3⟩ := h i l hl
 exact ⟨b, o, v, e, by have := hb.size; omega, (hb.cell (p := ⟨b, o + i, none⟩) h1).trans h2, h3.on hb⟩
theorem cells_nsec : Tryz.prog.cellsOf 24 = 1 := by kernel_rfl
theorem secs_in {H : Type} {enc : TypeId × Value → H} {W : World} {base n : Nat} {spare : Nat → Bool} {held : Bool} {cs : List Value} {y : DataW H × List MemPlace}
  (hf : DataW.trod enc Tryz.prog W base spare held n 24 cs = some y) :
  ∃ (A : Option Addr) (c : Nat) (l : List SecS), cs = [.slice A l.length c] ∧ Row W A (flatG scells l) ∧ l.length ≤ c ∧ c ≤ 9223372036854775807 ∧ ∀ x ∈ l, x.big := by
 rcases open_slice Tryz.underlying24 hf with ⟨hcs, hx⟩ | ⟨a, len, cap, m, n, D, Pl, hcs, _, hl, hm, hmm, hx, hi⟩
 ·exact ⟨none, 0, [], hcs, fun i v hv => by simp [flatG] at hv, by simp, by omega, fun x hx => by cases hx⟩
 ·subst hcs
  have hlm : len ≤ m := by rw [hmm]; split <;> omega
  clear hmm
  by_cases h0 : len = 0
  ·subst h0
   exact ⟨_, _, [], rfl, fun i v hv => by simp [flatG] at hv, by simp, by unfold maxLen at hm; omega, fun x hx => by cases hx⟩
  ·obtain ⟨l, hlen, hq⟩ := list_of (fun i (x : SecS) => (∀ j, j < 9 → W.cell? (a.add (i * 9 + j)) = (scells x)[j]?) ∧ x.big) len (fun i hil => by
    obtain ⟨cs', hc, ht'⟩ := hi i (by omega)
    rw [cells_sec] at hc
    obtain ⟨x, hx, hb⟩ := secs_one ht'
    obtain ⟨_, hcl, hat⟩ := World.cells?_some hc
    subst hx
    exact ⟨x, fun j hj => by rw [← Go.Deep.add_add]; exact hat j hj, hb⟩)
   obtain ⟨b, o, spot⟩ := a
   have hspot : spot = none := by
    obtain ⟨f0, _⟩ := hq 0 (l[0]'(by omega)) (by simp)
    have f1 := f0 0 (by decide)
    simpa [Addr.add] using World.cell?_spot (f1.trans (show (scells l[0])[0]? = some (.string _) from rfl))
   subst hspot
   refine ⟨some ⟨b, o, none⟩, cap, l, by rw [hlen], ?_, by omega, by unfold maxLen at hm; omega, ?_⟩
   ·intro i x hix
    obtain ⟨k, j, d, e1, e2, e3⟩ := flatG_inv scells_len hix
    obtain ⟨g, _⟩ := hq k d e2
    have hj : j < 9 := by
     have := (List.getElem?_eq_some_iff.1 e3).1
     simpa [scells] using this
    have g1 := (g j hj).trans e3
    simp only [Go.WideShapes.add_plain] at g1
    exact ⟨b, o, rfl, block_lt_of_cell g1, by rw [e1]; exact g1⟩
   ·intro x hx
    obtain ⟨i, hi2, rfl⟩ := List.mem_iff_getElem.1 hx
    exact (hq i _ (List.getElem?_eq_getElem hi2)).2
theorem open_nest {H : Type} {enc : TypeId × Value → H} {W : World} {base : Nat} {v : Value} {d : DataW H} {p : List MemPlace}
  (hv : Value.okWide Tryz.prog W .any base 22 v) (h : DataW.Trod enc Tryz.prog W 0 (fun _ => true) true 22 v d p) :
  ∃ (A : Option Addr) (c : Nat) (L : List (List SecS)), v = .slice A L.length c ∧ NRow W A L ∧ L.length ≤ c ∧ c ≤ 9223372036854775807 ∧ ∀ l ∈ L, ∀ x ∈ l, x.big := by
 obtain ⟨a0, len, cap, rfl⟩ := okWide_slice Tryz.underlying22 hv
 obtain ⟨fuel, hf⟩ := h
 rcases open_slice Tryz.underlying22 hf with ⟨hcs, hx⟩ | ⟨a, len', cap', m, n, D, Pl, hcs, _, hl, hm, hmm, hx, hi⟩
 ·have e : a0 = none ∧ len = 0 ∧ cap = 0 := by simpa [Value.cells] using hcs
  obtain ⟨rfl, rfl, rfl⟩ := e
  exact ⟨none, 0, [], rfl, fun i v hv => by simp at hv, by simp, by omega, fun x hx => by cases hx⟩
 ·have e : a0 = some a ∧ len = len' ∧ cap = cap' := by simpa [Value.cells] using hcs
  obtain ⟨rfl, rfl, rfl⟩ := e
  have hmc : m = cap := by simpa using hmm
  by_cases h0 : len = 0
  ·subst h0
   exact ⟨_, _, [], rfl, fun i v hv => by simp at hv, by simp, by unfold maxLen at hm; omega, fun x hx => by cases hx⟩
  ·obtain ⟨l, hlen, hq⟩ := list_of (fun i (x : List SecS) => (∃ v, W.cell? (a.add i) = some v ∧ NSec W v x) ∧ ∀ y ∈ x, y.big) len (fun i hil => by
    obtain ⟨cs', hc, ht'⟩ := hi i (by omega)
    rw [cells_nsec, Nat.mul_one] at hc
    obtain ⟨A, c, x, hx, hr, h1, h2, hb⟩ := secs_in ht'
    obtain ⟨_, hcl, hat⟩ := World.cells?_some hc
    subst hx
    have h3 := hat 0 (by decide)
    rw [Go.Deep.add_add, Nat.add_zero] at h3
    exact ⟨x, ⟨_, h3, A, c, rfl, hr, h1, h2⟩, hb⟩)
   obtain ⟨b, o, spot⟩ := a
   have hspot : spot = none := by
    obtain ⟨⟨v, f0, _⟩, _⟩ := hq 0 (l[0]'(by omega)) (by simp)
    simpa [Addr.add] using World.cell?_spot f0
   subst hspot
   refine ⟨some ⟨b, o, none⟩, cap, l, by rw [hlen], ?_, by omega, by unfold maxLen at hm; omega, ?_⟩
   ·intro i x hix
    obtain ⟨⟨v, f0, f1⟩, _⟩ := hq i x hix
    simp only [Go.WideShapes.add_plain] at f0
    exact ⟨b, o, v, rfl, block_lt_of_cell f0, f0, f1⟩
   ·intro x hx
    obtain ⟨i, hi2, rfl⟩ := List.mem_iff_getElem.1 hx
    exact (hq i _ (List.getElem?_eq_getElem hi2)).2
theorem indexN {A : Option Addr} {n c : Nat} {L : List (List SecS)} {f : FuncId} {p : List SecS → Bool} (hn : L.length = n) (hm : n ≤ 4611686018427387904) (hcf : ∀ (args : Array Value) (u : World), (callFunc f args).run Tryz.prog u = .ok (.enter f args) u)
  (KF : Hid (∀ s ∈ L, ∀ B cc, s.length ≤ cc → cc ≤ 9223372036854775807 → RetI (fun w => Row w B (flatG scells s)) f #[.slice B s.length cc] (.bool (p s)))) :
  RetI (fun w => NRow w A L) 32 #[.slice A n c, .func (.func f) #[] #[]] (.int .i64 (idxG p L)) := by
 intro w hg hi
 have hs := St.refl hg
 have HN := Lib.hid hn
 have Hi := Lib.hid hi
 clear hn hi
 go_enter Tryz.func32, Tryz.ntmps32
 go_wp2_with fail
 go_loopw [8] (fun s wr => ∃ k : Nat, k ≤ n ∧ s = .int .i64 (k : Int) ∧ St w wr ∧ Hid (NRow wr A L) ∧ Hid (∀ i, i < k → ∀ t, L[i]? = some t → p t = false)) (fun s _ => (n - intOf s).toNat)
 case atStart => exact ⟨0, by omega, rfl, hs, Hi, fun i h => by omega⟩
 case round =>
  obtain ⟨k, hk, rfl, hs, H, HP⟩ := hrel
  by_cases hkn : k = n
  ·subst hkn
   have q : decide ((k : Int) < (k : Int)) = false := decide_eq_false (by omega)
   have HE := Lib.hid (idxG_none (p := p) (l := L) (fun i hi t ht => HP.out i (by rw [HN.out] at hi; exact hi) t ht))
   clear HP
   go_wp2_with fail
   go_ret
   exact ⟨by rw [HE.out]; rfl, hs.2⟩
  ·have hkl : k < n := by omega
   have q : decide ((k : Int) < (n : Int)) = true := decide_eq_true (by omega)
   have qn : decide (k < n) = true := decide_eq_true hkl
   obtain ⟨d, hd⟩ : ∃ d, L[k]? = some d := ⟨L[k]'(by rw [HN.out]; exact hkl), by simp⟩
   obtain ⟨b, o, v, hA, hb, hcell, B, cc, hv, hrow, h1, h2⟩ := H.out k d hd
   subst hA hv
   have KK := KF.out d (List.mem_of_getElem? hd) B cc h1 h2
   have HD := Lib.hid hd
   have HR := Lib.hid hrow
   clear hd hkn hrow
   obtain ⟨pv, hpv⟩ : ∃ pv, p d = pv := ⟨_, rfl⟩
   rw [hpv] at KK
   have HPV := Lib.hid hpv
   clear hpv
   cases pv with
   | true =>
    have HE := Lib.hid (idxG_at HD.out HPV.out HP.out)
    go_wp2_with fail
    refine KK.step hs HR.out ?_
    intro w2 hs hb
    go_wp2_with fail
    go_ret
    exact ⟨by rw [HE.out]; rfl, hs.2⟩
   | false =>
    go_wp2_with fail
    refine KK.step hs HR.out ?_
    intro w2 hs hb
    have H2 : Hid (NRow w2 (some ⟨b, o, none⟩) L) := H.out.on hb
    go_wp2_with fail
    go_roundw
    case rel =>
     refine ⟨k + 1, by omega, by go_num, hs, H2, ?_⟩
     intro i hi t ht
     by_cases e : i = k
     ·subst e
      rw [HD.out] at ht
      cases ht
      exact HPV.out
     ·exact HP.out i (by omega) t ht
    case measure => simp [intOf]; omega
theorem containsN {A : Option Addr} {n c : Nat} {L : List (List SecS)} {f : FuncId} {p : List SecS → Bool} (hn : L.length = n) (hm : n ≤ 4611686018427387904) (hcf : ∀ (args : Array Value) (u : World), (callFunc f args).run Tryz.prog u = .ok (.enter f args) u)
  (KF : Hid (∀ s ∈ L, ∀ B cc, s.length ≤ cc → cc ≤ 9223372036854775807 → RetI (fun w => Row w B (flatG scells s)) f #[.slice B s.length cc] (.bool (p s)))) :
  RetI (fun w => NRow w A L) 7 #[.slice A n c, .func (.func f) #[] #[]] (.bool (L.any p)) := by
 intro w hg hi
 have hs := St.refl hg
 have K := indexN (A := A) (c := c) hn hm hcf KF
 have e := idxG_any p L
 generalize idxG p L = r at *
 generalize L.any p = v at *
 have Hi := Lib.hid hi
 clear hn hi
 go_enter Tryz.func7, Tryz.ntmps7
 go_wp2_with fail
 refine K.step hs Hi.out ?_
 intro w1 hs _
 go_wp2_with fail
 go_ret
 exact ⟨rfl, hs.2⟩
end Go.Proofs.YticfdeaphiifeaaGreatDoor
