/- Attribution: linked periods: how long their numbers are; the reference's factors; the first error. Conditions: up to three periods of up to five sectors with numbers of up to twelve bytes. -/
import Derived.Test.YticfdeaphiifeaaGreatDoorAl
import Derived.Test.YticfdeaphiifeaaGreatDoorAt7
namespace Go.Proofs.YticfdeaphiifeaaGreatDoor
open Go.RowKit Go.Shelf Dec QQ
def FewN (L : List (List SecS)) : Prop := L.length ≤ 3 ∧ ∀ l ∈ L, FewS 12 l
theorem FewN.at {L : List (List SecS)} (h : FewN L) {t : Nat} (ht : t < L.length) : FewS 12 (L.getD t []) := by
 rw [List.getD_eq_getElem?_getD, List.getElem?_eq_getElem ht]
 exact h.2 _ (List.getElem_mem ht)
theorem one_own {l : List SecS} (h : FewS 12 l) : FitQ 128 (1 + ownQ l) ∧ FitQ 128 (1 + benQ l) :=
 ⟨((FitQ.one (k := 1) (by omega)).add h.q.2.2.1).mono (by omega), ((FitQ.one (k := 1) (by omega)).add h.q.2.2.2).mono (by omega)⟩
theorem grow_fit {L : List (List SecS)} (h : FewN L) : ∀ t, t ≤ L.length → FitQ (128 * t + 1) (growTo L t)
 | 0, _ => FitQ.one (by omega)
 | t + 1, ht => ((grow_fit h t (by omega)).mul (one_own (h.at (t := t) (by omega))).1).mono (by omega)
theorem ben_fit {L : List (List SecS)} (h : FewN L) : ∀ t, t ≤ L.length → FitQ (128 * t + 1) (benTo L t)
 | 0, _ => FitQ.one (by omega)
 | t + 1, ht => ((ben_fit h t (by omega)).mul (one_own (h.at (t := t) (by omega))).2).mono (by omega)
def PrtS.fit (k : Nat) (p : PrtS) : Prop := p.nm.size ≤ 100000 ∧ FitQ k p.a ∧ FitQ k p.s ∧ FitQ k p.j
theorem fit_made {k : Nat} {p : PrtS} (h : p.fit k) (hm : p.made) : p.le (k + 1) := by
 unfold PrtS.made at hm
 rw [hm]
 exact mkP_le h.1 h.2.1 h.2.2.1 h.2.2.2
theorem parts_fit {l : List SecS} (h : FewS 12 l) {p : PrtS} (hp : p ∈ partsL l) : p.fit 166 ∧ p.le 166 := by
 have h1 := partsL_few h (by decide)
 have h2 := h1.2.2.2 p hp
 have h3 := h2.fit h1.2.2.1
 exact ⟨⟨h2.1, h3.1.mono (by omega), h3.2.1.mono (by omega), h3.2.2.mono (by omega)⟩, h2⟩
theorem zero_fit {k : Nat} (h : 1 ≤ k) : zeroP.fit k ∧ zeroP.le 0 := by
 refine ⟨⟨by decide, ?_, ?_, ?_⟩, by decide, by decide, by decide, by decide, by decide, by decide, by decide⟩
 ·rw [zeroP_q.1]; exact FitQ.zero h
 ·rw [zeroP_q.2.1]; exact FitQ.zero h
 ·rw [zeroP_q.2.2]; exact FitQ.zero h
theorem times_fit {k m : Nat} {p : PrtS} {f : Rat} (h : p.fit k) (hf : FitQ m f) : (timesP p f).fit (k + m) := by
 refine ⟨h.1, ?_, ?_, ?_⟩
 ·rw [(timesP_q p f).1]; exact h.2.1.mul hf
 ·rw [(timesP_q p f).2.1]; exact h.2.2.1.mul hf
 ·rw [(timesP_q p f).2.2]; exact h.2.2.2.mul hf
theorem plus_fit {k m : Nat} {p q : PrtS} (h : p.fit k) (h2 : q.fit m) : (plusP p q).fit (k + m + 1) := by
 refine ⟨h2.1, ?_, ?_, ?_⟩
 ·rw [(plusP_q p q).1]; exact h.2.1.add h2.2.1
 ·rw [(plusP_q p q).2.1]; exact h.2.2.1.add h2.2.2.1
 ·rw [(plusP_q p q).2.2]; exact h.2.2.2.add h2.2.2.2
theorem PrtS.fit.mono {k m : Nat} {p : PrtS} (h : p.fit k) (hk : k ≤ m) : p.fit m := ⟨h.1, h.2.1.mono hk, h.2.2.1.mono hk, h.2.2.2.mono hk⟩
theorem link_fit {L : List (List SecS)} {n : Nat} (h : FewN L) : ∀ t, t ≤ L.length → ∀ p ∈ linkTo L n t, p.fit (600 * t + 1) ∧ p.le (600 * t + 2)
 | 0, _, p, hp => by
  have : p = zeroP := List.eq_of_mem_replicate (show p ∈ List.replicate n zeroP from hp)
  subst this
  have h1 := zero_fit (k := 1) (by omega)
  exact ⟨h1.1.mono (by omega), by have := h1.2; unfold PrtS.le at this ⊢; omega⟩
 | t + 1, ht, p, hp => by
  have h3 := h.1
  have hx := h.at (t := t) (by omega)
  obtain ⟨i, hi, rfl⟩ := List.mem_iff_getElem.1 (show p ∈ List.zipWith _ (linkTo L n t) (partsL (L.getD t [])) from hp)
  rw [List.length_zipWith] at hi
  rw [List.getElem_zipWith]
  have h1 := link_fit (n := n) h t (by omega) _ (List.getElem_mem (by omega : i < (linkTo L n t).length))
  have h2 := parts_fit hx (List.getElem_mem (by omega : i < (partsL (L.getD t [])).length))
  have key := (plus_fit (times_fit h1.1 (one_own hx).2) (times_fit h2.1 (grow_fit h t (by omega)))).mono (m := 600 * (t + 1) + 1) (by omega)
  exact ⟨key, fit_made key (mkP_made _ _ _ _)⟩
def facTo (L : List (List SecS)) (t : Nat) : Nat → Rat
 | 0 => 1
 | s + 1 => if s < t then facTo L t s * (1 + ownQ (L.getD s [])) else if t < s then facTo L t s * (1 + benQ (L.getD s [])) else facTo L t s
theorem fac_fit {L : List (List SecS)} (h : FewN L) (t : Nat) : ∀ s, s ≤ L.length → FitQ (128 * s + 1) (facTo L t s)
 | 0, _ => FitQ.one (by omega)
 | s + 1, hs => by
  have h1 := fac_fit h t s (by omega)
  have h2 := one_own (h.at (t := s) (by omega))
  unfold facTo
  split
  ·exact (h1.mul h2.1).mono (by omega)
  ·split
   ·exact (h1.mul h2.2).mono (by omega)
   ·exact h1.mono (by omega)
theorem fac_low {L : List (List SecS)} {t : Nat} : ∀ s, s ≤ t → facTo L t s = growTo L s
 | 0, _ => rfl
 | s + 1, hs => by
  unfold facTo growTo
  rw [if_pos (by omega), fac_low s (by omega)]
theorem fac_high {L : List (List SecS)} {t : Nat} (ht : t < L.length) : ∀ k, t + 1 + k ≤ L.length → facTo L t (t + 1 + k) * restB L (t + 1 + k) = growTo L t * restB L (t + 1)
 | 0, _ => by
  have : facTo L t (t + 1) = growTo L t := by
   unfold facTo
   rw [if_neg (by omega), if_neg (by omega), fac_low t (by omega)]
  rw [Nat.add_zero, this]
 | k + 1, hk => by
  have ih := fac_high ht k (by omega)
  rw [← ih, restB_step (l := L) (t := t + 1 + k) (by omega)]
  show facTo L t (t + 1 + k + 1) * _ = _
  have : facTo L t (t + 1 + k + 1) = facTo L t (t + 1 + k) * (1 + benQ (L.getD (t + 1 + k) [])) := by
   conv => lhs; unfold facTo
   rw [if_neg (by omega), if_pos (by omega)]
  rw [this]
  show facTo L t (t + 1 + k) * (1 + benQ (L.getD (t + 1 + k) [])) * restB L (t + 1 + k + 1) = _
  grind
theorem fac_end {L : List (List SecS)} {t : Nat} (ht : t < L.length) : facTo L t L.length = growTo L t * restB L (t + 1) := by
 have := fac_high ht (L.length - (t + 1)) (by omega)
 rw [show t + 1 + (L.length - (t + 1)) = L.length by omega, restB_end] at this
 grind
theorem fac_out_fit {L : List (List SecS)} (h : FewN L) {t : Nat} (ht : t < L.length) : FitQ 385 (growTo L t * restB L (t + 1)) := by
 rw [← fac_end ht]
 exact (fac_fit h t L.length (Nat.le_refl _)).mono (by have := h.1; omega)
theorem rlink_q (o p : PrtS) (F : Rat) : (rlinkP o p F).a = o.a + F * p.a ∧ (rlinkP o p F).s = o.s + F * p.s ∧ (rlinkP o p F).j = o.j + F * p.j := mkP_a _ _ _ _
theorem ref_fit {L : List (List SecS)} {n : Nat} (h : FewN L) : ∀ t, t ≤ L.length → ∀ p ∈ refTo L n t, p.fit (600 * t + 1) ∧ p.le (600 * t + 2)
 | 0, _, p, hp => by
  have : p = zeroP := List.eq_of_mem_replicate (show p ∈ List.replicate n zeroP from hp)
  subst this
  have h1 := zero_fit (k := 1) (by omega)
  exact ⟨h1.1.mono (by omega), by have := h1.2; unfold PrtS.le at this ⊢; omega⟩
 | t + 1, ht, p, hp => by
  have h3 := h.1
  have hx := h.at (t := t) (by omega)
  have hF := fac_out_fit h (t := t) (by omega)
  obtain ⟨i, hi, rfl⟩ := List.mem_iff_getElem.1 (show p ∈ List.zipWith _ (refTo L n t) (partsL (L.getD t [])) from hp)
  rw [List.length_zipWith] at hi
  rw [List.getElem_zipWith]
  have h1 := (ref_fit (n := n) h t (by omega) _ (List.getElem_mem (by omega : i < (refTo L n t).length))).1
  have h2 := (parts_fit hx (List.getElem_mem (by omega : i < (partsL (L.getD t [])).length))).1
  generalize (refTo L n t)[i]'(by omega) = o at *
  generalize (partsL (L.getD t []))[i]'(by omega) = q at *
  have e := rlink_q o q (growTo L t * restB L (t + 1))
  have key : (rlinkP o q (growTo L t * restB L (t + 1))).fit (600 * (t + 1) + 1) := by
   refine ⟨h2.1, ?_, ?_, ?_⟩
   ·rw [e.1]; exact (h1.2.1.add (hF.mul h2.2.1)).mono (by omega)
   ·rw [e.2.1]; exact (h1.2.2.1.add (hF.mul h2.2.2.1)).mono (by omega)
   ·rw [e.2.2]; exact (h1.2.2.2.add (hF.mul h2.2.2.2)).mono (by omega)
  exact ⟨key, fit_made key (mkP_made _ _ _ _)⟩
end Go.Proofs.YticfdeaphiifeaaGreatDoor
