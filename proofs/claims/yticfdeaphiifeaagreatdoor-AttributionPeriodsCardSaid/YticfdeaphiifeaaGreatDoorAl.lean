/- Attribution: linked periods: both ways to link them, and the sum of the linked parts. No condition. -/
import Derived.Test.YticfdeaphiifeaaGreatDoorAs
namespace Go.Proofs.YticfdeaphiifeaaGreatDoor
open Go.RowKit Go.Shelf Dec QQ
def plusP (p q : PrtS) : PrtS := mkP q.nm (p.a + q.a) (p.s + q.s) (p.j + q.j)
def timesP (p : PrtS) (f : Rat) : PrtS := mkP p.nm (p.a * f) (p.s * f) (p.j * f)
def zeroP : PrtS := ⟨⟨#[]⟩, ⟨#[]⟩, ⟨#[]⟩, ⟨#[]⟩, ⟨#[]⟩, ⟨#[]⟩, ⟨#[]⟩⟩
theorem zeroP_q : zeroP.a = 0 ∧ zeroP.s = 0 ∧ zeroP.j = 0 := by
 have : ratV ⟨#[]⟩ ⟨#[]⟩ = 0 := by have := ratV_fr 0; rwa [frN_zero, frD_zero] at this
 exact ⟨this, this, this⟩
theorem plusP_q (p q : PrtS) : (plusP p q).a = p.a + q.a ∧ (plusP p q).s = p.s + q.s ∧ (plusP p q).j = p.j + q.j := mkP_a _ _ _ _
theorem timesP_q (p : PrtS) (f : Rat) : (timesP p f).a = p.a * f ∧ (timesP p f).s = p.s * f ∧ (timesP p f).j = p.j * f := mkP_a _ _ _ _
def linkP (o p : PrtS) (B G : Rat) : PrtS := plusP (timesP o (1 + B)) (timesP p G)
theorem linkP_q (o p : PrtS) (B G : Rat) : (linkP o p B G).a = o.a * (1 + B) + p.a * G ∧ (linkP o p B G).s = o.s * (1 + B) + p.s * G ∧ (linkP o p B G).j = o.j * (1 + B) + p.j * G := by
 unfold linkP
 rw [(plusP_q _ _).1, (plusP_q _ _).2.1, (plusP_q _ _).2.2, (timesP_q _ _).1, (timesP_q _ _).2.1, (timesP_q _ _).2.2, (timesP_q _ _).1, (timesP_q _ _).2.1, (timesP_q _ _).2.2]
 exact ⟨rfl, rfl, rfl⟩
theorem linkP_all (o p : PrtS) (B G : Rat) : (linkP o p B G).all = o.all * (1 + B) + p.all * G := by
 unfold PrtS.all
 rw [(linkP_q _ _ _ _).1, (linkP_q _ _ _ _).2.1, (linkP_q _ _ _ _).2.2]
 grind
def growTo (l : List (List SecS)) : Nat → Rat
 | 0 => 1
 | t + 1 => growTo l t * (1 + ownQ (l.getD t []))
def benTo (l : List (List SecS)) : Nat → Rat
 | 0 => 1
 | t + 1 => benTo l t * (1 + benQ (l.getD t []))
def linkTo (l : List (List SecS)) (n : Nat) : Nat → List PrtS
 | 0 => List.replicate n zeroP
 | t + 1 => List.zipWith (fun o p => linkP o p (benQ (l.getD t [])) (growTo l t)) (linkTo l n t) (partsL (l.getD t []))
theorem linkTo_len {l : List (List SecS)} {n : Nat} (h : ∀ t, t < l.length → (l.getD t []).length = n) : ∀ t, t ≤ l.length → (linkTo l n t).length = n
 | 0, _ => by simp [linkTo]
 | t + 1, ht => by
  have h1 := linkTo_len h t (by omega)
  have h2 := h t (by omega)
  unfold linkTo
  rw [List.length_zipWith, h1, partsL, List.length_map, h2, Nat.min_self]
theorem sum_zipWith {B G : Rat} : ∀ {x y : List PrtS}, x.length = y.length → sumQ PrtS.all (List.zipWith (fun o p => linkP o p B G) x y) = sumQ PrtS.all x * (1 + B) + sumQ PrtS.all y * G
 | [], [], _ => by simp only [List.zipWith_nil_left, sumQ]; grind
 | a :: x, b :: y, h => by
  simp only [List.zipWith_cons_cons, sumQ]
  rw [sum_zipWith (by simpa using h), linkP_all]
  grind
 | [], b :: y, h => by simp at h
 | a :: x, [], h => by simp at h
theorem link_sum {l : List (List SecS)} {n : Nat} (hk : ∀ t, t < l.length → OkS (l.getD t [])) (h : ∀ t, t < l.length → (l.getD t []).length = n) : ∀ t, t ≤ l.length → sumQ PrtS.all (linkTo l n t) = growTo l t - benTo l t
 | 0, _ => by
  have : ∀ n, sumQ PrtS.all (List.replicate n zeroP) = 0 := by
   intro n
   induction n with
   | zero => rfl
   | succ n ih =>
    simp only [List.replicate_succ, sumQ, ih]
    unfold PrtS.all
    rw [zeroP_q.1, zeroP_q.2.1, zeroP_q.2.2]
    grind
  show sumQ PrtS.all (List.replicate n zeroP) = 1 - 1
  rw [this]
  grind
 | t + 1, ht => by
  have ih := link_sum hk h t (by omega)
  show sumQ PrtS.all (List.zipWith _ (linkTo l n t) (partsL (l.getD t []))) = _
  rw [sum_zipWith (by rw [linkTo_len h t (by omega), partsL, List.length_map, h t (by omega)]), parts_total (hk t (by omega))]
  exact link_step ih
theorem partS_link (B : Rat) (s : SecS) (C : Rat) : linkP zeroP (partS B s) C 1 = partS B s := by
 unfold linkP plusP timesP
 rw [(mkP_a _ _ _ _).1, (mkP_a _ _ _ _).2.1, (mkP_a _ _ _ _).2.2, (mkP_a _ _ _ _).1, (mkP_a _ _ _ _).2.1, (mkP_a _ _ _ _).2.2, zeroP_q.1, zeroP_q.2.1, zeroP_q.2.2]
 unfold partS
 rw [(mkP_a _ _ _ _).1, (mkP_a _ _ _ _).2.1, (mkP_a _ _ _ _).2.2]
 exact mkP_inj rfl (by grind) (by grind) (by grind)
theorem link_one {x : List SecS} {n : Nat} (h : x.length = n) : linkTo [x] n 1 = partsL x := by
 show List.zipWith (fun o p => linkP o p (benQ x) 1) (List.replicate n zeroP) (x.map (partS (benQ x))) = x.map (partS (benQ x))
 generalize hb : benQ x = B
 clear hb
 subst h
 induction x with
 | nil => rfl
 | cons a x ih =>
  simp only [List.length_cons, List.replicate_succ, List.map_cons, List.zipWith_cons_cons]
  rw [partS_link, ih]
def restB (l : List (List SecS)) (t : Nat) : Rat := ((l.drop t).map (fun x => 1 + benQ x)).foldr (· * ·) 1
theorem restB_step {l : List (List SecS)} {t : Nat} (h : t < l.length) : restB l t = (1 + benQ (l.getD t [])) * restB l (t + 1) := by
 unfold restB
 rw [List.drop_eq_getElem_cons h, List.getD_eq_getElem?_getD, List.getElem?_eq_getElem h]
 rfl
theorem restB_end (l : List (List SecS)) : restB l l.length = 1 := by simp [restB]
def rlinkP (o p : PrtS) (F : Rat) : PrtS := mkP p.nm (o.a + F * p.a) (o.s + F * p.s) (o.j + F * p.j)
def refTo (l : List (List SecS)) (n : Nat) : Nat → List PrtS
 | 0 => List.replicate n zeroP
 | t + 1 => List.zipWith (fun o p => rlinkP o p (growTo l t * restB l (t + 1))) (refTo l n t) (partsL (l.getD t []))
theorem refTo_len {l : List (List SecS)} {n : Nat} (h : ∀ t, t < l.length → (l.getD t []).length = n) : ∀ t, t ≤ l.length → (refTo l n t).length = n
 | 0, _ => by simp [refTo]
 | t + 1, ht => by
  have h1 := refTo_len h t (by omega)
  have h2 := h t (by omega)
  unfold refTo
  rw [List.length_zipWith, h1, partsL, List.length_map, h2, Nat.min_self]
def Grown (H : Rat) (o p : PrtS) : Prop := o.nm = p.nm ∧ o.a = p.a * H ∧ o.s = p.s * H ∧ o.j = p.j * H
theorem link_ref {l : List (List SecS)} {n : Nat} (h : ∀ t, t < l.length → (l.getD t []).length = n) : ∀ t, t ≤ l.length → ∀ (i : Nat) (o p : PrtS), (refTo l n t)[i]? = some o → (linkTo l n t)[i]? = some p → Grown (restB l t) o p
 | 0, _, i, o, p, ho, hp => by
  simp only [refTo, linkTo, List.getElem?_replicate] at ho hp
  split at ho
  ·rw [if_pos (by assumption)] at hp
   injection ho with ho
   injection hp with hp
   subst ho hp
   refine ⟨rfl, ?_, ?_, ?_⟩
   ·rw [zeroP_q.1]; grind
   ·rw [zeroP_q.2.1]; grind
   ·rw [zeroP_q.2.2]; grind
  ·cases ho
 | t + 1, ht, i, o, p, ho, hp => by
  simp only [refTo, linkTo, List.getElem?_zipWith] at ho hp
  cases h1 : (refTo l n t)[i]? with
  | none => rw [h1] at ho; simp at ho
  | some o1 =>
   cases h2 : (linkTo l n t)[i]? with
   | none => rw [h2] at hp; simp at hp
   | some p1 =>
    cases h3 : (partsL (l.getD t []))[i]? with
    | none => rw [h3, h1] at ho; simp at ho
    | some q =>
     rw [h1, h3] at ho
     rw [h2, h3] at hp
     simp at ho hp
     subst ho hp
     have ih := link_ref h t (by omega) i o1 p1 h1 h2
     obtain ⟨_, ea, es, ej⟩ := ih
     have hs := restB_step (l := l) (t := t) (by omega)
     refine ⟨rfl, ?_, ?_, ?_⟩
     ·show (mkP _ _ _ _).a = _
      rw [(mkP_a _ _ _ _).1, (linkP_q _ _ _ _).1, ea, hs]
      grind
     ·show (mkP _ _ _ _).s = _
      rw [(mkP_a _ _ _ _).2.1, (linkP_q _ _ _ _).2.1, es, hs]
      grind
     ·show (mkP _ _ _ _).j = _
      rw [(mkP_a _ _ _ _).2.2, (linkP_q _ _ _ _).2.2, ej, hs]
      grind
def PrtS.made (p : PrtS) : Prop := p = mkP p.nm p.a p.s p.j
theorem mkP_made (nm : ByteArray) (a s j : Rat) : (mkP nm a s j).made := by
 unfold PrtS.made
 rw [(mkP_a _ _ _ _).1, (mkP_a _ _ _ _).2.1, (mkP_a _ _ _ _).2.2]
 rfl
theorem link_same {l : List (List SecS)} {n : Nat} (h : ∀ t, t < l.length → (l.getD t []).length = n) (h0 : 0 < l.length) : refTo l n l.length = linkTo l n l.length := by
 obtain ⟨t, ht⟩ : ∃ t, l.length = t + 1 := ⟨l.length - 1, by omega⟩
 apply List.ext_getElem?
 intro i
 have e1 := refTo_len h l.length (Nat.le_refl _)
 have e2 := linkTo_len h l.length (Nat.le_refl _)
 by_cases hi : i < n
 ·obtain ⟨o, ho⟩ : ∃ o, (refTo l n l.length)[i]? = some o := ⟨_, List.getElem?_eq_getElem (by omega)⟩
  obtain ⟨p, hp⟩ : ∃ p, (linkTo l n l.length)[i]? = some p := ⟨_, List.getElem?_eq_getElem (by omega)⟩
  have hG := link_ref h l.length (Nat.le_refl _) i o p ho hp
  rw [restB_end] at hG
  have mo : o.made := by
   have ho2 := ho
   rw [ht] at ho2
   simp only [refTo, List.getElem?_zipWith] at ho2
   split at ho2
   ·injection ho2 with ho2
    rw [← ho2]
    exact mkP_made _ _ _ _
   ·cases ho2
  have mp : p.made := by
   have hp2 := hp
   rw [ht] at hp2
   simp only [linkTo, List.getElem?_zipWith] at hp2
   split at hp2
   ·injection hp2 with hp2
    rw [← hp2]
    exact mkP_made _ _ _ _
   ·cases hp2
  rw [ho, hp]
  congr 1
  unfold PrtS.made at mo mp
  rw [mo, mp]
  exact mkP_inj hG.1 (by rw [hG.2.1]; grind) (by rw [hG.2.2.1]; grind) (by rw [hG.2.2.2]; grind)
 ·rw [List.getElem?_eq_none (by omega), List.getElem?_eq_none (by omega)]
def linkErr (l : List (List SecS)) (t : Nat) : Int :=
 if chkS (l.getD t []) ≠ 0 then chkS (l.getD t []) else if ((l.getD t []).map SecS.nm) = ((l.getD 0 []).map SecS.nm) then 0 else 9
def linkE (l : List (List SecS)) : Int := if l.length = 0 then 11 else if 64 < l.length then 4 else errL (linkErr l) l.length
theorem linkE_ok {l : List (List SecS)} (h : linkE l = 0) : 0 < l.length ∧ (∀ t, t < l.length → OkS (l.getD t [])) ∧ (∀ t, t < l.length → (l.getD t []).length = (l.getD 0 []).length) := by
 unfold linkE at h
 split at h
 ·cases h
 ·rename_i h1
  split at h
  ·cases h
  ·have hz := errL_zero h
   have key : ∀ t, t < l.length → chkS (l.getD t []) = 0 ∧ ((l.getD t []).map SecS.nm) = ((l.getD 0 []).map SecS.nm) := by
    intro t ht
    have := hz t ht
    unfold linkErr at this
    split at this
    ·exact absurd this (by assumption)
    ·rename_i h3
     split at this
     ·rename_i h4
      exact ⟨by simpa using h3, h4⟩
     ·cases this
   refine ⟨by omega, fun t ht => chkS_iff.1 (key t ht).1, fun t ht => ?_⟩
   have := congrArg List.length (key t ht).2
   simpa using this
end Go.Proofs.YticfdeaphiifeaaGreatDoor
