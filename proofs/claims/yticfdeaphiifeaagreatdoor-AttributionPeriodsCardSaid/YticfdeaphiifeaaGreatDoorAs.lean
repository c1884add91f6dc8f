/- Attribution: sectors and parts as strings; why sectors are not valid. No condition. -/
import Derived.Test.YticfdeaphiifeaaGreatDoorFc
import Derived.Test.YticfdeaphiifeaaGreatDoorAq
import Derived.Test.YticfdeaphiifeaaGreatDoorNm
namespace Go.Proofs.YticfdeaphiifeaaGreatDoor
open Go.RowKit Go.Shelf Dec QQ
def eqB (a b : ByteArray) : Bool := a.toList == b.toList
theorem eqB_iff {a b : ByteArray} : eqB a b = true ↔ a = b := by
 unfold eqB
 exact ⟨fun h => toList_inj (eq_of_beq h), fun h => by rw [h]; exact beq_self_eq_true _⟩
theorem eqB_false {a b : ByteArray} : eqB a b = false ↔ a ≠ b := by
 rw [← Bool.not_eq_true, eqB_iff]
def canB (n d : ByteArray) : Bool := chkF n d == 0
theorem canB_iff {n d : ByteArray} : canB n d = true ↔ n = frN (ratV n d) ∧ d = frD (ratV n d) := by
 unfold canB chkF
 split
 ·rename_i h; exact ⟨fun _ => h, fun _ => rfl⟩
 ·rename_i h; exact ⟨fun e => absurd e (by decide), fun e => absurd e h⟩
theorem canB_fr (q : Rat) : canB (frN q) (frD q) = true := by rw [canB_iff, ratV_fr]; exact ⟨rfl, rfl⟩
theorem can_eqB {a b c d : ByteArray} (h : canB a b = true) (h2 : canB c d = true) : (ratV a b = ratV c d) ↔ (a = c ∧ b = d) := by
 obtain ⟨h1, h3⟩ := canB_iff.1 h
 obtain ⟨h4, h5⟩ := canB_iff.1 h2
 constructor
 ·intro e
  rw [e] at h1 h3
  exact ⟨by rw [h1, ← h4], by rw [h3, ← h5]⟩
 ·rintro ⟨rfl, rfl⟩; rfl
structure SecS where
 nm : ByteArray
 wn : ByteArray
 wd : ByteArray
 rn : ByteArray
 rd : ByteArray
 vn : ByteArray
 vd : ByteArray
 bn : ByteArray
 bd : ByteArray
def SecS.w (s : SecS) : Rat := ratV s.wn s.wd
def SecS.r (s : SecS) : Rat := ratV s.rn s.rd
def SecS.v (s : SecS) : Rat := ratV s.vn s.vd
def SecS.b (s : SecS) : Rat := ratV s.bn s.bd
def scells (s : SecS) : List Value := [.string s.nm, .string s.wn, .string s.wd, .string s.rn, .string s.rd, .string s.vn, .string s.vd, .string s.bn, .string s.bd]
def SecS.can (s : SecS) : Bool := canB s.wn s.wd && canB s.rn s.rd && canB s.vn s.vd && canB s.bn s.bd
def SecS.le (k : Nat) (s : SecS) : Prop := s.nm.size ≤ 100000 ∧ s.wn.size ≤ k ∧ s.wd.size ≤ k ∧ s.rn.size ≤ k ∧ s.rd.size ≤ k ∧ s.vn.size ≤ k ∧ s.vd.size ≤ k ∧ s.bn.size ≤ k ∧ s.bd.size ≤ k
theorem SecS.le.fit {k : Nat} {s : SecS} (h : s.le k) (hk : 1 ≤ k) : FitQ k s.w ∧ FitQ k s.r ∧ FitQ k s.v ∧ FitQ k s.b :=
 ⟨FitQ.arg h.2.1 h.2.2.1 hk, FitQ.arg h.2.2.2.1 h.2.2.2.2.1 hk, FitQ.arg h.2.2.2.2.2.1 h.2.2.2.2.2.2.1 hk, FitQ.arg h.2.2.2.2.2.2.2.1 h.2.2.2.2.2.2.2.2 hk⟩
structure PrtS where
 nm : ByteArray
 an : ByteArray
 ad : ByteArray
 sn : ByteArray
 sd : ByteArray
 jn : ByteArray
 jd : ByteArray
def PrtS.a (s : PrtS) : Rat := ratV s.an s.ad
def PrtS.s (s : PrtS) : Rat := ratV s.sn s.sd
def PrtS.j (s : PrtS) : Rat := ratV s.jn s.jd
def PrtS.all (s : PrtS) : Rat := s.a + s.s + s.j
def pcells (s : PrtS) : List Value := [.string s.nm, .string s.an, .string s.ad, .string s.sn, .string s.sd, .string s.jn, .string s.jd]
def PrtS.can (s : PrtS) : Bool := canB s.an s.ad && canB s.sn s.sd && canB s.jn s.jd
def PrtS.le (k : Nat) (s : PrtS) : Prop := s.nm.size ≤ 100000 ∧ s.an.size ≤ k ∧ s.ad.size ≤ k ∧ s.sn.size ≤ k ∧ s.sd.size ≤ k ∧ s.jn.size ≤ k ∧ s.jd.size ≤ k
theorem PrtS.le.fit {k : Nat} {s : PrtS} (h : s.le k) (hk : 1 ≤ k) : FitQ k s.a ∧ FitQ k s.s ∧ FitQ k s.j :=
 ⟨FitQ.arg h.2.1 h.2.2.1 hk, FitQ.arg h.2.2.2.1 h.2.2.2.2.1 hk, FitQ.arg h.2.2.2.2.2.1 h.2.2.2.2.2.2 hk⟩
def mkP (nm : ByteArray) (a s j : Rat) : PrtS := ⟨nm, frN a, frD a, frN s, frD s, frN j, frD j⟩
theorem mkP_a (nm : ByteArray) (a s j : Rat) : (mkP nm a s j).a = a ∧ (mkP nm a s j).s = s ∧ (mkP nm a s j).j = j := ⟨ratV_fr a, ratV_fr s, ratV_fr j⟩
theorem mkP_can (nm : ByteArray) (a s j : Rat) : (mkP nm a s j).can = true := by simp [PrtS.can, mkP, canB_fr]
theorem mkP_le {nm : ByteArray} {a s j : Rat} {k : Nat} (h0 : nm.size ≤ 100000) (h1 : FitQ k a) (h2 : FitQ k s) (h3 : FitQ k j) : (mkP nm a s j).le (k + 1) :=
 ⟨h0, (FitQ.sizes h1).1, (FitQ.sizes h1).2, (FitQ.sizes h2).1, (FitQ.sizes h2).2, (FitQ.sizes h3).1, (FitQ.sizes h3).2⟩
theorem mkP_inj {nm nm' : ByteArray} {a s j a' s' j' : Rat} (h0 : nm = nm') (h1 : a = a') (h2 : s = s') (h3 : j = j') : mkP nm a s j = mkP nm' a' s' j' := by rw [h0, h1, h2, h3]
def secErr (l : List SecS) (i : Nat) : Int :=
 match l[i]? with
 | none => 0
 | some s => if nameOk s.nm = false then 23 else if (l.take i).any (fun t => eqB t.nm s.nm) = true then 5 else if s.can = false then 1 else 0
def errL (e : Nat → Int) (n : Nat) : Int := match (List.range n).find? (fun i => e i != 0) with | some i => e i | none => 0
theorem errL_at {e : Nat → Int} {n k : Nat} (hk : k < n) (h : e k ≠ 0) (hb : ∀ i, i < k → e i = 0) : errL e n = e k := by
 have : (List.range n).find? (fun i => e i != 0) = some k := by
  rw [List.find?_eq_some_iff_getElem]
  refine ⟨by simpa using h, k, by simpa using hk, by simp, fun j hj => ?_⟩
  simp [hb j hj]
 unfold errL
 rw [this]
theorem errL_none {e : Nat → Int} {n : Nat} (h : ∀ i, i < n → e i = 0) : errL e n = 0 := by
 have : (List.range n).find? (fun i => e i != 0) = none := by
  rw [List.find?_eq_none]
  intro i hi
  simp [h i (by simpa using hi)]
 unfold errL
 rw [this]
theorem errL_zero {e : Nat → Int} {n : Nat} (h : errL e n = 0) : ∀ i, i < n → e i = 0 := by
 intro i
 induction i using Nat.strongRecOn with
 | ind i ih =>
  intro hi
  refine Decidable.byContradiction fun h0 => ?_
  rw [errL_at hi h0 (fun j hj => ih j hj (by omega))] at h
  exact h0 h
theorem errL_ne {e : Nat → Int} {n : Nat} (h : errL e n ≠ 0) : ∃ k, k < n ∧ e k ≠ 0 ∧ (∀ i, i < k → e i = 0) ∧ errL e n = e k := by
 refine Decidable.byContradiction fun hn => ?_
 have key : ∀ i, i < n → e i = 0 := by
  intro i
  induction i using Nat.strongRecOn with
  | ind i ih =>
   intro hi
   refine Decidable.byContradiction fun h0 => ?_
   exact hn ⟨i, hi, h0, fun j hj => ih j hj (by omega), errL_at hi h0 (fun j hj => ih j hj (by omega))⟩
 exact h (errL_none key)
def chkS (l : List SecS) : Int :=
 if l.length = 0 then 11 else if 32 < l.length then 4 else if errL (secErr l) l.length ≠ 0 then errL (secErr l) l.length else if sumQ SecS.w l = 1 ∧ sumQ SecS.v l = 1 then 0 else 14
structure OkS (l : List SecS) : Prop where
 pos : 0 < l.length
 few : l.length ≤ 32
 names : ∀ s ∈ l, nameOk s.nm = true
 apart : ∀ (i j : Nat) (s t : SecS), i < j → l[i]? = some s → l[j]? = some t → s.nm ≠ t.nm
 can : ∀ s ∈ l, s.can = true
 w1 : sumQ SecS.w l = 1
 v1 : sumQ SecS.v l = 1
theorem secErr_zero {l : List SecS} {i : Nat} {s : SecS} (h : l[i]? = some s) : secErr l i = 0 ↔ (nameOk s.nm = true ∧ (l.take i).any (fun t => eqB t.nm s.nm) = false ∧ s.can = true) := by
 unfold secErr
 rw [h]
 simp only
 by_cases h1 : nameOk s.nm = false
 ·rw [if_pos h1]; simp [h1]
 ·rw [if_neg h1]
  by_cases h2 : (l.take i).any (fun t => eqB t.nm s.nm) = true
  ·rw [if_pos h2]; simp [h2]
  ·rw [if_neg h2]
   by_cases h3 : s.can = false
   ·rw [if_pos h3]; simp [h3]
   ·rw [if_neg h3]
    simp only [Bool.not_eq_false] at h1 h3
    simp only [Bool.not_eq_true] at h2
    simp [h1, h2, h3]
theorem any_take {l : List SecS} {i : Nat} {a : ByteArray} : (l.take i).any (fun t => eqB t.nm a) = false ↔ ∀ j t, j < i → l[j]? = some t → t.nm ≠ a := by
 rw [List.any_eq_false]
 constructor
 ·intro h j t hj ht
  have hm : t ∈ l.take i := List.mem_of_getElem? (i := j) (by rw [List.getElem?_take, if_pos hj]; exact ht)
  have := h t hm
  rw [Bool.not_eq_true, eqB_false] at this
  exact this
 ·intro h t ht
  obtain ⟨j, hj, rfl⟩ := List.mem_iff_getElem.1 ht
  rw [Bool.not_eq_true, eqB_false]
  have hj2 : j < i := by simp at hj; omega
  refine h j _ hj2 ?_
  rw [List.getElem_take]
  exact List.getElem?_eq_getElem _
theorem chkS_iff {l : List SecS} : chkS l = 0 ↔ OkS l := by
 unfold chkS
 constructor
 ·intro h
  split at h
  ·cases h
  ·split at h
   ·cases h
   ·split at h
    ·exact absurd h (by assumption)
    ·rename_i h0 h32 he
     split at h
     ·rename_i hs
      have hz := errL_zero (e := secErr l) (n := l.length) (by simpa using he)
      have key : ∀ i s, l[i]? = some s → nameOk s.nm = true ∧ (l.take i).any (fun t => eqB t.nm s.nm) = false ∧ s.can = true := fun i s hi => (secErr_zero hi).1 (hz i (List.getElem?_eq_some_iff.1 hi).1)
      refine ⟨by omega, by omega, ?_, ?_, ?_, hs.1, hs.2⟩
      ·intro s hs
       obtain ⟨i, hi, rfl⟩ := List.mem_iff_getElem.1 hs
       exact (key i _ (List.getElem?_eq_getElem hi)).1
      ·intro i j s t hij hi hj
       exact any_take.1 (key j t hj).2.1 i s hij hi
      ·intro s hs
       obtain ⟨i, hi, rfl⟩ := List.mem_iff_getElem.1 hs
       exact (key i _ (List.getElem?_eq_getElem hi)).2.2
     ·cases h
 ·intro h
  have h1 := h.pos
  have h2 := h.few
  have he : errL (secErr l) l.length = 0 := errL_none fun i hi => by
   have hs : l[i]? = some l[i] := List.getElem?_eq_getElem hi
   refine (secErr_zero hs).2 ⟨h.names _ (List.getElem_mem hi), any_take.2 fun j t hj ht => h.apart j i t _ hj ht hs, h.can _ (List.getElem_mem hi)⟩
  rw [if_neg (by omega), if_neg (by omega), he, if_neg (by simp), if_pos ⟨h.w1, h.v1⟩]
def ownQ (l : List SecS) : Rat := sumQ (fun s => s.w * s.r) l
def benQ (l : List SecS) : Rat := sumQ (fun s => s.v * s.b) l
def partS (B : Rat) (s : SecS) : PrtS := mkP s.nm ((s.w - s.v) * (s.b - B)) (s.v * (s.r - s.b)) ((s.w - s.v) * (s.r - s.b))
theorem partS_all (B : Rat) (s : SecS) : (partS B s).all = ((s.w - s.v) * (s.b - B) + s.v * (s.r - s.b)) + (s.w - s.v) * (s.r - s.b) := by
 unfold PrtS.all partS
 rw [(mkP_a _ _ _ _).1, (mkP_a _ _ _ _).2.1, (mkP_a _ _ _ _).2.2]
def partsL (l : List SecS) : List PrtS := l.map (partS (benQ l))
theorem parts_total {l : List SecS} (h : OkS l) : sumQ PrtS.all (partsL l) = ownQ l - benQ l := by
 unfold partsL
 rw [sumQ_map]
 have := parts_sum (w := SecS.w) (r := SecS.r) (v := SecS.v) (b := SecS.b) h.w1 h.v1 (benQ l) rfl
 rw [← show ownQ l = sumQ (fun x => x.w * x.r) l from rfl] at this
 rw [← this]
 exact sumQ_congr (fun a _ => partS_all _ a)
end Go.Proofs.YticfdeaphiifeaaGreatDoor
