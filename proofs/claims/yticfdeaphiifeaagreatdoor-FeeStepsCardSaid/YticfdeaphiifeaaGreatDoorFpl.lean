/- Fees: the plain law: terms, points, charges. No condition. Fees: the plain laws of the management fee and of the mark. No condition. Fees: the plain laws of runs: beginnings, ends, the greatest price. No condition. -/
import Derived.Test.YticfdeaphiifeaaGreatDoorRnd
import Derived.Test.YticfdeaphiifeaaGreatDoorDd
import Derived.Test.YticfdeaphiifeaaGreatDoorAs
namespace Go.Proofs.YticfdeaphiifeaaGreatDoor
open Go.RowKit Go.Shelf Dec QQ
structure TermS where
 mn : ByteArray
 md : ByteArray
 pn : ByteArray
 pd : ByteArray
 cnt : Int
def TermS.m (T : TermS) : Rat := ratV T.mn T.md
def TermS.p (T : TermS) : Rat := ratV T.pn T.pd
def tval (T : TermS) : Value := .agg #[.string T.mn, .string T.md, .string T.pn, .string T.pd, .int .i64 T.cnt]
def TermS.le (k : Nat) (T : TermS) : Prop := T.mn.size ≤ k ∧ T.md.size ≤ k ∧ T.pn.size ≤ k ∧ T.pd.size ≤ k
structure PtS where
 day : Int
 v : ByteArray
 f : ByteArray
def ptcells (p : PtS) : List Value := [.int .i64 p.day, .string p.v, .string p.f]
structure ChS where
 day : Int
 mg : ByteArray
 pf : ByteArray
 mn : ByteArray
 md : ByteArray
def chcells (c : ChS) : List Value := [.int .i64 c.day, .string c.mg, .string c.pf, .string c.mn, .string c.md]
def rateE (n d : ByteArray) : Int := if chkF n d ≠ 0 then 1 else if ratV n d < 0 ∨ 1 < ratV n d then 2 else 0
def termE (T : TermS) : Int := if rateE T.mn T.md ≠ 0 then rateE T.mn T.md else if rateE T.pn T.pd ≠ 0 then rateE T.pn T.pd else if T.cnt < 1 ∨ 5 < T.cnt then 7 else 0
def mgI (v : Int) (m : Rat) (c A B : Int) : Int := if v ≤ 0 then 0 else rndQ 1 ((v : Rat) * (m * (fracR c A B).1))
def manE (T : TermS) (v : ByteArray) (A B : Int) : Int := if termE T ≠ 0 ∨ chk v ≠ 0 then 1 else if (notDay A || notDay B) = true then 13 else if B < A then 8 else 0
def manR (T : TermS) (v : ByteArray) (A B : Int) : ByteArray := if manE T v A B = 0 then canS (mgI (valS v) T.m T.cnt A B) else ⟨#[]⟩
def pfI (v : Int) (p : Rat) (u : Int) (mk : Rat) : Int := if 0 < (v : Rat) - mk * (u : Rat) then rndQ 1 (p * ((v : Rat) - mk * (u : Rat))) else 0
def pfM (v : Int) (p : Rat) (u : Int) (mk : Rat) : Rat := if mk < rat (v - pfI v p u mk) u then rat (v - pfI v p u mk) u else mk
def cntE (u kn kd : ByteArray) : Int := if chk u ≠ 0 ∨ chkF kn kd ≠ 0 then 1 else if valS u ≤ 0 ∨ ratV kn kd < 0 then 2 else 0
def pfE (T : TermS) (v u kn kd : ByteArray) : Int := if termE T ≠ 0 ∨ chk v ≠ 0 then 1 else cntE u kn kd
def pfR (T : TermS) (v u kn kd : ByteArray) : ByteArray := if pfE T v u kn kd = 0 then canS (pfI (valS v) T.p (valS u) (ratV kn kd)) else ⟨#[]⟩
def pfQ (T : TermS) (v u kn kd : ByteArray) : Rat := if pfE T v u kn kd = 0 then pfM (valS v) T.p (valS u) (ratV kn kd) else 0
def ptErr (l : List PtS) (i : Nat) : Int := match l[i]? with
 | none => 0
 | some p => if notDay p.day = true then 13 else if chk p.v ≠ 0 ∨ chk p.f ≠ 0 then 1 else match i with
  | 0 => 0
  | j + 1 => match l[j]? with
   | none => 0
   | some o => if p.day ≤ o.day then 8 else 0
def serE (l : List PtS) : Int := if l.length = 0 then 11 else if 400 < l.length then 4 else errL (ptErr l) l.length
def markK (T : TermS) (u : Int) (mk : Rat) (l : List PtS) : Nat → Rat
 | 0 => mk
 | k + 1 => match l[k]?, l[k + 1]? with
  | some o, some p => pfM (valS p.v - mgI (valS o.v) T.m T.cnt o.day p.day) T.p u (markK T u mk l k)
  | _, _ => markK T u mk l k
def chOf (T : TermS) (u : Int) (o p : PtS) (mk : Rat) : ChS :=
 ⟨p.day, canS (mgI (valS o.v) T.m T.cnt o.day p.day), canS (pfI (valS p.v - mgI (valS o.v) T.m T.cnt o.day p.day) T.p u mk),
  frN (pfM (valS p.v - mgI (valS o.v) T.m T.cnt o.day p.day) T.p u mk), frD (pfM (valS p.v - mgI (valS o.v) T.m T.cnt o.day p.day) T.p u mk)⟩
def pt0 : PtS := ⟨0, ⟨#[]⟩, ⟨#[]⟩⟩
def ptAt (l : List PtS) (k : Nat) : PtS := (l[k]?).getD pt0
def chK (T : TermS) (u : Int) (mk : Rat) (l : List PtS) (k : Nat) : ChS := chOf T u (ptAt l k) (ptAt l (k + 1)) (markK T u mk l k)
def chsL (T : TermS) (u : Int) (mk : Rat) (l : List PtS) (n : Nat) : List ChS := (List.range n).map (chK T u mk l)
theorem chsL_len (T : TermS) (u : Int) (mk : Rat) (l : List PtS) (n : Nat) : (chsL T u mk l n).length = n := by simp [chsL]
theorem chsL_succ (T : TermS) (u : Int) (mk : Rat) (l : List PtS) (n : Nat) : chsL T u mk l (n + 1) = chsL T u mk l n ++ [chK T u mk l n] := by
 unfold chsL
 rw [List.range_succ, List.map_append]
 rfl
def runE (T : TermS) (u kn kd : ByteArray) (l : List PtS) : Int := if termE T ≠ 0 then 1 else if cntE u kn kd ≠ 0 then cntE u kn kd else serE l
def runL (T : TermS) (u kn kd : ByteArray) (l : List PtS) : List ChS := if runE T u kn kd l = 0 then chsL T (valS u) (ratV kn kd) l (l.length - 1) else []
def bestK (u : Int) (l : List PtS) : Nat → Rat
 | 0 => rat (valS (ptAt l 0).v) u
 | k + 1 => if bestK u l k < rat (valS (ptAt l (k + 1)).v) u then rat (valS (ptAt l (k + 1)).v) u else bestK u l k
def mrkE (u : ByteArray) (l : List PtS) : Int := if cntE u ⟨#[]⟩ ⟨#[]⟩ ≠ 0 then cntE u ⟨#[]⟩ ⟨#[]⟩ else serE l
def mrkQ (u : ByteArray) (l : List PtS) : Rat := if mrkE u l = 0 then bestK (valS u) l (l.length - 1) else 0
end Go.Proofs.YticfdeaphiifeaaGreatDoor
namespace Go.Proofs.YticfdeaphiifeaaGreatDoor
open Go.RowKit Go.Shelf Dec QQ
theorem pf_mark (v : Int) (p : Rat) (u : Int) (mk : Rat) : mk ≤ pfM v p u mk ∧ rat (v - pfI v p u mk) u ≤ pfM v p u mk ∧ (pfM v p u mk = rat (v - pfI v p u mk) u ∨ pfM v p u mk = mk) := by
 unfold pfM
 split
 ·rename_i h; exact ⟨Rat.le_of_lt h, Rat.le_refl, .inl rfl⟩
 ·rename_i h; exact ⟨Rat.le_refl, Rat.not_lt.1 h, .inr rfl⟩
theorem rate_zero {n d : ByteArray} (h : rateE n d = 0) : chkF n d = 0 ∧ 0 ≤ ratV n d ∧ ratV n d ≤ 1 := by
 unfold rateE at h
 split at h
 ·cases h
 ·rename_i h1
  split at h
  ·cases h
  ·rename_i h2
   refine ⟨Decidable.of_not_not h1, ?_, ?_⟩
   ·exact Rat.not_lt.1 fun h => h2 (.inl h)
   ·exact Rat.not_lt.1 fun h => h2 (.inr h)
theorem term_zero {T : TermS} (h : termE T = 0) : rateE T.mn T.md = 0 ∧ rateE T.pn T.pd = 0 ∧ 1 ≤ T.cnt ∧ T.cnt ≤ 5 := by
 unfold termE at h
 by_cases h1 : rateE T.mn T.md = 0
 ·rw [if_neg (by simpa using h1)] at h
  by_cases h2 : rateE T.pn T.pd = 0
  ·rw [if_neg (by simpa using h2)] at h
   split at h
   ·cases h
   ·exact ⟨h1, h2, by omega, by omega⟩
  ·rw [if_pos h2] at h; exact absurd h h2
 ·rw [if_pos h1] at h; exact absurd h h1
theorem cnt_zero {u kn kd : ByteArray} (h : cntE u kn kd = 0) : chk u = 0 ∧ chkF kn kd = 0 ∧ 0 < valS u ∧ 0 ≤ ratV kn kd := by
 unfold cntE at h
 by_cases h1 : chk u ≠ 0 ∨ chkF kn kd ≠ 0
 ·rw [if_pos h1] at h; cases h
 ·rw [if_neg h1] at h
  split at h
  ·cases h
  ·rename_i h2
   refine ⟨Decidable.of_not_not fun h => h1 (.inl h), Decidable.of_not_not fun h => h1 (.inr h), ?_, Rat.not_lt.1 fun h => h2 (.inr h)⟩
   have : ¬ valS u ≤ 0 := fun h => h2 (.inl h)
   omega
theorem man_in {T : TermS} {v : ByteArray} {A B : Int} (h1 : termE T = 0) (h2 : chk v = 0) (hA : ∃ n, IsDay A n) (hB : ∃ n, IsDay B n) (hl : A ≤ B) : manE T v A B = 0 := by
 obtain ⟨n, hn⟩ := hA
 obtain ⟨m, hm⟩ := hB
 unfold manE
 rw [if_neg (by rw [h1, h2]; simp), hn.not, hm.not, if_neg (by decide), if_neg (by omega)]
theorem pf_in {T : TermS} {v u kn kd : ByteArray} (h1 : termE T = 0) (h2 : chk v = 0) (h3 : cntE u kn kd = 0) : pfE T v u kn kd = 0 := by
 unfold pfE
 rw [if_neg (by rw [h1, h2]; simp), h3]
end Go.Proofs.YticfdeaphiifeaaGreatDoor
namespace Go.Proofs.YticfdeaphiifeaaGreatDoor
open Go.RowKit Go.Shelf Dec QQ
theorem markK_take (T : TermS) (u : Int) (mk : Rat) (l : List PtS) {m k : Nat} (h : k < m) : markK T u mk (l.take m) k = markK T u mk l k := by
 induction k with
 | zero => rfl
 | succ k ih =>
  have e1 : (l.take m)[k]? = l[k]? := by rw [List.getElem?_take, if_pos (by omega)]
  have e2 : (l.take m)[k + 1]? = l[k + 1]? := by rw [List.getElem?_take, if_pos h]
  unfold markK
  rw [e1, e2, ih (by omega)]
theorem markK_drop (T : TermS) (u : Int) (mk : Rat) (l : List PtS) (k j : Nat) : markK T u (markK T u mk l k) (l.drop k) j = markK T u mk l (k + j) := by
 induction j with
 | zero => rfl
 | succ j ih =>
  have e1 : (l.drop k)[j]? = l[k + j]? := List.getElem?_drop
  have e2 : (l.drop k)[j + 1]? = l[k + j + 1]? := List.getElem?_drop
  show markK T u _ (l.drop k) (j + 1) = markK T u mk l (k + j + 1)
  unfold markK
  rw [e1, e2, ih]
theorem chK_take (T : TermS) (u : Int) (mk : Rat) (l : List PtS) {m k : Nat} (h : k + 1 < m) : chK T u mk (l.take m) k = chK T u mk l k := by
 unfold chK ptAt
 rw [markK_take T u mk l (by omega), List.getElem?_take, if_pos (by omega), List.getElem?_take, if_pos h]
theorem chK_drop (T : TermS) (u : Int) (mk : Rat) (l : List PtS) (k j : Nat) : chK T u (markK T u mk l k) (l.drop k) j = chK T u mk l (k + j) := by
 unfold chK ptAt
 rw [markK_drop, List.getElem?_drop, List.getElem?_drop]
 rfl
theorem chsL_take (T : TermS) (u : Int) (mk : Rat) (l : List PtS) (k : Nat) : chsL T u mk (l.take (k + 1)) k = chsL T u mk l k := by
 unfold chsL
 apply List.map_congr_left
 intro i hi
 have := List.mem_range.1 hi
 exact chK_take T u mk l (by omega)
theorem chsL_split (T : TermS) (u : Int) (mk : Rat) (l : List PtS) (k n : Nat) : chsL T u mk l k ++ chsL T u (markK T u mk l k) (l.drop k) n = chsL T u mk l (k + n) := by
 induction n with
 | zero => simp [chsL]
 | succ n ih => rw [chsL_succ, ← List.append_assoc, ih, chK_drop, ← chsL_succ]; rfl
theorem chsL_at {T : TermS} {u : Int} {mk : Rat} {l : List PtS} {n k : Nat} (h : k < n) : (chsL T u mk l n)[k]? = some (chK T u mk l k) := by
 unfold chsL
 rw [List.getElem?_map, List.getElem?_range h]
 rfl
theorem ptAt_some {l : List PtS} {k : Nat} {p : PtS} (h : l[k]? = some p) : ptAt l k = p := by unfold ptAt; rw [h]; rfl
theorem markK_step {T : TermS} {u : Int} {mk : Rat} {l : List PtS} {k : Nat} {o p : PtS} (ho : l[k]? = some o) (hp : l[k + 1]? = some p) :
  markK T u mk l (k + 1) = pfM (valS p.v - mgI (valS o.v) T.m T.cnt o.day p.day) T.p u (markK T u mk l k) := by
 conv => lhs; unfold markK
 rw [ho, hp]
theorem chK_at {T : TermS} {u : Int} {mk : Rat} {l : List PtS} {k : Nat} {o p : PtS} (ho : l[k]? = some o) (hp : l[k + 1]? = some p) :
  chK T u mk l k = chOf T u o p (markK T u mk l k) := by
 unfold chK
 rw [ptAt_some ho, ptAt_some hp]
theorem chK_mark {T : TermS} {u : Int} {mk : Rat} {l : List PtS} {k : Nat} (h : k + 1 < l.length) : (chK T u mk l k).mn = frN (markK T u mk l (k + 1)) ∧ (chK T u mk l k).md = frD (markK T u mk l (k + 1)) := by
 have ho : l[k]? = some l[k] := List.getElem?_eq_getElem (by omega)
 have hp : l[k + 1]? = some l[k + 1] := List.getElem?_eq_getElem h
 rw [chK_at ho hp, markK_step ho hp]
 exact ⟨rfl, rfl⟩
theorem ser_zero {l : List PtS} (h : serE l = 0) : 0 < l.length ∧ l.length ≤ 400 ∧ ∀ i, i < l.length → ptErr l i = 0 := by
 unfold serE at h
 split at h
 ·cases h
 ·split at h
  ·cases h
  ·exact ⟨by omega, by omega, errL_zero h⟩
theorem ser_in {l : List PtS} (h0 : 0 < l.length) (h1 : l.length ≤ 400) (h : ∀ i, i < l.length → ptErr l i = 0) : serE l = 0 := by
 unfold serE
 rw [if_neg (by omega), if_neg (by omega)]
 exact errL_none h
theorem ptErr_zero {l : List PtS} {k : Nat} {p : PtS} (hp : l[k]? = some p) (h : ptErr l k = 0) : (∃ n, IsDay p.day n) ∧ chk p.v = 0 ∧ chk p.f = 0 ∧ (∀ j o, k = j + 1 → l[j]? = some o → o.day < p.day) := by
 unfold ptErr at h
 rw [hp] at h
 simp only at h
 rcases day_cases p.day with hA | hA
 ·rw [if_pos hA.1] at h; cases h
 ·rw [hA.1, if_neg (by decide)] at h
  by_cases h1 : chk p.v ≠ 0 ∨ chk p.f ≠ 0
  ·rw [if_pos h1] at h; cases h
  ·rw [if_neg h1] at h
   refine ⟨hA.2, Decidable.of_not_not fun h => h1 (.inl h), Decidable.of_not_not fun h => h1 (.inr h), ?_⟩
   intro j o hj ho
   subst hj
   simp only [ho] at h
   split at h
   ·cases h
   ·omega
theorem ser_pair {l : List PtS} (h : serE l = 0) {k : Nat} {o p : PtS} (ho : l[k]? = some o) (hp : l[k + 1]? = some p) : (∃ n, IsDay o.day n) ∧ (∃ n, IsDay p.day n) ∧ chk o.v = 0 ∧ chk p.v = 0 ∧ o.day < p.day := by
 obtain ⟨h0, h1, h2⟩ := ser_zero h
 have a := ptErr_zero ho (h2 k (List.getElem?_eq_some_iff.1 ho).1)
 have b := ptErr_zero hp (h2 (k + 1) (List.getElem?_eq_some_iff.1 hp).1)
 exact ⟨a.1, b.1, a.2.1, b.2.1, b.2.2.2 k o rfl ho⟩
theorem ptErr_take {l : List PtS} {m i : Nat} (h : i < m) : ptErr (l.take m) i = ptErr l i := by
 unfold ptErr
 rw [List.getElem?_take, if_pos h]
 cases i with
 | zero => rfl
 | succ i =>
  simp only
  rw [List.getElem?_take, if_pos (by omega)]
theorem ser_take {l : List PtS} (h : serE l = 0) (k : Nat) : serE (l.take (k + 1)) = 0 := by
 obtain ⟨h0, h1, h2⟩ := ser_zero h
 refine ser_in (by rw [List.length_take]; omega) (by rw [List.length_take]; omega) fun i hi => ?_
 rw [List.length_take] at hi
 rw [ptErr_take (by omega)]
 exact h2 i (by omega)
theorem ser_drop {l : List PtS} (h : serE l = 0) {k : Nat} (hk : k < l.length) : serE (l.drop k) = 0 := by
 obtain ⟨h0, h1, h2⟩ := ser_zero h
 refine ser_in (by rw [List.length_drop]; omega) (by rw [List.length_drop]; omega) fun i hi => ?_
 rw [List.length_drop] at hi
 have hz := h2 (k + i) (by omega)
 have hp : l[k + i]? = some l[k + i] := List.getElem?_eq_getElem (by omega)
 have z := ptErr_zero hp hz
 obtain ⟨n, hn⟩ := z.1
 unfold ptErr
 rw [List.getElem?_drop, hp]
 simp only
 rw [hn.not, if_neg (by decide), if_neg (by rw [z.2.1, z.2.2.1]; simp)]
 cases i with
 | zero => rfl
 | succ i =>
  simp only
  rw [List.getElem?_drop, List.getElem?_eq_getElem (by omega)]
  simp only
  rw [if_neg (by have := z.2.2.2 (k + i) _ rfl (List.getElem?_eq_getElem (by omega)); omega)]
end Go.Proofs.YticfdeaphiifeaaGreatDoor
