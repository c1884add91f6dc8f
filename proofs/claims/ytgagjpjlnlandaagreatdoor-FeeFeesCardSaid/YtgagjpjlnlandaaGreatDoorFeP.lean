/- Fees: the plain law: terms, points, charges. No condition. -/
import Derived.Test.YtgagjpjlnlandaaGreatDoorRnd
import Derived.Test.YtgagjpjlnlandaaGreatDoorAs
import Derived.Test.YtgagjpjlnlandaaGreatDoorDd
namespace Go.Proofs.YtgagjpjlnlandaaGreatDoor
open Go.RowKit Go.Shelf Dec QQ

/-- terms -/
structure TermS where
  mn : ByteArray
  md : ByteArray
  pn : ByteArray
  pd : ByteArray
  cnt : Int
def TermS.m (T : TermS) : Rat := ratV T.mn T.md
def TermS.p (T : TermS) : Rat := ratV T.pn T.pd
def tval (T : TermS) : Value := .agg #[.string T.mn, .string T.md, .string T.pn, .string T.pd, .int .i64 T.cnt]
def TermS.le (k : Nat) (T : TermS) : Prop := T.mn.size ≤ k ∧ T.md.size ≤ k ∧ T.pn.size ≤ k ∧ T.pd.size ≤ k
/-- a point -/
structure PtS where
  day : Int
  v : ByteArray
  f : ByteArray
def ptcells (p : PtS) : List Value := [.int .i64 p.day, .string p.v, .string p.f]
/-- a charge -/
structure ChS where
  day : Int
  mg : ByteArray
  pf : ByteArray
  mn : ByteArray
  md : ByteArray
def chcells (c : ChS) : List Value := [.int .i64 c.day, .string c.mg, .string c.pf, .string c.mn, .string c.md]
/-- why a rate is not valid -/
def rateE (n d : ByteArray) : Int := if chkF n d ≠ 0 then 1 else if ratV n d < 0 ∨ 1 < ratV n d then 2 else 0
def termE (T : TermS) : Int := if rateE T.mn T.md ≠ 0 then rateE T.mn T.md else if rateE T.pn T.pd ≠ 0 then rateE T.pn T.pd else if T.cnt < 1 ∨ 5 < T.cnt then 7 else 0
/-- the fee for a period -/
def mgI (v : Int) (m : Rat) (c A B : Int) : Int := if v ≤ 0 then 0 else rndQ 1 ((v : Rat) * (m * (fracR c A B).1))
def manE (T : TermS) (v : ByteArray) (A B : Int) : Int := if termE T ≠ 0 ∨ chk v ≠ 0 then 1 else if (notDay A || notDay B) = true then 13 else if B < A then 8 else 0
def manR (T : TermS) (v : ByteArray) (A B : Int) : ByteArray := if manE T v A B = 0 then canS (mgI (valS v) T.m T.cnt A B) else ⟨#[]⟩
/-- the fee for a gain over a mark -/
def pfI (v : Int) (p : Rat) (u : Int) (mk : Rat) : Int := if 0 < (v : Rat) - mk * (u : Rat) then rndQ 1 (p * ((v : Rat) - mk * (u : Rat))) else 0
def pfM (v : Int) (p : Rat) (u : Int) (mk : Rat) : Rat := if mk < rat (v - pfI v p u mk) u then rat (v - pfI v p u mk) u else mk
def cntE (u kn kd : ByteArray) : Int := if chk u ≠ 0 ∨ chkF kn kd ≠ 0 then 1 else if valS u ≤ 0 ∨ ratV kn kd < 0 then 2 else 0
def pfE (T : TermS) (v u kn kd : ByteArray) : Int := if termE T ≠ 0 ∨ chk v ≠ 0 then 1 else cntE u kn kd
def pfR (T : TermS) (v u kn kd : ByteArray) : ByteArray := if pfE T v u kn kd = 0 then canS (pfI (valS v) T.p (valS u) (ratV kn kd)) else ⟨#[]⟩
def pfQ (T : TermS) (v u kn kd : ByteArray) : Rat := if pfE T v u kn kd = 0 then pfM (valS v) T.p (valS u) (ratV kn kd) else 0
/-- why points are no series -/
def ptErr (l : List PtS) (i : Nat) : Int := match l[i]? with
  | none => 0
  | some p => if notDay p.day = true then 13 else if chk p.v ≠ 0 ∨ chk p.f ≠ 0 then 1 else match i with
    | 0 => 0
    | j + 1 => match l[j]? with
      | none => 0
      | some o => if p.day ≤ o.day then 8 else 0
def serE (l : List PtS) : Int := if l.length = 0 then 11 else if 400 < l.length then 4 else errL (ptErr l) l.length
/-- the mark after k charges -/
def markK (T : TermS) (u : Int) (mk : Rat) (l : List PtS) : Nat → Rat
  | 0 => mk
  | k + 1 => match l[k]?, l[k + 1]? with
    | some o, some p => pfM (valS p.v - mgI (valS o.v) T.m T.cnt o.day p.day) T.p u (markK T u mk l k)
    | _, _ => markK T u mk l k
/-- the charge on a point, from the point before and the mark before -/
def chOf (T : TermS) (u : Int) (o p : PtS) (mk : Rat) : ChS :=
  ⟨p.day, canS (mgI (valS o.v) T.m T.cnt o.day p.day), canS (pfI (valS p.v - mgI (valS o.v) T.m T.cnt o.day p.day) T.p u mk),
    frN (pfM (valS p.v - mgI (valS o.v) T.m T.cnt o.day p.day) T.p u mk), frD (pfM (valS p.v - mgI (valS o.v) T.m T.cnt o.day p.day) T.p u mk)⟩
def pt0 : PtS := ⟨0, ⟨#[]⟩, ⟨#[]⟩⟩
def ptAt (l : List PtS) (k : Nat) : PtS := (l[k]?).getD pt0
def chK (T : TermS) (u : Int) (mk : Rat) (l : List PtS) (k : Nat) : ChS := chOf T u (ptAt l k) (ptAt l (k + 1)) (markK T u mk l k)
def chsL (T : TermS) (u : Int) (mk : Rat) (l : List PtS) (n : Nat) : List ChS := (List.range n).map (chK T u mk l)
theorem chsL_len (T : TermS) (u : Int) (mk : Rat) (l : List PtS) (n : Nat) : (chsL T u mk l n).length = n := by simp [chsL]
theorem chsL_succ (T : TermS) (u : Int) (mk : Rat) (l : List PtS) (n : Nat) : chsL T u mk l (n + 1) = chsL T u mk l n ++ [chK T u mk l n] := by
  unfold chsL
  rw [List.range_succ, List.map_append]
  rfl
def runE (T : TermS) (u kn kd : ByteArray) (l : List PtS) : Int := if termE T ≠ 0 then 1 else if cntE u kn kd ≠ 0 then cntE u kn kd else serE l
def runL (T : TermS) (u kn kd : ByteArray) (l : List PtS) : List ChS := if runE T u kn kd l = 0 then chsL T (valS u) (ratV kn kd) l (l.length - 1) else []
/-- the greatest price -/
def bestK (u : Int) (l : List PtS) : Nat → Rat
  | 0 => rat (valS (ptAt l 0).v) u
  | k + 1 => if bestK u l k < rat (valS (ptAt l (k + 1)).v) u then rat (valS (ptAt l (k + 1)).v) u else bestK u l k
def mrkE (u : ByteArray) (l : List PtS) : Int := if cntE u ⟨#[]⟩ ⟨#[]⟩ ≠ 0 then cntE u ⟨#[]⟩ ⟨#[]⟩ else serE l
def mrkQ (u : ByteArray) (l : List PtS) : Rat := if mrkE u l = 0 then bestK (valS u) l (l.length - 1) else 0
/-- sums -/
def sumI {α : Type} (f : α → Int) (l : List α) : Int := (l.map f).sum
theorem sumI_take {α : Type} {f : α → Int} {l : List α} {k : Nat} {a : α} (h : l[k]? = some a) : sumI f (l.take (k + 1)) = sumI f (l.take k) + f a := by
  unfold sumI
  rw [List.take_add_one, h]
  simp
theorem sumI_split {α : Type} (f : α → Int) (l : List α) (k : Nat) : sumI f l = sumI f (l.take k) + sumI f (l.drop k) := by
  unfold sumI
  conv => lhs; rw [← List.take_append_drop k l]
  rw [List.map_append, List.sum_append]
theorem sumI_fit {α : Type} {f : α → Int} {k : Nat} {l : List α} (h : ∀ a ∈ l, (f a).natAbs < 10 ^ k) : (sumI f l).natAbs ≤ l.length * 10 ^ k := by
  induction l with
  | nil => simp [sumI]
  | cons a l ih =>
    have h1 := h a (by simp)
    have h2 := ih (fun b hb => h b (by simp [hb]))
    have e : sumI f (a :: l) = f a + sumI f l := by simp [sumI]
    rw [e, List.length_cons, Nat.add_mul, Nat.one_mul]
    omega
end Go.Proofs.YtgagjpjlnlandaaGreatDoor
