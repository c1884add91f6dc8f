/- Attribution: sectors and parts as strings; why sectors are not valid. No condition. -/
import Derived.Lib.ConvBytes
import Derived.Test.YtpjgcdgdgljioaaGreatDoorFc
namespace Go.Proofs.YtpjgcdgdgljioaaGreatDoor
open Go.RowKit Go.Shelf Dec QQ
def canB (n d : ByteArray) : Bool := chkF n d == 0
theorem canB_iff {n d : ByteArray} : canB n d = true ↔ n = frN (ratV n d) ∧ d = frD (ratV n d) := by
 unfold canB chkF
 split
 ·rename_i h; exact ⟨fun _ => h, fun _ => rfl⟩
 ·rename_i h; exact ⟨fun e => absurd e (by decide), fun e => absurd e h⟩
theorem canB_fr (q : Rat) : canB (frN q) (frD q) = true := by rw [canB_iff, ratV_fr]; exact ⟨rfl, rfl⟩
structure SecS where
 nm : ByteArray
 wn : ByteArray
 wd : ByteArray
 rn : ByteArray
 rd : ByteArray
 vn : ByteArray
 vd : ByteArray
 bn : ByteArray
 bd : ByteArray
def SecS.w (s : SecS) : Rat := ratV s.wn s.wd
def SecS.r (s : SecS) : Rat := ratV s.rn s.rd
def SecS.v (s : SecS) : Rat := ratV s.vn s.vd
def SecS.b (s : SecS) : Rat := ratV s.bn s.bd
def SecS.can (s : SecS) : Bool := canB s.wn s.wd && canB s.rn s.rd && canB s.vn s.vd && canB s.bn s.bd
def SecS.le (k : Nat) (s : SecS) : Prop := s.nm.size ≤ 100000 ∧ s.wn.size ≤ k ∧ s.wd.size ≤ k ∧ s.rn.size ≤ k ∧ s.rd.size ≤ k ∧ s.vn.size ≤ k ∧ s.vd.size ≤ k ∧ s.bn.size ≤ k ∧ s.bd.size ≤ k
theorem SecS.le.fit {k : Nat} {s : SecS} (h : s.le k) (hk : 1 ≤ k) : FitQ k s.w ∧ FitQ k s.r ∧ FitQ k s.v ∧ FitQ k s.b :=
 ⟨FitQ.arg h.2.1 h.2.2.1 hk, FitQ.arg h.2.2.2.1 h.2.2.2.2.1 hk, FitQ.arg h.2.2.2.2.2.1 h.2.2.2.2.2.2.1 hk, FitQ.arg h.2.2.2.2.2.2.2.1 h.2.2.2.2.2.2.2.2 hk⟩
structure PrtS where
 nm : ByteArray
 an : ByteArray
 ad : ByteArray
 sn : ByteArray
 sd : ByteArray
 jn : ByteArray
 jd : ByteArray
def PrtS.a (s : PrtS) : Rat := ratV s.an s.ad
def PrtS.s (s : PrtS) : Rat := ratV s.sn s.sd
def PrtS.j (s : PrtS) : Rat := ratV s.jn s.jd
def PrtS.all (s : PrtS) : Rat := s.a + s.s + s.j
def PrtS.can (s : PrtS) : Bool := canB s.an s.ad && canB s.sn s.sd && canB s.jn s.jd
def PrtS.le (k : Nat) (s : PrtS) : Prop := s.nm.size ≤ 100000 ∧ s.an.size ≤ k ∧ s.ad.size ≤ k ∧ s.sn.size ≤ k ∧ s.sd.size ≤ k ∧ s.jn.size ≤ k ∧ s.jd.size ≤ k
theorem PrtS.le.fit {k : Nat} {s : PrtS} (h : s.le k) (hk : 1 ≤ k) : FitQ k s.a ∧ FitQ k s.s ∧ FitQ k s.j :=
 ⟨FitQ.arg h.2.1 h.2.2.1 hk, FitQ.arg h.2.2.2.1 h.2.2.2.2.1 hk, FitQ.arg h.2.2.2.2.2.1 h.2.2.2.2.2.2 hk⟩
def mkP (nm : ByteArray) (a s j : Rat) : PrtS := ⟨nm, frN a, frD a, frN s, frD s, frN j, frD j⟩
def errL (e : Nat → Int) (n : Nat) : Int := match (List.range n).find? (fun i => e i != 0) with | some i => e i | none => 0
theorem errL_at {e : Nat → Int} {n k : Nat} (hk : k < n) (h : e k ≠ 0) (hb : ∀ i, i < k → e i = 0) : errL e n = e k := by
 have : (List.range n).find? (fun i => e i != 0) = some k := by
  rw [List.find?_eq_some_iff_getElem]
  refine ⟨by simpa using h, k, by simpa using hk, by simp, fun j hj => ?_⟩
  simp [hb j hj]
 unfold errL
 rw [this]
theorem errL_none {e : Nat → Int} {n : Nat} (h : ∀ i, i < n → e i = 0) : errL e n = 0 := by
 have : (List.range n).find? (fun i => e i != 0) = none := by
  rw [List.find?_eq_none]
  intro i hi
  simp [h i (by simpa using hi)]
 unfold errL
 rw [this]
theorem errL_zero {e : Nat → Int} {n : Nat} (h : errL e n = 0) : ∀ i, i < n → e i = 0 := by
 intro i
 induction i using Nat.strongRecOn with
 | ind i ih =>
  intro hi
  refine Decidable.byContradiction fun h0 => ?_
  rw [errL_at hi h0 (fun j hj => ih j hj (by omega))] at h
  exact h0 h
end Go.Proofs.YtpjgcdgdgljioaaGreatDoor
