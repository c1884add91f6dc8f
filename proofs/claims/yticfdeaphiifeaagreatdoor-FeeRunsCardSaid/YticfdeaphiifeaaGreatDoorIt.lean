/- Interest: the contract of Interest. Conditions: numbers of up to 40 bytes. -/
import Derived.Test.YticfdeaphiifeaaGreatDoorRd3
namespace Go.Proofs.YticfdeaphiifeaaGreatDoor
open Go.RowKit Go.Shelf Dec QQ
def itE (a rn rd : ByteArray) (c A B m : Int) : Int := if chk a ≠ 0 ∨ chkF rn rd ≠ 0 then 1 else if (fracR c A B).2 ≠ 0 then (fracR c A B).2 else rndE m
def itQ (a rn rd : ByteArray) (c A B : Int) : Rat := ratV rn rd * (fracR c A B).1 * (valS a : Rat)
def itS (a rn rd : ByteArray) (c A B m : Int) : ByteArray := if itE a rn rd c A B m = 0 then canS (rndQ m (itQ a rn rd c A B)) else ⟨#[]⟩
theorem it_arg {a rn rd : ByteArray} (c A B m : Int) (h : chk a ≠ 0 ∨ chkF rn rd ≠ 0) : itE a rn rd c A B m = 1 ∧ itS a rn rd c A B m = ⟨#[]⟩ := by
 have e : itE a rn rd c A B m = 1 := if_pos h
 exact ⟨e, if_neg (by rw [e]; decide)⟩
theorem it_day {a rn rd : ByteArray} {c A B : Int} (m : Int) (h1 : chk a = 0) (h2 : chkF rn rd = 0) (h : (fracR c A B).2 ≠ 0) : itE a rn rd c A B m = (fracR c A B).2 ∧ itS a rn rd c A B m = ⟨#[]⟩ := by
 have e : itE a rn rd c A B m = (fracR c A B).2 := by
  unfold itE
  rw [if_neg (by rw [h1, h2]; simp), if_pos h]
 exact ⟨e, if_neg (by rw [e]; exact h)⟩
theorem it_ok {a rn rd : ByteArray} {c A B : Int} (m : Int) (h1 : chk a = 0) (h2 : chkF rn rd = 0) (h : (fracR c A B).2 = 0) : itE a rn rd c A B m = rndE m ∧ itS a rn rd c A B m = rndS m (itQ a rn rd c A B) := by
 have e : itE a rn rd c A B m = rndE m := by
  unfold itE
  rw [if_neg (by rw [h1, h2]; simp), if_neg (by rw [h]; simp)]
 refine ⟨e, ?_⟩
 unfold itS rndS
 rw [e]
end Go.Proofs.YticfdeaphiifeaaGreatDoor
