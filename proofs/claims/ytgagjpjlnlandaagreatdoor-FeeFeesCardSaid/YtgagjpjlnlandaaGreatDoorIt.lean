/- Interest: the contract of Interest. Conditions: numbers of up to 40 bytes. -/
import Derived.Test.YtgagjpjlnlandaaGreatDoorRd3
import Derived.Test.YtgagjpjlnlandaaGreatDoorDh
namespace Go.Proofs.YtgagjpjlnlandaaGreatDoor
open Go.RowKit Go.Shelf Dec QQ

def itE (a rn rd : ByteArray) (c A B m : Int) : Int := if chk a ≠ 0 ∨ chkF rn rd ≠ 0 then 1 else if (fracR c A B).2 ≠ 0 then (fracR c A B).2 else rndE m
def itQ (a rn rd : ByteArray) (c A B : Int) : Rat := ratV rn rd * (fracR c A B).1 * (valS a : Rat)
def itS (a rn rd : ByteArray) (c A B m : Int) : ByteArray := if itE a rn rd c A B m = 0 then canS (rndQ m (itQ a rn rd c A B)) else ⟨#[]⟩
theorem it_arg {a rn rd : ByteArray} (c A B m : Int) (h : chk a ≠ 0 ∨ chkF rn rd ≠ 0) : itE a rn rd c A B m = 1 ∧ itS a rn rd c A B m = ⟨#[]⟩ := by
  have e : itE a rn rd c A B m = 1 := if_pos h
  exact ⟨e, if_neg (by rw [e]; decide)⟩
theorem it_day {a rn rd : ByteArray} {c A B : Int} (m : Int) (h1 : chk a = 0) (h2 : chkF rn rd = 0) (h : (fracR c A B).2 ≠ 0) : itE a rn rd c A B m = (fracR c A B).2 ∧ itS a rn rd c A B m = ⟨#[]⟩ := by
  have e : itE a rn rd c A B m = (fracR c A B).2 := by
    unfold itE
    rw [if_neg (by rw [h1, h2]; simp), if_pos h]
  exact ⟨e, if_neg (by rw [e]; exact h)⟩
theorem it_ok {a rn rd : ByteArray} {c A B : Int} (m : Int) (h1 : chk a = 0) (h2 : chkF rn rd = 0) (h : (fracR c A B).2 = 0) : itE a rn rd c A B m = rndE m ∧ itS a rn rd c A B m = rndS m (itQ a rn rd c A B) := by
  have e : itE a rn rd c A B m = rndE m := by
    unfold itE
    rw [if_neg (by rw [h1, h2]; simp), if_neg (by rw [h]; simp)]
  refine ⟨e, ?_⟩
  unfold itS rndS
  rw [e]
set_option maxRecDepth 100000 in
set_option maxHeartbeats 4000000 in
theorem Interest_any (c A B m : Int) {a rn rd : ByteArray} (s0 : a.size ≤ 40) (s1 : rn.size ≤ 40) (s2 : rd.size ≤ 40) :
    Ret 29 #[.string a, .agg #[.string rn, .string rd], .int .i64 c, .int .i64 A, .int .i64 B, .int .i64 m] (.tuple #[.string (itS a rn rd c A B m), .int .i64 (itE a rn rd c A B m)]) := by
  intro w hg
  have hs := (St.refl hg).alloc (.cells #[.string rn, .string rd] 34)
  have XR := Bx.new w #[.string rn, .string rd] 34
  have K1 := ChkR (a := a) (by omega)
  have K2 := ChkF (a := rn) (b := rd) (by omega) (by omega)
  have K3 := Fraction_any c A B
  unfold FV at K2
  by_cases h1 : chk a = 0
  · by_cases h2 : chkF rn rd = 0
    · by_cases h3 : (fracR c A B).2 = 0
      · obtain ⟨e1, e2⟩ := it_ok m h1 h2 h3
        rw [e1, e2]
        have vr := Vq.arg (n := rn) (d := rd) (by omega) (by omega)
        have fr0 := FitQ.arg (n := rn) (d := rd) (k := 40) s1 s2 (by omega)
        have fp := frac_fit c A B
        have va := Vs.arg (s := a) (by omega)
        have fa : FitQ 40 ((valS a : Int) : Rat) := FitQ.int (Fit.val s0) (by omega)
        have K4 := MulF vr (Vq.fr fp (by omega))
        have K5 := OfF va (by omega)
        have f1 := fr0.mul fp
        have f2 := f1.mul fa
        have K6 := MulF (Vq.fr f1 (by omega)) (Vq.fr fa (by omega))
        have K7 := Round_any m (Vq.fr f2 (by omega)) f2 (by omega)
        change Ret _ _ (.tuple #[.string (rndS m (itQ a rn rd c A B)), _]) at K7
        rw [h1] at K1
        rw [h2] at K2
        rw [h3] at K3
        unfold FV at K4 K6 K7
        unfold FR at K3 K4 K5 K6
        clear vr fr0 fp va fa f1 f2 h1 h2 h3 e1 e2 s0 s1 s2
        generalize rndS m (itQ a rn rd c A B) = rs at *
        generalize rndE m = re at *
        generalize frN (ratV rn rd * (fracR c A B).1 * ((valS a : Int) : Rat)) = n3 at *
        generalize frD (ratV rn rd * (fracR c A B).1 * ((valS a : Int) : Rat)) = d3 at *
        generalize frN (ratV rn rd * (fracR c A B).1) = n2 at *
        generalize frD (ratV rn rd * (fracR c A B).1) = d2 at *
        generalize frN (fracR c A B).1 = n1 at *
        generalize frD (fracR c A B).1 = d1 at *
        generalize frN ((valS a : Int) : Rat) = n0 at *
        generalize frD ((valS a : Int) : Rat) = d0 at *
        go_enter Tryz.func29, Tryz.ntmps29
        go_wp2_with fail
        refine K1.step hs ?_
        intro w1 hs hb
        replace XR := XR.on hb
        have x0 := XR.cell (i := 0) (v := .string rn) rfl
        have x1 := XR.cell (i := 1) (v := .string rd) rfl
        go_wp2_with fail
        refine K2.step hs ?_
        intro w2 hs hb
        replace XR := XR.on hb
        clear x0 x1
        go_wp2_with fail
        refine K3.step hs ?_
        intro w3 hs hb
        replace XR := (XR.on hb).alloc (.cells #[.string n1, .string d1] 34)
        have XP := Bx.new w3 #[.string n1, .string d1] 34
        replace hs := hs.alloc (.cells #[.string n1, .string d1] 34)
        have x0 := XR.cell (i := 0) (v := .string rn) rfl
        have x1 := XR.cell (i := 1) (v := .string rd) rfl
        have y0 := XP.cell (i := 0) (v := .string n1) rfl
        have y1 := XP.cell (i := 1) (v := .string d1) rfl
        go_wp2_with fail
        refine K4.step hs ?_
        intro w1 hs _
        go_wp2_with fail
        refine K5.step hs ?_
        intro w1 hs _
        go_wp2_with fail
        refine K6.step hs ?_
        intro w1 hs _
        go_wp2_with fail
        refine K7.step hs ?_
        intro w1 hs _
        go_wp2_with fail
        go_ret2
        exact ⟨rfl, hs.2⟩
      · obtain ⟨e1, e2⟩ := it_day (a := a) (rn := rn) (rd := rd) m h1 h2 h3
        rw [e1, e2]
        have q : ((fracR c A B).2 != 0) = true := by simpa using h3
        rw [h1] at K1
        rw [h2] at K2
        unfold FR at K3
        clear h1 h2 h3 e1 e2
        generalize frN (fracR c A B).1 = n1 at *
        generalize frD (fracR c A B).1 = d1 at *
        generalize (fracR c A B).2 = e at *
        go_enter Tryz.func29, Tryz.ntmps29
        go_wp2_with fail
        refine K1.step hs ?_
        intro w1 hs hb
        replace XR := XR.on hb
        have x0 := XR.cell (i := 0) (v := .string rn) rfl
        have x1 := XR.cell (i := 1) (v := .string rd) rfl
        go_wp2_with fail
        refine K2.step hs ?_
        intro w2 hs hb
        clear x0 x1
        go_wp2_with fail
        refine K3.step hs ?_
        intro w3 hs hb
        replace hs := hs.alloc (.cells #[.string n1, .string d1] 34)
        go_wp2_with fail
        go_ret2
        exact ⟨rfl, hs.2⟩
    · obtain ⟨e1, e2⟩ := it_arg (a := a) (rn := rn) (rd := rd) c A B m (.inr h2)
      rw [e1, e2]
      have q : (chkF rn rd != 0) = true := by simpa using h2
      rw [h1] at K1
      clear h1 h2 e1 e2
      generalize chkF rn rd = e at *
      go_enter Tryz.func29, Tryz.ntmps29
      go_wp2_with fail
      refine K1.step hs ?_
      intro w1 hs hb
      replace XR := XR.on hb
      have x0 := XR.cell (i := 0) (v := .string rn) rfl
      have x1 := XR.cell (i := 1) (v := .string rd) rfl
      go_wp2_with fail
      refine K2.step hs ?_
      intro w2 hs hb
      go_wp2_with fail
      go_ret2
      exact ⟨rfl, hs.2⟩
  · obtain ⟨e1, e2⟩ := it_arg (a := a) (rn := rn) (rd := rd) c A B m (.inl h1)
    rw [e1, e2]
    have q : (chk a != 0) = true := by simpa using h1
    clear h1 e1 e2
    generalize chk a = e at *
    go_enter Tryz.func29, Tryz.ntmps29
    go_wp2_with fail
    refine K1.step hs ?_
    intro w1 hs hb
    go_wp2_with fail
    go_ret2
    exact ⟨rfl, hs.2⟩
end Go.Proofs.YtgagjpjlnlandaaGreatDoor
