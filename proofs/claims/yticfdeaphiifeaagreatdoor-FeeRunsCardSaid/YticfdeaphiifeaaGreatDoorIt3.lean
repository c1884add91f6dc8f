/- Parts of years, the reference: Interest. Conditions: numbers of up to 40 bytes. -/
import Derived.Test.YticfdeaphiifeaaGreatDoorRdd
import Derived.Test.YticfdeaphiifeaaGreatDoorIt
import Derived.Test.YticfdeaphiifeaaGreatDoorRef3
namespace Go.Proofs.YticfdeaphiifeaaGreatDoor
open Go.RowKit Go.Shelf Dec QQ
set_option maxRecDepth 100000 in
set_option maxHeartbeats 4000000 in
theorem rInterest_any (c A B m : Int) {a rn rd : ByteArray} (s0 : a.size ≤ 40) (s1 : rn.size ≤ 40) (s2 : rd.size ≤ 40) :
  Ret 124 #[.string a, .agg #[.string rn, .string rd], .int .i64 c, .int .i64 A, .int .i64 B, .int .i64 m] (.tuple #[.string (itS a rn rd c A B m), .int .i64 (itE a rn rd c A B m)]) := by
 intro w hg
 have hs := (St.refl hg).alloc (.cells #[.string rn, .string rd] 34)
 have XR := Bx.new w #[.string rn, .string rd] 34
 have K1 := rchkR (a := a) (by omega)
 have K2 := rchk_r (a := rn) (b := rd) (by omega) (by omega)
 have K3 := rFraction_any c A B
 unfold FV at K2
 by_cases h1 : chk a = 0
 ·by_cases h2 : chkF rn rd = 0
  ·by_cases h3 : (fracR c A B).2 = 0
   ·obtain ⟨e1, e2⟩ := it_ok m h1 h2 h3
    rw [e1, e2]
    have fr0 := FitQ.arg (n := rn) (d := rd) (k := 40) s1 s2 (by omega)
    have fp := frac_fit c A B
    have zp := FitQ.sizes fp
    have fa : FitQ 40 ((valS a : Int) : Rat) := FitQ.int (Fit.val s0) (by omega)
    have za := FitQ.sizes fa
    have KO := rof_r (a := a) (by omega)
    have KM1 := rmul_r (a := frN ((valS a : Int) : Rat)) (b := frD ((valS a : Int) : Rat)) (c := rn) (d := rd) (by omega) (by omega) (by omega) (by omega)
    rw [ratV_fr] at KM1
    have f1 := fa.mul fr0
    have z1 := FitQ.sizes f1
    have KM2 := rmul_r (a := frN ((valS a : Int) * ratV rn rd)) (b := frD ((valS a : Int) * ratV rn rd)) (c := frN (fracR c A B).1) (d := frD (fracR c A B).1) (by omega) (by omega) (by omega) (by omega)
    rw [ratV_fr, ratV_fr] at KM2
    have f2 := f1.mul fp
    have z2 := FitQ.sizes f2
    have KR := rRound_any (a := frN ((valS a : Int) * ratV rn rd * (fracR c A B).1)) (b := frD ((valS a : Int) * ratV rn rd * (fracR c A B).1)) m (by omega) (by omega)
    rw [ratV_fr, show ((valS a : Int) : Rat) * ratV rn rd * (fracR c A B).1 = itQ a rn rd c A B by unfold itQ; grind] at KR
    rw [show ((valS a : Int) : Rat) * ratV rn rd * (fracR c A B).1 = itQ a rn rd c A B by unfold itQ; grind] at KM2
    rw [h1] at K1
    rw [h2] at K2
    rw [h3] at K3
    unfold FV at *
    unfold FR at *
    clear fr0 fp zp fa za f1 z1 f2 z2 h1 h2 h3 e1 e2 s0 s1 s2
    generalize rndS m (itQ a rn rd c A B) = rs at *
    generalize rndE m = re at *
    generalize frN (itQ a rn rd c A B) = n3 at *
    generalize frD (itQ a rn rd c A B) = d3 at *
    generalize frN ((valS a : Int) * ratV rn rd) = n2 at *
    generalize frD ((valS a : Int) * ratV rn rd) = d2 at *
    generalize frN (fracR c A B).1 = n1 at *
    generalize frD (fracR c A B).1 = d1 at *
    generalize frN ((valS a : Int) : Rat) = n0 at *
    generalize frD ((valS a : Int) : Rat) = d0 at *
    go_enter Tryz.func124, Tryz.ntmps124
    go_wp2_with fail
    refine K1.step hs ?_
    intro w1 hs hb
    replace XR := XR.on hb
    have x0 := XR.cell (i := 0) (v := .string rn) rfl
    have x1 := XR.cell (i := 1) (v := .string rd) rfl
    go_wp2_with fail
    refine K2.step hs ?_
    intro w2 hs hb
    replace XR := XR.on hb
    clear x0 x1
    go_wp2_with fail
    refine K3.step hs ?_
    intro w3 hs hb
    replace XR := (XR.on hb).alloc (.cells #[.string n1, .string d1] 34)
    have XP := Bx.new w3 #[.string n1, .string d1] 34
    replace hs := hs.alloc (.cells #[.string n1, .string d1] 34)
    have k0 := XR.keeps (i := 0) (v := .string rn) rfl
    have k1 := XR.keeps (i := 1) (v := .string rd) rfl
    have k2 := XP.keeps (i := 0) (v := .string n1) rfl
    have k3 := XP.keeps (i := 1) (v := .string d1) rfl
    go_wp2_with fail
    refine wp_region_kept (by kernel_rfl) (by kernel_rfl) ?_
    repeat (go_big_quiet_step (first | (with_reducible exact KO.kept hs) | (with_reducible exact KM1.kept hs) | (with_reducible exact KM2.kept hs) | (with_reducible exact KR.kept hs)))
    refine wpQuiet_nil ?_
    rintro _ ⟨u, rfl⟩
    replace hs := hs.kept u
    go_wp2_with fail
    go_ret2
    exact ⟨rfl, hs.2⟩
   ·obtain ⟨e1, e2⟩ := it_day (a := a) (rn := rn) (rd := rd) m h1 h2 h3
    rw [e1, e2]
    have q : ((fracR c A B).2 != 0) = true := by simpa using h3
    rw [h1] at K1
    rw [h2] at K2
    unfold FR at K3
    clear h1 h2 h3 e1 e2
    generalize frN (fracR c A B).1 = n1 at *
    generalize frD (fracR c A B).1 = d1 at *
    generalize (fracR c A B).2 = e at *
    go_enter Tryz.func124, Tryz.ntmps124
    go_wp2_with fail
    refine K1.step hs ?_
    intro w1 hs hb
    replace XR := XR.on hb
    have x0 := XR.cell (i := 0) (v := .string rn) rfl
    have x1 := XR.cell (i := 1) (v := .string rd) rfl
    go_wp2_with fail
    refine K2.step hs ?_
    intro w2 hs hb
    clear x0 x1
    go_wp2_with fail
    refine K3.step hs ?_
    intro w3 hs hb
    replace hs := hs.alloc (.cells #[.string n1, .string d1] 34)
    go_wp2_with fail
    go_ret2
    exact ⟨rfl, hs.2⟩
  ·obtain ⟨e1, e2⟩ := it_arg (a := a) (rn := rn) (rd := rd) c A B m (.inr h2)
   rw [e1, e2]
   have q : (chkF rn rd != 0) = true := by simpa using h2
   rw [h1] at K1
   clear h1 h2 e1 e2
   generalize chkF rn rd = e at *
   go_enter Tryz.func124, Tryz.ntmps124
   go_wp2_with fail
   refine K1.step hs ?_
   intro w1 hs hb
   replace XR := XR.on hb
   have x0 := XR.cell (i := 0) (v := .string rn) rfl
   have x1 := XR.cell (i := 1) (v := .string rd) rfl
   go_wp2_with fail
   refine K2.step hs ?_
   intro w1 hs _
   go_wp2_with fail
   go_ret2
   exact ⟨rfl, hs.2⟩
 ·obtain ⟨e1, e2⟩ := it_arg (a := a) (rn := rn) (rd := rd) c A B m (.inl h1)
  rw [e1, e2]
  have q : (chk a != 0) = true := by simpa using h1
  clear h1 e1 e2
  generalize chk a = e at *
  go_enter Tryz.func124, Tryz.ntmps124
  go_wp2_with fail
  refine K1.step hs ?_
  intro w1 hs _
  go_wp2_with fail
  go_ret2
  exact ⟨rfl, hs.2⟩
end Go.Proofs.YticfdeaphiifeaaGreatDoor
