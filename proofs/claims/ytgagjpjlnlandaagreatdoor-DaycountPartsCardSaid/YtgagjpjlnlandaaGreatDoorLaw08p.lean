/- Parts of years: the walk of DaycountParts: for every input it returns true. Condition: the library's table and error lie as the program's text lays them. -/
import Derived.Test.YtgagjpjlnlandaaGreatDoorReg9
namespace Go.Proofs.YtgagjpjlnlandaaGreatDoor
open Go.RowKit Go.Shelf Dec QQ

set_option maxRecDepth 100000 in
set_option maxHeartbeats 4000000 in
theorem parts08_any (c M F T A B : Int) (w : World) (hg : Gl w) :
    Calls Tryz.prog 14 #[.int .i64 c, .int .i64 M, .agg #[.int .i64 F, .int .i64 T], .int .i64 A, .int .i64 B] w fun e w' => e = .returned (.bool true) ∧ Below w.heap.size w w' := by
  have AW := awake08
  have K1 := Days_any c A B
  have K2 := rDays_any c A B
  have K3 := Fraction_any c A B
  have K4 := rFraction_any c A B
  have K5 := Regular_any M F T A B
  have K6 := rRegular_any M F T A B
  generalize (daysR c A B).1 = x at *
  generalize (daysR c A B).2 = e1 at *
  generalize (fracR c A B).2 = e2 at *
  generalize (fracR c A B).1 = q1 at *
  generalize (regR M F T A B).2 = e3 at *
  generalize (regR M F T A B).1 = q2 at *
  unfold FR at *
  generalize frN q1 = n1 at *
  generalize frD q1 = d1 at *
  generalize frN q2 = n2 at *
  generalize frD q2 = d2 at *
  have hs := (St.refl hg).alloc (.cells #[.int .i64 F, .int .i64 T] 56)
  have P0 := Bx.new w #[.int .i64 F, .int .i64 T] 56
  have be1 : (x == x) = true := beq_self_eq_true x
  have be2 : (e1 == e1) = true := beq_self_eq_true e1
  have be3 : (e2 == e2) = true := beq_self_eq_true e2
  have be4 : (e3 == e3) = true := beq_self_eq_true e3
  go_enter Tryz.func14, Tryz.ntmps14
  go_wp2_with fail
  refine K1.step hs ?_
  intro w1 hs hb1
  go_wp2_with fail
  refine K2.step hs ?_
  intro w2 hs hb2
  go_wp2_with fail
  refine K3.step hs ?_
  intro w3 hs hb3
  replace P0 := ((P0.on hb1).on hb2).on hb3
  replace P0 := P0.alloc (.cells #[.string n1, .string d1] 34)
  have X3 := Bx.new w3 #[.string n1, .string d1] 34
  replace hs := hs.alloc (.cells #[.string n1, .string d1] 34)
  go_wp2_with fail
  refine K4.step hs ?_
  intro w4 hs hb4
  replace P0 := (P0.on hb4).alloc (.cells #[.string n1, .string d1] 34)
  replace X3 := (X3.on hb4).alloc (.cells #[.string n1, .string d1] 34)
  have X4 := Bx.new w4 #[.string n1, .string d1] 34
  replace hs := hs.alloc (.cells #[.string n1, .string d1] 34)
  have p0 := P0.cell (i := 0) (v := .int .i64 F) rfl
  have p1 := P0.cell (i := 1) (v := .int .i64 T) rfl
  go_wp2_with fail
  refine K5.step hs ?_
  intro w5 hs hb5
  replace P0 := (P0.on hb5).alloc (.cells #[.string n2, .string d2] 34)
  replace X3 := (X3.on hb5).alloc (.cells #[.string n2, .string d2] 34)
  replace X4 := (X4.on hb5).alloc (.cells #[.string n2, .string d2] 34)
  have X5 := Bx.new w5 #[.string n2, .string d2] 34
  replace hs := hs.alloc (.cells #[.string n2, .string d2] 34)
  have p0 := P0.cell (i := 0) (v := .int .i64 F) rfl
  have p1 := P0.cell (i := 1) (v := .int .i64 T) rfl
  go_wp2_with fail
  refine K6.step hs ?_
  intro w6 hs hb6
  replace X3 := (X3.on hb6).alloc (.cells #[.string n2, .string d2] 34)
  replace X4 := (X4.on hb6).alloc (.cells #[.string n2, .string d2] 34)
  replace X5 := (X5.on hb6).alloc (.cells #[.string n2, .string d2] 34)
  have X6 := Bx.new w6 #[.string n2, .string d2] 34
  replace hs := hs.alloc (.cells #[.string n2, .string d2] 34)
  have y3a := X3.cell (i := 0) (v := .string n1) rfl
  have y3b := X3.cell (i := 1) (v := .string d1) rfl
  have y4a := X4.cell (i := 0) (v := .string n1) rfl
  have y4b := X4.cell (i := 1) (v := .string d1) rfl
  have y5a := X5.cell (i := 0) (v := .string n2) rfl
  have y5b := X5.cell (i := 1) (v := .string d2) rfl
  have y6a := X6.cell (i := 0) (v := .string n2) rfl
  have y6b := X6.cell (i := 1) (v := .string d2) rfl
  go_wp2_with fail
  refine AW.step hs ?_
  intro w7 hs hb7
  go_wp2_with fail
  go_ret
  exact ⟨rfl, hs.2⟩
end Go.Proofs.YtgagjpjlnlandaaGreatDoor
