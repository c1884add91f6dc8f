/- Parts of years: the walk of DaycountInterest: for every input it returns true. Condition: the library's table and error lie as the program's text lays them. -/
import Derived.Test.YtgagjpjlnlandaaGreatDoorIt2
import Derived.Test.YtgagjpjlnlandaaGreatDoorLg8
namespace Go.Proofs.YtgagjpjlnlandaaGreatDoor
open Go.RowKit Go.Shelf Dec QQ

set_option maxRecDepth 100000 in
set_option maxHeartbeats 4000000 in
theorem dint_long {a rn rd : ByteArray} {c A B m : Int} (g1 : a.size ≤ 9223372036854775807) (g2 : rn.size ≤ 9223372036854775807) (g3 : rd.size ≤ 9223372036854775807) (hL : (decide (20 < rn.size) || (decide (20 < rd.size) || decide (20 < a.size))) = true) (w : World) (hg : Gl w) : Calls Tryz.prog 6 #[.string a, .agg #[.string rn, .string rd], .int .i64 c, .int .i64 A, .int .i64 B, .int .i64 m] w fun e w' => e = .returned (.bool true) ∧ Below w.heap.size w w' := by
  have hs := ((St.refl hg).alloc (.cells #[.string rn, .string rd] 34)).alloc (.cells #[.string rn, .string rd] 34)
  have XR := (Bx.new w #[.string rn, .string rd] 34).alloc (.cells #[.string rn, .string rd] 34)
  have XS := Bx.new1 w (.cells #[.string rn, .string rd] 34) #[.string rn, .string rd] 34
  have AW := awake08
  have KL := long_one (a := a) (w.heap.size + 1) g2 g3 g1
  rw [hL] at KL
  clear hL g1 g2 g3 XR
  go_enter Tryz.func6, Tryz.ntmps6
  go_wp2_with fail
  refine KL.step hs XS ?_
  intro w1 hs hb
  go_wp2_with fail
  refine AW.step hs ?_
  intro w9 hs hb
  go_wp2_with fail
  go_ret
  exact ⟨rfl, hs.2⟩
set_option maxRecDepth 100000 in
set_option maxHeartbeats 4000000 in
theorem dint_ok {a rn rd : ByteArray} {c A B m : Int} (g1 : a.size ≤ 9223372036854775807) (g2 : rn.size ≤ 9223372036854775807) (g3 : rd.size ≤ 9223372036854775807) (hL : (decide (20 < rn.size) || (decide (20 < rd.size) || decide (20 < a.size))) = false) (w : World) (hg : Gl w) : Calls Tryz.prog 6 #[.string a, .agg #[.string rn, .string rd], .int .i64 c, .int .i64 A, .int .i64 B, .int .i64 m] w fun e w' => e = .returned (.bool true) ∧ Below w.heap.size w w' := by
  obtain ⟨s1, s2, s3⟩ : rn.size ≤ 20 ∧ rd.size ≤ 20 ∧ a.size ≤ 20 := by simpa using hL
  have hs := ((St.refl hg).alloc (.cells #[.string rn, .string rd] 34)).alloc (.cells #[.string rn, .string rd] 34)
  have XR := (Bx.new w #[.string rn, .string rd] 34).alloc (.cells #[.string rn, .string rd] 34)
  have XS := Bx.new1 w (.cells #[.string rn, .string rd] 34) #[.string rn, .string rd] 34
  have AW := awake08
  have KL := long_one (a := a) (w.heap.size + 1) g2 g3 g1
  rw [hL] at KL
  have K1 := Interest_any c A B m (a := a) (rn := rn) (rd := rd) (by omega) (by omega) (by omega)
  have K2 := rInterest_any c A B m (a := a) (rn := rn) (rd := rd) (by omega) (by omega) (by omega)
  have K3 := AddD_any c A (pn := rn) (pd := rd) s1 s2
  have K4 := rAdd08_any c A (pn := rn) (pd := rd) s1 s2
  generalize itS a rn rd c A B m = r1 at *
  generalize itE a rn rd c A B m = e1 at *
  generalize (addQ c A rn rd).1 = r2 at *
  generalize (addQ c A rn rd).2 = e2 at *
  have b1 : (e1 == e1) = true := beq_self_eq_true e1
  have b2 : (e2 == e2) = true := beq_self_eq_true e2
  have b3 : (r2 == r2) = true := beq_self_eq_true r2
  clear hL g1 g2 g3 s1 s2 s3
  go_enter Tryz.func6, Tryz.ntmps6
  go_wp2_with fail
  refine KL.step hs XS ?_
  intro w1 hs hb
  clear XS
  replace XR := XR.on hb
  have x0 := XR.cell (i := 0) (v := .string rn) rfl
  have x1 := XR.cell (i := 1) (v := .string rd) rfl
  go_wp2_with fail
  refine K1.step hs ?_
  intro w2 hs hb
  clear x0 x1
  replace XR := XR.on hb
  have x0 := XR.cell (i := 0) (v := .string rn) rfl
  have x1 := XR.cell (i := 1) (v := .string rd) rfl
  go_wp2_with fail
  refine K2.step hs ?_
  intro w2 hs hb
  clear x0 x1
  replace XR := XR.on hb
  have x0 := XR.cell (i := 0) (v := .string rn) rfl
  have x1 := XR.cell (i := 1) (v := .string rd) rfl
  go_wp2_with fail
  refine K3.step hs ?_
  intro w2 hs hb
  clear x0 x1
  replace XR := XR.on hb
  have x0 := XR.cell (i := 0) (v := .string rn) rfl
  have x1 := XR.cell (i := 1) (v := .string rd) rfl
  go_wp2_with fail
  refine K4.step hs ?_
  intro w2 hs hb
  clear x0 x1
  replace XR := XR.on hb
  have x0 := XR.cell (i := 0) (v := .string rn) rfl
  have x1 := XR.cell (i := 1) (v := .string rd) rfl
  go_wp2_with fail
  refine AW.step hs ?_
  intro w9 hs hb
  go_wp2_with fail
  go_ret
  exact ⟨rfl, hs.2⟩
theorem dint_any (c A B m : Int) {a rn rd : ByteArray} (w : World) (g1 : a.size ≤ 9223372036854775807) (g2 : rn.size ≤ 9223372036854775807) (g3 : rd.size ≤ 9223372036854775807) (hg : Gl w) : Calls Tryz.prog 6 #[.string a, .agg #[.string rn, .string rd], .int .i64 c, .int .i64 A, .int .i64 B, .int .i64 m] w fun e w' => e = .returned (.bool true) ∧ Below w.heap.size w w' := by
  cases hL : (decide (20 < rn.size) || (decide (20 < rd.size) || decide (20 < a.size))) with
  | true => exact dint_long g1 g2 g3 hL w hg
  | false => exact dint_ok g1 g2 g3 hL w hg
end Go.Proofs.YtgagjpjlnlandaaGreatDoor
