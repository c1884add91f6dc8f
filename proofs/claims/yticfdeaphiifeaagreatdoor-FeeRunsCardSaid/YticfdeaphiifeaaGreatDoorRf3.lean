/- Reference fractions: comparison, sign, ratio; digits; long numbers. Conditions: numbers of bounded length. -/
import Derived.Test.YticfdeaphiifeaaGreatDoorRf
set_option maxHeartbeats 4000000
set_option maxRecDepth 100000
namespace Go.Proofs.YticfdeaphiifeaaGreatDoor
open Go.RowKit Go.Shelf Dec QQ
theorem rsignR {a : ByteArray} (h : a.size ≤ 1000000) : Ret 121 #[.string a] (.int .i64 (cmpI (valS a) 0)) := by
 intro w hg
 have hs := St.refl hg
 have K1 := rcmpR (a := a) (b := ⟨#[]⟩) h (by decide)
 rw [show valS ⟨#[]⟩ = 0 from by decide] at K1
 generalize cmpI (valS a) 0 = c at *
 go_enter Tryz.func121, Tryz.ntmps121
 go_wp2_with fail
 refine K1.step hs ?_
 intro w1 hs _
 go_wp2_with fail
 go_ret
 exact ⟨rfl, hs.2⟩
theorem rcmpF {a b c d : ByteArray} (h1 : a.size ≤ 30000) (h2 : b.size ≤ 30000) (h3 : c.size ≤ 30000) (h4 : d.size ≤ 30000) : Ret 75 #[FV a b, FV c d] (.int .i64 (cmpQ (ratV a b) (ratV c d))) := by
 intro w hg
 have hs := ((St.refl hg).alloc (.cells #[.string a, .string b] 34)).alloc (.cells #[.string c, .string d] 34)
 have B1 := Bx.new1 w (.cells #[.string a, .string b] 34) #[.string c, .string d] 34
 have K1 := raw_r (n := a) (d := b) (by omega) (by omega)
 have K2 := raw_r (n := c) (d := d) (by omega) (by omega)
 obtain ⟨e1, p1⟩ := raw_rat a b
 obtain ⟨e2, p2⟩ := raw_rat c d
 obtain ⟨s1, s2⟩ := raw_size (k := 30000) h1 h2 (by omega)
 obtain ⟨s3, s4⟩ := raw_size (k := 30000) h3 h4 (by omega)
 generalize (rawR a b).1 = n1 at *
 generalize (rawR a b).2 = d1 at *
 generalize (rawR c d).1 = n2 at *
 generalize (rawR c d).2 = d2 at *
 have f1 := (Fit.val s1).mul (Fit.val s4)
 have f3 := (Fit.val s3).mul (Fit.val s2)
 have z1 := f1.size
 have z3 := f3.size
 have K3 := rMulR (a := n1) (b := d2) (by omega) (by omega)
 have K4 := rMulR (a := n2) (b := d1) (by omega) (by omega)
 have K5 := rcmpR (a := canS (valS n1 * valS d2)) (b := canS (valS n2 * valS d1)) (by omega) (by omega)
 rw [valS_canS, valS_canS] at K5
 have ec : cmpI (valS n1 * valS d2) (valS n2 * valS d1) = cmpQ (ratV a b) (ratV c d) := by
  rw [← e1, ← e2]
  exact cmp_cross p1 p2
 rw [ec] at K5
 unfold FV
 clear e1 e2 p1 p2 f1 f3 z1 z3 s1 s2 s3 s4 ec
 generalize cmpQ (ratV a b) (ratV c d) = v at *
 generalize canS (valS n1 * valS d2) = u1 at *
 generalize canS (valS n2 * valS d1) = u4 at *
 go_enter Tryz.func75, Tryz.ntmps75
 go_wp2_with fail
 refine K1.step hs ?_
 intro w1 hs hb
 replace B1 := B1.on hb
 have c0 := B1.cell (i := 0) (v := .string c) rfl
 have c1 := B1.cell (i := 1) (v := .string d) rfl
 go_wp2_with fail
 refine K2.step hs ?_
 intro w1 hs _
 go_wp2_with fail
 refine K3.step hs ?_
 intro w1 hs _
 go_wp2_with fail
 refine K4.step hs ?_
 intro w1 hs _
 go_wp2_with fail
 refine K5.step hs ?_
 intro w1 hs _
 go_wp2_with fail
 go_ret
 exact ⟨rfl, hs.2⟩
theorem rsignF {a b : ByteArray} (h1 : a.size ≤ 30000) (h2 : b.size ≤ 30000) : Ret 122 #[FV a b] (.int .i64 (cmpQ (ratV a b) 0)) := by
 intro w hg
 have hs := (St.refl hg).alloc (.cells #[.string a, .string b] 34)
 have K1 := rcmpF (a := a) (b := b) (c := ⟨#[]⟩) (d := ⟨#[]⟩) h1 h2 (by decide) (by decide)
 rw [show ratV ⟨#[]⟩ ⟨#[]⟩ = 0 from rfl] at K1
 generalize cmpQ (ratV a b) 0 = v at *
 unfold FV at *
 go_enter Tryz.func122, Tryz.ntmps122
 go_wp2_with fail
 refine K1.step hs ?_
 intro w1 hs _
 go_wp2_with fail
 go_ret
 exact ⟨rfl, hs.2⟩
end Go.Proofs.YticfdeaphiifeaaGreatDoor
