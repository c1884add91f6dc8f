/- Integer: the walk of IntegerComputes: for every input it returns true. Condition: the library's table and error lie as the program's text lays them. -/
import Derived.Test.YtonopbelbehheaaGreatDoorAw
import Derived.Test.YtonopbelbehheaaGreatDoorRh
namespace Go.Proofs.YtonopbelbehheaaGreatDoor
open Go.RowKit Go.Shelf Dec

theorem awake01 : Ret 16 #[] (.bool true) := fun w hg => awake_any w hg
set_option maxRecDepth 100000 in
set_option maxHeartbeats 4000000 in
theorem computes_any (a b : ByteArray) (w : World) (ha : a.size ≤ 9223372036854775807) (hb : b.size ≤ 9223372036854775807) (hg : Gl w) :
    Calls Tryz.prog 4 #[.string a, .string b] w fun e w' => e = .returned (.bool true) ∧ Below w.heap.size w w' := by
  have hs := (St.refl hg).alloc (.cells #[.string a, .string b] 22)
  have HG2 := Lib.hid (great2 a b w ha hb)
  have AW := awake01
  cases hbig : (big a || big b) with
  | true =>
    rw [hbig] at HG2
    clear hbig
    go_enter Tryz.func4, Tryz.ntmps4
    go_wp2_with fail
    refine HG2.out.mono ?_
    rintro e w1 ⟨rfl, rfl⟩
    go_wp2_with fail
    refine AW.step hs ?_
    intro wa hs _
    go_wp2_with fail
    go_ret
    exact ⟨rfl, hs.2⟩
  | false =>
    rw [hbig] at HG2
    simp only [Bool.or_eq_false_iff] at hbig
    have sa := big_false hbig.1
    have sb := big_false hbig.2
    clear hbig
    have Va : Vs a (valS a) := Vs.arg (by omega)
    have Vb : Vs b (valS b) := Vs.arg (by omega)
    have K1 := AddR Va Vb
    have K2 : Ret 24 #[.string a, .string b] (.string (canS (valS a + valS b))) := fun w _ => rAdd_any a b w (by omega) (by omega)
    have K3 := SubR Va Vb
    have K4 : Ret 26 #[.string a, .string b] (.string (canS (valS a - valS b))) := fun w _ => rSub_any a b w (by omega) (by omega)
    have K5 := MulR Va Vb
    have K6 : Ret 28 #[.string a, .string b] (.string (canS (valS a * valS b))) := fun w _ => rMul_any a b w (by omega) (by omega)
    have K7 := CmpR Va Vb
    have K8 : Ret 30 #[.string a, .string b] (.int .i64 (cmpI (valS a) (valS b))) := fun w _ => rcompare_any a b w (by omega) (by omega)
    clear Va Vb
    generalize canS (valS a + valS b) = t1 at *
    generalize canS (valS a - valS b) = t2 at *
    generalize canS (valS a * valS b) = t3 at *
    generalize cmpI (valS a) (valS b) = t4 at *
    have q1 : (t1.toList == t1.toList) = true := by simp
    have q2 : (t2.toList == t2.toList) = true := by simp
    have q3 : (t3.toList == t3.toList) = true := by simp
    have q4 : (t4 == t4) = true := by simp
    go_enter Tryz.func4, Tryz.ntmps4
    go_wp2_with fail
    refine HG2.out.mono ?_
    rintro e w1 ⟨rfl, rfl⟩
    go_wp2_with fail
    refine K1.step hs ?_
    intro x1 hs _
    go_wp2_with fail
    refine K2.step hs ?_
    intro x2 hs _
    go_wp2_with fail
    refine K3.step hs ?_
    intro x3 hs _
    go_wp2_with fail
    refine K4.step hs ?_
    intro x4 hs _
    go_wp2_with fail
    refine K5.step hs ?_
    intro x5 hs _
    go_wp2_with fail
    refine K6.step hs ?_
    intro x6 hs _
    go_wp2_with fail
    refine K7.step hs ?_
    intro x7 hs _
    go_wp2_with fail
    refine K8.step hs ?_
    intro x8 hs _
    go_wp2_with fail
    refine AW.step hs ?_
    intro wa hs _
    go_wp2_with fail
    go_ret
    exact ⟨rfl, hs.2⟩
end Go.Proofs.YtonopbelbehheaaGreatDoor
