/- Integer: the walk of IntegerDivides: for every input it returns true. Condition: the library's table and error lie as the program's text lays them. -/
import Derived.Test.YtkefcfbmnehocaaGreatDoorAw
import Derived.Test.YtkefcfbmnehocaaGreatDoorRt
namespace Go.Proofs.YtkefcfbmnehocaaGreatDoor
open Go.RowKit Go.Shelf Dec

theorem awake01d : Ret 16 #[] (.bool true) := fun w hg => awake_any w hg
set_option maxRecDepth 100000 in
set_option maxHeartbeats 4000000 in
theorem divides_any (a b : ByteArray) (n : Int) (w : World) (ha : a.size ≤ 9223372036854775807) (hb : b.size ≤ 9223372036854775807) (_hn0 : -9223372036854775808 ≤ n) (_hn1 : n ≤ 9223372036854775807) (hg : Gl w) :
    Calls Tryz.prog 3 #[.string a, .string b, .int .i64 n] w fun e w' => e = .returned (.bool true) ∧ Below w.heap.size w w' := by
  have hs := (St.refl hg).alloc (.cells #[.string a, .string b] 22)
  have HG2 := Lib.hid (great2 a b w ha hb)
  have AW := awake01d
  cases hbig : (big a || big b) with
  | true =>
    rw [hbig] at HG2
    clear hbig
    go_enter Tryz.func3, Tryz.ntmps3
    go_wp2_with fail
    refine HG2.out.mono ?_
    rintro e w1 ⟨rfl, rfl⟩
    go_wp2_with fail
    refine AW.step hs ?_
    intro wa hs _
    go_wp2_with fail
    go_ret
    exact ⟨rfl, hs.2⟩
  | false =>
    rw [hbig] at HG2
    simp only [Bool.or_eq_false_iff] at hbig
    have sa := big_false hbig.1
    have sb := big_false hbig.2
    clear hbig
    have Va : Vs a (valS a) := Vs.arg (by omega)
    have Vb : Vs b (valS b) := Vs.arg (by omega)
    have K1 : Ret 17 #[.string a, .string b] (.tuple #[.string (divR (valS a) (valS b)).1, .string (divR (valS a) (valS b)).2.1, .int .i64 (divR (valS a) (valS b)).2.2]) := fun w hg => DivV Va Vb w hg
    have K2 : Ret 18 #[.string a, .string b] (.tuple #[.string (divR (valS a) (valS b)).1, .string (divR (valS a) (valS b)).2.1, .int .i64 (divR (valS a) (valS b)).2.2]) := fun w _ => rDiv_any a b w (by omega) (by omega)
    have K3 := GcdR Va Vb
    have K4 := rGcd_any a b (by omega) (by omega)
    have K5 : ∀ (_ : ¬ ((12 : Int) < (a.size : Int))) (_ : ¬ ((60 : Int) < n ∧ n ≤ 400)), ∃ t z, Ret 21 #[.string a, .int .i64 n] (.tuple #[.string t, .int .i64 z]) ∧ Ret 22 #[.string a, .int .i64 n] (.tuple #[.string t, .int .i64 z]) := by
      intro h1 h2
      refine ⟨(powR (valS a) n).1, (powR (valS a) n).2, fun w hg => Power_any a n w (by omega) hg, ?_⟩
      by_cases hn : n < 0 ∨ 400 < n
      · have e : powR (valS a) n = (⟨#[]⟩, 2) := by unfold powR; rw [if_pos hn]
        rw [e]
        exact rPower_out a n hn
      · have e : powR (valS a) n = (canS (valS a ^ n.toNat), 0) := by unfold powR; rw [if_neg hn]
        have := rPower_in a n.toNat (by omega) (by omega)
        rw [e]
        rw [show ((n.toNat : Nat) : Int) = n by omega] at this
        exact this
    clear Va Vb
    generalize (divR (valS a) (valS b)).1 = t1 at *
    generalize (divR (valS a) (valS b)).2.1 = t2 at *
    generalize (divR (valS a) (valS b)).2.2 = t3 at *
    generalize canS ((Nat.gcd (valS a).natAbs (valS b).natAbs : Nat) : Int) = t4 at *
    have q1 : (t1.toList == t1.toList) = true := by simp
    have q2 : (t2.toList == t2.toList) = true := by simp
    have q3 : (t3 == t3) = true := by simp
    have q4 : (t4.toList == t4.toList) = true := by simp
    by_cases h1 : (12 : Int) < (a.size : Int)
    · have p1 : decide ((12 : Int) < (a.size : Int)) = true := decide_eq_true h1
      clear h1 K5
      go_enter Tryz.func3, Tryz.ntmps3
      go_wp2_with fail
      refine HG2.out.mono ?_
      rintro e w1 ⟨rfl, rfl⟩
      go_wp2_with fail
      refine K1.step hs ?_
      intro x1 hs _
      go_wp2_with fail
      refine K2.step hs ?_
      intro x2 hs _
      go_wp2_with fail
      refine K3.step hs ?_
      intro x3 hs _
      go_wp2_with fail
      refine K4.step hs ?_
      intro x4 hs _
      go_wp2_with fail
      refine AW.step hs ?_
      intro wa hs _
      go_wp2_with fail
      go_ret
      exact ⟨rfl, hs.2⟩
    · have p1 : decide ((12 : Int) < (a.size : Int)) = false := decide_eq_false h1
      by_cases h2 : (60 : Int) < n ∧ n ≤ 400
      · have p2 : decide ((60 : Int) < n) = true := decide_eq_true h2.1
        have p3 : decide (n ≤ (400 : Int)) = true := decide_eq_true h2.2
        clear h1 h2 K5
        go_enter Tryz.func3, Tryz.ntmps3
        go_wp2_with fail
        refine HG2.out.mono ?_
        rintro e w1 ⟨rfl, rfl⟩
        go_wp2_with fail
        refine K1.step hs ?_
        intro x1 hs _
        go_wp2_with fail
        refine K2.step hs ?_
        intro x2 hs _
        go_wp2_with fail
        refine K3.step hs ?_
        intro x3 hs _
        go_wp2_with fail
        refine K4.step hs ?_
        intro x4 hs _
        go_wp2_with fail
        refine AW.step hs ?_
        intro wa hs _
        go_wp2_with fail
        go_ret
        exact ⟨rfl, hs.2⟩
      · obtain ⟨t5, t6, K6, K7⟩ := K5 h1 h2
        have q5 : (t5.toList == t5.toList) = true := by simp
        have q6 : (t6 == t6) = true := by simp
        by_cases h3 : (60 : Int) < n
        · have p2 : decide ((60 : Int) < n) = true := decide_eq_true h3
          have p3 : decide (n ≤ (400 : Int)) = false := decide_eq_false (fun h => h2 ⟨h3, h⟩)
          clear h1 h2 h3 K5
          go_enter Tryz.func3, Tryz.ntmps3
          go_wp2_with fail
          refine HG2.out.mono ?_
          rintro e w1 ⟨rfl, rfl⟩
          go_wp2_with fail
          refine K1.step hs ?_
          intro x1 hs _
          go_wp2_with fail
          refine K2.step hs ?_
          intro x2 hs _
          go_wp2_with fail
          refine K3.step hs ?_
          intro x3 hs _
          go_wp2_with fail
          refine K4.step hs ?_
          intro x4 hs _
          go_wp2_with fail
          refine K6.step hs ?_
          intro x6 hs _
          go_wp2_with fail
          refine K7.step hs ?_
          intro x7 hs _
          go_wp2_with fail
          refine AW.step hs ?_
          intro wa hs _
          go_wp2_with fail
          go_ret
          exact ⟨rfl, hs.2⟩
        · have p2 : decide ((60 : Int) < n) = false := decide_eq_false h3
          clear h1 h2 h3 K5
          go_enter Tryz.func3, Tryz.ntmps3
          go_wp2_with fail
          refine HG2.out.mono ?_
          rintro e w1 ⟨rfl, rfl⟩
          go_wp2_with fail
          refine K1.step hs ?_
          intro x1 hs _
          go_wp2_with fail
          refine K2.step hs ?_
          intro x2 hs _
          go_wp2_with fail
          refine K3.step hs ?_
          intro x3 hs _
          go_wp2_with fail
          refine K4.step hs ?_
          intro x4 hs _
          go_wp2_with fail
          refine K6.step hs ?_
          intro x6 hs _
          go_wp2_with fail
          refine K7.step hs ?_
          intro x7 hs _
          go_wp2_with fail
          refine AW.step hs ?_
          intro wa hs _
          go_wp2_with fail
          go_ret
          exact ⟨rfl, hs.2⟩
end Go.Proofs.YtkefcfbmnehocaaGreatDoor
