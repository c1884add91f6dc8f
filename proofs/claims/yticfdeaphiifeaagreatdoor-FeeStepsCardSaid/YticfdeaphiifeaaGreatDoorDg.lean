/- Dates: the contracts of the package date's Leap, length, begin, Of, Parts and AddMonths. Conditions: days and years of the calendar. Dates: the contracts of the package date's Leap, length, begin, Of, Parts and AddMonths. Conditions: days and years of the calendar. Dates: the contracts of the package date's Leap, length, begin, Of, Parts and AddMonths. Conditions: days and years of the calendar. Dates: the contracts of the package date's Leap, length, begin, Of, Parts and AddMonths. Conditions: days and years of the calendar. Dates: the contracts of Parts outside the calendar and of AddMonths. Conditions: none on the machine integers. -/
import Derived.Test.YticfdeaphiifeaaGreatDoorDd
set_option maxHeartbeats 4000000
set_option maxRecDepth 100000
namespace Go.Proofs.YticfdeaphiifeaaGreatDoor
open Go.RowKit Go.Shelf Dec
theorem results_tmp4 {fn : Func} {t u v x : Tmp} (h : fn.results = #[.tmp t, .tmp u, .tmp v, .tmp x]) (tmps : Array Value) (P : Program) (w : World) :
  (results fn tmps).run P w = .ok (.tuple #[tmps.getD t undef, tmps.getD u undef, tmps.getD v undef, tmps.getD x undef]) w := by
 simp [results, h]
theorem leap_any (y : Nat) : Ret 260 #[.int .i64 (y : Int)] (.bool (leapN y)) := by
  intro w hg
  have hs := St.refl hg
  have e : leapN y = ((y % 4 == 0 && !(y % 100 == 0)) || y % 400 == 0) := rfl
  obtain ⟨t1, h1⟩ : ∃ t, (y % 4 == 0) = t := ⟨_, rfl⟩
  obtain ⟨t2, h2⟩ : ∃ t, (y % 100 == 0) = t := ⟨_, rfl⟩
  obtain ⟨t3, h3⟩ : ∃ t, (y % 400 == 0) = t := ⟨_, rfl⟩
  rw [e, h1, h2, h3]
  have q1 : ((y : Int) % 4 == 0) = t1 := by rw [← h1, Bool.eq_iff_iff]; simp; omega
  have q2 : ((y : Int) % 100 != 0) = !t2 := by rw [← h2, Bool.eq_iff_iff]; simp; omega
  have q2' : ((y : Int) % 100 == 0) = t2 := by rw [← h2, Bool.eq_iff_iff]; simp; omega
  have q3 : ((y : Int) % 400 == 0) = t3 := by rw [← h3, Bool.eq_iff_iff]; simp; omega
  clear e h1 h2 h3
  cases t1 <;> cases t2 <;> cases t3 <;>
    (go_enter Tryz.func260, Tryz.ntmps260
     go_wp2_with fail
     go_ret
     exact ⟨rfl, hs.2⟩)
theorem begin_any (y : Nat) (h1 : 1900 ≤ y) (h2 : y ≤ 2200) : Ret 269 #[.int .i64 (y : Int)] (.int .i64 (beginN y : Nat)) := by
 intro w hg
 have hs := St.refl hg
 have e : ((beginN y : Nat) : Int) = 365 * ((y : Int) - 1900) + (((y : Int) - 1) / 4 - ((y : Int) - 1) / 100 + ((y : Int) - 1) / 400) - 460 := by unfold beginN; omega
 rw [e]
 clear e
 go_enter Tryz.func269, Tryz.ntmps269
 go_wp2_with fail
 go_ret
 exact ⟨rfl, hs.2⟩
end Go.Proofs.YticfdeaphiifeaaGreatDoor
namespace Go.Proofs.YticfdeaphiifeaaGreatDoor
open Go.RowKit Go.Shelf Dec
theorem length_feb (y : Nat) : Ret 270 #[.int .i64 (y : Int), .int .i64 2] (.int .i64 (lenN y 2 : Nat)) := by
 intro w hg
 have hs := St.refl hg
 have K1 := leap_any y
 ·skip
  cases hl : leapN y with
  | true =>
   have e : lenN y 2 = 29 := by simp [lenN, hl]
   rw [e]
   rw [hl] at K1
   clear e hl
   go_enter Tryz.func270, Tryz.ntmps270
   go_wp2_with fail
   refine K1.step (hs.alloc _) ?_
   intro w1 hs hb
   go_wp2_with fail
   go_ret
   exact ⟨rfl, hs.2⟩
  | false =>
   have e : lenN y 2 = 28 := by simp [lenN, hl]
   rw [e]
   rw [hl] at K1
   clear e hl
   go_enter Tryz.func270, Tryz.ntmps270
   go_wp2_with fail
   refine K1.step (hs.alloc _) ?_
   intro w1 hs hb
   have B := (Bx.new w #[.int .i64 31, .int .i64 28, .int .i64 31, .int .i64 30, .int .i64 31, .int .i64 30, .int .i64 31, .int .i64 31, .int .i64 30, .int .i64 31, .int .i64 30, .int .i64 31] 283).on hb
   have x1 := B.cell (i := 1) (v := .int .i64 28) rfl
   go_wp2_with fail
   go_ret
   exact ⟨rfl, hs.2⟩
theorem length_other (y m : Nat) (h1 : 1 ≤ m) (h2 : m ≤ 12) (hm : m ≠ 2) : Ret 270 #[.int .i64 (y : Int), .int .i64 (m : Int)] (.int .i64 (lenN y m : Nat)) := by
 intro w hg
 have hs := St.refl hg
 have e : lenN y m = [0, 31, 28, 31, 30, 31, 30, 31, 31, 30, 31, 30, 31].getD m 0 := by unfold lenN; rw [if_neg (fun h => hm h.1)]
 rw [e]
 clear e
 obtain ⟨k, rfl⟩ : ∃ k, m = k + 1 := ⟨m - 1, by omega⟩
 have q : ((k : Int) + 1 == 2) = false := by simp; omega
 have ek : (k : Int) + 1 - 1 = (k : Int) := by omega
 have hk : k < 12 := by omega
 clear h1 h2 hm
 go_enter Tryz.func270, Tryz.ntmps270
 go_wp2_with fail
 go_ret
 refine ⟨?_, (hs.alloc _).2⟩
 clear ek q
 match k, hk with
 | 0, _ | 1, _ | 2, _ | 3, _ | 4, _ | 5, _ | 6, _ | 7, _ | 8, _ | 9, _ | 10, _ | 11, _ => rfl
theorem length_any (y m : Nat) (h1 : 1 ≤ m) (h2 : m ≤ 12) : Ret 270 #[.int .i64 (y : Int), .int .i64 (m : Int)] (.int .i64 (lenN y m : Nat)) := by
 by_cases hm : m = 2
 ·subst hm; exact length_feb y
 ·exact length_other y m h1 h2 hm
end Go.Proofs.YticfdeaphiifeaaGreatDoor
namespace Go.Proofs.YticfdeaphiifeaaGreatDoor
open Go.RowKit Go.Shelf Dec
theorem of_ok {n y m d : Nat} (h : IsDate n y m d) : Ret 261 #[.int .i64 (y : Int), .int .i64 (m : Int), .int .i64 (d : Int)] (.tuple #[.int .i64 ((n : Int) - 25567), .int .i64 0]) := by
 intro w hg
 have hs := St.refl hg
 have K1 := length_any y m h.m0 h.m1
 have K2 := begin_any y h.y0 (by have := h.y1; omega)
 have H := Lib.hid h
 have y0 := h.y0
 have y1 := h.y1
 have m0 := h.m0
 have m1 := h.m1
 have d0 := h.d0
 have d1 := h.d1
 have hd31 : d ≤ 31 := by have := lenN_cases (y := y) m0 m1; omega
 have hbn : beginN y ≤ 109573 := by rw [← begin_end]; exact begin_mono y0 (by omega)
 clear h
 have q1 : decide ((y : Int) < 1900) = false := decide_eq_false (by omega)
 have q2 : decide ((2199 : Int) < (y : Int)) = false := decide_eq_false (by omega)
 have q3 : decide ((m : Int) < 1) = false := decide_eq_false (by omega)
 have q4 : decide ((12 : Int) < (m : Int)) = false := decide_eq_false (by omega)
 have q5 : decide ((d : Int) < 1) = false := decide_eq_false (by omega)
 have q6 : decide ((lenN y m : Int) < (d : Int)) = false := decide_eq_false (by omega)
 go_enter Tryz.func261, Tryz.ntmps261
 go_wp2_with fail
 refine K1.step hs ?_
 intro w1 hs _
 go_wp2_with fail
 refine K2.step hs ?_
 intro w2 hs _
 go_wp2_with fail
 go_loopw [9, 8] (fun s t wr => ∃ k r : Nat, 1 ≤ k ∧ k ≤ m ∧ s = .int .i64 (k : Int) ∧ t = .int .i64 (r : Int) ∧ St w wr ∧ r ≤ 200000 ∧ Hid (r + 1 = beginN y + cumN y k + d)) (fun s _ _ => (m - intOf s).toNat)
 case atStart => exact ⟨1, beginN y + d - 1, by omega, by omega, rfl, by go_num, hs, by omega, by show _ = _; rw [cum_zero]; omega⟩
 case round =>
  obtain ⟨k, r, hk0, hk1, rfl, rfl, hs, hr, HR⟩ := hrel
  by_cases hkm : k = m
  ·subst hkm
   have e : Hid ((n : Int) - 25567 = -25567 + (r : Int)) := by have h1 := HR.out; have h2 := H.out.at_; show _ = _; omega
   have q : decide ((k : Int) < (k : Int)) = false := decide_eq_false (by omega)
   go_wp2_with fail
   go_ret2
   exact ⟨by rw [e.out]; rfl, hs.2⟩
  ·have q : decide ((k : Int) < (m : Int)) = true := decide_eq_true (by omega)
   have K3 := length_any y k hk0 (by omega)
   have hl : lenN y k ≤ 31 := (lenN_cases hk0 (by omega)).2
   have hr2 : r ≤ 110000 := by
    have h1 := HR.out
    have h2 := cum_mono (y := y) (m := k) (k := 13) (by omega)
    have h3 := ylen_ge y
    rw [cum_end] at h2
    omega
   have HR2 : Hid (r + lenN y k + 1 = beginN y + cumN y (k + 1) + d) := by have h1 := HR.out; show _ = _; rw [cum_next]; omega
   go_wp2_with fail
   refine K3.step hs ?_
   intro w3 hs _
   go_wp2_with fail
   go_roundw
   case rel => exact ⟨k + 1, r + lenN y k, by omega, by omega, by go_num, by go_num, hs, by omega, HR2.out⟩
   case measure => simp [intOf]; omega
end Go.Proofs.YticfdeaphiifeaaGreatDoor
namespace Go.Proofs.YticfdeaphiifeaaGreatDoor
open Go.RowKit Go.Shelf Dec
theorem valid_any (D : Int) : Ret 268 #[.int .i64 D] (.bool (!notDay D)) := by
  intro w hg
  have hs := St.refl hg
  unfold notDay
  have q1 : decide (-25567 ≤ D) = !decide (D < -25567) := by rw [Bool.eq_iff_iff]; simp
  have q2 : decide (D ≤ 84005) = !decide (84005 < D) := by rw [Bool.eq_iff_iff]; simp
  generalize decide (D < -25567) = t1 at *
  generalize decide (84005 < D) = t2 at *
  cases t1 <;> cases t2 <;>
    (go_enter Tryz.func268, Tryz.ntmps268
     go_wp2_with fail
     go_ret
     exact ⟨rfl, hs.2⟩)
theorem parts_ok {D : Int} {n : Nat} (h : IsDay D n) : Ret 259 #[.int .i64 D] (.tuple #[.int .i64 (yN n : Nat), .int .i64 (mN n : Nat), .int .i64 (dN n : Nat), .int .i64 0]) := by
 intro w hg
 have hs := St.refl hg
 have K1 := valid_any D
 have hv : notDay D = false := h.not
 rw [hv] at K1
 clear hv
 have HD := Lib.hid (date_spec h.2)
 have hn := h.2
 have y0 := HD.out.y0
 have y1 := HD.out.y1
 have HY := Lib.hid HD.out.in_year
 have e1 : D - -25567 = (n : Int) := by have := h.1; omega
 have b1 : -25567 ≤ D := by have := h.1; omega
 have b2 : D ≤ 84005 := by have := h.1; omega
 clear h
 generalize yN n = y at *
 generalize mN n = m at *
 generalize dN n = d at *
 go_enter Tryz.func259, Tryz.ntmps259
 go_wp2_with fail
 refine K1.step hs ?_
 intro w1 hs _
 go_wp2_with fail
 go_loopw [7] (fun s wr => ∃ k : Nat, s = .int .i64 (k : Int) ∧ 1900 ≤ k ∧ k ≤ y ∧ St w wr ∧ Hid (beginN k ≤ n)) (fun s _ => (y - intOf s).toNat)
 case atStart =>
  have hb := begin_le (n / 366) (by omega)
  refine ⟨1900 + n / 366, by go_num, by omega, ?_, hs, by show _ ≤ _; omega⟩
  have h2 := HY.out.2
  rcases Nat.lt_or_ge y (1900 + n / 366) with hh | hh
  ·have := begin_mono (y := y + 1) (z := 1900 + n / 366) (by omega) (by omega); omega
  ·exact hh
 case round =>
  obtain ⟨k, rfl, hk0, hk1, hs, HB⟩ := hrel
  have K2 := begin_any (k + 1) (by omega) (by omega)
  have hbk : beginN (k + 1) ≤ 109573 := by rw [← begin_end]; exact begin_mono (by omega) (by omega)
  by_cases hky : k = y
  ·subst hky
   have q : decide ((beginN (k + 1) : Int) ≤ (n : Int)) = false := decide_eq_false (by have := HY.out.2; omega)
   have K3 := begin_any k hk0 (by omega)
   have hbn : beginN k ≤ 109573 := by rw [← begin_end]; exact begin_mono hk0 (by omega)
   obtain ⟨r, hr⟩ : ∃ r : Nat, n = beginN k + r := ⟨n - beginN k, by have := HB.out; omega⟩
   have e2 : (n : Int) - (beginN k : Int) = (r : Int) := by omega
   have hr2 : r ≤ 366 := by have h1 := HY.out.2; have h2 := ylen_ge k; rw [begin_next hk0] at h1; omega
   have HR := Lib.hid hr
   clear hr
   generalize beginN (k + 1) = g1 at *
   obtain ⟨g0, hg0⟩ : ∃ g0, beginN k = g0 := ⟨_, rfl⟩
   have HG0 := Lib.hid hg0
   rw [hg0] at K3 hbn e2
   clear hg0
   have qn : decide (g1 ≤ n) = false := by simpa using q
   go_wp2_with fail
   refine K2.step hs ?_
   intro w2 hs _
   go_wp2_with fail
   refine K3.step hs ?_
   intro w3 hs _
   go_wp2_with fail
   clear e1 e2
   go_loopw [6, 8] (fun s t wx => ∃ j u : Nat, s = .int .i64 (u : Int) ∧ t = .int .i64 (j : Int) ∧ 1 ≤ j ∧ j ≤ m ∧ u ≤ 366 ∧ St w wx ∧ Hid (u + cumN k j = r)) (fun _ t _ => (m - intOf t).toNat)
   case atStart => exact ⟨1, r, rfl, rfl, by omega, HD.out.m0, hr2, hs, by show _ = _; rw [cum_zero]; omega⟩
   case round =>
    obtain ⟨j, u, rfl, rfl, hj0, hj1, hu, hs, HU⟩ := hrel
    have m1 := HD.out.m1
    have K4 := length_any k j hj0 (by omega)
    have hl : lenN k j ≤ 31 := (lenN_cases hj0 (by omega)).2
    by_cases hjm : j = m
    ·subst hjm
     have h1 := HD.out.at_
     have h2 := HD.out.d1
     have h3 := HD.out.d0
     have q2 : decide ((lenN k j : Int) ≤ (u : Int)) = false := decide_eq_false (by have h4 := HU.out; have h5 := HR.out; have h7 := HG0.out; omega)
     have e3 : Hid ((d : Int) = (u : Int) + 1) := by have h4 := HU.out; have h5 := HR.out; have h7 := HG0.out; show _ = _; omega
     clear h1 h2 h3
     generalize lenN k j = L at *
     have qn : decide (L ≤ u) = false := by simpa using q2
     go_wp2_with fail
     refine K4.step hs ?_
     intro w4 hs _
     go_wp2_with fail
     (try simp only [Exit.inBlock, Exit.then])
     refine bodyPost_ret (results_tmp4 rfl _ _ _) rfl ?_
     exact ⟨by rw [e3.out]; rfl, hs.2⟩
    ·have hle : lenN k j ≤ u := by
      have h1 := HD.out.at_
      have h3 := HD.out.d0
      have h4 := HU.out
      have h5 := HR.out
      have h7 := HG0.out
      have h6 := cum_mono (y := k) (m := j + 1) (k := m) (by omega)
      rw [cum_next] at h6
      omega
     have q2 : decide ((lenN k j : Int) ≤ (u : Int)) = true := decide_eq_true (by omega)
     have HU2 : Hid (u - lenN k j + cumN k (j + 1) = r) := by have h4 := HU.out; show _ = _; rw [cum_next]; omega
     generalize lenN k j = L at *
     have qn : decide (L ≤ u) = true := decide_eq_true hle
     go_wp2_with fail
     refine K4.step hs ?_
     intro w4 hs _
     go_wp2_with fail
     refine K4.step hs ?_
     intro w5 hs _
     go_wp2_with fail
     go_roundw
     case rel => exact ⟨j + 1, u - L, by go_num, by go_num, by omega, by omega, by omega, hs, HU2.out⟩
     case measure => simp [intOf]; omega
  ·have hle : beginN (k + 1) ≤ n := by have h1 := begin_mono (y := k + 1) (z := y) (by omega) (by omega); have h2 := HY.out.1; omega
   have q : decide ((beginN (k + 1) : Int) ≤ (n : Int)) = true := decide_eq_true (by omega)
   obtain ⟨g1, hg1⟩ : ∃ g1, beginN (k + 1) = g1 := ⟨_, rfl⟩
   have HLE : Hid (beginN (k + 1) ≤ n) := hle
   rw [hg1] at q K2 hle hbk
   clear hg1
   have qn : decide (g1 ≤ n) = true := decide_eq_true hle
   go_wp2_with fail
   refine K2.step hs ?_
   intro w2 hs _
   go_wp2_with fail
   go_roundw
   case rel => exact ⟨k + 1, by go_num, by omega, by omega, hs, HLE.out⟩
   case measure => simp [intOf]; omega
end Go.Proofs.YticfdeaphiifeaaGreatDoor
namespace Go.Proofs.YticfdeaphiifeaaGreatDoor
open Go.RowKit Go.Shelf Dec
end Go.Proofs.YticfdeaphiifeaaGreatDoor
