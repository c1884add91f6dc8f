/- Dates, the reference: Leap, Length, Check, Parts, Of. No condition but that days and months are such. Parts of years, the reference: valid, check, Days. No condition. Parts of years, the reference: ratio and Fraction. No condition. -/
import Derived.Test.YticfdeaphiifeaaGreatDoorDh
import Derived.Test.YticfdeaphiifeaaGreatDoorRf2
set_option maxHeartbeats 4000000
set_option maxRecDepth 100000
namespace Go.Proofs.YticfdeaphiifeaaGreatDoor
open Go.RowKit Go.Shelf Dec
theorem rleap_any (y : Nat) : Ret 194 #[.int .i64 (y : Int)] (.bool (leapN y)) := by
  intro w hg
  have hs := St.refl hg
  have e : leapN y = ((y % 4 == 0 && !(y % 100 == 0)) || y % 400 == 0) := rfl
  have e2 : (y % 4 == 0 && ((!(y % 100 == 0)) || y % 400 == 0)) = leapN y := by
    rw [leapN_eq, Bool.eq_iff_iff]
    simp
    omega
  rw [← e2]
  clear e
  obtain ⟨t1, h1⟩ : ∃ t, (y % 4 == 0) = t := ⟨_, rfl⟩
  obtain ⟨t2, h2⟩ : ∃ t, (y % 100 == 0) = t := ⟨_, rfl⟩
  obtain ⟨t3, h3⟩ : ∃ t, (y % 400 == 0) = t := ⟨_, rfl⟩
  rw [h1, h2, h3]
  have q1 : ((y : Int) % 4 == 0) = t1 := by rw [← h1, Bool.eq_iff_iff]; simp; omega
  have q2 : ((y : Int) % 100 != 0) = !t2 := by rw [← h2, Bool.eq_iff_iff]; simp; omega
  have q2' : ((y : Int) % 100 == 0) = t2 := by rw [← h2, Bool.eq_iff_iff]; simp; omega
  have q3 : ((y : Int) % 400 == 0) = t3 := by rw [← h3, Bool.eq_iff_iff]; simp; omega
  clear e2 h1 h2 h3
  cases t1 <;> cases t2 <;> cases t3 <;>
    (go_enter Tryz.func194, Tryz.ntmps194
     go_wp2_with fail
     go_ret
     exact ⟨rfl, hs.2⟩)
theorem rlen_any {y m : Nat} (h1 : 1 ≤ m) (h2 : m ≤ 12) : Ret 228 #[.int .i64 (y : Int), .int .i64 (m : Int)] (.int .i64 (lenN y m : Nat)) := by
 intro w hg
 have hs := St.refl hg
 have K1 := rleap_any y
 have hm : m = 1 ∨ m = 2 ∨ m = 3 ∨ m = 4 ∨ m = 5 ∨ m = 6 ∨ m = 7 ∨ m = 8 ∨ m = 9 ∨ m = 10 ∨ m = 11 ∨ m = 12 := by omega
 have e2 : lenN y 2 = if leapN y = true then 29 else 28 := by unfold lenN; cases leapN y <;> rfl
 generalize hlp : leapN y = lp at *
 rcases hm with rfl | rfl | rfl | rfl | rfl | rfl | rfl | rfl | rfl | rfl | rfl | rfl
 ·rw [show lenN y 1 = 31 from if_neg (by omega)]
  clear e2 hlp h1 h2 K1
  go_enter Tryz.func228, Tryz.ntmps228
  go_wp2_with fail
  go_ret
  exact ⟨rfl, hs.2⟩
 ·rw [e2]
  clear e2 hlp h1 h2
  cases lp
  ·rw [if_neg (by decide)]
   go_enter Tryz.func228, Tryz.ntmps228
   go_wp2_with fail
   refine K1.step hs ?_
   intro w1 hs _
   go_wp2_with fail
   go_ret
   exact ⟨rfl, hs.2⟩
  ·rw [if_pos rfl]
   go_enter Tryz.func228, Tryz.ntmps228
   go_wp2_with fail
   refine K1.step hs ?_
   intro w1 hs _
   go_wp2_with fail
   go_ret
   exact ⟨rfl, hs.2⟩
 ·rw [show lenN y 3 = 31 from if_neg (by omega)]
  clear e2 hlp h1 h2 K1
  go_enter Tryz.func228, Tryz.ntmps228
  go_wp2_with fail
  go_ret
  exact ⟨rfl, hs.2⟩
 ·rw [show lenN y 4 = 30 from if_neg (by omega)]
  clear e2 hlp h1 h2 K1
  go_enter Tryz.func228, Tryz.ntmps228
  go_wp2_with fail
  go_ret
  exact ⟨rfl, hs.2⟩
 ·rw [show lenN y 5 = 31 from if_neg (by omega)]
  clear e2 hlp h1 h2 K1
  go_enter Tryz.func228, Tryz.ntmps228
  go_wp2_with fail
  go_ret
  exact ⟨rfl, hs.2⟩
 ·rw [show lenN y 6 = 30 from if_neg (by omega)]
  clear e2 hlp h1 h2 K1
  go_enter Tryz.func228, Tryz.ntmps228
  go_wp2_with fail
  go_ret
  exact ⟨rfl, hs.2⟩
 ·rw [show lenN y 7 = 31 from if_neg (by omega)]
  clear e2 hlp h1 h2 K1
  go_enter Tryz.func228, Tryz.ntmps228
  go_wp2_with fail
  go_ret
  exact ⟨rfl, hs.2⟩
 ·rw [show lenN y 8 = 31 from if_neg (by omega)]
  clear e2 hlp h1 h2 K1
  go_enter Tryz.func228, Tryz.ntmps228
  go_wp2_with fail
  go_ret
  exact ⟨rfl, hs.2⟩
 ·rw [show lenN y 9 = 30 from if_neg (by omega)]
  clear e2 hlp h1 h2 K1
  go_enter Tryz.func228, Tryz.ntmps228
  go_wp2_with fail
  go_ret
  exact ⟨rfl, hs.2⟩
 ·rw [show lenN y 10 = 31 from if_neg (by omega)]
  clear e2 hlp h1 h2 K1
  go_enter Tryz.func228, Tryz.ntmps228
  go_wp2_with fail
  go_ret
  exact ⟨rfl, hs.2⟩
 ·rw [show lenN y 11 = 30 from if_neg (by omega)]
  clear e2 hlp h1 h2 K1
  go_enter Tryz.func228, Tryz.ntmps228
  go_wp2_with fail
  go_ret
  exact ⟨rfl, hs.2⟩
 ·rw [show lenN y 12 = 31 from if_neg (by omega)]
  clear e2 hlp h1 h2 K1
  go_enter Tryz.func228, Tryz.ntmps228
  go_wp2_with fail
  go_ret
  exact ⟨rfl, hs.2⟩
theorem rdcheck_any (D : Int) : Ret 123 #[.int .i64 D] (.int .i64 (if notDay D = true then 13 else 0)) := by
 intro w hg
 have hs := St.refl hg
 unfold notDay
 obtain ⟨t1, q1⟩ : ∃ t, decide (D < -25567) = t := ⟨_, rfl⟩
 obtain ⟨t2, q2⟩ : ∃ t, decide (84005 < D) = t := ⟨_, rfl⟩
 rw [q1, q2]
 cases t1 <;> cases t2
 ·rw [if_neg (by decide)]
  go_enter Tryz.func123, Tryz.ntmps123
  go_wp2_with fail
  go_ret
  exact ⟨rfl, hs.2⟩
 all_goals
  rw [if_pos (by decide)]
  go_enter Tryz.func123, Tryz.ntmps123
  go_wp2_with fail
  go_ret
  exact ⟨rfl, hs.2⟩
theorem rparts06_ok {D : Int} {n : Nat} (h : IsDay D n) : Ret 193 #[.int .i64 D] (.tuple #[.int .i64 (yN n : Nat), .int .i64 (mN n : Nat), .int .i64 (dN n : Nat), .int .i64 0]) := by
 intro w hg
 have hs := St.refl hg
 have K1 := rdcheck_any D
 rw [if_neg (by rw [h.not]; decide)] at K1
 have HD := Lib.hid (date_spec h.2)
 have hn := h.2
 have hD : D - -25567 = (n : Int) := by have := h.1; omega
 have hD0 : -25567 ≤ D := by have := h.1; omega
 have hD1 : D ≤ 84005 := by have := h.1; omega
 have HB : Hid (∀ y r : Nat, 1900 ≤ y → y ≤ 2199 → beginN y + r = n → (r < ylen y → y = yN n) ∧ (¬ r < ylen y → y + 1 ≤ 2199 ∧ beginN (y + 1) + (r - ylen y) = n)) := fun y r h1 h2 he => by
  obtain ⟨s1, s2, s3, s4⟩ := year_spec hn
  refine ⟨fun hr => year_unique h1 s3 (by omega) (by rw [begin_next h1]; omega) s1 s2, fun hr => ?_⟩
  have hb := begin_next h1
  refine ⟨?_, by omega⟩
  refine Decidable.byContradiction fun hc => ?_
  have : y = 2199 := by omega
  subst this
  rw [begin_end] at hb
  omega
 have HM : Hid (∀ m r : Nat, 1 ≤ m → m ≤ 12 → beginN (yN n) + (cumN (yN n) m + r) = n → (r < lenN (yN n) m → m = mN n ∧ r + 1 = dN n) ∧ (¬ r < lenN (yN n) m → m + 1 ≤ 12 ∧ beginN (yN n) + (cumN (yN n) (m + 1) + (r - lenN (yN n) m)) = n)) := fun m r h1 h2 he => by
  obtain ⟨s1, s2, s3, s4⟩ := year_spec hn
  refine ⟨fun hr => ?_, fun hr => ?_⟩
  ·have hd : IsDate n (yN n) m (r + 1) := ⟨s3, s4, h1, h2, by omega, by omega, by omega⟩
   have := hd.fns
   exact ⟨this.2.1.symm, this.2.2.symm⟩
  ·have hc := cum_next (yN n) m
   refine ⟨?_, by omega⟩
   refine Decidable.byContradiction fun hcc => ?_
   have : m = 12 := by omega
   subst this
   rw [cum_end] at hc
   rw [begin_next s3] at s2
   omega
 have HY : Hid (1900 ≤ yN n ∧ yN n ≤ 2199) := ⟨HD.out.y0, HD.out.y1⟩
 have HBE : Hid (beginN 1900 = 0) := begin_first
 clear h
 generalize yN n = Y at *
 generalize mN n = M at *
 generalize dN n = DD at *
 go_enter Tryz.func193, Tryz.ntmps193
 go_wp2_with fail
 refine K1.step hs ?_
 intro w1 hs _
 go_wp2_with fail
 go_loopw [6, 7] (fun a b wr => ∃ y r : Nat, a = .int .i64 (r : Int) ∧ b = .int .i64 (y : Int) ∧ 1900 ≤ y ∧ y ≤ 2199 ∧ r ≤ 109573 ∧ St w wr ∧ Hid (beginN y + r = n)) (fun _ b _ => (2200 - intOf b).toNat)
 case atStart => exact ⟨1900, n, rfl, rfl, by omega, by omega, by omega, hs, by show _ = _; rw [HBE.out]; omega⟩
 case round =>
  obtain ⟨y, r, rfl, rfl, h1, h2, hr0, hs, HI⟩ := hrel
  have K2 := rleap_any y
  have HYL : Hid (ylen y = if leapN y = true then 366 else 365) := rfl
  generalize leapN y = lp at *
  cases lp with
  | false =>
   replace HYL : Hid (ylen y = 365) := HYL.out.trans (if_neg (by decide))
   by_cases hr : r < 365
   ·have qr : decide ((r : Int) < 365) = true := decide_eq_true (by omega)
    have qrn : decide (r < 365) = true := decide_eq_true hr
    have hy := (HB.out y r h1 h2 HI.out).1 (by rw [HYL.out]; exact hr)
    subst hy
    have HI2 : Hid (beginN y + (cumN y 1 + r) = n) := by have := HI.out; have := cum_zero y; show _ = _; omega
    have hr66 : r ≤ 366 := by omega
    clear HB HBE hr HI HYL
    go_wp2_with fail
    refine K2.step hs ?_
    intro w2 hs _
    go_wp2_with fail
    go_loopw [6, 8] (fun a b wr => ∃ m r : Nat, a = .int .i64 (r : Int) ∧ b = .int .i64 (m : Int) ∧ 1 ≤ m ∧ m ≤ 12 ∧ r ≤ 366 ∧ St w wr ∧ Hid (beginN y + (cumN y m + r) = n)) (fun _ b _ => (13 - intOf b).toNat)
    case atStart => exact ⟨1, r, rfl, rfl, by omega, by omega, hr66, hs, HI2⟩
    case round =>
     obtain ⟨m, r, rfl, rfl, m1, m2, hr6, hs, HI⟩ := hrel
     have K3 := rlen_any (y := y) m1 m2
     have hlc := lenN_cases (y := y) m1 m2
     have HMM := Lib.hid (HM.out m r m1 m2 HI.out)
     obtain ⟨L, hL⟩ : ∃ L, lenN y m = L := ⟨_, rfl⟩
     rw [hL] at K3 hlc HMM
     clear hL
     by_cases hr : r < L
     ·have q : decide ((L : Int) ≤ (r : Int)) = false := decide_eq_false (by omega)
      have qn : decide (L ≤ r) = false := decide_eq_false (by omega)
      obtain ⟨e1, e2⟩ := HMM.out.1 hr
      subst e1
      have HDE : Hid (DD = r + 1) := e2.symm
      clear e2 HMM HM HI hr
      go_wp2_with fail
      refine K3.step hs ?_
      intro w3 hs _
      go_wp2_with fail
      (try simp only [Exit.inBlock, Exit.then])
      refine bodyPost_ret (results_tmp4 rfl _ _ _) rfl ?_
      exact ⟨by rw [HDE.out]; rfl, hs.2⟩
     ·have q : decide ((L : Int) ≤ (r : Int)) = true := decide_eq_true (by omega)
      have qn : decide (L ≤ r) = true := decide_eq_true (by omega)
      obtain ⟨e1, e2⟩ := HMM.out.2 hr
      have HI3 := Lib.hid e2
      have hle : L ≤ r := by omega
      clear e2 HMM hr
      go_wp2_with fail
      refine K3.step hs ?_
      intro w3 hs _
      go_wp2_with fail
      refine K3.step hs ?_
      intro w4 hs _
      go_wp2_with fail
      go_roundw
      case rel => exact ⟨m + 1, r - L, by go_num, by go_num, by omega, e1, by omega, hs, HI3⟩
      case measure => simp [intOf]; omega
   ·have qr : decide ((r : Int) < 365) = false := decide_eq_false (by omega)
    have qrn : decide (r < 365) = false := decide_eq_false hr
    obtain ⟨e1, e2⟩ := (HB.out y r h1 h2 HI.out).2 (by rw [HYL.out]; exact hr)
    rw [HYL.out] at e2
    have HI3 := Lib.hid e2
    clear e2 HYL
    go_wp2_with fail
    refine K2.step hs ?_
    intro w2 hs _
    go_wp2_with fail
    go_roundw
    case rel => exact ⟨y + 1, r - 365, by go_num, by go_num, by omega, e1, by omega, hs, HI3⟩
    case measure => simp [intOf]; omega
  | true =>
   replace HYL : Hid (ylen y = 366) := HYL.out.trans (if_pos rfl)
   by_cases hr : r < 366
   ·have qr : decide ((r : Int) < 366) = true := decide_eq_true (by omega)
    have qrn : decide (r < 366) = true := decide_eq_true hr
    have hy := (HB.out y r h1 h2 HI.out).1 (by rw [HYL.out]; exact hr)
    subst hy
    have HI2 : Hid (beginN y + (cumN y 1 + r) = n) := by have := HI.out; have := cum_zero y; show _ = _; omega
    have hr66 : r ≤ 366 := by omega
    clear HB HBE hr HI HYL
    go_wp2_with fail
    refine K2.step hs ?_
    intro w2 hs _
    go_wp2_with fail
    go_loopw [6, 8] (fun a b wr => ∃ m r : Nat, a = .int .i64 (r : Int) ∧ b = .int .i64 (m : Int) ∧ 1 ≤ m ∧ m ≤ 12 ∧ r ≤ 366 ∧ St w wr ∧ Hid (beginN y + (cumN y m + r) = n)) (fun _ b _ => (13 - intOf b).toNat)
    case atStart => exact ⟨1, r, rfl, rfl, by omega, by omega, hr66, hs, HI2⟩
    case round =>
     obtain ⟨m, r, rfl, rfl, m1, m2, hr6, hs, HI⟩ := hrel
     have K3 := rlen_any (y := y) m1 m2
     have hlc := lenN_cases (y := y) m1 m2
     have HMM := Lib.hid (HM.out m r m1 m2 HI.out)
     obtain ⟨L, hL⟩ : ∃ L, lenN y m = L := ⟨_, rfl⟩
     rw [hL] at K3 hlc HMM
     clear hL
     by_cases hr : r < L
     ·have q : decide ((L : Int) ≤ (r : Int)) = false := decide_eq_false (by omega)
      have qn : decide (L ≤ r) = false := decide_eq_false (by omega)
      obtain ⟨e1, e2⟩ := HMM.out.1 hr
      subst e1
      have HDE : Hid (DD = r + 1) := e2.symm
      clear e2 HMM HM HI hr
      go_wp2_with fail
      refine K3.step hs ?_
      intro w3 hs _
      go_wp2_with fail
      (try simp only [Exit.inBlock, Exit.then])
      refine bodyPost_ret (results_tmp4 rfl _ _ _) rfl ?_
      exact ⟨by rw [HDE.out]; rfl, hs.2⟩
     ·have q : decide ((L : Int) ≤ (r : Int)) = true := decide_eq_true (by omega)
      have qn : decide (L ≤ r) = true := decide_eq_true (by omega)
      obtain ⟨e1, e2⟩ := HMM.out.2 hr
      have HI3 := Lib.hid e2
      have hle : L ≤ r := by omega
      clear e2 HMM hr
      go_wp2_with fail
      refine K3.step hs ?_
      intro w3 hs _
      go_wp2_with fail
      refine K3.step hs ?_
      intro w4 hs _
      go_wp2_with fail
      go_roundw
      case rel => exact ⟨m + 1, r - L, by go_num, by go_num, by omega, e1, by omega, hs, HI3⟩
      case measure => simp [intOf]; omega
   ·have qr : decide ((r : Int) < 366) = false := decide_eq_false (by omega)
    have qrn : decide (r < 366) = false := decide_eq_false hr
    obtain ⟨e1, e2⟩ := (HB.out y r h1 h2 HI.out).2 (by rw [HYL.out]; exact hr)
    rw [HYL.out] at e2
    have HI3 := Lib.hid e2
    clear e2 HYL
    go_wp2_with fail
    refine K2.step hs ?_
    intro w2 hs _
    go_wp2_with fail
    go_roundw
    case rel => exact ⟨y + 1, r - 366, by go_num, by go_num, by omega, e1, by omega, hs, HI3⟩
    case measure => simp [intOf]; omega
theorem rof06_no {y : Nat} (h : 2199 < y) (h9 : y ≤ 1000000) : Ret 195 #[.int .i64 (y : Int), .int .i64 1, .int .i64 1] (.tuple #[.int .i64 0, .int .i64 13]) := by
 intro w hg
 have hs := St.refl hg
 have q1 : decide ((y : Int) < 1900) = false := decide_eq_false (by omega)
 have q1n : decide (y < 1900) = false := decide_eq_false (by omega)
 have q2 : decide ((2199 : Int) < (y : Int)) = true := decide_eq_true (by omega)
 have q2n : decide (2199 < y) = true := decide_eq_true h
 go_enter Tryz.func195, Tryz.ntmps195
 go_wp2_with fail
 go_ret2
 exact ⟨rfl, hs.2⟩
theorem rof06_year {y : Nat} (h : 1900 ≤ y) (h9 : y ≤ 2199) : Ret 195 #[.int .i64 (y : Int), .int .i64 1, .int .i64 1] (.tuple #[.int .i64 ((beginN y : Int) - 25567), .int .i64 0]) := by
 intro w hg
 have hs := St.refl hg
 have q1 : decide ((y : Int) < 1900) = false := decide_eq_false (by omega)
 have q1n : decide (y < 1900) = false := decide_eq_false (by omega)
 have q2 : decide ((2199 : Int) < (y : Int)) = false := decide_eq_false (by omega)
 have q2n : decide (2199 < y) = false := decide_eq_false (by omega)
 have K1 := rlen_any (y := y) (m := 1) (by omega) (by omega)
 rw [show lenN y 1 = 31 from if_neg (by omega)] at K1
 have HB : Hid (∀ z, 1900 ≤ z → beginN (z + 1) = beginN z + ylen z) := fun z hz => begin_next hz
 have HBM : Hid (∀ z, 1900 ≤ z → z ≤ 2200 → beginN z ≤ 109573) := fun z h1 h2 => by have := begin_mono h1 h2; rwa [begin_end] at this
 have HB0 : Hid (((beginN 1900 : Nat) : Int) = 0) := by show _ = _; rw [begin_first]; rfl
 go_enter Tryz.func195, Tryz.ntmps195
 go_wp2_with fail
 refine K1.step hs ?_
 intro w1 hs _
 go_wp2_with fail
 go_loopw [8, 9] (fun a b wr => ∃ z g : Nat, b = .int .i64 (z : Int) ∧ a = .int .i64 ((g : Int) - 25567) ∧ 1900 ≤ z ∧ z ≤ y ∧ g ≤ 109573 ∧ St w wr ∧ Hid (beginN z = g)) (fun _ b _ => (y - intOf b).toNat)
 case atStart => exact ⟨1900, 0, rfl, rfl, by omega, by omega, by omega, hs, begin_first⟩
 case round =>
  obtain ⟨z, g, rfl, rfl, z1, z2, hg1, hs, HI⟩ := hrel
  by_cases hzy : z = y
  ·have q : decide ((z : Int) < (y : Int)) = false := decide_eq_false (by omega)
   have qn : decide (z < y) = false := decide_eq_false (by omega)
   have HGY : Hid (beginN y = g) := by show _ = _; rw [← hzy]; exact HI.out
   clear hzy
   go_wp2_with fail
   go_loopw [8, 10] (fun a s wr => a = .int .i64 ((g : Int) - 25567) ∧ s = .int .i64 1 ∧ St w wr) (fun _ _ _ => 0)
   case atStart => exact ⟨rfl, rfl, hs⟩
   case round =>
    obtain ⟨rfl, rfl, hs⟩ := hrel
    have HGZ := HGY.out
    subst HGZ
    go_wp2_with fail
    go_ret2
    exact ⟨rfl, hs.2⟩
  ·have q : decide ((z : Int) < (y : Int)) = true := decide_eq_true (by omega)
   have qn : decide (z < y) = true := decide_eq_true (by omega)
   have K2 := rleap_any z
   have HN1 := Lib.hid (HB.out z z1)
   have HN2 := Lib.hid (HBM.out (z + 1) (by omega) (by omega))
   have HYL : Hid (ylen z = if leapN z = true then 366 else 365) := rfl
   generalize leapN z = lp at *
   cases lp with
   | false =>
    replace HYL : Hid (ylen z = 365) := HYL.out.trans (if_neg (by decide))
    have hgn : g + 365 ≤ 109573 := by have := HN1.out; have := HN2.out; have := HYL.out; have := HI.out; omega
    go_wp2_with fail
    refine K2.step hs ?_
    intro w2 hs _
    go_wp2_with fail
    go_roundw
    case rel => exact ⟨z + 1, g + 365, by go_num, by rw [show ((g + 365 : Nat) : Int) - 25567 = (g : Int) - 25567 + 365 by omega], by omega, by omega, hgn, hs, by show _ = _; rw [HN1.out, HYL.out, HI.out]⟩
    case measure => simp [intOf]; omega
   | true =>
    replace HYL : Hid (ylen z = 366) := HYL.out.trans (if_pos rfl)
    have hgn : g + 366 ≤ 109573 := by have := HN1.out; have := HN2.out; have := HYL.out; have := HI.out; omega
    go_wp2_with fail
    refine K2.step hs ?_
    intro w2 hs _
    go_wp2_with fail
    go_roundw
    case rel => exact ⟨z + 1, g + 366, by go_num, by rw [show ((g + 366 : Nat) : Int) - 25567 = (g : Int) - 25567 + 365 + 1 by omega], by omega, by omega, hgn, hs, by show _ = _; rw [HN1.out, HYL.out, HI.out]⟩
    case measure => simp [intOf]; omega
end Go.Proofs.YticfdeaphiifeaaGreatDoor
namespace Go.Proofs.YticfdeaphiifeaaGreatDoor
open Go.RowKit Go.Shelf Dec QQ
theorem rvalid_any (D : Int) : Ret 243 #[.int .i64 D] (.bool (!notDay D)) := by
  intro w hg
  have hs := St.refl hg
  unfold notDay
  have q1 : decide (-25567 ≤ D) = !decide (D < -25567) := by rw [Bool.eq_iff_iff]; simp
  have q2 : decide (D ≤ 84005) = !decide (84005 < D) := by rw [Bool.eq_iff_iff]; simp
  generalize decide (D < -25567) = t1 at *
  generalize decide (84005 < D) = t2 at *
  cases t1 <;> cases t2 <;>
    (go_enter Tryz.func243, Tryz.ntmps243
     go_wp2_with fail
     go_ret
     exact ⟨rfl, hs.2⟩)
theorem rcheck08_any (c A B : Int) : Ret 227 #[.int .i64 c, .int .i64 A, .int .i64 B] (.int .i64 (daysR c A B).2) := by
 intro w hg
 have hs := St.refl hg
 have KA := rvalid_any A
 have KB := rvalid_any B
 have e : (daysR c A B).2 = if c < 1 ∨ 5 < c then 2 else if (notDay A || notDay B) = true then 13 else if B < A then 8 else 0 := by
  unfold daysR
  repeat' split
  all_goals rfl
 rw [e]
 clear e
 by_cases h1 : c < 1
 ·have q : decide (c < 1) = true := decide_eq_true h1
  rw [if_pos (.inl h1)]
  clear h1
  go_enter Tryz.func227, Tryz.ntmps227
  go_wp2_with fail
  go_ret
  exact ⟨rfl, hs.2⟩
 ·have q : decide (c < 1) = false := decide_eq_false h1
  by_cases h5 : 5 < c
  ·have q5 : decide (5 < c) = true := decide_eq_true h5
   rw [if_pos (.inr h5)]
   clear h1 h5
   go_enter Tryz.func227, Tryz.ntmps227
   go_wp2_with fail
   go_ret
   exact ⟨rfl, hs.2⟩
  ·have q5 : decide (5 < c) = false := decide_eq_false h5
   rw [if_neg (by omega)]
   clear h1 h5
   obtain ⟨ta, hta⟩ : ∃ t, notDay A = t := ⟨_, rfl⟩
   obtain ⟨tb, htb⟩ : ∃ t, notDay B = t := ⟨_, rfl⟩
   rw [hta] at KA ⊢
   rw [htb] at KB ⊢
   clear hta htb
   cases ta with
   | true =>
    rw [if_pos (by simp)]
    go_enter Tryz.func227, Tryz.ntmps227
    go_wp2_with fail
    refine KA.step hs ?_
    intro w1 hs _
    go_wp2_with fail
    go_ret
    exact ⟨rfl, hs.2⟩
   | false =>
    cases tb with
    | true =>
     rw [if_pos (by simp)]
     go_enter Tryz.func227, Tryz.ntmps227
     go_wp2_with fail
     refine KA.step hs ?_
     intro w1 hs _
     go_wp2_with fail
     refine KB.step hs ?_
     intro w2 hs _
     go_wp2_with fail
     go_ret
     exact ⟨rfl, hs.2⟩
    | false =>
     rw [if_neg (by simp)]
     by_cases hl : B < A
     ·have q6 : decide (B < A) = true := decide_eq_true hl
      rw [if_pos hl]
      clear hl
      go_enter Tryz.func227, Tryz.ntmps227
      go_wp2_with fail
      refine KA.step hs ?_
      intro w1 hs _
      go_wp2_with fail
      refine KB.step hs ?_
      intro w2 hs _
      go_wp2_with fail
      go_ret
      exact ⟨rfl, hs.2⟩
     ·have q6 : decide (B < A) = false := decide_eq_false hl
      rw [if_neg hl]
      clear hl
      go_enter Tryz.func227, Tryz.ntmps227
      go_wp2_with fail
      refine KA.step hs ?_
      intro w1 hs _
      go_wp2_with fail
      refine KB.step hs ?_
      intro w2 hs _
      go_wp2_with fail
      go_ret
      exact ⟨rfl, hs.2⟩
theorem rDays_err {c A B : Int} (h : (daysR c A B).2 ≠ 0) : Ret 191 #[.int .i64 c, .int .i64 A, .int .i64 B] (.tuple #[.int .i64 0, .int .i64 (daysR c A B).2]) := by
 intro w hg
 have hs := St.refl hg
 have K1 := rcheck08_any c A B
 have q : ((daysR c A B).2 != 0) = true := by simpa using h
 generalize (daysR c A B).2 = e at *
 clear h
 go_enter Tryz.func191, Tryz.ntmps191
 go_wp2_with fail
 refine K1.step hs ?_
 intro w1 hs _
 go_wp2_with fail
 go_ret2
 exact ⟨rfl, hs.2⟩
theorem rDays_act {c A B : Int} {n m : Nat} (hA : IsDay A n) (hB : IsDay B m) (h0 : (daysR c A B).2 = 0) (h3 : c ≠ 3) (h4 : c ≠ 4) : Ret 191 #[.int .i64 c, .int .i64 A, .int .i64 B] (.tuple #[.int .i64 ((m : Int) - (n : Int)), .int .i64 0]) := by
 intro w hg
 have hs := St.refl hg
 have K1 := rcheck08_any c A B
 rw [h0] at K1
 have q3 : (c != 3) = true := by simpa using h3
 have q4 : (c != 4) = true := by simpa using h4
 have hD : B - A = (m : Int) - (n : Int) := by have := hA.1; have := hB.1; omega
 have ha0 : -25567 ≤ A := by have := hA.1; omega
 have ha1 : A ≤ 84005 := by have := hA.1; have := hA.2; omega
 have hb0 : -25567 ≤ B := by have := hB.1; omega
 have hb1 : B ≤ 84005 := by have := hB.1; have := hB.2; omega
 have HD := Lib.hid hD
 clear h0 h3 h4 hA hB hD
 go_enter Tryz.func191, Tryz.ntmps191
 go_wp2_with fail
 refine K1.step hs ?_
 intro w1 hs _
 go_wp2_with fail
 go_ret2
 exact ⟨by rw [← HD.out]; rfl, hs.2⟩
theorem rDays_30e {A B : Int} {n m : Nat} (hA : IsDay A n) (hB : IsDay B m) (h0 : (daysR 4 A B).2 = 0) : Ret 191 #[.int .i64 4, .int .i64 A, .int .i64 B] (.tuple #[.int .i64 (eN m - eN n), .int .i64 0]) := by
 intro w hg
 have hs := St.refl hg
 have K1 := rcheck08_any 4 A B
 rw [h0] at K1
 have K2 := rparts06_ok hA
 have K3 := rparts06_ok hB
 have dA := date_spec hA.2
 have dB := date_spec hB.2
 have lA := (lenN_cases (y := yN n) dA.m0 dA.m1).2
 have lB := (lenN_cases (y := yN m) dB.m0 dB.m1).2
 have y1 := dA.y0
 have y1' := dA.y1
 have y2 := dB.y0
 have y2' := dB.y1
 have m1 := dA.m0
 have m1' := dA.m1
 have m2 := dB.m0
 have m2' := dB.m1
 have d1 := dA.d0
 have d1' : dN n ≤ 31 := Nat.le_trans dA.d1 lA
 have d2 := dB.d0
 have d2' : dN m ≤ 31 := Nat.le_trans dB.d1 lB
 obtain ⟨v, hv⟩ : ∃ v, eN m - eN n = v := ⟨_, rfl⟩
 rw [hv]
 have HV := Lib.hid hv
 unfold eN at HV
 clear hv h0 hA hB dA dB lA lB
 generalize yN n = a1 at *
 generalize mN n = a2 at *
 generalize dN n = a3 at *
 generalize yN m = b1 at *
 generalize mN m = b2 at *
 generalize dN m = b3 at *
 by_cases e1 : a3 = 31
 ·subst e1
  by_cases e2 : b3 = 31
  ·subst e2
   have HW : Hid (v = 360 * ((b1 : Int) - a1) + 30 * ((b2 : Int) - a2)) := by have h := HV.out; show _ = _; (first | omega | (split at h <;> omega) | (simp at h; omega) | (rw [if_pos (by omega)] at h; omega) | (rw [if_neg (by omega)] at h; omega))
   clear HV
   go_enter Tryz.func191, Tryz.ntmps191
   go_wp2_with fail
   refine K1.step hs ?_
   intro w1 hs _
   go_wp2_with fail
   refine K2.step hs ?_
   intro w2 hs _
   go_wp2_with fail
   refine K3.step hs ?_
   intro w3 hs _
   go_wp2_with fail
   go_ret2
   exact ⟨by (first | (rw [HW.out]; rfl) | (have h := HW.out; simp; omega)), hs.2⟩
  ·have q2 : ((b3 : Int) == 31) = false := by rw [beq_eq_false_iff_ne]; omega
   have HW : Hid (v = 360 * ((b1 : Int) - a1) + 30 * ((b2 : Int) - a2) + b3 - 30) := by have h := HV.out; show _ = _; (first | omega | (split at h <;> omega) | (simp at h; omega) | (rw [if_pos (by omega)] at h; omega) | (rw [if_neg (by omega)] at h; omega))
   clear HV
   go_enter Tryz.func191, Tryz.ntmps191
   go_wp2_with fail
   refine K1.step hs ?_
   intro w1 hs _
   go_wp2_with fail
   refine K2.step hs ?_
   intro w2 hs _
   go_wp2_with fail
   refine K3.step hs ?_
   intro w3 hs _
   go_wp2_with fail
   go_ret2
   exact ⟨by (first | (rw [HW.out]; rfl) | (have h := HW.out; simp; omega)), hs.2⟩
 ·have q1 : ((a3 : Int) == 31) = false := by rw [beq_eq_false_iff_ne]; omega
  by_cases e2 : b3 = 31
  ·subst e2
   have HW : Hid (v = 360 * ((b1 : Int) - a1) + 30 * ((b2 : Int) - a2) + 30 - a3) := by have h := HV.out; show _ = _; (first | omega | (split at h <;> omega) | (simp at h; omega) | (rw [if_pos (by omega)] at h; omega) | (rw [if_neg (by omega)] at h; omega))
   clear HV
   go_enter Tryz.func191, Tryz.ntmps191
   go_wp2_with fail
   refine K1.step hs ?_
   intro w1 hs _
   go_wp2_with fail
   refine K2.step hs ?_
   intro w2 hs _
   go_wp2_with fail
   refine K3.step hs ?_
   intro w3 hs _
   go_wp2_with fail
   go_ret2
   exact ⟨by (first | (rw [HW.out]; rfl) | (have h := HW.out; simp; omega)), hs.2⟩
  ·have q2 : ((b3 : Int) == 31) = false := by rw [beq_eq_false_iff_ne]; omega
   have HW : Hid (v = 360 * ((b1 : Int) - a1) + 30 * ((b2 : Int) - a2) + b3 - a3) := by have h := HV.out; show _ = _; (first | omega | (split at h <;> omega) | (simp at h; omega) | (rw [if_pos (by omega)] at h; omega) | (rw [if_neg (by omega)] at h; omega))
   clear HV
   go_enter Tryz.func191, Tryz.ntmps191
   go_wp2_with fail
   refine K1.step hs ?_
   intro w1 hs _
   go_wp2_with fail
   refine K2.step hs ?_
   intro w2 hs _
   go_wp2_with fail
   refine K3.step hs ?_
   intro w3 hs _
   go_wp2_with fail
   go_ret2
   exact ⟨by (first | (rw [HW.out]; rfl) | (have h := HW.out; simp; omega)), hs.2⟩
theorem rDays_30 {A B : Int} {n m : Nat} (hA : IsDay A n) (hB : IsDay B m) (h0 : (daysR 3 A B).2 = 0) : Ret 191 #[.int .i64 3, .int .i64 A, .int .i64 B] (.tuple #[.int .i64 (tN n m), .int .i64 0]) := by
 intro w hg
 have hs := St.refl hg
 have K1 := rcheck08_any 3 A B
 rw [h0] at K1
 have K2 := rparts06_ok hA
 have K3 := rparts06_ok hB
 have dA := date_spec hA.2
 have dB := date_spec hB.2
 have lA := (lenN_cases (y := yN n) dA.m0 dA.m1).2
 have lB := (lenN_cases (y := yN m) dB.m0 dB.m1).2
 have y1 := dA.y0
 have y1' := dA.y1
 have y2 := dB.y0
 have y2' := dB.y1
 have m1 := dA.m0
 have m1' := dA.m1
 have m2 := dB.m0
 have m2' := dB.m1
 have d1 := dA.d0
 have d1' : dN n ≤ 31 := Nat.le_trans dA.d1 lA
 have d2 := dB.d0
 have d2' : dN m ≤ 31 := Nat.le_trans dB.d1 lB
 obtain ⟨v, hv⟩ : ∃ v, tN n m = v := ⟨_, rfl⟩
 rw [hv]
 have HV := Lib.hid hv
 unfold tN at HV
 clear hv h0 hA hB dA dB lA lB
 generalize yN n = a1 at *
 generalize mN n = a2 at *
 generalize dN n = a3 at *
 generalize yN m = b1 at *
 generalize mN m = b2 at *
 generalize dN m = b3 at *
 by_cases e1 : a3 = 31
 ·subst e1
  by_cases e2 : b3 = 31
  ·subst e2
   have HW : Hid (v = 360 * ((b1 : Int) - a1) + 30 * ((b2 : Int) - a2)) := by have h := HV.out; show _ = _; (first | omega | (split at h <;> omega) | (simp at h; omega) | (rw [if_pos (by omega)] at h; omega) | (rw [if_neg (by omega)] at h; omega))
   clear HV
   go_enter Tryz.func191, Tryz.ntmps191
   go_wp2_with fail
   refine K1.step hs ?_
   intro w1 hs _
   go_wp2_with fail
   refine K2.step hs ?_
   intro w2 hs _
   go_wp2_with fail
   refine K3.step hs ?_
   intro w3 hs _
   go_wp2_with fail
   go_ret2
   exact ⟨by (first | (rw [HW.out]; rfl) | (have h := HW.out; simp; omega)), hs.2⟩
  ·have q2 : ((b3 : Int) == 31) = false := by rw [beq_eq_false_iff_ne]; omega
   have HW : Hid (v = 360 * ((b1 : Int) - a1) + 30 * ((b2 : Int) - a2) + b3 - 30) := by have h := HV.out; show _ = _; (first | omega | (split at h <;> omega) | (simp at h; omega) | (rw [if_pos (by omega)] at h; omega) | (rw [if_neg (by omega)] at h; omega))
   clear HV
   go_enter Tryz.func191, Tryz.ntmps191
   go_wp2_with fail
   refine K1.step hs ?_
   intro w1 hs _
   go_wp2_with fail
   refine K2.step hs ?_
   intro w2 hs _
   go_wp2_with fail
   refine K3.step hs ?_
   intro w3 hs _
   go_wp2_with fail
   go_ret2
   exact ⟨by (first | (rw [HW.out]; rfl) | (have h := HW.out; simp; omega)), hs.2⟩
 ·have q1 : ((a3 : Int) == 31) = false := by rw [beq_eq_false_iff_ne]; omega
  by_cases e2 : b3 = 31
  ·subst e2
   by_cases e3 : a3 = 30
   ·subst e3
    have HW : Hid (v = 360 * ((b1 : Int) - a1) + 30 * ((b2 : Int) - a2)) := by have h := HV.out; show _ = _; (first | omega | (split at h <;> omega) | (simp at h; omega) | (rw [if_pos (by omega)] at h; omega) | (rw [if_neg (by omega)] at h; omega))
    clear HV
    go_enter Tryz.func191, Tryz.ntmps191
    go_wp2_with fail
    refine K1.step hs ?_
    intro w1 hs _
    go_wp2_with fail
    refine K2.step hs ?_
    intro w2 hs _
    go_wp2_with fail
    refine K3.step hs ?_
    intro w3 hs _
    go_wp2_with fail
    go_ret2
    exact ⟨by (first | (rw [HW.out]; rfl) | (have h := HW.out; simp; omega)), hs.2⟩
   ·have q3 : ((a3 : Int) == 30) = false := by rw [beq_eq_false_iff_ne]; omega
    have HW : Hid (v = 360 * ((b1 : Int) - a1) + 30 * ((b2 : Int) - a2) + 31 - a3) := by have h := HV.out; show _ = _; (first | omega | (split at h <;> omega) | (simp at h; omega) | (rw [if_pos (by omega)] at h; omega) | (rw [if_neg (by omega)] at h; omega))
    clear HV
    go_enter Tryz.func191, Tryz.ntmps191
    go_wp2_with fail
    refine K1.step hs ?_
    intro w1 hs _
    go_wp2_with fail
    refine K2.step hs ?_
    intro w2 hs _
    go_wp2_with fail
    refine K3.step hs ?_
    intro w3 hs _
    go_wp2_with fail
    go_ret2
    exact ⟨by (first | (rw [HW.out]; rfl) | (have h := HW.out; simp; omega)), hs.2⟩
  ·have q2 : ((b3 : Int) == 31) = false := by rw [beq_eq_false_iff_ne]; omega
   have HW : Hid (v = 360 * ((b1 : Int) - a1) + 30 * ((b2 : Int) - a2) + b3 - a3) := by have h := HV.out; show _ = _; (first | omega | (split at h <;> omega) | (simp at h; omega) | (rw [if_pos (by omega)] at h; omega) | (rw [if_neg (by omega)] at h; omega))
   clear HV
   go_enter Tryz.func191, Tryz.ntmps191
   go_wp2_with fail
   refine K1.step hs ?_
   intro w1 hs _
   go_wp2_with fail
   refine K2.step hs ?_
   intro w2 hs _
   go_wp2_with fail
   refine K3.step hs ?_
   intro w3 hs _
   go_wp2_with fail
   go_ret2
   exact ⟨by (first | (rw [HW.out]; rfl) | (have h := HW.out; simp; omega)), hs.2⟩
theorem rDays_any (c A B : Int) : Ret 191 #[.int .i64 c, .int .i64 A, .int .i64 B] (.tuple #[.int .i64 (daysR c A B).1, .int .i64 (daysR c A B).2]) := by
 by_cases h0 : (daysR c A B).2 = 0
 ·have hin : 1 ≤ c ∧ c ≤ 5 ∧ (∃ n, IsDay A n) ∧ (∃ n, IsDay B n) ∧ A ≤ B := by
   have hf : (fracR c A B).2 = 0 := by
    have : (fracR c A B).2 = (daysR c A B).2 := by
     unfold fracR daysR
     by_cases g1 : c < 1 ∨ 5 < c
     ·rw [if_pos g1, if_pos g1]
     ·rw [if_neg g1, if_neg g1]
      by_cases g2 : (notDay A || notDay B) = true
      ·rw [if_pos g2, if_pos g2]
      ·rw [if_neg g2, if_neg g2]
       by_cases g3 : B < A
       ·rw [if_pos g3, if_pos g3]
       ·rw [if_neg g3, if_neg g3]
    rw [this]; exact h0
   obtain ⟨a, b, c, d, e, _⟩ := fracR_ok hf
   exact ⟨a, b, c, d, e⟩
  obtain ⟨c1, c5, ⟨n, hA⟩, ⟨m, hB⟩, hl⟩ := hin
  have e1 : (daysR c A B).1 = daysC c n m := by
   unfold daysR
   rw [if_neg (by omega), hA.not, hB.not, if_neg (by decide), if_neg (by omega), hA.num, hB.num]
  rw [e1, h0]
  unfold daysC
  by_cases h3 : c = 3
  ·subst h3
   rw [if_pos rfl]
   exact rDays_30 hA hB h0
  ·rw [if_neg h3]
   by_cases h4 : c = 4
   ·subst h4
    rw [if_pos rfl]
    exact rDays_30e hA hB h0
   ·rw [if_neg h4]
    exact rDays_act hA hB h0 h3 h4
 ·have e1 : (daysR c A B).1 = 0 := by
   unfold daysR at h0 ⊢
   by_cases g1 : c < 1 ∨ 5 < c
   ·rw [if_pos g1]
   ·rw [if_neg g1] at h0 ⊢
    by_cases g2 : (notDay A || notDay B) = true
    ·rw [if_pos g2]
    ·rw [if_neg g2] at h0 ⊢
     by_cases g3 : B < A
     ·rw [if_pos g3]
     ·rw [if_neg g3] at h0
      exact absurd rfl h0
  rw [e1]
  exact rDays_err h0
end Go.Proofs.YticfdeaphiifeaaGreatDoor
namespace Go.Proofs.YticfdeaphiifeaaGreatDoor
open Go.RowKit Go.Shelf Dec QQ
theorem rofR {n : Int} (h0 : -9223372036854775808 ≤ n) (h1 : n ≤ 9223372036854775807) : Ret 148 #[.int .i64 n] (.string (canS n)) := fun w _ => rof_any n w h0 h1
theorem rratio_any {n d : Int} (hn : n.natAbs < 1000000000) (hd : d.natAbs < 1000000000) (h0 : d ≠ 0) : Ret 192 #[.int .i64 n, .int .i64 d] (FR (rat n d)) := by
 intro w hg
 have hs := St.refl hg
 have K1 := rofR (n := n) (by omega) (by omega)
 have K2 := rofR (n := d) (by omega) (by omega)
 have e9 : (10 : Nat) ^ 9 = 1000000000 := by decide
 have F1 : Fit 9 n := by unfold Fit; omega
 have F2 : Fit 9 d := by unfold Fit; omega
 have K3 := new_r (n := canS n) (d := canS d) (by have := F1.size; omega) (by have := F2.size; omega)
 rw [valS_canS, valS_canS, if_neg h0, if_neg h0] at K3
 clear e9 F1 F2
 unfold FR at K3 ⊢
 generalize canS n = s1 at *
 generalize canS d = s2 at *
 generalize frN (rat n d) = rn at *
 generalize frD (rat n d) = rd at *
 go_enter Tryz.func192, Tryz.ntmps192
 go_wp2_with fail
 refine K1.step (hs.alloc _) ?_
 intro w1 hs hb
 have B0 := (Bx.new w #[.string ⟨#[]⟩, .string ⟨#[]⟩] 34).on hb
 go_wp2_with fail
 refine K2.step hs ?_
 intro w2 hs hb
 have B1 := B0.on hb
 go_wp2_with fail
 refine K3.step hs ?_
 intro w3 hs hb
 have B := (B1.on hb).alloc (.cells #[.string rn, .string rd] 34)
 have hs := hs.alloc (.cells #[.string rn, .string rd] 34)
 have ce0 := B.cell (i := 0) (v := .string ⟨#[]⟩) rfl
 have ce1 := B.cell (i := 1) (v := .string ⟨#[]⟩) rfl
 have cg0 := B.frozen 0
 have cg1 := B.frozen 1
 go_wp2_with fail
 obtain ⟨W, hW, y0, y1, hbe⟩ := ret_frac hs (by omega) B rn rd
 rw [hW]
 exact bodyPost_ret (v := .agg #[.string rn, .string rd]) (by simp [results, Tryz.results192, go_sem, y0, y1]) rfl ⟨rfl, hbe⟩
theorem rFraction_err {c A B : Int} (h : (daysR c A B).2 ≠ 0) : Ret 163 #[.int .i64 c, .int .i64 A, .int .i64 B] (.tuple #[.agg #[.string ⟨#[]⟩, .string ⟨#[]⟩], .int .i64 (daysR c A B).2]) := by
 intro w hg
 have hs := (St.refl hg).alloc (.cells #[.string ⟨#[]⟩, .string ⟨#[]⟩] 34)
 have B0 := Bx.new w #[.string ⟨#[]⟩, .string ⟨#[]⟩] 34
 have K1 := rDays_any c A B
 have q : ((daysR c A B).2 != 0) = true := by simpa using h
 generalize (daysR c A B).2 = e at *
 generalize (daysR c A B).1 = d at *
 clear h
 go_enter Tryz.func163, Tryz.ntmps163
 go_wp2_with fail
 refine K1.step hs ?_
 intro w1 hs hb
 have B := B0.on hb
 have ce0 := B.cell (i := 0) (v := .string ⟨#[]⟩) rfl
 have ce1 := B.cell (i := 1) (v := .string ⟨#[]⟩) rfl
 have cg0 := B.frozen 0
 have cg1 := B.frozen 1
 go_wp2_with fail
 obtain ⟨W, hW, y0, y1, hbe⟩ := ret_frac hs (by omega) B ⟨#[]⟩ ⟨#[]⟩
 rw [hW]
 exact bodyPost_ret (v := .tuple #[.agg #[.string ⟨#[]⟩, .string ⟨#[]⟩], .int .i64 e]) (by simp [results, Tryz.results163, go_sem, y0, y1]) rfl ⟨rfl, hbe⟩
theorem rFraction_one {c A B x k : Int} (hd : daysR c A B = (x, 0)) (hx : x.natAbs < 1000000) (hk : (c = 2 ∧ k = 365) ∨ (c ≠ 2 ∧ c ≠ 5 ∧ k = 360)) : Ret 163 #[.int .i64 c, .int .i64 A, .int .i64 B] (.tuple #[FR (rat x k), .int .i64 0]) := by
 intro w hg
 have hs := (St.refl hg).alloc (.cells #[.string ⟨#[]⟩, .string ⟨#[]⟩] 34)
 have B0 := Bx.new w #[.string ⟨#[]⟩, .string ⟨#[]⟩] 34
 have K1 := rDays_any c A B
 rw [hd] at K1
 dsimp only at K1
 clear hd
 have hxa : x ≤ 1000000 := by omega
 have hxb : -1000000 ≤ x := by omega
 rcases hk with ⟨rfl, rfl⟩ | ⟨h2, h5, rfl⟩
 ·have K2 := rratio_any (n := x) (d := 365) (by omega) (by decide) (by decide)
  unfold FR at K2 ⊢
  generalize frN (rat x 365) = rn at *
  generalize frD (rat x 365) = rd at *
  clear hx
  go_enter Tryz.func163, Tryz.ntmps163
  go_wp2_with fail
  refine K1.step hs ?_
  intro w1 hs hb
  have B1 := B0.on hb
  go_wp2_with fail
  refine K2.step hs ?_
  intro w2 hs hb
  have B := B1.on hb
  have ce0 := B.cell (i := 0) (v := .string ⟨#[]⟩) rfl
  have ce1 := B.cell (i := 1) (v := .string ⟨#[]⟩) rfl
  have cg0 := B.frozen 0
  have cg1 := B.frozen 1
  go_wp2_with fail
  obtain ⟨W, hW, y0, y1, hbe⟩ := ret_frac hs (by omega) B rn rd
  rw [hW]
  exact bodyPost_ret (v := .tuple #[.agg #[.string rn, .string rd], .int .i64 0]) (by simp [results, Tryz.results163, go_sem, y0, y1]) rfl ⟨rfl, hbe⟩
 ·have K2 := rratio_any (n := x) (d := 360) (by omega) (by decide) (by decide)
  unfold FR at K2 ⊢
  generalize frN (rat x 360) = rn at *
  generalize frD (rat x 360) = rd at *
  have q2 : (c == 2) = false := beq_eq_false_iff_ne.2 h2
  have q5 : (c != 5) = true := by simpa using h5
  clear hx h2 h5
  go_enter Tryz.func163, Tryz.ntmps163
  go_wp2_with fail
  refine K1.step hs ?_
  intro w1 hs hb
  have B1 := B0.on hb
  go_wp2_with fail
  refine K2.step hs ?_
  intro w2 hs hb
  have B := B1.on hb
  have ce0 := B.cell (i := 0) (v := .string ⟨#[]⟩) rfl
  have ce1 := B.cell (i := 1) (v := .string ⟨#[]⟩) rfl
  have cg0 := B.frozen 0
  have cg1 := B.frozen 1
  go_wp2_with fail
  obtain ⟨W, hW, y0, y1, hbe⟩ := ret_frac hs (by omega) B rn rd
  rw [hW]
  exact bodyPost_ret (v := .tuple #[.agg #[.string rn, .string rd], .int .i64 0]) (by simp [results, Tryz.results163, go_sem, y0, y1]) rfl ⟨rfl, hbe⟩
theorem next_year {k m : Nat} (hk : k < m) (hm : m < 109573) : 1900 ≤ yN k ∧ yN k ≤ 2199 ∧
  ((2199 < yN k + 1 ∧ m ≤ beginN (yN k + 1)) ∨ (yN k + 1 ≤ 2199 ∧ k < beginN (yN k + 1) ∧ beginN (yN k + 1) ≤ 109573)) := by
 have hd := date_spec (n := k) (by omega)
 have hin := hd.in_year
 have h0 := hd.y0
 have h1 := hd.y1
 refine ⟨h0, h1, ?_⟩
 by_cases h : yN k + 1 ≤ 2199
 ·exact .inr ⟨h, hin.2, by have := begin_mono (y := yN k + 1) (z := 2200) (by omega) (by omega); rwa [begin_end] at this⟩
 ·have e : yN k + 1 = 2200 := by omega
  refine .inl ⟨by omega, ?_⟩
  rw [e, begin_end]
  omega
theorem next_of {k m : Nat} (hk : k < m) (hm : m < 109573) : ∃ (p e : Int) (k2 : Nat), Ret 195 #[.int .i64 ((yN k : Int) + 1), .int .i64 1, .int .i64 1] (.tuple #[.int .i64 p, .int .i64 e])
  ∧ k < k2 ∧ k2 ≤ m ∧ k2 ≤ beginN (yN k + 1) ∧ -25567 ≤ p ∧ p ≤ 84006
  ∧ ((k2 : Int) - 25567 = if ((e == 0) && decide (p < (m : Int) - 25567)) = true then p else (m : Int) - 25567) := by
 obtain ⟨h0, h1, h | h⟩ := next_year hk hm
 ·have K := rof06_no (y := yN k + 1) h.1 (by omega)
  rw [Int.natCast_add] at K
  exact ⟨0, 13, m, K, hk, Nat.le_refl _, h.2, by decide, by decide, rfl⟩
 ·have K := rof06_year (y := yN k + 1) (by omega) h.1
  rw [Int.natCast_add] at K
  by_cases hl : beginN (yN k + 1) < m
  ·exact ⟨_, 0, beginN (yN k + 1), K, h.2.1, Nat.le_of_lt hl, Nat.le_refl _, by omega, by omega, by rw [if_pos]; simp; omega⟩
  ·exact ⟨_, 0, m, K, hk, Nat.le_refl _, by omega, by omega, by omega, by rw [if_neg]; simp; omega⟩
theorem rFraction_act {A B : Int} {n m : Nat} (hA : IsDay A n) (hB : IsDay B m) (hl : A ≤ B) : Ret 163 #[.int .i64 5, .int .i64 A, .int .i64 B] (.tuple #[FR (actQ m - actQ n), .int .i64 0]) := by
 intro w hg
 have hs := (St.refl hg).alloc (.cells #[.string ⟨#[]⟩, .string ⟨#[]⟩] 34)
 have B0 := Bx.new w #[.string ⟨#[]⟩, .string ⟨#[]⟩] 34
 have K1 := rDays_any 5 A B
 have hd : (daysR 5 A B).2 = 0 := by
  unfold daysR
  rw [if_neg (by omega), hA.not, hB.not, if_neg (by decide), if_neg (by omega)]
 rw [hd] at K1
 generalize (daysR 5 A B).1 = x at *
 obtain ⟨hA', hn⟩ := hA
 obtain ⟨hB', hm⟩ := hB
 have hnm : n ≤ m := by omega
 have HA := Lib.hid hA'
 have HB := Lib.hid hB'
 have hB0 : -25567 ≤ B := by omega
 have hB1 : B ≤ 84005 := by omega
 have hA0 : -25567 ≤ A := by omega
 have hA1 : A ≤ 84005 := by omega
 clear hd hl hA' hB'
 have HQ : Hid (∀ k, k < 109573 → FitQ 13 (actQ k - actQ n)) := fun k hk => ((act_fit hk).sub (act_fit hn)).mono (by omega)
 have HZ : Hid (frN (actQ n - actQ n) = ⟨#[]⟩ ∧ frD (actQ n - actQ n) = ⟨#[]⟩) := by
  show _ ∧ _
  rw [Rat.sub_self]
  exact ⟨frN_zero, frD_zero⟩
 unfold FR
 obtain ⟨rn, hrn⟩ : ∃ x, frN (actQ m - actQ n) = x := ⟨_, rfl⟩
 obtain ⟨rd, hrd⟩ : ∃ x, frD (actQ m - actQ n) = x := ⟨_, rfl⟩
 rw [hrn, hrd]
 have HRN := Lib.hid hrn
 have HRD := Lib.hid hrd
 clear hrn hrd
 have HR : Hid (∀ (a : Int) (k : Nat), a = (k : Int) - 25567 → k < 109573 → IsDay a k) := fun a k ha hk => ⟨ha, hk⟩
 go_enter Tryz.func163, Tryz.ntmps163
 go_wp2_with fail
 refine K1.step hs ?_
 intro w1 hs hb1
 have B1 := B0.on hb1
 have hlt1 := B1.lt
 go_wp2_with fail
 have Z0 := Bx.new w1 #[.string ⟨#[]⟩, .string ⟨#[]⟩] 34
 have Y0 := B1.alloc (.cells #[.string ⟨#[]⟩, .string ⟨#[]⟩] 34)
 have hs := hs.alloc (.cells #[.string ⟨#[]⟩, .string ⟨#[]⟩] 34)
 have ce0 := Z0.cell (i := 0) (v := .string ⟨#[]⟩) rfl
 have ce1 := Z0.cell (i := 1) (v := .string ⟨#[]⟩) rfl
 have cg0 := Z0.frozen 0
 have cg1 := Z0.frozen 1
 go_wp2_with fail
 obtain ⟨bz, hbz⟩ : ∃ b, w1.heap.size = b := ⟨_, rfl⟩
 rw [hbz] at Z0 hlt1 ⊢
 have Z1 := Lib.hid Z0
 have Y1 := Lib.hid Y0
 have hs1 := hs
 clear ce0 ce1 cg0 cg1 hs Z0 Y0 B0 B1 hb1 hbz
 generalize w1.alloc (.cells #[.string ⟨#[]⟩, .string ⟨#[]⟩] 34) = W5 at *
 go_loopw [1] (fun a wr => ∃ (k : Nat) (ka : Int), k ≤ m ∧ a = .int .i64 ka ∧ Hid (ka = (k : Int) - 25567) ∧ St w wr ∧ Hid (Bx wr w.heap.size #[.string ⟨#[]⟩, .string ⟨#[]⟩]) ∧ Hid (Bx wr bz #[.string (frN (actQ k - actQ n)), .string (frD (actQ k - actQ n))])) (fun a _ => (84006 - intOf a).toNat)
 case atStart => exact ⟨n, A, hnm, rfl, HA, hs1, Y1, by show Bx _ _ _; rw [HZ.out.1, HZ.out.2]; exact Z1.out⟩
 case round =>
  obtain ⟨k, ka, hk, rfl, HKA, hs, B1, Z1⟩ := hrel
  by_cases hkm : k = m
  ·subst hkm
   have q : decide (ka < B) = false := decide_eq_false (by have := HKA.out; have := HB.out; omega)
   replace Z1 : Hid (Bx wr bz #[.string rn, .string rd]) := by show Bx _ _ _; rw [← HRN.out, ← HRD.out]; exact Z1.out
   have u0 := Z1.out.cell (i := 0) (v := .string rn) rfl
   have u1 := Z1.out.cell (i := 1) (v := .string rd) rfl
   have B := B1.out
   have ce0 := B.cell (i := 0) (v := .string ⟨#[]⟩) rfl
   have ce1 := B.cell (i := 1) (v := .string ⟨#[]⟩) rfl
   have cg0 := B.frozen 0
   have cg1 := B.frozen 1
   go_wp2_with fail
   obtain ⟨W, hW, y0, y1, hbe⟩ := ret_frac hs (by omega) B rn rd
   rw [hW]
   exact bodyPost_ret (v := .tuple #[.agg #[.string rn, .string rd], .int .i64 0]) (by simp [results, Tryz.results163, go_sem, y0, y1]) rfl ⟨rfl, hbe⟩
  ·have hkl : k < m := by omega
   have q : decide (ka < B) = true := decide_eq_true (by have := HKA.out; have := HB.out; omega)
   have hka0 : -25567 ≤ ka := by have := HKA.out; omega
   have hka1 : ka ≤ 84005 := by have := HKA.out; omega
   have K2 := rparts06_ok (HR.out ka k HKA.out (by omega))
   have K3 := rleap_any (yN k)
   obtain ⟨p, e, k2, K4, hkk, hk2, hk3, hp0, hp1, he⟩ := next_of hkl hm
   rw [← HB.out] at he
   have hy := next_year hkl hm
   have hy0 := hy.1
   have hy1 := hy.2.1
   have hL := ylen_ge (yN k)
   have hstep := actQ_step (y := yN k) rfl (Nat.le_of_lt hkk) hk3 (by omega)
   have KR := rratio_any (n := (k2 : Int) - (k : Int)) (d := (ylen (yN k) : Nat)) (by omega) (by omega) (by omega)
   have z1 := FitQ.sizes (HQ.out k (by omega))
   have z2 := FitQ.sizes (((act_fit (n := k2) (by omega)).sub (act_fit (n := k) (by omega))).mono (show 13 ≤ 13 by omega))
   rw [hstep] at z2
   have KA := radd_r (a := frN (actQ k - actQ n)) (b := frD (actQ k - actQ n)) (c := frN (rat ((k2 : Int) - (k : Int)) (ylen (yN k) : Nat))) (d := frD (rat ((k2 : Int) - (k : Int)) (ylen (yN k) : Nat))) (by omega) (by omega) (by omega) (by omega)
   rw [ratV_fr, ratV_fr, ← hstep, show actQ k - actQ n + (actQ k2 - actQ k) = actQ k2 - actQ n by grind, hstep] at KA
   have HYL : Hid (((ylen (yN k) : Nat) : Int) = if leapN (yN k) = true then 366 else 365) := by show _ = _; unfold ylen; split <;> rfl
   obtain ⟨tn, htn⟩ : ∃ x, frN (actQ k2 - actQ n) = x := ⟨_, rfl⟩
   obtain ⟨td, htd⟩ : ∃ x, frD (actQ k2 - actQ n) = x := ⟨_, rfl⟩
   have HTN := Lib.hid htn
   have HTD := Lib.hid htd
   unfold FR at KR KA
   unfold FV at KA
   rw [htn, htd] at KA
   have hAE : ((k2 : Int) - 25567) - ka = (k2 : Int) - (k : Int) := by have := HKA.out; omega
   rw [← hAE] at KR KA
   clear htn htd z1 z2 hstep hy hAE hk3 hkm
   generalize frN (rat ((k2 : Int) - 25567 - ka) (ylen (yN k) : Nat)) = gn at *
   generalize frD (rat ((k2 : Int) - 25567 - ka) (ylen (yN k) : Nat)) = gd at *
   generalize frN (actQ k - actQ n) = sn at *
   generalize frD (actQ k - actQ n) = sd at *
   generalize ((ylen (yN k) : Nat) : Int) = L at *
   generalize leapN (yN k) = lp at *
   generalize yN k = Y at *
   generalize mN k = M at *
   generalize dN k = D at *
   obtain ⟨E, hE⟩ : ∃ E : Int, (k2 : Int) - 25567 = E := ⟨_, rfl⟩
   rw [hE] at he KR
   have HK2 := Lib.hid hE.symm
   have hE0 : -25567 ≤ E := by omega
   have hE1 : E ≤ 84005 := by omega
   have hE2 : ka < E := by have := HKA.out; omega
   clear hE
   have HE : Hid (E = if ((e == 0) && decide (p < B)) = true then p else B) := he
   clear he
   obtain ⟨t1, ht1⟩ : ∃ t, (e == 0) = t := ⟨_, rfl⟩
   obtain ⟨t2, ht2⟩ : ∃ t, decide (p < B) = t := ⟨_, rfl⟩
   rw [ht1, ht2] at HE
   cases lp
   all_goals
    have HL := HYL.out
    first | rw [if_neg (by decide)] at HL | rw [if_pos rfl] at HL
    subst HL
    clear HYL
    cases t1 <;> cases t2
    all_goals
     have HEE := HE.out
     simp only [Bool.and_self, Bool.and_false, Bool.and_true, reduceIte, Bool.false_eq_true] at HEE
     subst HEE
     clear HE
     go_wp2_with fail
     refine K2.step hs ?_
     intro w2 hs hb2
     have B2 := B1.out.on hb2
     go_wp2_with fail
     refine K3.step hs ?_
     intro w3 hs hb3
     have B3 := B2.on hb3
     go_wp2_with fail
     refine K4.step hs ?_
     intro w4 hs hb4
     have B4 := B3.on hb4
     have Z4 := (Z1.out.on hb2).on hb3 |>.on hb4
     have hlt4 := Z4.lt
     have k0 := Z4.keeps (i := 0) (v := .string sn) rfl
     have k1 := Z4.keeps (i := 1) (v := .string sd) rfl
     go_wp2_with fail
     refine wp_region_kept_tail 7 (by kernel_rfl) (by kernel_rfl) ?_
     simp only [List.take_succ_cons, List.take_zero, List.drop_succ_cons, List.drop_zero]
     repeat (go_big_quiet_step (first | (with_reducible exact KR.kept hs) | (with_reducible exact KA.kept hs)))
     refine wpQuiet_nil ?_
     rintro _ ⟨u, rfl⟩
     have BZ := Z4.kept u
     have BU := B4.kept u
     have hsu := hs.kept u
     have u0 := BZ.cell (i := 0) (v := .string sn) rfl
     have u1 := BZ.cell (i := 1) (v := .string sd) rfl
     have v0 := BZ.frozen 0
     have v1 := BZ.frozen 1
     go_wp2_with fail
     have X6 := (BZ.set 0 (.string tn)).set 1 (.string td)
     have Y6 := (BU.other (c := bz) (by omega) 0 (.string tn)).other (c := bz) (by omega) 1 (.string td)
     have hs6 := (hsu.set (b := bz) (by omega) 0 (.string tn)).set (b := bz) (by omega) 1 (.string td)
     go_roundw
     case rel => exact ⟨k2, _, hk2, rfl, HK2, hs6, Y6, by show Bx _ _ _; rw [HTN.out, HTD.out]; exact X6⟩
     case measure => simp [intOf]; omega
theorem rFraction_any (c A B : Int) : Ret 163 #[.int .i64 c, .int .i64 A, .int .i64 B] (.tuple #[FR (fracR c A B).1, .int .i64 (fracR c A B).2]) := by
 have e2 : (fracR c A B).2 = (daysR c A B).2 := by
  unfold fracR daysR
  by_cases g1 : c < 1 ∨ 5 < c
  ·rw [if_pos g1, if_pos g1]
  ·rw [if_neg g1, if_neg g1]
   by_cases g2 : (notDay A || notDay B) = true
   ·rw [if_pos g2, if_pos g2]
   ·rw [if_neg g2, if_neg g2]
    by_cases g3 : B < A
    ·rw [if_pos g3, if_pos g3]
    ·rw [if_neg g3, if_neg g3]
 by_cases h0 : (fracR c A B).2 = 0
 ·obtain ⟨c1, c5, ⟨n, hA⟩, ⟨m, hB⟩, hl, e⟩ := fracR_ok h0
  rw [e]
  rw [hA.num, hB.num]
  unfold partQ
  have ed : daysR c A B = (daysC c n m, 0) := by
   unfold daysR
   rw [if_neg (by omega), hA.not, hB.not, if_neg (by decide), if_neg (by omega), hA.num, hB.num]
  have hb := days_bound (c := c) hA.2 hB.2
  by_cases h5 : c = 5
  ·subst h5
   rw [if_pos rfl]
   exact rFraction_act hA hB hl
  ·rw [if_neg h5]
   by_cases h2 : c = 2
   ·rw [if_pos h2]
    exact rFraction_one ed hb (.inl ⟨h2, rfl⟩)
   ·rw [if_neg h2]
    exact rFraction_one ed hb (.inr ⟨h2, h5, rfl⟩)
 ·have e1 : (fracR c A B).1 = 0 := by
   unfold fracR at h0 ⊢
   by_cases g1 : c < 1 ∨ 5 < c
   ·rw [if_pos g1]
   ·rw [if_neg g1] at h0 ⊢
    by_cases g2 : (notDay A || notDay B) = true
    ·rw [if_pos g2]
    ·rw [if_neg g2] at h0 ⊢
     by_cases g3 : B < A
     ·rw [if_pos g3]
     ·rw [if_neg g3] at h0
      exact absurd rfl h0
  rw [e1, e2]
  rw [e2] at h0
  unfold FR
  rw [frN_zero, frD_zero]
  exact rFraction_err h0
end Go.Proofs.YticfdeaphiifeaaGreatDoor
