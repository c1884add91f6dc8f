/- Dates, the reference: Leap, Length, Check, Parts, Of. No condition but that days and months are such. -/
import Derived.Test.YtgagjpjlnlandaaGreatDoorDg
namespace Go.Proofs.YtgagjpjlnlandaaGreatDoor
open Go.RowKit Go.Shelf Dec

theorem rleap_any (y : Nat) : Ret 138 #[.int .i64 (y : Int)] (.bool (leapN y)) := by
  intro w hg
  have hs := St.refl hg
  have e : leapN y = ((y % 4 == 0 && !(y % 100 == 0)) || y % 400 == 0) := rfl
  have e2 : (y % 4 == 0 && ((!(y % 100 == 0)) || y % 400 == 0)) = leapN y := by
    rw [leapN_eq, Bool.eq_iff_iff]
    simp
    omega
  rw [← e2]
  clear e
  obtain ⟨t1, h1⟩ : ∃ t, (y % 4 == 0) = t := ⟨_, rfl⟩
  obtain ⟨t2, h2⟩ : ∃ t, (y % 100 == 0) = t := ⟨_, rfl⟩
  obtain ⟨t3, h3⟩ : ∃ t, (y % 400 == 0) = t := ⟨_, rfl⟩
  rw [h1, h2, h3]
  have q1 : ((y : Int) % 4 == 0) = t1 := by rw [← h1, Bool.eq_iff_iff]; simp; omega
  have q2 : ((y : Int) % 100 != 0) = !t2 := by rw [← h2, Bool.eq_iff_iff]; simp; omega
  have q2' : ((y : Int) % 100 == 0) = t2 := by rw [← h2, Bool.eq_iff_iff]; simp; omega
  have q3 : ((y : Int) % 400 == 0) = t3 := by rw [← h3, Bool.eq_iff_iff]; simp; omega
  clear e2 h1 h2 h3
  cases t1 <;> cases t2 <;> cases t3 <;>
    (go_enter Tryz.func138, Tryz.ntmps138
     go_wp2_with fail
     go_ret
     exact ⟨rfl, hs.2⟩)
set_option maxRecDepth 100000 in
set_option maxHeartbeats 4000000 in
theorem rlen_any {y m : Nat} (h1 : 1 ≤ m) (h2 : m ≤ 12) : Ret 204 #[.int .i64 (y : Int), .int .i64 (m : Int)] (.int .i64 (lenN y m : Nat)) := by
  intro w hg
  have hs := St.refl hg
  have K1 := rleap_any y
  have hm : m = 1 ∨ m = 2 ∨ m = 3 ∨ m = 4 ∨ m = 5 ∨ m = 6 ∨ m = 7 ∨ m = 8 ∨ m = 9 ∨ m = 10 ∨ m = 11 ∨ m = 12 := by omega
  have e2 : lenN y 2 = if leapN y = true then 29 else 28 := by unfold lenN; cases leapN y <;> rfl
  generalize hlp : leapN y = lp at *
  rcases hm with rfl | rfl | rfl | rfl | rfl | rfl | rfl | rfl | rfl | rfl | rfl | rfl
  · rw [show lenN y 1 = 31 from if_neg (by omega)]
    clear e2 hlp h1 h2 K1
    go_enter Tryz.func204, Tryz.ntmps204
    go_wp2_with fail
    go_ret
    exact ⟨rfl, hs.2⟩
  · rw [e2]
    clear e2 hlp h1 h2
    cases lp
    · rw [if_neg (by decide)]
      go_enter Tryz.func204, Tryz.ntmps204
      go_wp2_with fail
      refine K1.step hs ?_
      intro w1 hs _
      go_wp2_with fail
      go_ret
      exact ⟨rfl, hs.2⟩
    · rw [if_pos rfl]
      go_enter Tryz.func204, Tryz.ntmps204
      go_wp2_with fail
      refine K1.step hs ?_
      intro w1 hs _
      go_wp2_with fail
      go_ret
      exact ⟨rfl, hs.2⟩
  · rw [show lenN y 3 = 31 from if_neg (by omega)]
    clear e2 hlp h1 h2 K1
    go_enter Tryz.func204, Tryz.ntmps204
    go_wp2_with fail
    go_ret
    exact ⟨rfl, hs.2⟩
  · rw [show lenN y 4 = 30 from if_neg (by omega)]
    clear e2 hlp h1 h2 K1
    go_enter Tryz.func204, Tryz.ntmps204
    go_wp2_with fail
    go_ret
    exact ⟨rfl, hs.2⟩
  · rw [show lenN y 5 = 31 from if_neg (by omega)]
    clear e2 hlp h1 h2 K1
    go_enter Tryz.func204, Tryz.ntmps204
    go_wp2_with fail
    go_ret
    exact ⟨rfl, hs.2⟩
  · rw [show lenN y 6 = 30 from if_neg (by omega)]
    clear e2 hlp h1 h2 K1
    go_enter Tryz.func204, Tryz.ntmps204
    go_wp2_with fail
    go_ret
    exact ⟨rfl, hs.2⟩
  · rw [show lenN y 7 = 31 from if_neg (by omega)]
    clear e2 hlp h1 h2 K1
    go_enter Tryz.func204, Tryz.ntmps204
    go_wp2_with fail
    go_ret
    exact ⟨rfl, hs.2⟩
  · rw [show lenN y 8 = 31 from if_neg (by omega)]
    clear e2 hlp h1 h2 K1
    go_enter Tryz.func204, Tryz.ntmps204
    go_wp2_with fail
    go_ret
    exact ⟨rfl, hs.2⟩
  · rw [show lenN y 9 = 30 from if_neg (by omega)]
    clear e2 hlp h1 h2 K1
    go_enter Tryz.func204, Tryz.ntmps204
    go_wp2_with fail
    go_ret
    exact ⟨rfl, hs.2⟩
  · rw [show lenN y 10 = 31 from if_neg (by omega)]
    clear e2 hlp h1 h2 K1
    go_enter Tryz.func204, Tryz.ntmps204
    go_wp2_with fail
    go_ret
    exact ⟨rfl, hs.2⟩
  · rw [show lenN y 11 = 30 from if_neg (by omega)]
    clear e2 hlp h1 h2 K1
    go_enter Tryz.func204, Tryz.ntmps204
    go_wp2_with fail
    go_ret
    exact ⟨rfl, hs.2⟩
  · rw [show lenN y 12 = 31 from if_neg (by omega)]
    clear e2 hlp h1 h2 K1
    go_enter Tryz.func204, Tryz.ntmps204
    go_wp2_with fail
    go_ret
    exact ⟨rfl, hs.2⟩
theorem rdcheck_any (D : Int) : Ret 113 #[.int .i64 D] (.int .i64 (if notDay D = true then 13 else 0)) := by
  intro w hg
  have hs := St.refl hg
  unfold notDay
  obtain ⟨t1, q1⟩ : ∃ t, decide (D < -25567) = t := ⟨_, rfl⟩
  obtain ⟨t2, q2⟩ : ∃ t, decide (84005 < D) = t := ⟨_, rfl⟩
  rw [q1, q2]
  cases t1 <;> cases t2
  · rw [if_neg (by decide)]
    go_enter Tryz.func113, Tryz.ntmps113
    go_wp2_with fail
    go_ret
    exact ⟨rfl, hs.2⟩
  all_goals
    rw [if_pos (by decide)]
    go_enter Tryz.func113, Tryz.ntmps113
    go_wp2_with fail
    go_ret
    exact ⟨rfl, hs.2⟩
set_option maxRecDepth 100000 in
set_option maxHeartbeats 4000000 in
theorem rparts06_no {D : Int} (h : notDay D = true) : Ret 136 #[.int .i64 D] (.tuple #[.int .i64 0, .int .i64 0, .int .i64 0, .int .i64 13]) := by
  intro w hg
  have hs := St.refl hg
  have K1 := rdcheck_any D
  rw [if_pos h] at K1
  clear h
  go_enter Tryz.func136, Tryz.ntmps136
  go_wp2_with fail
  refine K1.step hs ?_
  intro w1 hs _
  go_wp2_with fail
  (try simp only [Exit.inBlock, Exit.then])
  refine bodyPost_ret (results_tmp4 rfl _ _ _) rfl ?_
  exact ⟨rfl, hs.2⟩
set_option maxRecDepth 100000 in
set_option maxHeartbeats 4000000 in
theorem rparts06_ok {D : Int} {n : Nat} (h : IsDay D n) : Ret 136 #[.int .i64 D] (.tuple #[.int .i64 (yN n : Nat), .int .i64 (mN n : Nat), .int .i64 (dN n : Nat), .int .i64 0]) := by
  intro w hg
  have hs := St.refl hg
  have K1 := rdcheck_any D
  rw [if_neg (by rw [h.not]; decide)] at K1
  have HD := Lib.hid (date_spec h.2)
  have hn := h.2
  have hD : D - -25567 = (n : Int) := by have := h.1; omega
  have hD0 : -25567 ≤ D := by have := h.1; omega
  have hD1 : D ≤ 84005 := by have := h.1; omega
  have HB : Hid (∀ y r : Nat, 1900 ≤ y → y ≤ 2199 → beginN y + r = n → (r < ylen y → y = yN n) ∧ (¬ r < ylen y → y + 1 ≤ 2199 ∧ beginN (y + 1) + (r - ylen y) = n)) := fun y r h1 h2 he => by
    obtain ⟨s1, s2, s3, s4⟩ := year_spec hn
    refine ⟨fun hr => year_unique h1 s3 (by omega) (by rw [begin_next h1]; omega) s1 s2, fun hr => ?_⟩
    have hb := begin_next h1
    refine ⟨?_, by omega⟩
    refine Decidable.byContradiction fun hc => ?_
    have : y = 2199 := by omega
    subst this
    rw [begin_end] at hb
    omega
  have HM : Hid (∀ m r : Nat, 1 ≤ m → m ≤ 12 → beginN (yN n) + (cumN (yN n) m + r) = n → (r < lenN (yN n) m → m = mN n ∧ r + 1 = dN n) ∧ (¬ r < lenN (yN n) m → m + 1 ≤ 12 ∧ beginN (yN n) + (cumN (yN n) (m + 1) + (r - lenN (yN n) m)) = n)) := fun m r h1 h2 he => by
    obtain ⟨s1, s2, s3, s4⟩ := year_spec hn
    refine ⟨fun hr => ?_, fun hr => ?_⟩
    · have hd : IsDate n (yN n) m (r + 1) := ⟨s3, s4, h1, h2, by omega, by omega, by omega⟩
      have := hd.fns
      exact ⟨this.2.1.symm, this.2.2.symm⟩
    · have hc := cum_next (yN n) m
      refine ⟨?_, by omega⟩
      refine Decidable.byContradiction fun hcc => ?_
      have : m = 12 := by omega
      subst this
      rw [cum_end] at hc
      rw [begin_next s3] at s2
      omega
  have HY : Hid (1900 ≤ yN n ∧ yN n ≤ 2199) := ⟨HD.out.y0, HD.out.y1⟩
  have HBE : Hid (beginN 1900 = 0) := begin_first
  clear h
  generalize yN n = Y at *
  generalize mN n = M at *
  generalize dN n = DD at *
  go_enter Tryz.func136, Tryz.ntmps136
  go_wp2_with fail
  refine K1.step hs ?_
  intro w1 hs _
  go_wp2_with fail
  go_loopw [6, 7] (fun a b wr => ∃ y r : Nat, a = .int .i64 (r : Int) ∧ b = .int .i64 (y : Int) ∧ 1900 ≤ y ∧ y ≤ 2199 ∧ r ≤ 109573 ∧ St w wr ∧ Hid (beginN y + r = n)) (fun _ b _ => (2200 - intOf b).toNat)
  case atStart => exact ⟨1900, n, rfl, rfl, by omega, by omega, by omega, hs, by show _ = _; rw [HBE.out]; omega⟩
  case round =>
    obtain ⟨y, r, rfl, rfl, h1, h2, hr0, hs, HI⟩ := hrel
    have K2 := rleap_any y
    have HYL : Hid (ylen y = if leapN y = true then 366 else 365) := rfl
    generalize leapN y = lp at *
    cases lp with
    | false =>
      replace HYL : Hid (ylen y = 365) := HYL.out.trans (if_neg (by decide))
      by_cases hr : r < 365
      · have qr : decide ((r : Int) < 365) = true := decide_eq_true (by omega)
        have qrn : decide (r < 365) = true := decide_eq_true hr
        have hy := (HB.out y r h1 h2 HI.out).1 (by rw [HYL.out]; exact hr)
        subst hy
        have HI2 : Hid (beginN y + (cumN y 1 + r) = n) := by have := HI.out; have := cum_zero y; show _ = _; omega
        have hr66 : r ≤ 366 := by omega
        clear HB HBE hr HI HYL
        go_wp2_with fail
        refine K2.step hs ?_
        intro w2 hs _
        go_wp2_with fail
        go_loopw [6, 8] (fun a b wr => ∃ m r : Nat, a = .int .i64 (r : Int) ∧ b = .int .i64 (m : Int) ∧ 1 ≤ m ∧ m ≤ 12 ∧ r ≤ 366 ∧ St w wr ∧ Hid (beginN y + (cumN y m + r) = n)) (fun _ b _ => (13 - intOf b).toNat)
        case atStart => exact ⟨1, r, rfl, rfl, by omega, by omega, hr66, hs, HI2⟩
        case round =>
          obtain ⟨m, r, rfl, rfl, m1, m2, hr6, hs, HI⟩ := hrel
          have K3 := rlen_any (y := y) m1 m2
          have hlc := lenN_cases (y := y) m1 m2
          have HMM := Lib.hid (HM.out m r m1 m2 HI.out)
          obtain ⟨L, hL⟩ : ∃ L, lenN y m = L := ⟨_, rfl⟩
          rw [hL] at K3 hlc HMM
          clear hL
          by_cases hr : r < L
          · have q : decide ((L : Int) ≤ (r : Int)) = false := decide_eq_false (by omega)
            have qn : decide (L ≤ r) = false := decide_eq_false (by omega)
            obtain ⟨e1, e2⟩ := HMM.out.1 hr
            subst e1
            have HDE : Hid (DD = r + 1) := e2.symm
            clear e2 HMM HM HI hr
            go_wp2_with fail
            refine K3.step hs ?_
            intro w3 hs _
            go_wp2_with fail
            (try simp only [Exit.inBlock, Exit.then])
            refine bodyPost_ret (results_tmp4 rfl _ _ _) rfl ?_
            exact ⟨by rw [HDE.out]; rfl, hs.2⟩
          · have q : decide ((L : Int) ≤ (r : Int)) = true := decide_eq_true (by omega)
            have qn : decide (L ≤ r) = true := decide_eq_true (by omega)
            obtain ⟨e1, e2⟩ := HMM.out.2 hr
            have HI3 := Lib.hid e2
            have hle : L ≤ r := by omega
            clear e2 HMM hr
            go_wp2_with fail
            refine K3.step hs ?_
            intro w3 hs _
            go_wp2_with fail
            refine K3.step hs ?_
            intro w4 hs _
            go_wp2_with fail
            go_roundw
            case rel => exact ⟨m + 1, r - L, by go_num, by go_num, by omega, e1, by omega, hs, HI3⟩
            case measure => simp [intOf]; omega
      · have qr : decide ((r : Int) < 365) = false := decide_eq_false (by omega)
        have qrn : decide (r < 365) = false := decide_eq_false hr
        obtain ⟨e1, e2⟩ := (HB.out y r h1 h2 HI.out).2 (by rw [HYL.out]; exact hr)
        rw [HYL.out] at e2
        have HI3 := Lib.hid e2
        clear e2 HYL
        go_wp2_with fail
        refine K2.step hs ?_
        intro w2 hs _
        go_wp2_with fail
        go_roundw
        case rel => exact ⟨y + 1, r - 365, by go_num, by go_num, by omega, e1, by omega, hs, HI3⟩
        case measure => simp [intOf]; omega
    | true =>
      replace HYL : Hid (ylen y = 366) := HYL.out.trans (if_pos rfl)
      by_cases hr : r < 366
      · have qr : decide ((r : Int) < 366) = true := decide_eq_true (by omega)
        have qrn : decide (r < 366) = true := decide_eq_true hr
        have hy := (HB.out y r h1 h2 HI.out).1 (by rw [HYL.out]; exact hr)
        subst hy
        have HI2 : Hid (beginN y + (cumN y 1 + r) = n) := by have := HI.out; have := cum_zero y; show _ = _; omega
        have hr66 : r ≤ 366 := by omega
        clear HB HBE hr HI HYL
        go_wp2_with fail
        refine K2.step hs ?_
        intro w2 hs _
        go_wp2_with fail
        go_loopw [6, 8] (fun a b wr => ∃ m r : Nat, a = .int .i64 (r : Int) ∧ b = .int .i64 (m : Int) ∧ 1 ≤ m ∧ m ≤ 12 ∧ r ≤ 366 ∧ St w wr ∧ Hid (beginN y + (cumN y m + r) = n)) (fun _ b _ => (13 - intOf b).toNat)
        case atStart => exact ⟨1, r, rfl, rfl, by omega, by omega, hr66, hs, HI2⟩
        case round =>
          obtain ⟨m, r, rfl, rfl, m1, m2, hr6, hs, HI⟩ := hrel
          have K3 := rlen_any (y := y) m1 m2
          have hlc := lenN_cases (y := y) m1 m2
          have HMM := Lib.hid (HM.out m r m1 m2 HI.out)
          obtain ⟨L, hL⟩ : ∃ L, lenN y m = L := ⟨_, rfl⟩
          rw [hL] at K3 hlc HMM
          clear hL
          by_cases hr : r < L
          · have q : decide ((L : Int) ≤ (r : Int)) = false := decide_eq_false (by omega)
            have qn : decide (L ≤ r) = false := decide_eq_false (by omega)
            obtain ⟨e1, e2⟩ := HMM.out.1 hr
            subst e1
            have HDE : Hid (DD = r + 1) := e2.symm
            clear e2 HMM HM HI hr
            go_wp2_with fail
            refine K3.step hs ?_
            intro w3 hs _
            go_wp2_with fail
            (try simp only [Exit.inBlock, Exit.then])
            refine bodyPost_ret (results_tmp4 rfl _ _ _) rfl ?_
            exact ⟨by rw [HDE.out]; rfl, hs.2⟩
          · have q : decide ((L : Int) ≤ (r : Int)) = true := decide_eq_true (by omega)
            have qn : decide (L ≤ r) = true := decide_eq_true (by omega)
            obtain ⟨e1, e2⟩ := HMM.out.2 hr
            have HI3 := Lib.hid e2
            have hle : L ≤ r := by omega
            clear e2 HMM hr
            go_wp2_with fail
            refine K3.step hs ?_
            intro w3 hs _
            go_wp2_with fail
            refine K3.step hs ?_
            intro w4 hs _
            go_wp2_with fail
            go_roundw
            case rel => exact ⟨m + 1, r - L, by go_num, by go_num, by omega, e1, by omega, hs, HI3⟩
            case measure => simp [intOf]; omega
      · have qr : decide ((r : Int) < 366) = false := decide_eq_false (by omega)
        have qrn : decide (r < 366) = false := decide_eq_false hr
        obtain ⟨e1, e2⟩ := (HB.out y r h1 h2 HI.out).2 (by rw [HYL.out]; exact hr)
        rw [HYL.out] at e2
        have HI3 := Lib.hid e2
        clear e2 HYL
        go_wp2_with fail
        refine K2.step hs ?_
        intro w2 hs _
        go_wp2_with fail
        go_roundw
        case rel => exact ⟨y + 1, r - 366, by go_num, by go_num, by omega, e1, by omega, hs, HI3⟩
        case measure => simp [intOf]; omega
set_option maxRecDepth 100000 in
set_option maxHeartbeats 4000000 in
theorem rof06_no {y : Nat} (h : 2199 < y) (h9 : y ≤ 1000000) : Ret 139 #[.int .i64 (y : Int), .int .i64 1, .int .i64 1] (.tuple #[.int .i64 0, .int .i64 13]) := by
  intro w hg
  have hs := St.refl hg
  have q1 : decide ((y : Int) < 1900) = false := decide_eq_false (by omega)
  have q1n : decide (y < 1900) = false := decide_eq_false (by omega)
  have q2 : decide ((2199 : Int) < (y : Int)) = true := decide_eq_true (by omega)
  have q2n : decide (2199 < y) = true := decide_eq_true h
  go_enter Tryz.func139, Tryz.ntmps139
  go_wp2_with fail
  go_ret2
  exact ⟨rfl, hs.2⟩
theorem rof06_year {y : Nat} (h : 1900 ≤ y) (h9 : y ≤ 2199) : Ret 139 #[.int .i64 (y : Int), .int .i64 1, .int .i64 1] (.tuple #[.int .i64 ((beginN y : Int) - 25567), .int .i64 0]) := by
  intro w hg
  have hs := St.refl hg
  have q1 : decide ((y : Int) < 1900) = false := decide_eq_false (by omega)
  have q1n : decide (y < 1900) = false := decide_eq_false (by omega)
  have q2 : decide ((2199 : Int) < (y : Int)) = false := decide_eq_false (by omega)
  have q2n : decide (2199 < y) = false := decide_eq_false (by omega)
  have K1 := rlen_any (y := y) (m := 1) (by omega) (by omega)
  rw [show lenN y 1 = 31 from if_neg (by omega)] at K1
  have HB : Hid (∀ z, 1900 ≤ z → beginN (z + 1) = beginN z + ylen z) := fun z hz => begin_next hz
  have HBM : Hid (∀ z, 1900 ≤ z → z ≤ 2200 → beginN z ≤ 109573) := fun z h1 h2 => by have := begin_mono h1 h2; rwa [begin_end] at this
  have HB0 : Hid (((beginN 1900 : Nat) : Int) = 0) := by show _ = _; rw [begin_first]; rfl
  go_enter Tryz.func139, Tryz.ntmps139
  go_wp2_with fail
  refine K1.step hs ?_
  intro w1 hs _
  go_wp2_with fail
  go_loopw [8, 9] (fun a b wr => ∃ z g : Nat, b = .int .i64 (z : Int) ∧ a = .int .i64 ((g : Int) - 25567) ∧ 1900 ≤ z ∧ z ≤ y ∧ g ≤ 109573 ∧ St w wr ∧ Hid (beginN z = g)) (fun _ b _ => (y - intOf b).toNat)
  case atStart => exact ⟨1900, 0, rfl, rfl, by omega, by omega, by omega, hs, begin_first⟩
  case round =>
    obtain ⟨z, g, rfl, rfl, z1, z2, hg1, hs, HI⟩ := hrel
    by_cases hzy : z = y
    · have q : decide ((z : Int) < (y : Int)) = false := decide_eq_false (by omega)
      have qn : decide (z < y) = false := decide_eq_false (by omega)
      have HGY : Hid (beginN y = g) := by show _ = _; rw [← hzy]; exact HI.out
      clear hzy
      go_wp2_with fail
      go_loopw [8, 10] (fun a s wr => a = .int .i64 ((g : Int) - 25567) ∧ s = .int .i64 1 ∧ St w wr) (fun _ _ _ => 0)
      case atStart => exact ⟨rfl, rfl, hs⟩
      case round =>
        obtain ⟨rfl, rfl, hs⟩ := hrel
        have HGZ := HGY.out
        subst HGZ
        go_wp2_with fail
        go_ret2
        exact ⟨rfl, hs.2⟩
    · have q : decide ((z : Int) < (y : Int)) = true := decide_eq_true (by omega)
      have qn : decide (z < y) = true := decide_eq_true (by omega)
      have K2 := rleap_any z
      have HN1 := Lib.hid (HB.out z z1)
      have HN2 := Lib.hid (HBM.out (z + 1) (by omega) (by omega))
      have HYL : Hid (ylen z = if leapN z = true then 366 else 365) := rfl
      generalize leapN z = lp at *
      cases lp with
      | false =>
        replace HYL : Hid (ylen z = 365) := HYL.out.trans (if_neg (by decide))
        have hgn : g + 365 ≤ 109573 := by have := HN1.out; have := HN2.out; have := HYL.out; have := HI.out; omega
        go_wp2_with fail
        refine K2.step hs ?_
        intro w2 hs _
        go_wp2_with fail
        go_roundw
        case rel => exact ⟨z + 1, g + 365, by go_num, by rw [show ((g + 365 : Nat) : Int) - 25567 = (g : Int) - 25567 + 365 by omega], by omega, by omega, hgn, hs, by show _ = _; rw [HN1.out, HYL.out, HI.out]⟩
        case measure => simp [intOf]; omega
      | true =>
        replace HYL : Hid (ylen z = 366) := HYL.out.trans (if_pos rfl)
        have hgn : g + 366 ≤ 109573 := by have := HN1.out; have := HN2.out; have := HYL.out; have := HI.out; omega
        go_wp2_with fail
        refine K2.step hs ?_
        intro w2 hs _
        go_wp2_with fail
        go_roundw
        case rel => exact ⟨z + 1, g + 366, by go_num, by rw [show ((g + 366 : Nat) : Int) - 25567 = (g : Int) - 25567 + 365 + 1 by omega], by omega, by omega, hgn, hs, by show _ = _; rw [HN1.out, HYL.out, HI.out]⟩
        case measure => simp [intOf]; omega
end Go.Proofs.YtgagjpjlnlandaaGreatDoor
