/- Parts of years: Regular, of the program and of the reference. No condition. -/
import Derived.Test.YtgagjpjlnlandaaGreatDoorRd9
namespace Go.Proofs.YtgagjpjlnlandaaGreatDoor
open Go.RowKit Go.Shelf Dec QQ

/-- the part of a year within a regular period of months, and the error -/
def regR (M F T A B : Int) : Rat × Int :=
  if M < 1 ∨ 4800 < M then (0, 2) else if (notDay F || notDay T || notDay A || notDay B) = true then (0, 13) else if A < F ∨ B < A ∨ T < B ∨ F = T then (0, 8) else (rat (B - A) (T - F) * rat M 12, 0)
theorem reg_in {M F T A B : Int} (h1 : 1 ≤ M) (h2 : M ≤ 4800) (h3 : (notDay F || notDay T || notDay A || notDay B) = false) (h4 : F ≤ A) (h5 : A ≤ B) (h6 : B ≤ T) (h7 : F ≠ T) : regR M F T A B = (rat (B - A) (T - F) * rat M 12, 0) := by
  unfold regR
  rw [if_neg (by omega), h3, if_neg (by decide), if_neg (by omega)]
theorem notDay_ok {D : Int} (h : notDay D = false) : -25567 ≤ D ∧ D ≤ 84005 := by
  unfold notDay at h
  simp only [Bool.or_eq_false_iff, decide_eq_false_iff_not] at h
  omega
theorem ratio_fit {x d : Int} (h : x.natAbs < 1000000) (hd : d.natAbs < 1000000) : FitQ 6 (rat x d) := (FitQ.rat (k := 6) (m := 6) (by rw [pow10.1]; exact h) (by rw [pow10.1]; exact hd) (by omega)).mono (by omega)
set_option maxRecDepth 100000 in
set_option maxHeartbeats 4000000 in
theorem Regular_any (M F T A B : Int) : Ret 65 #[.agg #[.int .i64 F, .int .i64 T], .int .i64 M, .int .i64 A, .int .i64 B] (.tuple #[FR (regR M F T A B).1, .int .i64 (regR M F T A B).2]) := by
  intro w hg
  have KF := dvalid_any F
  have KT := dvalid_any T
  have KA := dvalid_any A
  have KB := dvalid_any B
  by_cases h1 : M < 1 ∨ 4800 < M
  · rw [show regR M F T A B = (0, 2) from if_pos h1]
    unfold FR
    rw [frN_zero, frD_zero]
    by_cases hm : M < 1
    · have q1 : decide (M < 1) = true := decide_eq_true hm
      clear h1 hm
      have hs := ((St.refl hg).alloc (.cells #[.int .i64 F, .int .i64 T] 56)).alloc (.cells #[.string ⟨#[]⟩, .string ⟨#[]⟩] 34)
      have P0 := (Bx.new w #[.int .i64 F, .int .i64 T] 56).alloc (.cells #[.string ⟨#[]⟩, .string ⟨#[]⟩] 34)
      have B0 := Bx.new1 w (.cells #[.int .i64 F, .int .i64 T] 56) #[.string ⟨#[]⟩, .string ⟨#[]⟩] 34
      have p0 := P0.cell (i := 0) (v := .int .i64 F) rfl
      have p1 := P0.cell (i := 1) (v := .int .i64 T) rfl
      have ce0 := B0.cell (i := 0) (v := .string ⟨#[]⟩) rfl
      have ce1 := B0.cell (i := 1) (v := .string ⟨#[]⟩) rfl
      have cg0 := B0.frozen 0
      have cg1 := B0.frozen 1
      go_enter Tryz.func65, Tryz.ntmps65
      go_wp2_with fail
      exact bodyPost_ret (v := .tuple #[.agg #[.string ⟨#[]⟩, .string ⟨#[]⟩], .int .i64 2]) (by simp [results, Tryz.results65, go_sem, ce0, ce1]) rfl ⟨rfl, hs.2⟩
    · have q1 : decide (M < 1) = false := decide_eq_false hm
      have q2 : decide (4800 < M) = true := decide_eq_true (by omega)
      clear h1 hm
      have hs := ((St.refl hg).alloc (.cells #[.int .i64 F, .int .i64 T] 56)).alloc (.cells #[.string ⟨#[]⟩, .string ⟨#[]⟩] 34)
      have P0 := (Bx.new w #[.int .i64 F, .int .i64 T] 56).alloc (.cells #[.string ⟨#[]⟩, .string ⟨#[]⟩] 34)
      have B0 := Bx.new1 w (.cells #[.int .i64 F, .int .i64 T] 56) #[.string ⟨#[]⟩, .string ⟨#[]⟩] 34
      have p0 := P0.cell (i := 0) (v := .int .i64 F) rfl
      have p1 := P0.cell (i := 1) (v := .int .i64 T) rfl
      have ce0 := B0.cell (i := 0) (v := .string ⟨#[]⟩) rfl
      have ce1 := B0.cell (i := 1) (v := .string ⟨#[]⟩) rfl
      have cg0 := B0.frozen 0
      have cg1 := B0.frozen 1
      go_enter Tryz.func65, Tryz.ntmps65
      go_wp2_with fail
      exact bodyPost_ret (v := .tuple #[.agg #[.string ⟨#[]⟩, .string ⟨#[]⟩], .int .i64 2]) (by simp [results, Tryz.results65, go_sem, ce0, ce1]) rfl ⟨rfl, hs.2⟩
  · have q1 : decide (M < 1) = false := decide_eq_false (by omega)
    have q2 : decide (4800 < M) = false := decide_eq_false (by omega)
    have hM0 : 1 ≤ M := by omega
    have hM1 : M ≤ 4800 := by omega
    clear h1
    have e13 : (notDay F || notDay T || notDay A || notDay B) = true → regR M F T A B = (0, 13) := fun h => by unfold regR; rw [if_neg (by omega), if_pos h]
    obtain ⟨tf, hf⟩ : ∃ t, notDay F = t := ⟨_, rfl⟩
    obtain ⟨tt, ht⟩ : ∃ t, notDay T = t := ⟨_, rfl⟩
    obtain ⟨ta, ha⟩ : ∃ t, notDay A = t := ⟨_, rfl⟩
    obtain ⟨tb, hb⟩ : ∃ t, notDay B = t := ⟨_, rfl⟩
    rw [hf] at KF
    rw [ht] at KT
    rw [ha] at KA
    rw [hb] at KB
    cases tf with
    | true =>
      rw [e13 (by rw [hf]; (first | rfl | simp))]
      unfold FR
      rw [frN_zero, frD_zero]
      clear hf ht ha hb e13
      have hs := ((St.refl hg).alloc (.cells #[.int .i64 F, .int .i64 T] 56)).alloc (.cells #[.string ⟨#[]⟩, .string ⟨#[]⟩] 34)
      have P0 := (Bx.new w #[.int .i64 F, .int .i64 T] 56).alloc (.cells #[.string ⟨#[]⟩, .string ⟨#[]⟩] 34)
      have B0 := Bx.new1 w (.cells #[.int .i64 F, .int .i64 T] 56) #[.string ⟨#[]⟩, .string ⟨#[]⟩] 34
      have p0 := P0.cell (i := 0) (v := .int .i64 F) rfl
      have p1 := P0.cell (i := 1) (v := .int .i64 T) rfl
      have ce0 := B0.cell (i := 0) (v := .string ⟨#[]⟩) rfl
      have ce1 := B0.cell (i := 1) (v := .string ⟨#[]⟩) rfl
      have cg0 := B0.frozen 0
      have cg1 := B0.frozen 1
      go_enter Tryz.func65, Tryz.ntmps65
      go_wp2_with fail
      refine KF.step hs ?_
      intro w1 hs hb1
      replace P0 := P0.on hb1
      replace B0 := B0.on hb1
      have p0 := P0.cell (i := 0) (v := .int .i64 F) rfl
      have p1 := P0.cell (i := 1) (v := .int .i64 T) rfl
      have ce0 := B0.cell (i := 0) (v := .string ⟨#[]⟩) rfl
      have ce1 := B0.cell (i := 1) (v := .string ⟨#[]⟩) rfl
      have cg0 := B0.frozen 0
      have cg1 := B0.frozen 1
      go_wp2_with fail
      obtain ⟨W, hW, y0, y1, hbe⟩ := ret_frac hs (by omega) B0 ⟨#[]⟩ ⟨#[]⟩
      rw [hW]
      exact bodyPost_ret (v := .tuple #[.agg #[.string ⟨#[]⟩, .string ⟨#[]⟩], .int .i64 13]) (by simp [results, Tryz.results65, go_sem, y0, y1]) rfl ⟨rfl, hbe⟩
    | false =>
      cases tt with
      | true =>
        rw [e13 (by rw [hf, ht]; (first | rfl | simp))]
        unfold FR
        rw [frN_zero, frD_zero]
        clear hf ht ha hb e13
        have hs := ((St.refl hg).alloc (.cells #[.int .i64 F, .int .i64 T] 56)).alloc (.cells #[.string ⟨#[]⟩, .string ⟨#[]⟩] 34)
        have P0 := (Bx.new w #[.int .i64 F, .int .i64 T] 56).alloc (.cells #[.string ⟨#[]⟩, .string ⟨#[]⟩] 34)
        have B0 := Bx.new1 w (.cells #[.int .i64 F, .int .i64 T] 56) #[.string ⟨#[]⟩, .string ⟨#[]⟩] 34
        have p0 := P0.cell (i := 0) (v := .int .i64 F) rfl
        have p1 := P0.cell (i := 1) (v := .int .i64 T) rfl
        have ce0 := B0.cell (i := 0) (v := .string ⟨#[]⟩) rfl
        have ce1 := B0.cell (i := 1) (v := .string ⟨#[]⟩) rfl
        have cg0 := B0.frozen 0
        have cg1 := B0.frozen 1
        go_enter Tryz.func65, Tryz.ntmps65
        go_wp2_with fail
        refine KF.step hs ?_
        intro w1 hs hb1
        replace P0 := P0.on hb1
        replace B0 := B0.on hb1
        have p0 := P0.cell (i := 0) (v := .int .i64 F) rfl
        have p1 := P0.cell (i := 1) (v := .int .i64 T) rfl
        have ce0 := B0.cell (i := 0) (v := .string ⟨#[]⟩) rfl
        have ce1 := B0.cell (i := 1) (v := .string ⟨#[]⟩) rfl
        have cg0 := B0.frozen 0
        have cg1 := B0.frozen 1
        go_wp2_with fail
        refine KT.step hs ?_
        intro w2 hs hb2
        replace P0 := P0.on hb2
        replace B0 := B0.on hb2
        have p0 := P0.cell (i := 0) (v := .int .i64 F) rfl
        have p1 := P0.cell (i := 1) (v := .int .i64 T) rfl
        have ce0 := B0.cell (i := 0) (v := .string ⟨#[]⟩) rfl
        have ce1 := B0.cell (i := 1) (v := .string ⟨#[]⟩) rfl
        have cg0 := B0.frozen 0
        have cg1 := B0.frozen 1
        go_wp2_with fail
        obtain ⟨W, hW, y0, y1, hbe⟩ := ret_frac hs (by omega) B0 ⟨#[]⟩ ⟨#[]⟩
        rw [hW]
        exact bodyPost_ret (v := .tuple #[.agg #[.string ⟨#[]⟩, .string ⟨#[]⟩], .int .i64 13]) (by simp [results, Tryz.results65, go_sem, y0, y1]) rfl ⟨rfl, hbe⟩
      | false =>
        cases ta with
        | true =>
          rw [e13 (by rw [hf, ht, ha]; (first | rfl | simp))]
          unfold FR
          rw [frN_zero, frD_zero]
          clear hf ht ha hb e13
          have hs := ((St.refl hg).alloc (.cells #[.int .i64 F, .int .i64 T] 56)).alloc (.cells #[.string ⟨#[]⟩, .string ⟨#[]⟩] 34)
          have P0 := (Bx.new w #[.int .i64 F, .int .i64 T] 56).alloc (.cells #[.string ⟨#[]⟩, .string ⟨#[]⟩] 34)
          have B0 := Bx.new1 w (.cells #[.int .i64 F, .int .i64 T] 56) #[.string ⟨#[]⟩, .string ⟨#[]⟩] 34
          have p0 := P0.cell (i := 0) (v := .int .i64 F) rfl
          have p1 := P0.cell (i := 1) (v := .int .i64 T) rfl
          have ce0 := B0.cell (i := 0) (v := .string ⟨#[]⟩) rfl
          have ce1 := B0.cell (i := 1) (v := .string ⟨#[]⟩) rfl
          have cg0 := B0.frozen 0
          have cg1 := B0.frozen 1
          go_enter Tryz.func65, Tryz.ntmps65
          go_wp2_with fail
          refine KF.step hs ?_
          intro w1 hs hb1
          replace P0 := P0.on hb1
          replace B0 := B0.on hb1
          have p0 := P0.cell (i := 0) (v := .int .i64 F) rfl
          have p1 := P0.cell (i := 1) (v := .int .i64 T) rfl
          have ce0 := B0.cell (i := 0) (v := .string ⟨#[]⟩) rfl
          have ce1 := B0.cell (i := 1) (v := .string ⟨#[]⟩) rfl
          have cg0 := B0.frozen 0
          have cg1 := B0.frozen 1
          go_wp2_with fail
          refine KT.step hs ?_
          intro w2 hs hb2
          replace P0 := P0.on hb2
          replace B0 := B0.on hb2
          have p0 := P0.cell (i := 0) (v := .int .i64 F) rfl
          have p1 := P0.cell (i := 1) (v := .int .i64 T) rfl
          have ce0 := B0.cell (i := 0) (v := .string ⟨#[]⟩) rfl
          have ce1 := B0.cell (i := 1) (v := .string ⟨#[]⟩) rfl
          have cg0 := B0.frozen 0
          have cg1 := B0.frozen 1
          go_wp2_with fail
          refine KA.step hs ?_
          intro w3 hs hb3
          replace P0 := P0.on hb3
          replace B0 := B0.on hb3
          have p0 := P0.cell (i := 0) (v := .int .i64 F) rfl
          have p1 := P0.cell (i := 1) (v := .int .i64 T) rfl
          have ce0 := B0.cell (i := 0) (v := .string ⟨#[]⟩) rfl
          have ce1 := B0.cell (i := 1) (v := .string ⟨#[]⟩) rfl
          have cg0 := B0.frozen 0
          have cg1 := B0.frozen 1
          go_wp2_with fail
          obtain ⟨W, hW, y0, y1, hbe⟩ := ret_frac hs (by omega) B0 ⟨#[]⟩ ⟨#[]⟩
          rw [hW]
          exact bodyPost_ret (v := .tuple #[.agg #[.string ⟨#[]⟩, .string ⟨#[]⟩], .int .i64 13]) (by simp [results, Tryz.results65, go_sem, y0, y1]) rfl ⟨rfl, hbe⟩
        | false =>
          cases tb with
          | true =>
            rw [e13 (by rw [hf, ht, ha, hb]; (first | rfl | simp))]
            unfold FR
            rw [frN_zero, frD_zero]
            clear hf ht ha hb e13
            have hs := ((St.refl hg).alloc (.cells #[.int .i64 F, .int .i64 T] 56)).alloc (.cells #[.string ⟨#[]⟩, .string ⟨#[]⟩] 34)
            have P0 := (Bx.new w #[.int .i64 F, .int .i64 T] 56).alloc (.cells #[.string ⟨#[]⟩, .string ⟨#[]⟩] 34)
            have B0 := Bx.new1 w (.cells #[.int .i64 F, .int .i64 T] 56) #[.string ⟨#[]⟩, .string ⟨#[]⟩] 34
            have p0 := P0.cell (i := 0) (v := .int .i64 F) rfl
            have p1 := P0.cell (i := 1) (v := .int .i64 T) rfl
            have ce0 := B0.cell (i := 0) (v := .string ⟨#[]⟩) rfl
            have ce1 := B0.cell (i := 1) (v := .string ⟨#[]⟩) rfl
            have cg0 := B0.frozen 0
            have cg1 := B0.frozen 1
            go_enter Tryz.func65, Tryz.ntmps65
            go_wp2_with fail
            refine KF.step hs ?_
            intro w1 hs hb1
            replace P0 := P0.on hb1
            replace B0 := B0.on hb1
            have p0 := P0.cell (i := 0) (v := .int .i64 F) rfl
            have p1 := P0.cell (i := 1) (v := .int .i64 T) rfl
            have ce0 := B0.cell (i := 0) (v := .string ⟨#[]⟩) rfl
            have ce1 := B0.cell (i := 1) (v := .string ⟨#[]⟩) rfl
            have cg0 := B0.frozen 0
            have cg1 := B0.frozen 1
            go_wp2_with fail
            refine KT.step hs ?_
            intro w2 hs hb2
            replace P0 := P0.on hb2
            replace B0 := B0.on hb2
            have p0 := P0.cell (i := 0) (v := .int .i64 F) rfl
            have p1 := P0.cell (i := 1) (v := .int .i64 T) rfl
            have ce0 := B0.cell (i := 0) (v := .string ⟨#[]⟩) rfl
            have ce1 := B0.cell (i := 1) (v := .string ⟨#[]⟩) rfl
            have cg0 := B0.frozen 0
            have cg1 := B0.frozen 1
            go_wp2_with fail
            refine KA.step hs ?_
            intro w3 hs hb3
            replace P0 := P0.on hb3
            replace B0 := B0.on hb3
            have p0 := P0.cell (i := 0) (v := .int .i64 F) rfl
            have p1 := P0.cell (i := 1) (v := .int .i64 T) rfl
            have ce0 := B0.cell (i := 0) (v := .string ⟨#[]⟩) rfl
            have ce1 := B0.cell (i := 1) (v := .string ⟨#[]⟩) rfl
            have cg0 := B0.frozen 0
            have cg1 := B0.frozen 1
            go_wp2_with fail
            refine KB.step hs ?_
            intro w4 hs hb4
            replace P0 := P0.on hb4
            replace B0 := B0.on hb4
            have p0 := P0.cell (i := 0) (v := .int .i64 F) rfl
            have p1 := P0.cell (i := 1) (v := .int .i64 T) rfl
            have ce0 := B0.cell (i := 0) (v := .string ⟨#[]⟩) rfl
            have ce1 := B0.cell (i := 1) (v := .string ⟨#[]⟩) rfl
            have cg0 := B0.frozen 0
            have cg1 := B0.frozen 1
            go_wp2_with fail
            obtain ⟨W, hW, y0, y1, hbe⟩ := ret_frac hs (by omega) B0 ⟨#[]⟩ ⟨#[]⟩
            rw [hW]
            exact bodyPost_ret (v := .tuple #[.agg #[.string ⟨#[]⟩, .string ⟨#[]⟩], .int .i64 13]) (by simp [results, Tryz.results65, go_sem, y0, y1]) rfl ⟨rfl, hbe⟩
          | false =>
            have hall : (notDay F || notDay T || notDay A || notDay B) = false := by rw [hf, ht, ha, hb]; rfl
            have e8 : (A < F ∨ B < A ∨ T < B ∨ F = T) → regR M F T A B = (0, 8) := fun h => by unfold regR; rw [if_neg (by omega), hall, if_neg (by decide), if_pos h]
            obtain ⟨rf0, rf1⟩ := notDay_ok hf
            obtain ⟨rt0, rt1⟩ := notDay_ok ht
            obtain ⟨ra0, ra1⟩ := notDay_ok ha
            obtain ⟨rb0, rb1⟩ := notDay_ok hb
            clear hf ht ha hb e13
            by_cases hk : A < F
            · have r0 : decide (A < F) = true := decide_eq_true hk
              rw [e8 (.inl hk)]
              unfold FR
              rw [frN_zero, frD_zero]
              clear e8 hall hk
              have hs := ((St.refl hg).alloc (.cells #[.int .i64 F, .int .i64 T] 56)).alloc (.cells #[.string ⟨#[]⟩, .string ⟨#[]⟩] 34)
              have P0 := (Bx.new w #[.int .i64 F, .int .i64 T] 56).alloc (.cells #[.string ⟨#[]⟩, .string ⟨#[]⟩] 34)
              have B0 := Bx.new1 w (.cells #[.int .i64 F, .int .i64 T] 56) #[.string ⟨#[]⟩, .string ⟨#[]⟩] 34
              have p0 := P0.cell (i := 0) (v := .int .i64 F) rfl
              have p1 := P0.cell (i := 1) (v := .int .i64 T) rfl
              have ce0 := B0.cell (i := 0) (v := .string ⟨#[]⟩) rfl
              have ce1 := B0.cell (i := 1) (v := .string ⟨#[]⟩) rfl
              have cg0 := B0.frozen 0
              have cg1 := B0.frozen 1
              go_enter Tryz.func65, Tryz.ntmps65
              go_wp2_with fail
              refine KF.step hs ?_
              intro w1 hs hb1
              replace P0 := P0.on hb1
              replace B0 := B0.on hb1
              have p0 := P0.cell (i := 0) (v := .int .i64 F) rfl
              have p1 := P0.cell (i := 1) (v := .int .i64 T) rfl
              have ce0 := B0.cell (i := 0) (v := .string ⟨#[]⟩) rfl
              have ce1 := B0.cell (i := 1) (v := .string ⟨#[]⟩) rfl
              have cg0 := B0.frozen 0
              have cg1 := B0.frozen 1
              go_wp2_with fail
              refine KT.step hs ?_
              intro w2 hs hb2
              replace P0 := P0.on hb2
              replace B0 := B0.on hb2
              have p0 := P0.cell (i := 0) (v := .int .i64 F) rfl
              have p1 := P0.cell (i := 1) (v := .int .i64 T) rfl
              have ce0 := B0.cell (i := 0) (v := .string ⟨#[]⟩) rfl
              have ce1 := B0.cell (i := 1) (v := .string ⟨#[]⟩) rfl
              have cg0 := B0.frozen 0
              have cg1 := B0.frozen 1
              go_wp2_with fail
              refine KA.step hs ?_
              intro w3 hs hb3
              replace P0 := P0.on hb3
              replace B0 := B0.on hb3
              have p0 := P0.cell (i := 0) (v := .int .i64 F) rfl
              have p1 := P0.cell (i := 1) (v := .int .i64 T) rfl
              have ce0 := B0.cell (i := 0) (v := .string ⟨#[]⟩) rfl
              have ce1 := B0.cell (i := 1) (v := .string ⟨#[]⟩) rfl
              have cg0 := B0.frozen 0
              have cg1 := B0.frozen 1
              go_wp2_with fail
              refine KB.step hs ?_
              intro w4 hs hb4
              replace P0 := P0.on hb4
              replace B0 := B0.on hb4
              have p0 := P0.cell (i := 0) (v := .int .i64 F) rfl
              have p1 := P0.cell (i := 1) (v := .int .i64 T) rfl
              have ce0 := B0.cell (i := 0) (v := .string ⟨#[]⟩) rfl
              have ce1 := B0.cell (i := 1) (v := .string ⟨#[]⟩) rfl
              have cg0 := B0.frozen 0
              have cg1 := B0.frozen 1
              go_wp2_with fail
              obtain ⟨W, hW, y0, y1, hbe⟩ := ret_frac hs (by omega) B0 ⟨#[]⟩ ⟨#[]⟩
              rw [hW]
              exact bodyPost_ret (v := .tuple #[.agg #[.string ⟨#[]⟩, .string ⟨#[]⟩], .int .i64 8]) (by simp [results, Tryz.results65, go_sem, y0, y1]) rfl ⟨rfl, hbe⟩
            have r0 : decide (A < F) = false := decide_eq_false hk
            have g0 := hk
            clear hk
            by_cases hk : B < A
            · have r1 : decide (B < A) = true := decide_eq_true hk
              rw [e8 (.inr (.inl hk))]
              unfold FR
              rw [frN_zero, frD_zero]
              clear e8 hall hk
              have hs := ((St.refl hg).alloc (.cells #[.int .i64 F, .int .i64 T] 56)).alloc (.cells #[.string ⟨#[]⟩, .string ⟨#[]⟩] 34)
              have P0 := (Bx.new w #[.int .i64 F, .int .i64 T] 56).alloc (.cells #[.string ⟨#[]⟩, .string ⟨#[]⟩] 34)
              have B0 := Bx.new1 w (.cells #[.int .i64 F, .int .i64 T] 56) #[.string ⟨#[]⟩, .string ⟨#[]⟩] 34
              have p0 := P0.cell (i := 0) (v := .int .i64 F) rfl
              have p1 := P0.cell (i := 1) (v := .int .i64 T) rfl
              have ce0 := B0.cell (i := 0) (v := .string ⟨#[]⟩) rfl
              have ce1 := B0.cell (i := 1) (v := .string ⟨#[]⟩) rfl
              have cg0 := B0.frozen 0
              have cg1 := B0.frozen 1
              go_enter Tryz.func65, Tryz.ntmps65
              go_wp2_with fail
              refine KF.step hs ?_
              intro w1 hs hb1
              replace P0 := P0.on hb1
              replace B0 := B0.on hb1
              have p0 := P0.cell (i := 0) (v := .int .i64 F) rfl
              have p1 := P0.cell (i := 1) (v := .int .i64 T) rfl
              have ce0 := B0.cell (i := 0) (v := .string ⟨#[]⟩) rfl
              have ce1 := B0.cell (i := 1) (v := .string ⟨#[]⟩) rfl
              have cg0 := B0.frozen 0
              have cg1 := B0.frozen 1
              go_wp2_with fail
              refine KT.step hs ?_
              intro w2 hs hb2
              replace P0 := P0.on hb2
              replace B0 := B0.on hb2
              have p0 := P0.cell (i := 0) (v := .int .i64 F) rfl
              have p1 := P0.cell (i := 1) (v := .int .i64 T) rfl
              have ce0 := B0.cell (i := 0) (v := .string ⟨#[]⟩) rfl
              have ce1 := B0.cell (i := 1) (v := .string ⟨#[]⟩) rfl
              have cg0 := B0.frozen 0
              have cg1 := B0.frozen 1
              go_wp2_with fail
              refine KA.step hs ?_
              intro w3 hs hb3
              replace P0 := P0.on hb3
              replace B0 := B0.on hb3
              have p0 := P0.cell (i := 0) (v := .int .i64 F) rfl
              have p1 := P0.cell (i := 1) (v := .int .i64 T) rfl
              have ce0 := B0.cell (i := 0) (v := .string ⟨#[]⟩) rfl
              have ce1 := B0.cell (i := 1) (v := .string ⟨#[]⟩) rfl
              have cg0 := B0.frozen 0
              have cg1 := B0.frozen 1
              go_wp2_with fail
              refine KB.step hs ?_
              intro w4 hs hb4
              replace P0 := P0.on hb4
              replace B0 := B0.on hb4
              have p0 := P0.cell (i := 0) (v := .int .i64 F) rfl
              have p1 := P0.cell (i := 1) (v := .int .i64 T) rfl
              have ce0 := B0.cell (i := 0) (v := .string ⟨#[]⟩) rfl
              have ce1 := B0.cell (i := 1) (v := .string ⟨#[]⟩) rfl
              have cg0 := B0.frozen 0
              have cg1 := B0.frozen 1
              go_wp2_with fail
              obtain ⟨W, hW, y0, y1, hbe⟩ := ret_frac hs (by omega) B0 ⟨#[]⟩ ⟨#[]⟩
              rw [hW]
              exact bodyPost_ret (v := .tuple #[.agg #[.string ⟨#[]⟩, .string ⟨#[]⟩], .int .i64 8]) (by simp [results, Tryz.results65, go_sem, y0, y1]) rfl ⟨rfl, hbe⟩
            have r1 : decide (B < A) = false := decide_eq_false hk
            have g1 := hk
            clear hk
            by_cases hk : T < B
            · have r2 : decide (T < B) = true := decide_eq_true hk
              rw [e8 (.inr (.inr (.inl hk)))]
              unfold FR
              rw [frN_zero, frD_zero]
              clear e8 hall hk
              have hs := ((St.refl hg).alloc (.cells #[.int .i64 F, .int .i64 T] 56)).alloc (.cells #[.string ⟨#[]⟩, .string ⟨#[]⟩] 34)
              have P0 := (Bx.new w #[.int .i64 F, .int .i64 T] 56).alloc (.cells #[.string ⟨#[]⟩, .string ⟨#[]⟩] 34)
              have B0 := Bx.new1 w (.cells #[.int .i64 F, .int .i64 T] 56) #[.string ⟨#[]⟩, .string ⟨#[]⟩] 34
              have p0 := P0.cell (i := 0) (v := .int .i64 F) rfl
              have p1 := P0.cell (i := 1) (v := .int .i64 T) rfl
              have ce0 := B0.cell (i := 0) (v := .string ⟨#[]⟩) rfl
              have ce1 := B0.cell (i := 1) (v := .string ⟨#[]⟩) rfl
              have cg0 := B0.frozen 0
              have cg1 := B0.frozen 1
              go_enter Tryz.func65, Tryz.ntmps65
              go_wp2_with fail
              refine KF.step hs ?_
              intro w1 hs hb1
              replace P0 := P0.on hb1
              replace B0 := B0.on hb1
              have p0 := P0.cell (i := 0) (v := .int .i64 F) rfl
              have p1 := P0.cell (i := 1) (v := .int .i64 T) rfl
              have ce0 := B0.cell (i := 0) (v := .string ⟨#[]⟩) rfl
              have ce1 := B0.cell (i := 1) (v := .string ⟨#[]⟩) rfl
              have cg0 := B0.frozen 0
              have cg1 := B0.frozen 1
              go_wp2_with fail
              refine KT.step hs ?_
              intro w2 hs hb2
              replace P0 := P0.on hb2
              replace B0 := B0.on hb2
              have p0 := P0.cell (i := 0) (v := .int .i64 F) rfl
              have p1 := P0.cell (i := 1) (v := .int .i64 T) rfl
              have ce0 := B0.cell (i := 0) (v := .string ⟨#[]⟩) rfl
              have ce1 := B0.cell (i := 1) (v := .string ⟨#[]⟩) rfl
              have cg0 := B0.frozen 0
              have cg1 := B0.frozen 1
              go_wp2_with fail
              refine KA.step hs ?_
              intro w3 hs hb3
              replace P0 := P0.on hb3
              replace B0 := B0.on hb3
              have p0 := P0.cell (i := 0) (v := .int .i64 F) rfl
              have p1 := P0.cell (i := 1) (v := .int .i64 T) rfl
              have ce0 := B0.cell (i := 0) (v := .string ⟨#[]⟩) rfl
              have ce1 := B0.cell (i := 1) (v := .string ⟨#[]⟩) rfl
              have cg0 := B0.frozen 0
              have cg1 := B0.frozen 1
              go_wp2_with fail
              refine KB.step hs ?_
              intro w4 hs hb4
              replace P0 := P0.on hb4
              replace B0 := B0.on hb4
              have p0 := P0.cell (i := 0) (v := .int .i64 F) rfl
              have p1 := P0.cell (i := 1) (v := .int .i64 T) rfl
              have ce0 := B0.cell (i := 0) (v := .string ⟨#[]⟩) rfl
              have ce1 := B0.cell (i := 1) (v := .string ⟨#[]⟩) rfl
              have cg0 := B0.frozen 0
              have cg1 := B0.frozen 1
              go_wp2_with fail
              obtain ⟨W, hW, y0, y1, hbe⟩ := ret_frac hs (by omega) B0 ⟨#[]⟩ ⟨#[]⟩
              rw [hW]
              exact bodyPost_ret (v := .tuple #[.agg #[.string ⟨#[]⟩, .string ⟨#[]⟩], .int .i64 8]) (by simp [results, Tryz.results65, go_sem, y0, y1]) rfl ⟨rfl, hbe⟩
            have r2 : decide (T < B) = false := decide_eq_false hk
            have g2 := hk
            clear hk
            by_cases hk : F = T
            · have r3 : (F == T) = true := by simpa using hk
              rw [e8 (.inr (.inr (.inr (hk))))]
              unfold FR
              rw [frN_zero, frD_zero]
              clear e8 hall hk
              have hs := ((St.refl hg).alloc (.cells #[.int .i64 F, .int .i64 T] 56)).alloc (.cells #[.string ⟨#[]⟩, .string ⟨#[]⟩] 34)
              have P0 := (Bx.new w #[.int .i64 F, .int .i64 T] 56).alloc (.cells #[.string ⟨#[]⟩, .string ⟨#[]⟩] 34)
              have B0 := Bx.new1 w (.cells #[.int .i64 F, .int .i64 T] 56) #[.string ⟨#[]⟩, .string ⟨#[]⟩] 34
              have p0 := P0.cell (i := 0) (v := .int .i64 F) rfl
              have p1 := P0.cell (i := 1) (v := .int .i64 T) rfl
              have ce0 := B0.cell (i := 0) (v := .string ⟨#[]⟩) rfl
              have ce1 := B0.cell (i := 1) (v := .string ⟨#[]⟩) rfl
              have cg0 := B0.frozen 0
              have cg1 := B0.frozen 1
              go_enter Tryz.func65, Tryz.ntmps65
              go_wp2_with fail
              refine KF.step hs ?_
              intro w1 hs hb1
              replace P0 := P0.on hb1
              replace B0 := B0.on hb1
              have p0 := P0.cell (i := 0) (v := .int .i64 F) rfl
              have p1 := P0.cell (i := 1) (v := .int .i64 T) rfl
              have ce0 := B0.cell (i := 0) (v := .string ⟨#[]⟩) rfl
              have ce1 := B0.cell (i := 1) (v := .string ⟨#[]⟩) rfl
              have cg0 := B0.frozen 0
              have cg1 := B0.frozen 1
              go_wp2_with fail
              refine KT.step hs ?_
              intro w2 hs hb2
              replace P0 := P0.on hb2
              replace B0 := B0.on hb2
              have p0 := P0.cell (i := 0) (v := .int .i64 F) rfl
              have p1 := P0.cell (i := 1) (v := .int .i64 T) rfl
              have ce0 := B0.cell (i := 0) (v := .string ⟨#[]⟩) rfl
              have ce1 := B0.cell (i := 1) (v := .string ⟨#[]⟩) rfl
              have cg0 := B0.frozen 0
              have cg1 := B0.frozen 1
              go_wp2_with fail
              refine KA.step hs ?_
              intro w3 hs hb3
              replace P0 := P0.on hb3
              replace B0 := B0.on hb3
              have p0 := P0.cell (i := 0) (v := .int .i64 F) rfl
              have p1 := P0.cell (i := 1) (v := .int .i64 T) rfl
              have ce0 := B0.cell (i := 0) (v := .string ⟨#[]⟩) rfl
              have ce1 := B0.cell (i := 1) (v := .string ⟨#[]⟩) rfl
              have cg0 := B0.frozen 0
              have cg1 := B0.frozen 1
              go_wp2_with fail
              refine KB.step hs ?_
              intro w4 hs hb4
              replace P0 := P0.on hb4
              replace B0 := B0.on hb4
              have p0 := P0.cell (i := 0) (v := .int .i64 F) rfl
              have p1 := P0.cell (i := 1) (v := .int .i64 T) rfl
              have ce0 := B0.cell (i := 0) (v := .string ⟨#[]⟩) rfl
              have ce1 := B0.cell (i := 1) (v := .string ⟨#[]⟩) rfl
              have cg0 := B0.frozen 0
              have cg1 := B0.frozen 1
              go_wp2_with fail
              obtain ⟨W, hW, y0, y1, hbe⟩ := ret_frac hs (by omega) B0 ⟨#[]⟩ ⟨#[]⟩
              rw [hW]
              exact bodyPost_ret (v := .tuple #[.agg #[.string ⟨#[]⟩, .string ⟨#[]⟩], .int .i64 8]) (by simp [results, Tryz.results65, go_sem, y0, y1]) rfl ⟨rfl, hbe⟩
            have r3 : (F == T) = false := beq_eq_false_iff_ne.2 hk
            have g3 := hk
            clear hk
            rw [reg_in hM0 hM1 hall (by omega) (by omega) (by omega) g3]
            have K1 := ratio_any (n := B - A) (d := T - F) (by omega) (by omega) (by omega)
            have K2 := ratio_any (n := M) (d := 12) (by omega) (by omega) (by omega)
            have z1 := ratio_fit (x := B - A) (d := T - F) (by omega) (by omega)
            have z2 := ratio_fit (x := M) (d := 12) (by omega) (by omega)
            have K3 := MulF (Vq.fr z1 (by omega)) (Vq.fr z2 (by omega))
            unfold FR at K1 K2 K3 ⊢
            unfold FV at K3
            generalize frN (rat (B - A) (T - F) * rat M 12) = rn at *
            generalize frD (rat (B - A) (T - F) * rat M 12) = rd at *
            generalize frN (rat (B - A) (T - F)) = an at *
            generalize frD (rat (B - A) (T - F)) = ad at *
            generalize frN (rat M 12) = cn at *
            generalize frD (rat M 12) = cd at *
            clear e8 hall z1 z2 g0 g1 g2 g3
            have hs := ((St.refl hg).alloc (.cells #[.int .i64 F, .int .i64 T] 56)).alloc (.cells #[.string ⟨#[]⟩, .string ⟨#[]⟩] 34)
            have P0 := (Bx.new w #[.int .i64 F, .int .i64 T] 56).alloc (.cells #[.string ⟨#[]⟩, .string ⟨#[]⟩] 34)
            have B0 := Bx.new1 w (.cells #[.int .i64 F, .int .i64 T] 56) #[.string ⟨#[]⟩, .string ⟨#[]⟩] 34
            have p0 := P0.cell (i := 0) (v := .int .i64 F) rfl
            have p1 := P0.cell (i := 1) (v := .int .i64 T) rfl
            have ce0 := B0.cell (i := 0) (v := .string ⟨#[]⟩) rfl
            have ce1 := B0.cell (i := 1) (v := .string ⟨#[]⟩) rfl
            have cg0 := B0.frozen 0
            have cg1 := B0.frozen 1
            go_enter Tryz.func65, Tryz.ntmps65
            go_wp2_with fail
            refine KF.step hs ?_
            intro w1 hs hb1
            replace P0 := P0.on hb1
            replace B0 := B0.on hb1
            have p0 := P0.cell (i := 0) (v := .int .i64 F) rfl
            have p1 := P0.cell (i := 1) (v := .int .i64 T) rfl
            have ce0 := B0.cell (i := 0) (v := .string ⟨#[]⟩) rfl
            have ce1 := B0.cell (i := 1) (v := .string ⟨#[]⟩) rfl
            have cg0 := B0.frozen 0
            have cg1 := B0.frozen 1
            go_wp2_with fail
            refine KT.step hs ?_
            intro w2 hs hb2
            replace P0 := P0.on hb2
            replace B0 := B0.on hb2
            have p0 := P0.cell (i := 0) (v := .int .i64 F) rfl
            have p1 := P0.cell (i := 1) (v := .int .i64 T) rfl
            have ce0 := B0.cell (i := 0) (v := .string ⟨#[]⟩) rfl
            have ce1 := B0.cell (i := 1) (v := .string ⟨#[]⟩) rfl
            have cg0 := B0.frozen 0
            have cg1 := B0.frozen 1
            go_wp2_with fail
            refine KA.step hs ?_
            intro w3 hs hb3
            replace P0 := P0.on hb3
            replace B0 := B0.on hb3
            have p0 := P0.cell (i := 0) (v := .int .i64 F) rfl
            have p1 := P0.cell (i := 1) (v := .int .i64 T) rfl
            have ce0 := B0.cell (i := 0) (v := .string ⟨#[]⟩) rfl
            have ce1 := B0.cell (i := 1) (v := .string ⟨#[]⟩) rfl
            have cg0 := B0.frozen 0
            have cg1 := B0.frozen 1
            go_wp2_with fail
            refine KB.step hs ?_
            intro w4 hs hb4
            replace P0 := P0.on hb4
            replace B0 := B0.on hb4
            have p0 := P0.cell (i := 0) (v := .int .i64 F) rfl
            have p1 := P0.cell (i := 1) (v := .int .i64 T) rfl
            have ce0 := B0.cell (i := 0) (v := .string ⟨#[]⟩) rfl
            have ce1 := B0.cell (i := 1) (v := .string ⟨#[]⟩) rfl
            have cg0 := B0.frozen 0
            have cg1 := B0.frozen 1
            go_wp2_with fail
            refine K1.step hs ?_
            intro w5 hs hb5
            go_wp2_with fail
            refine K2.step hs ?_
            intro w6 hs hb6
            go_wp2_with fail
            refine K3.step hs ?_
            intro w7 hs hb7
            have B := ((B0.on hb5).on hb6).on hb7
            have ce0 := B.cell (i := 0) (v := .string ⟨#[]⟩) rfl
            have ce1 := B.cell (i := 1) (v := .string ⟨#[]⟩) rfl
            have cg0 := B.frozen 0
            have cg1 := B.frozen 1
            go_wp2_with fail
            obtain ⟨W, hW, y0, y1, hbe⟩ := ret_frac hs (by omega) B rn rd
            rw [hW]
            exact bodyPost_ret (v := .tuple #[.agg #[.string rn, .string rd], .int .i64 0]) (by simp [results, Tryz.results65, go_sem, y0, y1]) rfl ⟨rfl, hbe⟩
set_option maxRecDepth 100000 in
set_option maxHeartbeats 4000000 in
theorem rRegular_any (M F T A B : Int) : Ret 66 #[.agg #[.int .i64 F, .int .i64 T], .int .i64 M, .int .i64 A, .int .i64 B] (.tuple #[FR (regR M F T A B).1, .int .i64 (regR M F T A B).2]) := by
  intro w hg
  have KF := rvalid_any F
  have KT := rvalid_any T
  have KA := rvalid_any A
  have KB := rvalid_any B
  by_cases h1 : M < 1 ∨ 4800 < M
  · rw [show regR M F T A B = (0, 2) from if_pos h1]
    unfold FR
    rw [frN_zero, frD_zero]
    by_cases hm : M < 1
    · have q1 : decide (M < 1) = true := decide_eq_true hm
      clear h1 hm
      have hs := ((St.refl hg).alloc (.cells #[.int .i64 F, .int .i64 T] 56)).alloc (.cells #[.string ⟨#[]⟩, .string ⟨#[]⟩] 34)
      have P0 := (Bx.new w #[.int .i64 F, .int .i64 T] 56).alloc (.cells #[.string ⟨#[]⟩, .string ⟨#[]⟩] 34)
      have B0 := Bx.new1 w (.cells #[.int .i64 F, .int .i64 T] 56) #[.string ⟨#[]⟩, .string ⟨#[]⟩] 34
      have p0 := P0.cell (i := 0) (v := .int .i64 F) rfl
      have p1 := P0.cell (i := 1) (v := .int .i64 T) rfl
      have ce0 := B0.cell (i := 0) (v := .string ⟨#[]⟩) rfl
      have ce1 := B0.cell (i := 1) (v := .string ⟨#[]⟩) rfl
      have cg0 := B0.frozen 0
      have cg1 := B0.frozen 1
      go_enter Tryz.func66, Tryz.ntmps66
      go_wp2_with fail
      exact bodyPost_ret (v := .tuple #[.agg #[.string ⟨#[]⟩, .string ⟨#[]⟩], .int .i64 2]) (by simp [results, Tryz.results66, go_sem, ce0, ce1]) rfl ⟨rfl, hs.2⟩
    · have q1 : decide (M < 1) = false := decide_eq_false hm
      have q2 : decide (4800 < M) = true := decide_eq_true (by omega)
      clear h1 hm
      have hs := ((St.refl hg).alloc (.cells #[.int .i64 F, .int .i64 T] 56)).alloc (.cells #[.string ⟨#[]⟩, .string ⟨#[]⟩] 34)
      have P0 := (Bx.new w #[.int .i64 F, .int .i64 T] 56).alloc (.cells #[.string ⟨#[]⟩, .string ⟨#[]⟩] 34)
      have B0 := Bx.new1 w (.cells #[.int .i64 F, .int .i64 T] 56) #[.string ⟨#[]⟩, .string ⟨#[]⟩] 34
      have p0 := P0.cell (i := 0) (v := .int .i64 F) rfl
      have p1 := P0.cell (i := 1) (v := .int .i64 T) rfl
      have ce0 := B0.cell (i := 0) (v := .string ⟨#[]⟩) rfl
      have ce1 := B0.cell (i := 1) (v := .string ⟨#[]⟩) rfl
      have cg0 := B0.frozen 0
      have cg1 := B0.frozen 1
      go_enter Tryz.func66, Tryz.ntmps66
      go_wp2_with fail
      exact bodyPost_ret (v := .tuple #[.agg #[.string ⟨#[]⟩, .string ⟨#[]⟩], .int .i64 2]) (by simp [results, Tryz.results66, go_sem, ce0, ce1]) rfl ⟨rfl, hs.2⟩
  · have q1 : decide (M < 1) = false := decide_eq_false (by omega)
    have q2 : decide (4800 < M) = false := decide_eq_false (by omega)
    have hM0 : 1 ≤ M := by omega
    have hM1 : M ≤ 4800 := by omega
    clear h1
    have e13 : (notDay F || notDay T || notDay A || notDay B) = true → regR M F T A B = (0, 13) := fun h => by unfold regR; rw [if_neg (by omega), if_pos h]
    obtain ⟨tf, hf⟩ : ∃ t, notDay F = t := ⟨_, rfl⟩
    obtain ⟨tt, ht⟩ : ∃ t, notDay T = t := ⟨_, rfl⟩
    obtain ⟨ta, ha⟩ : ∃ t, notDay A = t := ⟨_, rfl⟩
    obtain ⟨tb, hb⟩ : ∃ t, notDay B = t := ⟨_, rfl⟩
    rw [hf] at KF
    rw [ht] at KT
    rw [ha] at KA
    rw [hb] at KB
    cases tf with
    | true =>
      rw [e13 (by rw [hf]; (first | rfl | simp))]
      unfold FR
      rw [frN_zero, frD_zero]
      clear hf ht ha hb e13
      have hs := ((St.refl hg).alloc (.cells #[.int .i64 F, .int .i64 T] 56)).alloc (.cells #[.string ⟨#[]⟩, .string ⟨#[]⟩] 34)
      have P0 := (Bx.new w #[.int .i64 F, .int .i64 T] 56).alloc (.cells #[.string ⟨#[]⟩, .string ⟨#[]⟩] 34)
      have B0 := Bx.new1 w (.cells #[.int .i64 F, .int .i64 T] 56) #[.string ⟨#[]⟩, .string ⟨#[]⟩] 34
      have p0 := P0.cell (i := 0) (v := .int .i64 F) rfl
      have p1 := P0.cell (i := 1) (v := .int .i64 T) rfl
      have ce0 := B0.cell (i := 0) (v := .string ⟨#[]⟩) rfl
      have ce1 := B0.cell (i := 1) (v := .string ⟨#[]⟩) rfl
      have cg0 := B0.frozen 0
      have cg1 := B0.frozen 1
      go_enter Tryz.func66, Tryz.ntmps66
      go_wp2_with fail
      refine KF.step hs ?_
      intro w1 hs hb1
      replace P0 := P0.on hb1
      replace B0 := B0.on hb1
      have p0 := P0.cell (i := 0) (v := .int .i64 F) rfl
      have p1 := P0.cell (i := 1) (v := .int .i64 T) rfl
      have ce0 := B0.cell (i := 0) (v := .string ⟨#[]⟩) rfl
      have ce1 := B0.cell (i := 1) (v := .string ⟨#[]⟩) rfl
      have cg0 := B0.frozen 0
      have cg1 := B0.frozen 1
      go_wp2_with fail
      obtain ⟨W, hW, y0, y1, hbe⟩ := ret_frac hs (by omega) B0 ⟨#[]⟩ ⟨#[]⟩
      rw [hW]
      exact bodyPost_ret (v := .tuple #[.agg #[.string ⟨#[]⟩, .string ⟨#[]⟩], .int .i64 13]) (by simp [results, Tryz.results66, go_sem, y0, y1]) rfl ⟨rfl, hbe⟩
    | false =>
      cases tt with
      | true =>
        rw [e13 (by rw [hf, ht]; (first | rfl | simp))]
        unfold FR
        rw [frN_zero, frD_zero]
        clear hf ht ha hb e13
        have hs := ((St.refl hg).alloc (.cells #[.int .i64 F, .int .i64 T] 56)).alloc (.cells #[.string ⟨#[]⟩, .string ⟨#[]⟩] 34)
        have P0 := (Bx.new w #[.int .i64 F, .int .i64 T] 56).alloc (.cells #[.string ⟨#[]⟩, .string ⟨#[]⟩] 34)
        have B0 := Bx.new1 w (.cells #[.int .i64 F, .int .i64 T] 56) #[.string ⟨#[]⟩, .string ⟨#[]⟩] 34
        have p0 := P0.cell (i := 0) (v := .int .i64 F) rfl
        have p1 := P0.cell (i := 1) (v := .int .i64 T) rfl
        have ce0 := B0.cell (i := 0) (v := .string ⟨#[]⟩) rfl
        have ce1 := B0.cell (i := 1) (v := .string ⟨#[]⟩) rfl
        have cg0 := B0.frozen 0
        have cg1 := B0.frozen 1
        go_enter Tryz.func66, Tryz.ntmps66
        go_wp2_with fail
        refine KF.step hs ?_
        intro w1 hs hb1
        replace P0 := P0.on hb1
        replace B0 := B0.on hb1
        have p0 := P0.cell (i := 0) (v := .int .i64 F) rfl
        have p1 := P0.cell (i := 1) (v := .int .i64 T) rfl
        have ce0 := B0.cell (i := 0) (v := .string ⟨#[]⟩) rfl
        have ce1 := B0.cell (i := 1) (v := .string ⟨#[]⟩) rfl
        have cg0 := B0.frozen 0
        have cg1 := B0.frozen 1
        go_wp2_with fail
        refine KT.step hs ?_
        intro w2 hs hb2
        replace P0 := P0.on hb2
        replace B0 := B0.on hb2
        have p0 := P0.cell (i := 0) (v := .int .i64 F) rfl
        have p1 := P0.cell (i := 1) (v := .int .i64 T) rfl
        have ce0 := B0.cell (i := 0) (v := .string ⟨#[]⟩) rfl
        have ce1 := B0.cell (i := 1) (v := .string ⟨#[]⟩) rfl
        have cg0 := B0.frozen 0
        have cg1 := B0.frozen 1
        go_wp2_with fail
        obtain ⟨W, hW, y0, y1, hbe⟩ := ret_frac hs (by omega) B0 ⟨#[]⟩ ⟨#[]⟩
        rw [hW]
        exact bodyPost_ret (v := .tuple #[.agg #[.string ⟨#[]⟩, .string ⟨#[]⟩], .int .i64 13]) (by simp [results, Tryz.results66, go_sem, y0, y1]) rfl ⟨rfl, hbe⟩
      | false =>
        cases ta with
        | true =>
          rw [e13 (by rw [hf, ht, ha]; (first | rfl | simp))]
          unfold FR
          rw [frN_zero, frD_zero]
          clear hf ht ha hb e13
          have hs := ((St.refl hg).alloc (.cells #[.int .i64 F, .int .i64 T] 56)).alloc (.cells #[.string ⟨#[]⟩, .string ⟨#[]⟩] 34)
          have P0 := (Bx.new w #[.int .i64 F, .int .i64 T] 56).alloc (.cells #[.string ⟨#[]⟩, .string ⟨#[]⟩] 34)
          have B0 := Bx.new1 w (.cells #[.int .i64 F, .int .i64 T] 56) #[.string ⟨#[]⟩, .string ⟨#[]⟩] 34
          have p0 := P0.cell (i := 0) (v := .int .i64 F) rfl
          have p1 := P0.cell (i := 1) (v := .int .i64 T) rfl
          have ce0 := B0.cell (i := 0) (v := .string ⟨#[]⟩) rfl
          have ce1 := B0.cell (i := 1) (v := .string ⟨#[]⟩) rfl
          have cg0 := B0.frozen 0
          have cg1 := B0.frozen 1
          go_enter Tryz.func66, Tryz.ntmps66
          go_wp2_with fail
          refine KF.step hs ?_
          intro w1 hs hb1
          replace P0 := P0.on hb1
          replace B0 := B0.on hb1
          have p0 := P0.cell (i := 0) (v := .int .i64 F) rfl
          have p1 := P0.cell (i := 1) (v := .int .i64 T) rfl
          have ce0 := B0.cell (i := 0) (v := .string ⟨#[]⟩) rfl
          have ce1 := B0.cell (i := 1) (v := .string ⟨#[]⟩) rfl
          have cg0 := B0.frozen 0
          have cg1 := B0.frozen 1
          go_wp2_with fail
          refine KT.step hs ?_
          intro w2 hs hb2
          replace P0 := P0.on hb2
          replace B0 := B0.on hb2
          have p0 := P0.cell (i := 0) (v := .int .i64 F) rfl
          have p1 := P0.cell (i := 1) (v := .int .i64 T) rfl
          have ce0 := B0.cell (i := 0) (v := .string ⟨#[]⟩) rfl
          have ce1 := B0.cell (i := 1) (v := .string ⟨#[]⟩) rfl
          have cg0 := B0.frozen 0
          have cg1 := B0.frozen 1
          go_wp2_with fail
          refine KA.step hs ?_
          intro w3 hs hb3
          replace P0 := P0.on hb3
          replace B0 := B0.on hb3
          have p0 := P0.cell (i := 0) (v := .int .i64 F) rfl
          have p1 := P0.cell (i := 1) (v := .int .i64 T) rfl
          have ce0 := B0.cell (i := 0) (v := .string ⟨#[]⟩) rfl
          have ce1 := B0.cell (i := 1) (v := .string ⟨#[]⟩) rfl
          have cg0 := B0.frozen 0
          have cg1 := B0.frozen 1
          go_wp2_with fail
          obtain ⟨W, hW, y0, y1, hbe⟩ := ret_frac hs (by omega) B0 ⟨#[]⟩ ⟨#[]⟩
          rw [hW]
          exact bodyPost_ret (v := .tuple #[.agg #[.string ⟨#[]⟩, .string ⟨#[]⟩], .int .i64 13]) (by simp [results, Tryz.results66, go_sem, y0, y1]) rfl ⟨rfl, hbe⟩
        | false =>
          cases tb with
          | true =>
            rw [e13 (by rw [hf, ht, ha, hb]; (first | rfl | simp))]
            unfold FR
            rw [frN_zero, frD_zero]
            clear hf ht ha hb e13
            have hs := ((St.refl hg).alloc (.cells #[.int .i64 F, .int .i64 T] 56)).alloc (.cells #[.string ⟨#[]⟩, .string ⟨#[]⟩] 34)
            have P0 := (Bx.new w #[.int .i64 F, .int .i64 T] 56).alloc (.cells #[.string ⟨#[]⟩, .string ⟨#[]⟩] 34)
            have B0 := Bx.new1 w (.cells #[.int .i64 F, .int .i64 T] 56) #[.string ⟨#[]⟩, .string ⟨#[]⟩] 34
            have p0 := P0.cell (i := 0) (v := .int .i64 F) rfl
            have p1 := P0.cell (i := 1) (v := .int .i64 T) rfl
            have ce0 := B0.cell (i := 0) (v := .string ⟨#[]⟩) rfl
            have ce1 := B0.cell (i := 1) (v := .string ⟨#[]⟩) rfl
            have cg0 := B0.frozen 0
            have cg1 := B0.frozen 1
            go_enter Tryz.func66, Tryz.ntmps66
            go_wp2_with fail
            refine KF.step hs ?_
            intro w1 hs hb1
            replace P0 := P0.on hb1
            replace B0 := B0.on hb1
            have p0 := P0.cell (i := 0) (v := .int .i64 F) rfl
            have p1 := P0.cell (i := 1) (v := .int .i64 T) rfl
            have ce0 := B0.cell (i := 0) (v := .string ⟨#[]⟩) rfl
            have ce1 := B0.cell (i := 1) (v := .string ⟨#[]⟩) rfl
            have cg0 := B0.frozen 0
            have cg1 := B0.frozen 1
            go_wp2_with fail
            refine KT.step hs ?_
            intro w2 hs hb2
            replace P0 := P0.on hb2
            replace B0 := B0.on hb2
            have p0 := P0.cell (i := 0) (v := .int .i64 F) rfl
            have p1 := P0.cell (i := 1) (v := .int .i64 T) rfl
            have ce0 := B0.cell (i := 0) (v := .string ⟨#[]⟩) rfl
            have ce1 := B0.cell (i := 1) (v := .string ⟨#[]⟩) rfl
            have cg0 := B0.frozen 0
            have cg1 := B0.frozen 1
            go_wp2_with fail
            refine KA.step hs ?_
            intro w3 hs hb3
            replace P0 := P0.on hb3
            replace B0 := B0.on hb3
            have p0 := P0.cell (i := 0) (v := .int .i64 F) rfl
            have p1 := P0.cell (i := 1) (v := .int .i64 T) rfl
            have ce0 := B0.cell (i := 0) (v := .string ⟨#[]⟩) rfl
            have ce1 := B0.cell (i := 1) (v := .string ⟨#[]⟩) rfl
            have cg0 := B0.frozen 0
            have cg1 := B0.frozen 1
            go_wp2_with fail
            refine KB.step hs ?_
            intro w4 hs hb4
            replace P0 := P0.on hb4
            replace B0 := B0.on hb4
            have p0 := P0.cell (i := 0) (v := .int .i64 F) rfl
            have p1 := P0.cell (i := 1) (v := .int .i64 T) rfl
            have ce0 := B0.cell (i := 0) (v := .string ⟨#[]⟩) rfl
            have ce1 := B0.cell (i := 1) (v := .string ⟨#[]⟩) rfl
            have cg0 := B0.frozen 0
            have cg1 := B0.frozen 1
            go_wp2_with fail
            obtain ⟨W, hW, y0, y1, hbe⟩ := ret_frac hs (by omega) B0 ⟨#[]⟩ ⟨#[]⟩
            rw [hW]
            exact bodyPost_ret (v := .tuple #[.agg #[.string ⟨#[]⟩, .string ⟨#[]⟩], .int .i64 13]) (by simp [results, Tryz.results66, go_sem, y0, y1]) rfl ⟨rfl, hbe⟩
          | false =>
            have hall : (notDay F || notDay T || notDay A || notDay B) = false := by rw [hf, ht, ha, hb]; rfl
            have e8 : (A < F ∨ B < A ∨ T < B ∨ F = T) → regR M F T A B = (0, 8) := fun h => by unfold regR; rw [if_neg (by omega), hall, if_neg (by decide), if_pos h]
            obtain ⟨rf0, rf1⟩ := notDay_ok hf
            obtain ⟨rt0, rt1⟩ := notDay_ok ht
            obtain ⟨ra0, ra1⟩ := notDay_ok ha
            obtain ⟨rb0, rb1⟩ := notDay_ok hb
            clear hf ht ha hb e13
            by_cases hk : A < F
            · have r0 : decide (A < F) = true := decide_eq_true hk
              rw [e8 (.inl hk)]
              unfold FR
              rw [frN_zero, frD_zero]
              clear e8 hall hk
              have hs := ((St.refl hg).alloc (.cells #[.int .i64 F, .int .i64 T] 56)).alloc (.cells #[.string ⟨#[]⟩, .string ⟨#[]⟩] 34)
              have P0 := (Bx.new w #[.int .i64 F, .int .i64 T] 56).alloc (.cells #[.string ⟨#[]⟩, .string ⟨#[]⟩] 34)
              have B0 := Bx.new1 w (.cells #[.int .i64 F, .int .i64 T] 56) #[.string ⟨#[]⟩, .string ⟨#[]⟩] 34
              have p0 := P0.cell (i := 0) (v := .int .i64 F) rfl
              have p1 := P0.cell (i := 1) (v := .int .i64 T) rfl
              have ce0 := B0.cell (i := 0) (v := .string ⟨#[]⟩) rfl
              have ce1 := B0.cell (i := 1) (v := .string ⟨#[]⟩) rfl
              have cg0 := B0.frozen 0
              have cg1 := B0.frozen 1
              go_enter Tryz.func66, Tryz.ntmps66
              go_wp2_with fail
              refine KF.step hs ?_
              intro w1 hs hb1
              replace P0 := P0.on hb1
              replace B0 := B0.on hb1
              have p0 := P0.cell (i := 0) (v := .int .i64 F) rfl
              have p1 := P0.cell (i := 1) (v := .int .i64 T) rfl
              have ce0 := B0.cell (i := 0) (v := .string ⟨#[]⟩) rfl
              have ce1 := B0.cell (i := 1) (v := .string ⟨#[]⟩) rfl
              have cg0 := B0.frozen 0
              have cg1 := B0.frozen 1
              go_wp2_with fail
              refine KT.step hs ?_
              intro w2 hs hb2
              replace P0 := P0.on hb2
              replace B0 := B0.on hb2
              have p0 := P0.cell (i := 0) (v := .int .i64 F) rfl
              have p1 := P0.cell (i := 1) (v := .int .i64 T) rfl
              have ce0 := B0.cell (i := 0) (v := .string ⟨#[]⟩) rfl
              have ce1 := B0.cell (i := 1) (v := .string ⟨#[]⟩) rfl
              have cg0 := B0.frozen 0
              have cg1 := B0.frozen 1
              go_wp2_with fail
              refine KA.step hs ?_
              intro w3 hs hb3
              replace P0 := P0.on hb3
              replace B0 := B0.on hb3
              have p0 := P0.cell (i := 0) (v := .int .i64 F) rfl
              have p1 := P0.cell (i := 1) (v := .int .i64 T) rfl
              have ce0 := B0.cell (i := 0) (v := .string ⟨#[]⟩) rfl
              have ce1 := B0.cell (i := 1) (v := .string ⟨#[]⟩) rfl
              have cg0 := B0.frozen 0
              have cg1 := B0.frozen 1
              go_wp2_with fail
              refine KB.step hs ?_
              intro w4 hs hb4
              replace P0 := P0.on hb4
              replace B0 := B0.on hb4
              have p0 := P0.cell (i := 0) (v := .int .i64 F) rfl
              have p1 := P0.cell (i := 1) (v := .int .i64 T) rfl
              have ce0 := B0.cell (i := 0) (v := .string ⟨#[]⟩) rfl
              have ce1 := B0.cell (i := 1) (v := .string ⟨#[]⟩) rfl
              have cg0 := B0.frozen 0
              have cg1 := B0.frozen 1
              go_wp2_with fail
              obtain ⟨W, hW, y0, y1, hbe⟩ := ret_frac hs (by omega) B0 ⟨#[]⟩ ⟨#[]⟩
              rw [hW]
              exact bodyPost_ret (v := .tuple #[.agg #[.string ⟨#[]⟩, .string ⟨#[]⟩], .int .i64 8]) (by simp [results, Tryz.results66, go_sem, y0, y1]) rfl ⟨rfl, hbe⟩
            have r0 : decide (A < F) = false := decide_eq_false hk
            have g0 := hk
            clear hk
            by_cases hk : B < A
            · have r1 : decide (B < A) = true := decide_eq_true hk
              rw [e8 (.inr (.inl hk))]
              unfold FR
              rw [frN_zero, frD_zero]
              clear e8 hall hk
              have hs := ((St.refl hg).alloc (.cells #[.int .i64 F, .int .i64 T] 56)).alloc (.cells #[.string ⟨#[]⟩, .string ⟨#[]⟩] 34)
              have P0 := (Bx.new w #[.int .i64 F, .int .i64 T] 56).alloc (.cells #[.string ⟨#[]⟩, .string ⟨#[]⟩] 34)
              have B0 := Bx.new1 w (.cells #[.int .i64 F, .int .i64 T] 56) #[.string ⟨#[]⟩, .string ⟨#[]⟩] 34
              have p0 := P0.cell (i := 0) (v := .int .i64 F) rfl
              have p1 := P0.cell (i := 1) (v := .int .i64 T) rfl
              have ce0 := B0.cell (i := 0) (v := .string ⟨#[]⟩) rfl
              have ce1 := B0.cell (i := 1) (v := .string ⟨#[]⟩) rfl
              have cg0 := B0.frozen 0
              have cg1 := B0.frozen 1
              go_enter Tryz.func66, Tryz.ntmps66
              go_wp2_with fail
              refine KF.step hs ?_
              intro w1 hs hb1
              replace P0 := P0.on hb1
              replace B0 := B0.on hb1
              have p0 := P0.cell (i := 0) (v := .int .i64 F) rfl
              have p1 := P0.cell (i := 1) (v := .int .i64 T) rfl
              have ce0 := B0.cell (i := 0) (v := .string ⟨#[]⟩) rfl
              have ce1 := B0.cell (i := 1) (v := .string ⟨#[]⟩) rfl
              have cg0 := B0.frozen 0
              have cg1 := B0.frozen 1
              go_wp2_with fail
              refine KT.step hs ?_
              intro w2 hs hb2
              replace P0 := P0.on hb2
              replace B0 := B0.on hb2
              have p0 := P0.cell (i := 0) (v := .int .i64 F) rfl
              have p1 := P0.cell (i := 1) (v := .int .i64 T) rfl
              have ce0 := B0.cell (i := 0) (v := .string ⟨#[]⟩) rfl
              have ce1 := B0.cell (i := 1) (v := .string ⟨#[]⟩) rfl
              have cg0 := B0.frozen 0
              have cg1 := B0.frozen 1
              go_wp2_with fail
              refine KA.step hs ?_
              intro w3 hs hb3
              replace P0 := P0.on hb3
              replace B0 := B0.on hb3
              have p0 := P0.cell (i := 0) (v := .int .i64 F) rfl
              have p1 := P0.cell (i := 1) (v := .int .i64 T) rfl
              have ce0 := B0.cell (i := 0) (v := .string ⟨#[]⟩) rfl
              have ce1 := B0.cell (i := 1) (v := .string ⟨#[]⟩) rfl
              have cg0 := B0.frozen 0
              have cg1 := B0.frozen 1
              go_wp2_with fail
              refine KB.step hs ?_
              intro w4 hs hb4
              replace P0 := P0.on hb4
              replace B0 := B0.on hb4
              have p0 := P0.cell (i := 0) (v := .int .i64 F) rfl
              have p1 := P0.cell (i := 1) (v := .int .i64 T) rfl
              have ce0 := B0.cell (i := 0) (v := .string ⟨#[]⟩) rfl
              have ce1 := B0.cell (i := 1) (v := .string ⟨#[]⟩) rfl
              have cg0 := B0.frozen 0
              have cg1 := B0.frozen 1
              go_wp2_with fail
              obtain ⟨W, hW, y0, y1, hbe⟩ := ret_frac hs (by omega) B0 ⟨#[]⟩ ⟨#[]⟩
              rw [hW]
              exact bodyPost_ret (v := .tuple #[.agg #[.string ⟨#[]⟩, .string ⟨#[]⟩], .int .i64 8]) (by simp [results, Tryz.results66, go_sem, y0, y1]) rfl ⟨rfl, hbe⟩
            have r1 : decide (B < A) = false := decide_eq_false hk
            have g1 := hk
            clear hk
            by_cases hk : T < B
            · have r2 : decide (T < B) = true := decide_eq_true hk
              rw [e8 (.inr (.inr (.inl hk)))]
              unfold FR
              rw [frN_zero, frD_zero]
              clear e8 hall hk
              have hs := ((St.refl hg).alloc (.cells #[.int .i64 F, .int .i64 T] 56)).alloc (.cells #[.string ⟨#[]⟩, .string ⟨#[]⟩] 34)
              have P0 := (Bx.new w #[.int .i64 F, .int .i64 T] 56).alloc (.cells #[.string ⟨#[]⟩, .string ⟨#[]⟩] 34)
              have B0 := Bx.new1 w (.cells #[.int .i64 F, .int .i64 T] 56) #[.string ⟨#[]⟩, .string ⟨#[]⟩] 34
              have p0 := P0.cell (i := 0) (v := .int .i64 F) rfl
              have p1 := P0.cell (i := 1) (v := .int .i64 T) rfl
              have ce0 := B0.cell (i := 0) (v := .string ⟨#[]⟩) rfl
              have ce1 := B0.cell (i := 1) (v := .string ⟨#[]⟩) rfl
              have cg0 := B0.frozen 0
              have cg1 := B0.frozen 1
              go_enter Tryz.func66, Tryz.ntmps66
              go_wp2_with fail
              refine KF.step hs ?_
              intro w1 hs hb1
              replace P0 := P0.on hb1
              replace B0 := B0.on hb1
              have p0 := P0.cell (i := 0) (v := .int .i64 F) rfl
              have p1 := P0.cell (i := 1) (v := .int .i64 T) rfl
              have ce0 := B0.cell (i := 0) (v := .string ⟨#[]⟩) rfl
              have ce1 := B0.cell (i := 1) (v := .string ⟨#[]⟩) rfl
              have cg0 := B0.frozen 0
              have cg1 := B0.frozen 1
              go_wp2_with fail
              refine KT.step hs ?_
              intro w2 hs hb2
              replace P0 := P0.on hb2
              replace B0 := B0.on hb2
              have p0 := P0.cell (i := 0) (v := .int .i64 F) rfl
              have p1 := P0.cell (i := 1) (v := .int .i64 T) rfl
              have ce0 := B0.cell (i := 0) (v := .string ⟨#[]⟩) rfl
              have ce1 := B0.cell (i := 1) (v := .string ⟨#[]⟩) rfl
              have cg0 := B0.frozen 0
              have cg1 := B0.frozen 1
              go_wp2_with fail
              refine KA.step hs ?_
              intro w3 hs hb3
              replace P0 := P0.on hb3
              replace B0 := B0.on hb3
              have p0 := P0.cell (i := 0) (v := .int .i64 F) rfl
              have p1 := P0.cell (i := 1) (v := .int .i64 T) rfl
              have ce0 := B0.cell (i := 0) (v := .string ⟨#[]⟩) rfl
              have ce1 := B0.cell (i := 1) (v := .string ⟨#[]⟩) rfl
              have cg0 := B0.frozen 0
              have cg1 := B0.frozen 1
              go_wp2_with fail
              refine KB.step hs ?_
              intro w4 hs hb4
              replace P0 := P0.on hb4
              replace B0 := B0.on hb4
              have p0 := P0.cell (i := 0) (v := .int .i64 F) rfl
              have p1 := P0.cell (i := 1) (v := .int .i64 T) rfl
              have ce0 := B0.cell (i := 0) (v := .string ⟨#[]⟩) rfl
              have ce1 := B0.cell (i := 1) (v := .string ⟨#[]⟩) rfl
              have cg0 := B0.frozen 0
              have cg1 := B0.frozen 1
              go_wp2_with fail
              obtain ⟨W, hW, y0, y1, hbe⟩ := ret_frac hs (by omega) B0 ⟨#[]⟩ ⟨#[]⟩
              rw [hW]
              exact bodyPost_ret (v := .tuple #[.agg #[.string ⟨#[]⟩, .string ⟨#[]⟩], .int .i64 8]) (by simp [results, Tryz.results66, go_sem, y0, y1]) rfl ⟨rfl, hbe⟩
            have r2 : decide (T < B) = false := decide_eq_false hk
            have g2 := hk
            clear hk
            by_cases hk : F = T
            · have r3 : (F == T) = true := by simpa using hk
              rw [e8 (.inr (.inr (.inr (hk))))]
              unfold FR
              rw [frN_zero, frD_zero]
              clear e8 hall hk
              have hs := ((St.refl hg).alloc (.cells #[.int .i64 F, .int .i64 T] 56)).alloc (.cells #[.string ⟨#[]⟩, .string ⟨#[]⟩] 34)
              have P0 := (Bx.new w #[.int .i64 F, .int .i64 T] 56).alloc (.cells #[.string ⟨#[]⟩, .string ⟨#[]⟩] 34)
              have B0 := Bx.new1 w (.cells #[.int .i64 F, .int .i64 T] 56) #[.string ⟨#[]⟩, .string ⟨#[]⟩] 34
              have p0 := P0.cell (i := 0) (v := .int .i64 F) rfl
              have p1 := P0.cell (i := 1) (v := .int .i64 T) rfl
              have ce0 := B0.cell (i := 0) (v := .string ⟨#[]⟩) rfl
              have ce1 := B0.cell (i := 1) (v := .string ⟨#[]⟩) rfl
              have cg0 := B0.frozen 0
              have cg1 := B0.frozen 1
              go_enter Tryz.func66, Tryz.ntmps66
              go_wp2_with fail
              refine KF.step hs ?_
              intro w1 hs hb1
              replace P0 := P0.on hb1
              replace B0 := B0.on hb1
              have p0 := P0.cell (i := 0) (v := .int .i64 F) rfl
              have p1 := P0.cell (i := 1) (v := .int .i64 T) rfl
              have ce0 := B0.cell (i := 0) (v := .string ⟨#[]⟩) rfl
              have ce1 := B0.cell (i := 1) (v := .string ⟨#[]⟩) rfl
              have cg0 := B0.frozen 0
              have cg1 := B0.frozen 1
              go_wp2_with fail
              refine KT.step hs ?_
              intro w2 hs hb2
              replace P0 := P0.on hb2
              replace B0 := B0.on hb2
              have p0 := P0.cell (i := 0) (v := .int .i64 F) rfl
              have p1 := P0.cell (i := 1) (v := .int .i64 T) rfl
              have ce0 := B0.cell (i := 0) (v := .string ⟨#[]⟩) rfl
              have ce1 := B0.cell (i := 1) (v := .string ⟨#[]⟩) rfl
              have cg0 := B0.frozen 0
              have cg1 := B0.frozen 1
              go_wp2_with fail
              refine KA.step hs ?_
              intro w3 hs hb3
              replace P0 := P0.on hb3
              replace B0 := B0.on hb3
              have p0 := P0.cell (i := 0) (v := .int .i64 F) rfl
              have p1 := P0.cell (i := 1) (v := .int .i64 T) rfl
              have ce0 := B0.cell (i := 0) (v := .string ⟨#[]⟩) rfl
              have ce1 := B0.cell (i := 1) (v := .string ⟨#[]⟩) rfl
              have cg0 := B0.frozen 0
              have cg1 := B0.frozen 1
              go_wp2_with fail
              refine KB.step hs ?_
              intro w4 hs hb4
              replace P0 := P0.on hb4
              replace B0 := B0.on hb4
              have p0 := P0.cell (i := 0) (v := .int .i64 F) rfl
              have p1 := P0.cell (i := 1) (v := .int .i64 T) rfl
              have ce0 := B0.cell (i := 0) (v := .string ⟨#[]⟩) rfl
              have ce1 := B0.cell (i := 1) (v := .string ⟨#[]⟩) rfl
              have cg0 := B0.frozen 0
              have cg1 := B0.frozen 1
              go_wp2_with fail
              obtain ⟨W, hW, y0, y1, hbe⟩ := ret_frac hs (by omega) B0 ⟨#[]⟩ ⟨#[]⟩
              rw [hW]
              exact bodyPost_ret (v := .tuple #[.agg #[.string ⟨#[]⟩, .string ⟨#[]⟩], .int .i64 8]) (by simp [results, Tryz.results66, go_sem, y0, y1]) rfl ⟨rfl, hbe⟩
            have r3 : (F == T) = false := beq_eq_false_iff_ne.2 hk
            have g3 := hk
            clear hk
            rw [reg_in hM0 hM1 hall (by omega) (by omega) (by omega) g3]
            have K1 := rratio_any (n := B - A) (d := T - F) (by omega) (by omega) (by omega)
            have K2 := rratio_any (n := M) (d := 12) (by omega) (by omega) (by omega)
            have z1 := ratio_fit (x := B - A) (d := T - F) (by omega) (by omega)
            have z2 := ratio_fit (x := M) (d := 12) (by omega) (by omega)
            have s1 := FitQ.sizes z1
            have s2 := FitQ.sizes z2
            have K3 := rmul_r (a := frN (rat (B - A) (T - F))) (b := frD (rat (B - A) (T - F))) (c := frN (rat M 12)) (d := frD (rat M 12)) (by omega) (by omega) (by omega) (by omega)
            rw [ratV_fr, ratV_fr] at K3
            clear s1 s2
            unfold FR at K1 K2 K3 ⊢
            unfold FV at K3
            generalize frN (rat (B - A) (T - F) * rat M 12) = rn at *
            generalize frD (rat (B - A) (T - F) * rat M 12) = rd at *
            generalize frN (rat (B - A) (T - F)) = an at *
            generalize frD (rat (B - A) (T - F)) = ad at *
            generalize frN (rat M 12) = cn at *
            generalize frD (rat M 12) = cd at *
            clear e8 hall z1 z2 g0 g1 g2 g3
            have hs := ((St.refl hg).alloc (.cells #[.int .i64 F, .int .i64 T] 56)).alloc (.cells #[.string ⟨#[]⟩, .string ⟨#[]⟩] 34)
            have P0 := (Bx.new w #[.int .i64 F, .int .i64 T] 56).alloc (.cells #[.string ⟨#[]⟩, .string ⟨#[]⟩] 34)
            have B0 := Bx.new1 w (.cells #[.int .i64 F, .int .i64 T] 56) #[.string ⟨#[]⟩, .string ⟨#[]⟩] 34
            have p0 := P0.cell (i := 0) (v := .int .i64 F) rfl
            have p1 := P0.cell (i := 1) (v := .int .i64 T) rfl
            have ce0 := B0.cell (i := 0) (v := .string ⟨#[]⟩) rfl
            have ce1 := B0.cell (i := 1) (v := .string ⟨#[]⟩) rfl
            have cg0 := B0.frozen 0
            have cg1 := B0.frozen 1
            go_enter Tryz.func66, Tryz.ntmps66
            go_wp2_with fail
            refine KF.step hs ?_
            intro w1 hs hb1
            replace P0 := P0.on hb1
            replace B0 := B0.on hb1
            have p0 := P0.cell (i := 0) (v := .int .i64 F) rfl
            have p1 := P0.cell (i := 1) (v := .int .i64 T) rfl
            have ce0 := B0.cell (i := 0) (v := .string ⟨#[]⟩) rfl
            have ce1 := B0.cell (i := 1) (v := .string ⟨#[]⟩) rfl
            have cg0 := B0.frozen 0
            have cg1 := B0.frozen 1
            go_wp2_with fail
            refine KT.step hs ?_
            intro w2 hs hb2
            replace P0 := P0.on hb2
            replace B0 := B0.on hb2
            have p0 := P0.cell (i := 0) (v := .int .i64 F) rfl
            have p1 := P0.cell (i := 1) (v := .int .i64 T) rfl
            have ce0 := B0.cell (i := 0) (v := .string ⟨#[]⟩) rfl
            have ce1 := B0.cell (i := 1) (v := .string ⟨#[]⟩) rfl
            have cg0 := B0.frozen 0
            have cg1 := B0.frozen 1
            go_wp2_with fail
            refine KA.step hs ?_
            intro w3 hs hb3
            replace P0 := P0.on hb3
            replace B0 := B0.on hb3
            have p0 := P0.cell (i := 0) (v := .int .i64 F) rfl
            have p1 := P0.cell (i := 1) (v := .int .i64 T) rfl
            have ce0 := B0.cell (i := 0) (v := .string ⟨#[]⟩) rfl
            have ce1 := B0.cell (i := 1) (v := .string ⟨#[]⟩) rfl
            have cg0 := B0.frozen 0
            have cg1 := B0.frozen 1
            go_wp2_with fail
            refine KB.step hs ?_
            intro w4 hs hb4
            replace P0 := P0.on hb4
            replace B0 := B0.on hb4
            have p0 := P0.cell (i := 0) (v := .int .i64 F) rfl
            have p1 := P0.cell (i := 1) (v := .int .i64 T) rfl
            have ce0 := B0.cell (i := 0) (v := .string ⟨#[]⟩) rfl
            have ce1 := B0.cell (i := 1) (v := .string ⟨#[]⟩) rfl
            have cg0 := B0.frozen 0
            have cg1 := B0.frozen 1
            go_wp2_with fail
            refine K1.step hs ?_
            intro w5 hs hb5
            go_wp2_with fail
            refine K2.step hs ?_
            intro w6 hs hb6
            go_wp2_with fail
            refine K3.step hs ?_
            intro w7 hs hb7
            have B := ((B0.on hb5).on hb6).on hb7
            have ce0 := B.cell (i := 0) (v := .string ⟨#[]⟩) rfl
            have ce1 := B.cell (i := 1) (v := .string ⟨#[]⟩) rfl
            have cg0 := B.frozen 0
            have cg1 := B.frozen 1
            go_wp2_with fail
            obtain ⟨W, hW, y0, y1, hbe⟩ := ret_frac hs (by omega) B rn rd
            rw [hW]
            exact bodyPost_ret (v := .tuple #[.agg #[.string rn, .string rd], .int .i64 0]) (by simp [results, Tryz.results66, go_sem, y0, y1]) rfl ⟨rfl, hbe⟩
end Go.Proofs.YtgagjpjlnlandaaGreatDoor
