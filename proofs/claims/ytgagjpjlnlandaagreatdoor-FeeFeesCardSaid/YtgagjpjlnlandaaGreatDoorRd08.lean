/- Parts of years, the reference: valid, check, Days. No condition. -/
import Derived.Test.YtgagjpjlnlandaaGreatDoorRd06
import Derived.Test.YtgagjpjlnlandaaGreatDoorDd
namespace Go.Proofs.YtgagjpjlnlandaaGreatDoor
open Go.RowKit Go.Shelf Dec QQ

theorem rvalid_any (D : Int) : Ret 107 #[.int .i64 D] (.bool (!notDay D)) := by
  intro w hg
  have hs := St.refl hg
  unfold notDay
  have q1 : decide (-25567 ≤ D) = !decide (D < -25567) := by rw [Bool.eq_iff_iff]; simp
  have q2 : decide (D ≤ 84005) = !decide (84005 < D) := by rw [Bool.eq_iff_iff]; simp
  generalize decide (D < -25567) = t1 at *
  generalize decide (84005 < D) = t2 at *
  cases t1 <;> cases t2 <;>
    (go_enter Tryz.func107, Tryz.ntmps107
     go_wp2_with fail
     go_ret
     exact ⟨rfl, hs.2⟩)
set_option maxRecDepth 100000 in
set_option maxHeartbeats 4000000 in
theorem rcheck08_any (c A B : Int) : Ret 135 #[.int .i64 c, .int .i64 A, .int .i64 B] (.int .i64 (daysR c A B).2) := by
  intro w hg
  have hs := St.refl hg
  have KA := rvalid_any A
  have KB := rvalid_any B
  have e : (daysR c A B).2 = if c < 1 ∨ 5 < c then 2 else if (notDay A || notDay B) = true then 13 else if B < A then 8 else 0 := by
    unfold daysR
    repeat' split
    all_goals rfl
  rw [e]
  clear e
  by_cases h1 : c < 1
  · have q : decide (c < 1) = true := decide_eq_true h1
    rw [if_pos (.inl h1)]
    clear h1
    go_enter Tryz.func135, Tryz.ntmps135
    go_wp2_with fail
    go_ret
    exact ⟨rfl, hs.2⟩
  · have q : decide (c < 1) = false := decide_eq_false h1
    by_cases h5 : 5 < c
    · have q5 : decide (5 < c) = true := decide_eq_true h5
      rw [if_pos (.inr h5)]
      clear h1 h5
      go_enter Tryz.func135, Tryz.ntmps135
      go_wp2_with fail
      go_ret
      exact ⟨rfl, hs.2⟩
    · have q5 : decide (5 < c) = false := decide_eq_false h5
      rw [if_neg (by omega)]
      clear h1 h5
      obtain ⟨ta, hta⟩ : ∃ t, notDay A = t := ⟨_, rfl⟩
      obtain ⟨tb, htb⟩ : ∃ t, notDay B = t := ⟨_, rfl⟩
      rw [hta] at KA ⊢
      rw [htb] at KB ⊢
      clear hta htb
      cases ta with
      | true =>
        rw [if_pos (by simp)]
        go_enter Tryz.func135, Tryz.ntmps135
        go_wp2_with fail
        refine KA.step hs ?_
        intro w1 hs _
        go_wp2_with fail
        go_ret
        exact ⟨rfl, hs.2⟩
      | false =>
        cases tb with
        | true =>
          rw [if_pos (by simp)]
          go_enter Tryz.func135, Tryz.ntmps135
          go_wp2_with fail
          refine KA.step hs ?_
          intro w1 hs _
          go_wp2_with fail
          refine KB.step hs ?_
          intro w2 hs _
          go_wp2_with fail
          go_ret
          exact ⟨rfl, hs.2⟩
        | false =>
          rw [if_neg (by simp)]
          by_cases hl : B < A
          · have q6 : decide (B < A) = true := decide_eq_true hl
            rw [if_pos hl]
            clear hl
            go_enter Tryz.func135, Tryz.ntmps135
            go_wp2_with fail
            refine KA.step hs ?_
            intro w1 hs _
            go_wp2_with fail
            refine KB.step hs ?_
            intro w2 hs _
            go_wp2_with fail
            go_ret
            exact ⟨rfl, hs.2⟩
          · have q6 : decide (B < A) = false := decide_eq_false hl
            rw [if_neg hl]
            clear hl
            go_enter Tryz.func135, Tryz.ntmps135
            go_wp2_with fail
            refine KA.step hs ?_
            intro w1 hs _
            go_wp2_with fail
            refine KB.step hs ?_
            intro w2 hs _
            go_wp2_with fail
            go_ret
            exact ⟨rfl, hs.2⟩
set_option maxRecDepth 100000 in
set_option maxHeartbeats 4000000 in
theorem rDays_err {c A B : Int} (h : (daysR c A B).2 ≠ 0) : Ret 63 #[.int .i64 c, .int .i64 A, .int .i64 B] (.tuple #[.int .i64 0, .int .i64 (daysR c A B).2]) := by
  intro w hg
  have hs := St.refl hg
  have K1 := rcheck08_any c A B
  have q : ((daysR c A B).2 != 0) = true := by simpa using h
  generalize (daysR c A B).2 = e at *
  clear h
  go_enter Tryz.func63, Tryz.ntmps63
  go_wp2_with fail
  refine K1.step hs ?_
  intro w1 hs _
  go_wp2_with fail
  go_ret2
  exact ⟨rfl, hs.2⟩
theorem rDays_act {c A B : Int} {n m : Nat} (hA : IsDay A n) (hB : IsDay B m) (h0 : (daysR c A B).2 = 0) (h3 : c ≠ 3) (h4 : c ≠ 4) : Ret 63 #[.int .i64 c, .int .i64 A, .int .i64 B] (.tuple #[.int .i64 ((m : Int) - (n : Int)), .int .i64 0]) := by
  intro w hg
  have hs := St.refl hg
  have K1 := rcheck08_any c A B
  rw [h0] at K1
  have q3 : (c != 3) = true := by simpa using h3
  have q4 : (c != 4) = true := by simpa using h4
  have hD : B - A = (m : Int) - (n : Int) := by have := hA.1; have := hB.1; omega
  have ha0 : -25567 ≤ A := by have := hA.1; omega
  have ha1 : A ≤ 84005 := by have := hA.1; have := hA.2; omega
  have hb0 : -25567 ≤ B := by have := hB.1; omega
  have hb1 : B ≤ 84005 := by have := hB.1; have := hB.2; omega
  have HD := Lib.hid hD
  clear h0 h3 h4 hA hB hD
  go_enter Tryz.func63, Tryz.ntmps63
  go_wp2_with fail
  refine K1.step hs ?_
  intro w1 hs _
  go_wp2_with fail
  go_ret2
  exact ⟨by rw [← HD.out]; rfl, hs.2⟩
set_option maxRecDepth 100000 in
set_option maxHeartbeats 4000000 in
theorem rDays_30e {A B : Int} {n m : Nat} (hA : IsDay A n) (hB : IsDay B m) (h0 : (daysR 4 A B).2 = 0) : Ret 63 #[.int .i64 4, .int .i64 A, .int .i64 B] (.tuple #[.int .i64 (eN m - eN n), .int .i64 0]) := by
  intro w hg
  have hs := St.refl hg
  have K1 := rcheck08_any 4 A B
  rw [h0] at K1
  have K2 := rparts06_ok hA
  have K3 := rparts06_ok hB
  have dA := date_spec hA.2
  have dB := date_spec hB.2
  have lA := (lenN_cases (y := yN n) dA.m0 dA.m1).2
  have lB := (lenN_cases (y := yN m) dB.m0 dB.m1).2
  have y1 := dA.y0
  have y1' := dA.y1
  have y2 := dB.y0
  have y2' := dB.y1
  have m1 := dA.m0
  have m1' := dA.m1
  have m2 := dB.m0
  have m2' := dB.m1
  have d1 := dA.d0
  have d1' : dN n ≤ 31 := Nat.le_trans dA.d1 lA
  have d2 := dB.d0
  have d2' : dN m ≤ 31 := Nat.le_trans dB.d1 lB
  obtain ⟨v, hv⟩ : ∃ v, eN m - eN n = v := ⟨_, rfl⟩
  rw [hv]
  have HV := Lib.hid hv
  unfold eN at HV
  clear hv h0 hA hB dA dB lA lB
  generalize yN n = a1 at *
  generalize mN n = a2 at *
  generalize dN n = a3 at *
  generalize yN m = b1 at *
  generalize mN m = b2 at *
  generalize dN m = b3 at *
  by_cases e1 : a3 = 31
  · subst e1
    by_cases e2 : b3 = 31
    · subst e2
      have HW : Hid (v = 360 * ((b1 : Int) - a1) + 30 * ((b2 : Int) - a2)) := by have h := HV.out; show _ = _; (first | omega | (split at h <;> omega) | (simp at h; omega) | (rw [if_pos (by omega)] at h; omega) | (rw [if_neg (by omega)] at h; omega))
      clear HV
      go_enter Tryz.func63, Tryz.ntmps63
      go_wp2_with fail
      refine K1.step hs ?_
      intro w1 hs _
      go_wp2_with fail
      refine K2.step hs ?_
      intro w2 hs _
      go_wp2_with fail
      refine K3.step hs ?_
      intro w3 hs _
      go_wp2_with fail
      go_ret2
      exact ⟨by (first | (rw [HW.out]; rfl) | (have h := HW.out; simp; omega)), hs.2⟩
    · have q2 : ((b3 : Int) == 31) = false := by rw [beq_eq_false_iff_ne]; omega
      have HW : Hid (v = 360 * ((b1 : Int) - a1) + 30 * ((b2 : Int) - a2) + b3 - 30) := by have h := HV.out; show _ = _; (first | omega | (split at h <;> omega) | (simp at h; omega) | (rw [if_pos (by omega)] at h; omega) | (rw [if_neg (by omega)] at h; omega))
      clear HV
      go_enter Tryz.func63, Tryz.ntmps63
      go_wp2_with fail
      refine K1.step hs ?_
      intro w1 hs _
      go_wp2_with fail
      refine K2.step hs ?_
      intro w2 hs _
      go_wp2_with fail
      refine K3.step hs ?_
      intro w3 hs _
      go_wp2_with fail
      go_ret2
      exact ⟨by (first | (rw [HW.out]; rfl) | (have h := HW.out; simp; omega)), hs.2⟩
  · have q1 : ((a3 : Int) == 31) = false := by rw [beq_eq_false_iff_ne]; omega
    by_cases e2 : b3 = 31
    · subst e2
      have HW : Hid (v = 360 * ((b1 : Int) - a1) + 30 * ((b2 : Int) - a2) + 30 - a3) := by have h := HV.out; show _ = _; (first | omega | (split at h <;> omega) | (simp at h; omega) | (rw [if_pos (by omega)] at h; omega) | (rw [if_neg (by omega)] at h; omega))
      clear HV
      go_enter Tryz.func63, Tryz.ntmps63
      go_wp2_with fail
      refine K1.step hs ?_
      intro w1 hs _
      go_wp2_with fail
      refine K2.step hs ?_
      intro w2 hs _
      go_wp2_with fail
      refine K3.step hs ?_
      intro w3 hs _
      go_wp2_with fail
      go_ret2
      exact ⟨by (first | (rw [HW.out]; rfl) | (have h := HW.out; simp; omega)), hs.2⟩
    · have q2 : ((b3 : Int) == 31) = false := by rw [beq_eq_false_iff_ne]; omega
      have HW : Hid (v = 360 * ((b1 : Int) - a1) + 30 * ((b2 : Int) - a2) + b3 - a3) := by have h := HV.out; show _ = _; (first | omega | (split at h <;> omega) | (simp at h; omega) | (rw [if_pos (by omega)] at h; omega) | (rw [if_neg (by omega)] at h; omega))
      clear HV
      go_enter Tryz.func63, Tryz.ntmps63
      go_wp2_with fail
      refine K1.step hs ?_
      intro w1 hs _
      go_wp2_with fail
      refine K2.step hs ?_
      intro w2 hs _
      go_wp2_with fail
      refine K3.step hs ?_
      intro w3 hs _
      go_wp2_with fail
      go_ret2
      exact ⟨by (first | (rw [HW.out]; rfl) | (have h := HW.out; simp; omega)), hs.2⟩
set_option maxRecDepth 100000 in
set_option maxHeartbeats 4000000 in
theorem rDays_30 {A B : Int} {n m : Nat} (hA : IsDay A n) (hB : IsDay B m) (h0 : (daysR 3 A B).2 = 0) : Ret 63 #[.int .i64 3, .int .i64 A, .int .i64 B] (.tuple #[.int .i64 (tN n m), .int .i64 0]) := by
  intro w hg
  have hs := St.refl hg
  have K1 := rcheck08_any 3 A B
  rw [h0] at K1
  have K2 := rparts06_ok hA
  have K3 := rparts06_ok hB
  have dA := date_spec hA.2
  have dB := date_spec hB.2
  have lA := (lenN_cases (y := yN n) dA.m0 dA.m1).2
  have lB := (lenN_cases (y := yN m) dB.m0 dB.m1).2
  have y1 := dA.y0
  have y1' := dA.y1
  have y2 := dB.y0
  have y2' := dB.y1
  have m1 := dA.m0
  have m1' := dA.m1
  have m2 := dB.m0
  have m2' := dB.m1
  have d1 := dA.d0
  have d1' : dN n ≤ 31 := Nat.le_trans dA.d1 lA
  have d2 := dB.d0
  have d2' : dN m ≤ 31 := Nat.le_trans dB.d1 lB
  obtain ⟨v, hv⟩ : ∃ v, tN n m = v := ⟨_, rfl⟩
  rw [hv]
  have HV := Lib.hid hv
  unfold tN at HV
  clear hv h0 hA hB dA dB lA lB
  generalize yN n = a1 at *
  generalize mN n = a2 at *
  generalize dN n = a3 at *
  generalize yN m = b1 at *
  generalize mN m = b2 at *
  generalize dN m = b3 at *
  by_cases e1 : a3 = 31
  · subst e1
    by_cases e2 : b3 = 31
    · subst e2
      have HW : Hid (v = 360 * ((b1 : Int) - a1) + 30 * ((b2 : Int) - a2)) := by have h := HV.out; show _ = _; (first | omega | (split at h <;> omega) | (simp at h; omega) | (rw [if_pos (by omega)] at h; omega) | (rw [if_neg (by omega)] at h; omega))
      clear HV
      go_enter Tryz.func63, Tryz.ntmps63
      go_wp2_with fail
      refine K1.step hs ?_
      intro w1 hs _
      go_wp2_with fail
      refine K2.step hs ?_
      intro w2 hs _
      go_wp2_with fail
      refine K3.step hs ?_
      intro w3 hs _
      go_wp2_with fail
      go_ret2
      exact ⟨by (first | (rw [HW.out]; rfl) | (have h := HW.out; simp; omega)), hs.2⟩
    · have q2 : ((b3 : Int) == 31) = false := by rw [beq_eq_false_iff_ne]; omega
      have HW : Hid (v = 360 * ((b1 : Int) - a1) + 30 * ((b2 : Int) - a2) + b3 - 30) := by have h := HV.out; show _ = _; (first | omega | (split at h <;> omega) | (simp at h; omega) | (rw [if_pos (by omega)] at h; omega) | (rw [if_neg (by omega)] at h; omega))
      clear HV
      go_enter Tryz.func63, Tryz.ntmps63
      go_wp2_with fail
      refine K1.step hs ?_
      intro w1 hs _
      go_wp2_with fail
      refine K2.step hs ?_
      intro w2 hs _
      go_wp2_with fail
      refine K3.step hs ?_
      intro w3 hs _
      go_wp2_with fail
      go_ret2
      exact ⟨by (first | (rw [HW.out]; rfl) | (have h := HW.out; simp; omega)), hs.2⟩
  · have q1 : ((a3 : Int) == 31) = false := by rw [beq_eq_false_iff_ne]; omega
    by_cases e2 : b3 = 31
    · subst e2
      by_cases e3 : a3 = 30
      · subst e3
        have HW : Hid (v = 360 * ((b1 : Int) - a1) + 30 * ((b2 : Int) - a2)) := by have h := HV.out; show _ = _; (first | omega | (split at h <;> omega) | (simp at h; omega) | (rw [if_pos (by omega)] at h; omega) | (rw [if_neg (by omega)] at h; omega))
        clear HV
        go_enter Tryz.func63, Tryz.ntmps63
        go_wp2_with fail
        refine K1.step hs ?_
        intro w1 hs _
        go_wp2_with fail
        refine K2.step hs ?_
        intro w2 hs _
        go_wp2_with fail
        refine K3.step hs ?_
        intro w3 hs _
        go_wp2_with fail
        go_ret2
        exact ⟨by (first | (rw [HW.out]; rfl) | (have h := HW.out; simp; omega)), hs.2⟩
      · have q3 : ((a3 : Int) == 30) = false := by rw [beq_eq_false_iff_ne]; omega
        have HW : Hid (v = 360 * ((b1 : Int) - a1) + 30 * ((b2 : Int) - a2) + 31 - a3) := by have h := HV.out; show _ = _; (first | omega | (split at h <;> omega) | (simp at h; omega) | (rw [if_pos (by omega)] at h; omega) | (rw [if_neg (by omega)] at h; omega))
        clear HV
        go_enter Tryz.func63, Tryz.ntmps63
        go_wp2_with fail
        refine K1.step hs ?_
        intro w1 hs _
        go_wp2_with fail
        refine K2.step hs ?_
        intro w2 hs _
        go_wp2_with fail
        refine K3.step hs ?_
        intro w3 hs _
        go_wp2_with fail
        go_ret2
        exact ⟨by (first | (rw [HW.out]; rfl) | (have h := HW.out; simp; omega)), hs.2⟩
    · have q2 : ((b3 : Int) == 31) = false := by rw [beq_eq_false_iff_ne]; omega
      have HW : Hid (v = 360 * ((b1 : Int) - a1) + 30 * ((b2 : Int) - a2) + b3 - a3) := by have h := HV.out; show _ = _; (first | omega | (split at h <;> omega) | (simp at h; omega) | (rw [if_pos (by omega)] at h; omega) | (rw [if_neg (by omega)] at h; omega))
      clear HV
      go_enter Tryz.func63, Tryz.ntmps63
      go_wp2_with fail
      refine K1.step hs ?_
      intro w1 hs _
      go_wp2_with fail
      refine K2.step hs ?_
      intro w2 hs _
      go_wp2_with fail
      refine K3.step hs ?_
      intro w3 hs _
      go_wp2_with fail
      go_ret2
      exact ⟨by (first | (rw [HW.out]; rfl) | (have h := HW.out; simp; omega)), hs.2⟩
theorem rDays_any (c A B : Int) : Ret 63 #[.int .i64 c, .int .i64 A, .int .i64 B] (.tuple #[.int .i64 (daysR c A B).1, .int .i64 (daysR c A B).2]) := by
  by_cases h0 : (daysR c A B).2 = 0
  · have hin : 1 ≤ c ∧ c ≤ 5 ∧ (∃ n, IsDay A n) ∧ (∃ n, IsDay B n) ∧ A ≤ B := by
      have hf : (fracR c A B).2 = 0 := by
        have : (fracR c A B).2 = (daysR c A B).2 := by
          unfold fracR daysR
          by_cases g1 : c < 1 ∨ 5 < c
          · rw [if_pos g1, if_pos g1]
          · rw [if_neg g1, if_neg g1]
            by_cases g2 : (notDay A || notDay B) = true
            · rw [if_pos g2, if_pos g2]
            · rw [if_neg g2, if_neg g2]
              by_cases g3 : B < A
              · rw [if_pos g3, if_pos g3]
              · rw [if_neg g3, if_neg g3]
        rw [this]; exact h0
      obtain ⟨a, b, c, d, e, _⟩ := fracR_ok hf
      exact ⟨a, b, c, d, e⟩
    obtain ⟨c1, c5, ⟨n, hA⟩, ⟨m, hB⟩, hl⟩ := hin
    have e1 : (daysR c A B).1 = daysC c n m := by
      unfold daysR
      rw [if_neg (by omega), hA.not, hB.not, if_neg (by decide), if_neg (by omega), hA.num, hB.num]
    rw [e1, h0]
    unfold daysC
    by_cases h3 : c = 3
    · subst h3
      rw [if_pos rfl]
      exact rDays_30 hA hB h0
    · rw [if_neg h3]
      by_cases h4 : c = 4
      · subst h4
        rw [if_pos rfl]
        exact rDays_30e hA hB h0
      · rw [if_neg h4]
        exact rDays_act hA hB h0 h3 h4
  · have e1 : (daysR c A B).1 = 0 := by
      unfold daysR at h0 ⊢
      by_cases g1 : c < 1 ∨ 5 < c
      · rw [if_pos g1]
      · rw [if_neg g1] at h0 ⊢
        by_cases g2 : (notDay A || notDay B) = true
        · rw [if_pos g2]
        · rw [if_neg g2] at h0 ⊢
          by_cases g3 : B < A
          · rw [if_pos g3]
          · rw [if_neg g3] at h0
            exact absurd rfl h0
    rw [e1]
    exact rDays_err h0
end Go.Proofs.YtgagjpjlnlandaaGreatDoor
