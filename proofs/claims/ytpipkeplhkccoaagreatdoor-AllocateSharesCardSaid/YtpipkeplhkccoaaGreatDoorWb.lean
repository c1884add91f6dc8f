/- Allocation: Share. Conditions: numbers of bounded length. -/
import Derived.Test.YtpipkeplhkccoaaGreatDoorWQ
import Derived.Test.YtpipkeplhkccoaaGreatDoorWa
import Derived.Test.YtpipkeplhkccoaaGreatDoorRd3
namespace Go.Proofs.YtpipkeplhkccoaaGreatDoor
open Go.RowKit Go.Shelf Dec QQ SP

theorem cmp_gtW (x y : Int) : decide (0 < cmpI x y) = decide (y < x) := by
  unfold cmpI
  rw [decide_eq_decide]
  split
  · omega
  · split <;> omega
theorem nil_arg {s : ByteArray} (h : chk s = 0) : (s.toList == []) = decide (valS s = 0) := by
  have := nil_eq (valS s)
  rwa [chk_eq h] at this
set_option maxRecDepth 100000 in
set_option maxHeartbeats 4000000 in
theorem shr_any {t p a : ByteArray} {k0 : Nat} (hk0 : k0 ≤ 5000) (zt : t.size ≤ k0) (zp : p.size ≤ k0) (za : a.size ≤ k0) : Ret 30 #[.string t, .string p, .string a] (.tuple #[.string (shS t p a), .string (shR t p a), .int .i64 (shE t p a)]) := by
  intro w hg
  have hs := St.refl hg
  have K1 := ChkR (a := t) (by omega)
  have K2 := ChkR (a := p) (by omega)
  have K3 := ChkR (a := a) (by omega)
  have HSE : Hid (∀ e : Int, shE t p a = e → e ≠ 0 → shS t p a = ⟨#[]⟩ ∧ shR t p a = ⟨#[]⟩) := fun e h h0 => ⟨if_neg (by rw [h]; exact h0), if_neg (by rw [h]; exact h0)⟩
  have HE : Hid (shE t p a = if chk t ≠ 0 ∨ chk p ≠ 0 ∨ chk a ≠ 0 then 1 else if valS a = 0 then 10 else if valS a < 0 ∨ valS p < 0 ∨ valS a < valS p then 2 else 0) := rfl
  by_cases h1 : chk t = 0
  · rw [h1] at K1
    by_cases h2 : chk p = 0
    · rw [h2] at K2
      by_cases h3 : chk a = 0
      · rw [h3] at K3
        have hno : ¬ (chk t ≠ 0 ∨ chk p ≠ 0 ∨ chk a ≠ 0) := by rw [h1, h2, h3]; simp
        have e := HE.out
        rw [if_neg hno] at e
        have qa := nil_arg h3
        by_cases h4 : valS a = 0
        · rw [if_pos h4] at e
          rw [(HSE.out _ e (by decide)).1, (HSE.out _ e (by decide)).2, e]
          rw [decide_eq_true h4] at qa
          clear HSE HE h1 h2 h3 h4 e hno
          go_enter Tryz.func30, Tryz.ntmps30
          go_wp2_with fail
          refine K1.step hs ?_
          intro w1 hs hb
          go_wp2_with fail
          refine K2.step hs ?_
          intro w1 hs hb
          go_wp2_with fail
          refine K3.step hs ?_
          intro w1 hs hb
          go_wp2_with fail
          go_ret3
          exact ⟨rfl, hs.2⟩
        · rw [if_neg h4] at e
          rw [decide_eq_false h4] at qa
          have K4 := neg4_any (a := a) (by omega)
          have K5 := neg4_any (a := p) (by omega)
          have K6 := CmpR (Vs.arg (s := p) (by omega)) (Vs.arg (s := a) (by omega))
          have q6 := cmp_gtW (valS p) (valS a)
          by_cases h5 : valS a < 0
          · rw [if_pos (.inl h5)] at e
            rw [(HSE.out _ e (by decide)).1, (HSE.out _ e (by decide)).2, e]
            rw [decide_eq_true h5] at K4
            clear HSE HE h1 h2 h3 h4 h5 e hno q6 K5 K6
            go_enter Tryz.func30, Tryz.ntmps30
            go_wp2_with fail
            refine K1.step hs ?_
            intro w1 hs hb
            go_wp2_with fail
            refine K2.step hs ?_
            intro w1 hs hb
            go_wp2_with fail
            refine K3.step hs ?_
            intro w1 hs hb
            go_wp2_with fail
            refine K4.step hs ?_
            intro w1 hs hb
            go_wp2_with fail
            go_ret3
            exact ⟨rfl, hs.2⟩
          · rw [decide_eq_false h5] at K4
            by_cases h6 : valS p < 0
            · rw [if_pos (.inr (.inl h6))] at e
              rw [(HSE.out _ e (by decide)).1, (HSE.out _ e (by decide)).2, e]
              rw [decide_eq_true h6] at K5
              clear HSE HE h1 h2 h3 h4 h5 h6 e hno q6 K6
              go_enter Tryz.func30, Tryz.ntmps30
              go_wp2_with fail
              refine K1.step hs ?_
              intro w1 hs hb
              go_wp2_with fail
              refine K2.step hs ?_
              intro w1 hs hb
              go_wp2_with fail
              refine K3.step hs ?_
              intro w1 hs hb
              go_wp2_with fail
              refine K4.step hs ?_
              intro w1 hs hb
              go_wp2_with fail
              refine K5.step hs ?_
              intro w1 hs hb
              go_wp2_with fail
              go_ret3
              exact ⟨rfl, hs.2⟩
            · rw [decide_eq_false h6] at K5
              by_cases h7 : valS a < valS p
              · rw [if_pos (.inr (.inr h7))] at e
                rw [(HSE.out _ e (by decide)).1, (HSE.out _ e (by decide)).2, e]
                rw [decide_eq_true h7] at q6
                generalize cmpI (valS p) (valS a) = ci at *
                clear HSE HE h1 h2 h3 h4 h5 h6 h7 e hno
                go_enter Tryz.func30, Tryz.ntmps30
                go_wp2_with fail
                refine K1.step hs ?_
                intro w1 hs hb
                go_wp2_with fail
                refine K2.step hs ?_
                intro w1 hs hb
                go_wp2_with fail
                refine K3.step hs ?_
                intro w1 hs hb
                go_wp2_with fail
                refine K4.step hs ?_
                intro w1 hs hb
                go_wp2_with fail
                refine K5.step hs ?_
                intro w1 hs hb
                go_wp2_with fail
                refine K6.step hs ?_
                intro w1 hs hb
                go_wp2_with fail
                go_ret3
                exact ⟨rfl, hs.2⟩
              · rw [if_neg (by rw [not_or, not_or]; exact ⟨h5, h6, h7⟩)] at e
                rw [decide_eq_false h7] at q6
                have eS : shS t p a = canS (shQ (valS t) (valS p) (valS a)) := if_pos e
                have eR : shR t p a = canS (valS t - shQ (valS t) (valS p) (valS a)) := if_pos e
                rw [eS, eR, e]
                have ft : Fit k0 (valS t) := Fit.val zt
                have fp : Fit k0 (valS p) := Fit.val zp
                have fa : Fit k0 (valS a) := Fit.val za
                have fm := ft.mul fp
                have K7 := MulR (Vs.arg (s := t) (by omega)) (Vs.arg (s := p) (by omega))
                have K8 := NewF (Vs.can fm (by omega)) (Vs.arg (s := a) (by omega)) (by have := fm.size; omega) (by omega) h4
                have fq : FitQ (max (k0 + k0) (k0 + 1)) (rat (valS t * valS p) (valS a)) := FitQ.rat fm (fa.mono (by omega)) (by omega)
                have K9 := Round_any 1 (Vq.fr fq (by omega)) fq (by omega)
                have fr1 := rnd_fit 1 fq
                have K10 := SubR (Vs.arg (s := t) (by omega)) (Vs.can fr1 (by omega))
                change Ret _ _ (.string (canS (valS t - shQ (valS t) (valS p) (valS a)))) at K10
                unfold FR at K8
                unfold FV at K9
                rw [show rndE 1 = 0 from rfl, show rndS 1 (rat (valS t * valS p) (valS a)) = canS (shQ (valS t) (valS p) (valS a)) from rfl] at K9
                change Ret 75 #[.string t, .string (canS (shQ (valS t) (valS p) (valS a)))] _ at K10
                generalize canS (valS t - shQ (valS t) (valS p) (valS a)) = r2 at *
                generalize canS (shQ (valS t) (valS p) (valS a)) = r1 at *
                generalize frN (rat (valS t * valS p) (valS a)) = qn at *
                generalize frD (rat (valS t * valS p) (valS a)) = qd at *
                generalize canS (valS t * valS p) = mm at *
                generalize cmpI (valS p) (valS a) = ci at *
                clear HSE HE h1 h2 h3 h4 h5 h6 h7 e hno eS eR ft fp fa fm fq fr1
                go_enter Tryz.func30, Tryz.ntmps30
                go_wp2_with fail
                refine K1.step hs ?_
                intro w1 hs hb
                go_wp2_with fail
                refine K2.step hs ?_
                intro w1 hs hb
                go_wp2_with fail
                refine K3.step hs ?_
                intro w1 hs hb
                go_wp2_with fail
                refine K4.step hs ?_
                intro w1 hs hb
                go_wp2_with fail
                refine K5.step hs ?_
                intro w1 hs hb
                go_wp2_with fail
                refine K6.step hs ?_
                intro w1 hs hb
                go_wp2_with fail
                refine K7.step hs ?_
                intro w1 hs hb
                go_wp2_with fail
                refine K8.step hs ?_
                intro w1 hs hb
                have X := Bx.new w1 #[.string qn, .string qd] 36
                replace hs := hs.alloc (.cells #[.string qn, .string qd] 36)
                have x0 := X.cell (i := 0) (v := .string qn) rfl
                have x1 := X.cell (i := 1) (v := .string qd) rfl
                go_wp2_with fail
                clear x0 x1
                refine K9.step hs ?_
                intro w1 hs hb
                go_wp2_with fail
                refine K10.step hs ?_
                intro w1 hs hb
                go_wp2_with fail
                go_ret3
                exact ⟨rfl, hs.2⟩
      · have q3 : (chk a != 0) = true := by simpa using h3
        have e := HE.out
        rw [if_pos (.inr (.inr h3))] at e
        rw [(HSE.out _ e (by decide)).1, (HSE.out _ e (by decide)).2, e]
        generalize chk a = ca at *
        clear HSE HE h1 h2 h3 e
        go_enter Tryz.func30, Tryz.ntmps30
        go_wp2_with fail
        refine K1.step hs ?_
        intro w1 hs hb
        go_wp2_with fail
        refine K2.step hs ?_
        intro w1 hs hb
        go_wp2_with fail
        refine K3.step hs ?_
        intro w1 hs hb
        go_wp2_with fail
        go_ret3
        exact ⟨rfl, hs.2⟩
    · have q2 : (chk p != 0) = true := by simpa using h2
      have e := HE.out
      rw [if_pos (.inr (.inl h2))] at e
      rw [(HSE.out _ e (by decide)).1, (HSE.out _ e (by decide)).2, e]
      generalize chk p = ca at *
      clear HSE HE h1 h2 e K3
      go_enter Tryz.func30, Tryz.ntmps30
      go_wp2_with fail
      refine K1.step hs ?_
      intro w1 hs hb
      go_wp2_with fail
      refine K2.step hs ?_
      intro w1 hs hb
      go_wp2_with fail
      go_ret3
      exact ⟨rfl, hs.2⟩
  · have q1 : (chk t != 0) = true := by simpa using h1
    have e := HE.out
    rw [if_pos (.inl h1)] at e
    rw [(HSE.out _ e (by decide)).1, (HSE.out _ e (by decide)).2, e]
    generalize chk t = ca at *
    clear HSE HE h1 e K3 K2
    go_enter Tryz.func30, Tryz.ntmps30
    go_wp2_with fail
    refine K1.step hs ?_
    intro w1 hs hb
    go_wp2_with fail
    go_ret3
    exact ⟨rfl, hs.2⟩
end Go.Proofs.YtpipkeplhkccoaaGreatDoor
