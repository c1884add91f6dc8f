/- Rounding: the contracts of even and Round. Conditions: numbers of bounded length. -/
import Derived.Test.YtpipkeplhkccoaaGreatDoorRnd
import Derived.Test.YtpipkeplhkccoaaGreatDoorDh
import Derived.Test.YtpipkeplhkccoaaGreatDoorOwn
namespace Go.Proofs.YtpipkeplhkccoaaGreatDoor
open Go.RowKit Go.Shelf Dec QQ

theorem floor_fitR {k : Nat} {q : Rat} (h : FitQ k q) : Fit k q.floor := by
  have h1 : q.floor = q.num.fdiv (q.den : Int) := by
    rw [floor_rat (by have := q.den_nz; omega), rat_num_den]
  rw [h1]
  exact fit_fdiv h.1 (by omega)
theorem Vs.one : Vs ⟨#[49]⟩ 1 := ⟨by decide, by decide⟩
theorem Vs.two : Vs ⟨#[50]⟩ 2 := ⟨by decide, by decide⟩
set_option maxRecDepth 100000 in
set_option maxHeartbeats 4000000 in
theorem even_any {a : ByteArray} {x : Int} (h : Vs a x) : Ret 142 #[.string a] (.bool (evB x)) := by
  intro w hg
  have hs := St.refl hg
  have K1 := DivA h Vs.two
  have e1 : divR x 2 = (canS (x.fdiv 2), canS (x.fmod 2), 0) := by unfold divR; exact if_neg (by decide)
  rw [e1] at K1
  have q : ((canS (x.fmod 2)).toList == []) = evB x := by
    rw [nil_eq]
    unfold evB
    rw [decide_eq_decide, Int.fmod_eq_emod_of_nonneg _ (by decide)]
  dsimp only at K1
  generalize canS (x.fmod 2) = r at *
  generalize canS (x.fdiv 2) = r2 at *
  generalize evB x = v at *
  clear e1
  go_enter Tryz.func142, Tryz.ntmps142
  go_wp2_with fail
  refine K1.step hs ?_
  intro w1 hs _
  go_wp2_with fail
  go_ret
  exact ⟨rfl, hs.2⟩
def rndS (m : Int) (q : Rat) : ByteArray := if rndE m = 0 then canS (rndQ m q) else ⟨#[]⟩
theorem rndQ_zero {m : Int} {q : Rat} (h : q.num.fmod (q.den : Int) = 0) : rndQ m q = q.floor := rnd_int ((fpart_zero q).1 h)
theorem rndQ_rest {m : Int} {q : Rat} (h : q.num.fmod (q.den : Int) ≠ 0) {t : Bool} (ht : upB m (cmpQ (fpart q) (1 / 2)) (decide (q < 0)) (evB q.floor) = t) : rndQ m q = if t = true then q.floor + 1 else q.floor := by
  unfold rndQ
  rw [if_neg (fun e => h ((fpart_zero q).2 e)), ht]
theorem rnd_mode {m : Int} (h : 1 ≤ m) (h6 : m ≤ 6) (q : Rat) : rndE m = 0 ∧ rndS m q = canS (rndQ m q) := by
  have e : rndE m = 0 := if_neg (by omega)
  exact ⟨e, if_pos e⟩
set_option maxRecDepth 100000 in
set_option maxHeartbeats 4000000 in
theorem Round_any {n d : ByteArray} {q : Rat} {k : Nat} (m : Int) (h : Vq n d q) (hf : FitQ k q) (hk : k ≤ 90000) : Ret 81 #[FV n d, .int .i64 m] (.tuple #[.string (rndS m q), .int .i64 (rndE m)]) := by
  intro w hg
  have hs := (St.refl hg).alloc (.cells #[.string n, .string d] 36)
  have K1 := PartsF h
  have hd : (q.den : Int) ≠ 0 := by have := q.den_nz; omega
  have fn : Fit k q.num := hf.1
  have fd : Fit k (q.den : Int) := by have := hf.2; unfold Fit; omega
  have v1 : Vs (canS q.num) q.num := Vs.can fn (by omega)
  have v2 : Vs (canS (q.den : Int)) q.den := Vs.can fd (by omega)
  have K2 := DivA v1 v2
  have e1 : divR q.num (q.den : Int) = (canS (q.num.fdiv q.den), canS (q.num.fmod q.den), 0) := by unfold divR; exact if_neg hd
  rw [e1] at K2
  dsimp only at K2
  have fl : Fit k q.floor := floor_fitR hf
  have e2 : q.num.fdiv (q.den : Int) = q.floor := by rw [floor_rat hd, rat_num_den]
  rw [e2] at K2
  have fr : Fit k (q.num.fmod (q.den : Int)) := by
    have h1 := Int.fmod_nonneg_of_pos q.num (show 0 < (q.den : Int) by omega)
    have h2 := Int.fmod_lt_of_pos q.num (show 0 < (q.den : Int) by omega)
    have := fd
    unfold Fit at this ⊢
    omega
  have v3 : Vs (canS q.floor) q.floor := Vs.can fl (by omega)
  have v4 : Vs (canS (q.num.fmod (q.den : Int))) (q.num.fmod (q.den : Int)) := Vs.can fr (by omega)
  have K3 := AddR v3 Vs.one
  have K4 := CmpR v1 Vs.nil
  have K5 := AddR v4 v4
  have fs : Fit (k + 1) (q.num.fmod (q.den : Int) + q.num.fmod (q.den : Int)) := by
    have := fr
    unfold Fit at this ⊢
    rw [Nat.pow_succ]
    omega
  have K6 := CmpR (Vs.can fs (by omega)) v2
  have e3 : cmpI (q.num.fmod (q.den : Int) + q.num.fmod (q.den : Int)) (q.den : Int) = cmpQ (fpart q) (1 / 2) := half_rat q
  rw [e3] at K6
  have K7 := even_any v3
  have qn : decide (cmpI q.num 0 < 0) = decide (q < 0) := by rw [cmpI_lt, decide_eq_decide]; exact num_neg q
  have qr : ((canS (q.num.fmod (q.den : Int))).toList == []) = decide (q.num.fmod (q.den : Int) = 0) := nil_eq _
  unfold FV at *
  generalize cmpI q.num 0 = cn at *
  obtain ⟨c, hc⟩ : ∃ c, cmpQ (fpart q) (1 / 2) = c := ⟨_, rfl⟩
  obtain ⟨ng, hng⟩ : ∃ c, decide (q < 0) = c := ⟨_, rfl⟩
  obtain ⟨ev, hev⟩ : ∃ c, evB q.floor = c := ⟨_, rfl⟩
  rw [hc] at K6
  rw [hng] at qn
  rw [hev] at K7
  obtain ⟨t1, q1⟩ : ∃ t, decide (0 < c) = t := ⟨_, rfl⟩
  obtain ⟨t2, q2⟩ : ∃ t, (c == 0) = t := ⟨_, rfl⟩
  clear h hf hk hd fn fd v1 v2 e1 fl e2 fr v3 v4 fs e3
  by_cases hz : q.num.fmod (q.den : Int) = 0
  · rw [decide_eq_true hz] at qr
    have HR : Hid (∀ m, rndQ m q = q.floor) := fun m => rndQ_zero hz
    have HM : Hid (∀ m : Int, 1 ≤ m → m ≤ 6 → rndE m = 0 ∧ rndS m q = canS (q.floor)) := fun m h1 h2 => by rw [← HR.out m]; exact rnd_mode h1 h2 q
    have HO : Hid (∀ m : Int, ¬ (1 ≤ m ∧ m ≤ 6) → rndE m = 7 ∧ rndS m q = ⟨#[]⟩) := fun m h1 => by
      have e : rndE m = 7 := if_pos (by omega)
      exact ⟨e, if_neg (by rw [e]; decide)⟩
    clear hz hc hng hev HR
    generalize canS (q.num.fmod (q.den : Int) + q.num.fmod (q.den : Int)) = s2 at *
    generalize canS (q.num.fmod (q.den : Int)) = s1 at *
    generalize canS (q.floor + 1) = s4 at *
    generalize canS q.floor = s3 at *
    generalize canS q.num = s5 at *
    generalize canS (q.den : Int) = s6 at *
    by_cases h1 : m = 1
    · subst h1
      have HH := HM.out 1 (by decide) (by decide)
      rw [HH.1, HH.2]
      clear HM HO HH
      cases t1 with
      | true =>
        go_enter Tryz.func81, Tryz.ntmps81
        go_wp2_with fail
        refine K1.step hs ?_
        intro w1 hs _
        go_wp2_with fail
        refine K2.step hs ?_
        intro w1 hs _
        go_wp2_with fail
        refine K4.step hs ?_
        intro w1 hs _
        go_wp2_with fail
        refine K5.step hs ?_
        intro w1 hs _
        go_wp2_with fail
        refine K6.step hs ?_
        intro w1 hs _
        go_wp2_with fail
        go_ret2
        exact ⟨by rfl, hs.2⟩
      | false =>
        cases t2 with
        | false =>
          go_enter Tryz.func81, Tryz.ntmps81
          go_wp2_with fail
          refine K1.step hs ?_
          intro w1 hs _
          go_wp2_with fail
          refine K2.step hs ?_
          intro w1 hs _
          go_wp2_with fail
          refine K4.step hs ?_
          intro w1 hs _
          go_wp2_with fail
          refine K5.step hs ?_
          intro w1 hs _
          go_wp2_with fail
          refine K6.step hs ?_
          intro w1 hs _
          go_wp2_with fail
          go_ret2
          exact ⟨by rfl, hs.2⟩
        | true =>
          cases ev with
          | true =>
            go_enter Tryz.func81, Tryz.ntmps81
            go_wp2_with fail
            refine K1.step hs ?_
            intro w1 hs _
            go_wp2_with fail
            refine K2.step hs ?_
            intro w1 hs _
            go_wp2_with fail
            refine K4.step hs ?_
            intro w1 hs _
            go_wp2_with fail
            refine K5.step hs ?_
            intro w1 hs _
            go_wp2_with fail
            refine K6.step hs ?_
            intro w1 hs _
            go_wp2_with fail
            refine K7.step hs ?_
            intro w1 hs _
            go_wp2_with fail
            go_ret2
            exact ⟨by rfl, hs.2⟩
          | false =>
            go_enter Tryz.func81, Tryz.ntmps81
            go_wp2_with fail
            refine K1.step hs ?_
            intro w1 hs _
            go_wp2_with fail
            refine K2.step hs ?_
            intro w1 hs _
            go_wp2_with fail
            refine K4.step hs ?_
            intro w1 hs _
            go_wp2_with fail
            refine K5.step hs ?_
            intro w1 hs _
            go_wp2_with fail
            refine K6.step hs ?_
            intro w1 hs _
            go_wp2_with fail
            refine K7.step hs ?_
            intro w1 hs _
            go_wp2_with fail
            go_ret2
            exact ⟨by rfl, hs.2⟩
    by_cases h2 : m = 2
    · subst h2
      have HH := HM.out 2 (by decide) (by decide)
      rw [HH.1, HH.2]
      clear HM HO HH
      cases t1 with
      | true =>
        go_enter Tryz.func81, Tryz.ntmps81
        go_wp2_with fail
        refine K1.step hs ?_
        intro w1 hs _
        go_wp2_with fail
        refine K2.step hs ?_
        intro w1 hs _
        go_wp2_with fail
        refine K4.step hs ?_
        intro w1 hs _
        go_wp2_with fail
        refine K5.step hs ?_
        intro w1 hs _
        go_wp2_with fail
        refine K6.step hs ?_
        intro w1 hs _
        go_wp2_with fail
        go_ret2
        exact ⟨by rfl, hs.2⟩
      | false =>
        cases t2 with
        | false =>
          go_enter Tryz.func81, Tryz.ntmps81
          go_wp2_with fail
          refine K1.step hs ?_
          intro w1 hs _
          go_wp2_with fail
          refine K2.step hs ?_
          intro w1 hs _
          go_wp2_with fail
          refine K4.step hs ?_
          intro w1 hs _
          go_wp2_with fail
          refine K5.step hs ?_
          intro w1 hs _
          go_wp2_with fail
          refine K6.step hs ?_
          intro w1 hs _
          go_wp2_with fail
          go_ret2
          exact ⟨by rfl, hs.2⟩
        | true =>
          cases ng with
          | true =>
            go_enter Tryz.func81, Tryz.ntmps81
            go_wp2_with fail
            refine K1.step hs ?_
            intro w1 hs _
            go_wp2_with fail
            refine K2.step hs ?_
            intro w1 hs _
            go_wp2_with fail
            refine K4.step hs ?_
            intro w1 hs _
            go_wp2_with fail
            refine K5.step hs ?_
            intro w1 hs _
            go_wp2_with fail
            refine K6.step hs ?_
            intro w1 hs _
            go_wp2_with fail
            go_ret2
            exact ⟨by rfl, hs.2⟩
          | false =>
            go_enter Tryz.func81, Tryz.ntmps81
            go_wp2_with fail
            refine K1.step hs ?_
            intro w1 hs _
            go_wp2_with fail
            refine K2.step hs ?_
            intro w1 hs _
            go_wp2_with fail
            refine K4.step hs ?_
            intro w1 hs _
            go_wp2_with fail
            refine K5.step hs ?_
            intro w1 hs _
            go_wp2_with fail
            refine K6.step hs ?_
            intro w1 hs _
            go_wp2_with fail
            go_ret2
            exact ⟨by rfl, hs.2⟩
    by_cases h3 : m = 3
    · subst h3
      have HH := HM.out 3 (by decide) (by decide)
      rw [HH.1, HH.2]
      clear HM HO HH
      cases ng
      all_goals
        go_enter Tryz.func81, Tryz.ntmps81
        go_wp2_with fail
        refine K1.step hs ?_
        intro w1 hs _
        go_wp2_with fail
        refine K2.step hs ?_
        intro w1 hs _
        go_wp2_with fail
        refine K4.step hs ?_
        intro w1 hs _
        go_wp2_with fail
        refine K5.step hs ?_
        intro w1 hs _
        go_wp2_with fail
        refine K6.step hs ?_
        intro w1 hs _
        go_wp2_with fail
        go_ret2
        exact ⟨by rfl, hs.2⟩
    by_cases h4 : m = 4
    · subst h4
      have HH := HM.out 4 (by decide) (by decide)
      rw [HH.1, HH.2]
      clear HM HO HH
      cases ng
      all_goals
        go_enter Tryz.func81, Tryz.ntmps81
        go_wp2_with fail
        refine K1.step hs ?_
        intro w1 hs _
        go_wp2_with fail
        refine K2.step hs ?_
        intro w1 hs _
        go_wp2_with fail
        refine K4.step hs ?_
        intro w1 hs _
        go_wp2_with fail
        refine K5.step hs ?_
        intro w1 hs _
        go_wp2_with fail
        refine K6.step hs ?_
        intro w1 hs _
        go_wp2_with fail
        go_ret2
        exact ⟨by rfl, hs.2⟩
    by_cases h5 : m = 5
    · subst h5
      have HH := HM.out 5 (by decide) (by decide)
      rw [HH.1, HH.2]
      clear HM HO HH
      go_enter Tryz.func81, Tryz.ntmps81
      go_wp2_with fail
      refine K1.step hs ?_
      intro w1 hs _
      go_wp2_with fail
      refine K2.step hs ?_
      intro w1 hs _
      go_wp2_with fail
      refine K4.step hs ?_
      intro w1 hs _
      go_wp2_with fail
      refine K5.step hs ?_
      intro w1 hs _
      go_wp2_with fail
      refine K6.step hs ?_
      intro w1 hs _
      go_wp2_with fail
      go_ret2
      exact ⟨by rfl, hs.2⟩
    by_cases h6 : m = 6
    · subst h6
      have HH := HM.out 6 (by decide) (by decide)
      rw [HH.1, HH.2]
      clear HM HO HH
      go_enter Tryz.func81, Tryz.ntmps81
      go_wp2_with fail
      refine K1.step hs ?_
      intro w1 hs _
      go_wp2_with fail
      refine K2.step hs ?_
      intro w1 hs _
      go_wp2_with fail
      refine K4.step hs ?_
      intro w1 hs _
      go_wp2_with fail
      refine K5.step hs ?_
      intro w1 hs _
      go_wp2_with fail
      refine K6.step hs ?_
      intro w1 hs _
      go_wp2_with fail
      go_ret2
      exact ⟨by rfl, hs.2⟩
    have HH := HO.out m (by omega)
    rw [HH.1, HH.2]
    clear HM HO HH
    have g1 : (m == 1) = false := beq_eq_false_iff_ne.2 h1
    have g2 : (m == 2) = false := beq_eq_false_iff_ne.2 h2
    have g3 : (m == 3) = false := beq_eq_false_iff_ne.2 h3
    have g4 : (m == 4) = false := beq_eq_false_iff_ne.2 h4
    have g5 : (m == 5) = false := beq_eq_false_iff_ne.2 h5
    have g6 : (m == 6) = false := beq_eq_false_iff_ne.2 h6
    clear h1 h2 h3 h4 h5 h6
    go_enter Tryz.func81, Tryz.ntmps81
    go_wp2_with fail
    refine K1.step hs ?_
    intro w1 hs _
    go_wp2_with fail
    refine K2.step hs ?_
    intro w1 hs _
    go_wp2_with fail
    refine K4.step hs ?_
    intro w1 hs _
    go_wp2_with fail
    refine K5.step hs ?_
    intro w1 hs _
    go_wp2_with fail
    refine K6.step hs ?_
    intro w1 hs _
    go_wp2_with fail
    go_ret2
    exact ⟨rfl, hs.2⟩
  · rw [decide_eq_false hz] at qr
    have HR : Hid (∀ m t, upB m c ng ev = t → rndQ m q = if t = true then q.floor + 1 else q.floor) := fun m t ht => rndQ_rest hz (by rw [hc, hng, hev]; exact ht)
    have HM : Hid (∀ m t, 1 ≤ m → m ≤ 6 → upB m c ng ev = t → rndE m = 0 ∧ rndS m q = if t = true then canS (q.floor + 1) else canS q.floor) := fun m t h1 h2 ht => by
      have := rnd_mode h1 h2 q
      rw [HR.out m t ht] at this
      refine ⟨this.1, this.2.trans ?_⟩
      cases t <;> rfl
    have HO : Hid (∀ m : Int, ¬ (1 ≤ m ∧ m ≤ 6) → rndE m = 7 ∧ rndS m q = ⟨#[]⟩) := fun m h1 => by
      have e : rndE m = 7 := if_pos (by omega)
      exact ⟨e, if_neg (by rw [e]; decide)⟩
    clear hz hc hng hev HR
    generalize canS (q.num.fmod (q.den : Int) + q.num.fmod (q.den : Int)) = s2 at *
    generalize canS (q.num.fmod (q.den : Int)) = s1 at *
    generalize canS (q.floor + 1) = s4 at *
    generalize canS q.floor = s3 at *
    generalize canS q.num = s5 at *
    generalize canS (q.den : Int) = s6 at *
    by_cases h1 : m = 1
    · subst h1
      have HH := HM.out 1 _ (by decide) (by decide) rfl
      rw [show upB 1 c ng ev = (decide (0 < c) || ((c == 0) && !ev)) from rfl, q1, q2] at HH
      rw [HH.1, HH.2]
      clear HM HO HH
      cases t1 with
      | true =>
        go_enter Tryz.func81, Tryz.ntmps81
        go_wp2_with fail
        refine K1.step hs ?_
        intro w1 hs _
        go_wp2_with fail
        refine K2.step hs ?_
        intro w1 hs _
        go_wp2_with fail
        refine K3.step hs ?_
        intro w1 hs _
        go_wp2_with fail
        refine K4.step hs ?_
        intro w1 hs _
        go_wp2_with fail
        refine K5.step hs ?_
        intro w1 hs _
        go_wp2_with fail
        refine K6.step hs ?_
        intro w1 hs _
        go_wp2_with fail
        go_ret2
        exact ⟨by rfl, hs.2⟩
      | false =>
        cases t2 with
        | false =>
          go_enter Tryz.func81, Tryz.ntmps81
          go_wp2_with fail
          refine K1.step hs ?_
          intro w1 hs _
          go_wp2_with fail
          refine K2.step hs ?_
          intro w1 hs _
          go_wp2_with fail
          refine K3.step hs ?_
          intro w1 hs _
          go_wp2_with fail
          refine K4.step hs ?_
          intro w1 hs _
          go_wp2_with fail
          refine K5.step hs ?_
          intro w1 hs _
          go_wp2_with fail
          refine K6.step hs ?_
          intro w1 hs _
          go_wp2_with fail
          go_ret2
          exact ⟨by rfl, hs.2⟩
        | true =>
          cases ev with
          | true =>
            go_enter Tryz.func81, Tryz.ntmps81
            go_wp2_with fail
            refine K1.step hs ?_
            intro w1 hs _
            go_wp2_with fail
            refine K2.step hs ?_
            intro w1 hs _
            go_wp2_with fail
            refine K3.step hs ?_
            intro w1 hs _
            go_wp2_with fail
            refine K4.step hs ?_
            intro w1 hs _
            go_wp2_with fail
            refine K5.step hs ?_
            intro w1 hs _
            go_wp2_with fail
            refine K6.step hs ?_
            intro w1 hs _
            go_wp2_with fail
            refine K7.step hs ?_
            intro w1 hs _
            go_wp2_with fail
            go_ret2
            exact ⟨by rfl, hs.2⟩
          | false =>
            go_enter Tryz.func81, Tryz.ntmps81
            go_wp2_with fail
            refine K1.step hs ?_
            intro w1 hs _
            go_wp2_with fail
            refine K2.step hs ?_
            intro w1 hs _
            go_wp2_with fail
            refine K3.step hs ?_
            intro w1 hs _
            go_wp2_with fail
            refine K4.step hs ?_
            intro w1 hs _
            go_wp2_with fail
            refine K5.step hs ?_
            intro w1 hs _
            go_wp2_with fail
            refine K6.step hs ?_
            intro w1 hs _
            go_wp2_with fail
            refine K7.step hs ?_
            intro w1 hs _
            go_wp2_with fail
            go_ret2
            exact ⟨by rfl, hs.2⟩
    by_cases h2 : m = 2
    · subst h2
      have HH := HM.out 2 _ (by decide) (by decide) rfl
      rw [show upB 2 c ng ev = (decide (0 < c) || ((c == 0) && !ng)) from rfl, q1, q2] at HH
      rw [HH.1, HH.2]
      clear HM HO HH
      cases t1 with
      | true =>
        go_enter Tryz.func81, Tryz.ntmps81
        go_wp2_with fail
        refine K1.step hs ?_
        intro w1 hs _
        go_wp2_with fail
        refine K2.step hs ?_
        intro w1 hs _
        go_wp2_with fail
        refine K3.step hs ?_
        intro w1 hs _
        go_wp2_with fail
        refine K4.step hs ?_
        intro w1 hs _
        go_wp2_with fail
        refine K5.step hs ?_
        intro w1 hs _
        go_wp2_with fail
        refine K6.step hs ?_
        intro w1 hs _
        go_wp2_with fail
        go_ret2
        exact ⟨by rfl, hs.2⟩
      | false =>
        cases t2 with
        | false =>
          go_enter Tryz.func81, Tryz.ntmps81
          go_wp2_with fail
          refine K1.step hs ?_
          intro w1 hs _
          go_wp2_with fail
          refine K2.step hs ?_
          intro w1 hs _
          go_wp2_with fail
          refine K3.step hs ?_
          intro w1 hs _
          go_wp2_with fail
          refine K4.step hs ?_
          intro w1 hs _
          go_wp2_with fail
          refine K5.step hs ?_
          intro w1 hs _
          go_wp2_with fail
          refine K6.step hs ?_
          intro w1 hs _
          go_wp2_with fail
          go_ret2
          exact ⟨by rfl, hs.2⟩
        | true =>
          cases ng with
          | true =>
            go_enter Tryz.func81, Tryz.ntmps81
            go_wp2_with fail
            refine K1.step hs ?_
            intro w1 hs _
            go_wp2_with fail
            refine K2.step hs ?_
            intro w1 hs _
            go_wp2_with fail
            refine K3.step hs ?_
            intro w1 hs _
            go_wp2_with fail
            refine K4.step hs ?_
            intro w1 hs _
            go_wp2_with fail
            refine K5.step hs ?_
            intro w1 hs _
            go_wp2_with fail
            refine K6.step hs ?_
            intro w1 hs _
            go_wp2_with fail
            go_ret2
            exact ⟨by rfl, hs.2⟩
          | false =>
            go_enter Tryz.func81, Tryz.ntmps81
            go_wp2_with fail
            refine K1.step hs ?_
            intro w1 hs _
            go_wp2_with fail
            refine K2.step hs ?_
            intro w1 hs _
            go_wp2_with fail
            refine K3.step hs ?_
            intro w1 hs _
            go_wp2_with fail
            refine K4.step hs ?_
            intro w1 hs _
            go_wp2_with fail
            refine K5.step hs ?_
            intro w1 hs _
            go_wp2_with fail
            refine K6.step hs ?_
            intro w1 hs _
            go_wp2_with fail
            go_ret2
            exact ⟨by rfl, hs.2⟩
    by_cases h3 : m = 3
    · subst h3
      have HH := HM.out 3 _ (by decide) (by decide) rfl
      rw [show upB 3 c ng ev = ng from rfl] at HH
      rw [HH.1, HH.2]
      clear HM HO HH
      cases ng
      all_goals
        go_enter Tryz.func81, Tryz.ntmps81
        go_wp2_with fail
        refine K1.step hs ?_
        intro w1 hs _
        go_wp2_with fail
        refine K2.step hs ?_
        intro w1 hs _
        go_wp2_with fail
        refine K3.step hs ?_
        intro w1 hs _
        go_wp2_with fail
        refine K4.step hs ?_
        intro w1 hs _
        go_wp2_with fail
        refine K5.step hs ?_
        intro w1 hs _
        go_wp2_with fail
        refine K6.step hs ?_
        intro w1 hs _
        go_wp2_with fail
        go_ret2
        exact ⟨by rfl, hs.2⟩
    by_cases h4 : m = 4
    · subst h4
      have HH := HM.out 4 _ (by decide) (by decide) rfl
      rw [show upB 4 c ng ev = !ng from rfl] at HH
      rw [HH.1, HH.2]
      clear HM HO HH
      cases ng
      all_goals
        go_enter Tryz.func81, Tryz.ntmps81
        go_wp2_with fail
        refine K1.step hs ?_
        intro w1 hs _
        go_wp2_with fail
        refine K2.step hs ?_
        intro w1 hs _
        go_wp2_with fail
        refine K3.step hs ?_
        intro w1 hs _
        go_wp2_with fail
        refine K4.step hs ?_
        intro w1 hs _
        go_wp2_with fail
        refine K5.step hs ?_
        intro w1 hs _
        go_wp2_with fail
        refine K6.step hs ?_
        intro w1 hs _
        go_wp2_with fail
        go_ret2
        exact ⟨by rfl, hs.2⟩
    by_cases h5 : m = 5
    · subst h5
      have HH := HM.out 5 _ (by decide) (by decide) rfl
      rw [show upB 5 c ng ev = false from rfl] at HH
      rw [HH.1, HH.2]
      clear HM HO HH
      go_enter Tryz.func81, Tryz.ntmps81
      go_wp2_with fail
      refine K1.step hs ?_
      intro w1 hs _
      go_wp2_with fail
      refine K2.step hs ?_
      intro w1 hs _
      go_wp2_with fail
      refine K3.step hs ?_
      intro w1 hs _
      go_wp2_with fail
      refine K4.step hs ?_
      intro w1 hs _
      go_wp2_with fail
      refine K5.step hs ?_
      intro w1 hs _
      go_wp2_with fail
      refine K6.step hs ?_
      intro w1 hs _
      go_wp2_with fail
      go_ret2
      exact ⟨by rfl, hs.2⟩
    by_cases h6 : m = 6
    · subst h6
      have HH := HM.out 6 _ (by decide) (by decide) rfl
      rw [show upB 6 c ng ev = true from rfl] at HH
      rw [HH.1, HH.2]
      clear HM HO HH
      go_enter Tryz.func81, Tryz.ntmps81
      go_wp2_with fail
      refine K1.step hs ?_
      intro w1 hs _
      go_wp2_with fail
      refine K2.step hs ?_
      intro w1 hs _
      go_wp2_with fail
      refine K3.step hs ?_
      intro w1 hs _
      go_wp2_with fail
      refine K4.step hs ?_
      intro w1 hs _
      go_wp2_with fail
      refine K5.step hs ?_
      intro w1 hs _
      go_wp2_with fail
      refine K6.step hs ?_
      intro w1 hs _
      go_wp2_with fail
      go_ret2
      exact ⟨by rfl, hs.2⟩
    have HH := HO.out m (by omega)
    rw [HH.1, HH.2]
    clear HM HO HH
    have g1 : (m == 1) = false := beq_eq_false_iff_ne.2 h1
    have g2 : (m == 2) = false := beq_eq_false_iff_ne.2 h2
    have g3 : (m == 3) = false := beq_eq_false_iff_ne.2 h3
    have g4 : (m == 4) = false := beq_eq_false_iff_ne.2 h4
    have g5 : (m == 5) = false := beq_eq_false_iff_ne.2 h5
    have g6 : (m == 6) = false := beq_eq_false_iff_ne.2 h6
    clear h1 h2 h3 h4 h5 h6
    go_enter Tryz.func81, Tryz.ntmps81
    go_wp2_with fail
    refine K1.step hs ?_
    intro w1 hs _
    go_wp2_with fail
    refine K2.step hs ?_
    intro w1 hs _
    go_wp2_with fail
    refine K3.step hs ?_
    intro w1 hs _
    go_wp2_with fail
    refine K4.step hs ?_
    intro w1 hs _
    go_wp2_with fail
    refine K5.step hs ?_
    intro w1 hs _
    go_wp2_with fail
    refine K6.step hs ?_
    intro w1 hs _
    go_wp2_with fail
    go_ret2
    exact ⟨rfl, hs.2⟩
end Go.Proofs.YtpipkeplhkccoaaGreatDoor
