/- Rounding, the reference: even, RoundTo, Round. Conditions: numbers of bounded length. Allocation, the reference: Share. Conditions: numbers of bounded length. -/
import Derived.Test.YtpipkeplhkccoaaGreatDoorRnd
import Derived.Test.YtpipkeplhkccoaaGreatDoorRfg
import Derived.Test.YtpipkeplhkccoaaGreatDoorRd3
import Derived.Test.YtpipkeplhkccoaaGreatDoorR4g
import Derived.Test.YtpipkeplhkccoaaGreatDoorRt
namespace Go.Proofs.YtpipkeplhkccoaaGreatDoor
open Go.RowKit Go.Shelf Dec QQ

theorem bytes_at {s : ByteArray} {l : Bytes} {d : UInt8} (h : bytes s = l ++ [d]) : ∃ hn : l.length < s.size, s.size = l.length + 1 ∧ s[l.length] = d := by
  have hl : s.size = l.length + 1 := by rw [size_bytes, h, List.length_append]; rfl
  refine ⟨by omega, hl, ?_⟩
  have e : (bytes s)[l.length]? = some d := by rw [h, List.getElem?_append_right (Nat.le_refl _), Nat.sub_self]; rfl
  have e2 : (bytes s)[l.length]? = some s[l.length] := by
    unfold bytes
    rw [Array.getElem?_toList]
    exact Array.getElem?_eq_getElem (by show l.length < s.size; omega)
  rw [e2] at e
  injection e
theorem canS_last {z : Int} (h : z ≠ 0) : ∃ l : Bytes, bytes (canS z) = l ++ [digB z.natAbs] := by
  unfold canS
  rw [bytes_str]
  have hd := dec_pos (n := z.natAbs) (by omega)
  unfold canon
  split
  · exact ⟨45 :: dec (z.natAbs / 10), by rw [hd]; rfl⟩
  · exact ⟨dec (z.natAbs / 10), hd⟩
theorem even_digit {z : Int} (h : z ≠ 0) : ∃ (n : Nat) (hn : n < (canS z).size) (d : Nat), (canS z).size = n + 1 ∧ ((canS z)[n].toNat : Int) = 48 + (d : Int) ∧ d ≤ 9 ∧ ((d : Int) % 2 == 0) = evB z := by
  obtain ⟨l, hl⟩ := canS_last h
  obtain ⟨hn, h1, h2⟩ := bytes_at hl
  refine ⟨l.length, hn, z.natAbs % 10, h1, ?_, by omega, ?_⟩
  · rw [h2, digB_toNat]
    omega
  · unfold evB
    rw [Bool.eq_iff_iff]
    simp
    omega
set_option maxRecDepth 100000 in
set_option maxHeartbeats 4000000 in
theorem reven_any (z : Int) (hz : (canS z).size ≤ 100000) : Ret 178 #[.string (canS z)] (.bool (evB z)) := by
  intro w hg
  have hs := St.refl hg
  have K1 : Ret 143 #[.string (canS z)] (.string (canS z)) := fun w _ => by
    have := rcanonical_any (canS z) w (by omega)
    rwa [valS_canS] at this
  by_cases h : z = 0
  · subst h
    have e : canS 0 = ⟨#[]⟩ := canS_zero
    rw [e] at K1 ⊢
    have ev : evB 0 = true := by decide
    rw [ev]
    go_enter Tryz.func178, Tryz.ntmps178
    go_wp2_with fail
    refine K1.step hs ?_
    intro w1 hs _
    go_wp2_with fail
    go_ret
    exact ⟨rfl, hs.2⟩
  · have q0 : ((canS z).toList == []) = false := by rw [nil_eq]; exact decide_eq_false h
    obtain ⟨n, hn, d, hsz, hd, hd9, hev⟩ := even_digit h
    generalize evB z = v at *
    generalize canS z = s at *
    have h1 : ((s.size : Int) - 1) = (n : Int) := by omega
    have hw : ((s[n].toNat : Int) - 48) = (d : Int) := by omega
    clear hd h hsz
    go_enter Tryz.func178, Tryz.ntmps178
    go_wp2_with fail
    refine K1.step hs ?_
    intro w1 hs _
    go_wp2_with fail
    go_ret
    exact ⟨rfl, hs.2⟩
set_option maxRecDepth 100000 in
set_option maxHeartbeats 4000000 in
theorem rmode_any (m : Int) : Ret 144 #[.int .i64 m] (.bool (rndE m == 0)) := by
  intro w hg
  have hs := St.refl hg
  unfold rndE
  by_cases h1 : m < 1
  · rw [if_pos (.inl h1)]
    have q1 : decide (1 ≤ m) = false := decide_eq_false (by omega)
    go_enter Tryz.func144, Tryz.ntmps144
    go_wp2_with fail
    go_ret
    exact ⟨rfl, hs.2⟩
  · have q1 : decide (1 ≤ m) = true := decide_eq_true (by omega)
    by_cases h6 : 6 < m
    · rw [if_pos (.inr h6)]
      have q2 : decide (m ≤ 6) = false := decide_eq_false (by omega)
      go_enter Tryz.func144, Tryz.ntmps144
      go_wp2_with fail
      go_ret
      exact ⟨rfl, hs.2⟩
    · rw [if_neg (by omega)]
      have q2 : decide (m ≤ 6) = true := decide_eq_true (by omega)
      go_enter Tryz.func144, Tryz.ntmps144
      go_wp2_with fail
      go_ret
      exact ⟨rfl, hs.2⟩
theorem FR_zero3 : FR ((0 : Int) : Rat) = .agg #[.string ⟨#[]⟩, .string ⟨#[]⟩] := by
  show FR 0 = _
  unfold FR
  rw [frN_zero, frD_zero]
theorem half_fr : FR (rat 1 2) = .agg #[.string ⟨#[49]⟩, .string ⟨#[50]⟩] := by
  unfold FR
  rw [show frN (rat 1 2) = ⟨#[49]⟩ from by decide +kernel, show frD (rat 1 2) = ⟨#[50]⟩ from by decide +kernel]
theorem half_val : ratV ⟨#[49]⟩ ⟨#[50]⟩ = 1 / 2 := by decide +kernel
theorem cmpQ_zero {x : Rat} : (cmpQ x 0 == 0) = decide (x = 0) := by
  rw [Bool.eq_iff_iff, beq_iff_eq, decide_eq_true_iff]
  unfold cmpQ
  by_cases h1 : x < 0
  · rw [if_pos h1]
    constructor
    · intro h; cases h
    · intro h; rw [h] at h1; exact absurd h1 (by decide)
  · rw [if_neg h1]
    by_cases h2 : x = 0
    · rw [if_pos h2]; simp [h2]
    · rw [if_neg h2]; simp [h2]
theorem rnd_rest {m : Int} {q : Rat} (h : fpart q ≠ 0) {t : Bool} (ht : upB m (cmpQ (fpart q) (1 / 2)) (decide (q < 0)) (evB q.floor) = t) : canS (rndQ m q) = if t = true then canS (q.floor + 1) else canS q.floor := by
  unfold rndQ
  rw [if_neg h, ht]
  cases t <;> rfl
set_option maxRecDepth 100000 in
set_option maxHeartbeats 4000000 in
theorem rRoundTo_any {a b : ByteArray} (m : Int) (h1 : a.size ≤ 1000) (h2 : b.size ≤ 1000) (hm1 : 1 ≤ m) (hm6 : m ≤ 6) : Ret 145 #[FV a b, .int .i64 m] (.string (canS (rndQ m (ratV a b)))) := by
  intro w hg
  have hs := (St.refl hg).alloc (.cells #[.string a, .string b] 36)
  have XF := Bx.new w #[.string a, .string b] 36
  have fq := FitQ.arg (n := a) (d := b) (k := 1000) h1 h2 (by omega)
  have K1 := rfloor_r (a := a) (b := b) (by omega) (by omega)
  have fl : Fit 1000 (ratV a b).floor := floor_fitR fq
  have zl := fl.size
  have KO := rof_r (a := canS (ratV a b).floor) (by omega)
  rw [valS_canS] at KO
  have flq : FitQ 1000 (((ratV a b).floor : Int) : Rat) := FitQ.int fl (by omega)
  have zf := FitQ.sizes flq
  have KS := rsub_r (a := a) (b := b) (c := frN (((ratV a b).floor : Int) : Rat)) (d := frD (((ratV a b).floor : Int) : Rat)) (by omega) (by omega) (by omega) (by omega)
  rw [ratV_fr] at KS
  change Ret _ _ (FR (fpart (ratV a b))) at KS
  have fp : FitQ 2001 (fpart (ratV a b)) := (fq.sub flq).mono (by omega)
  have zp := FitQ.sizes fp
  have KZ := rof_r (a := ⟨#[]⟩) (by decide)
  rw [show valS ⟨#[]⟩ = 0 from by decide, show FR ((0 : Int) : Rat) = .agg #[.string ⟨#[]⟩, .string ⟨#[]⟩] from FR_zero3] at KZ
  have KC1 := rcmpF (a := frN (fpart (ratV a b))) (b := frD (fpart (ratV a b))) (c := ⟨#[]⟩) (d := ⟨#[]⟩) (by omega) (by omega) (by decide) (by decide)
  rw [ratV_fr, show ratV ⟨#[]⟩ ⟨#[]⟩ = 0 from rfl] at KC1
  have KA := rAddR (a := canS (ratV a b).floor) (b := ⟨#[49]⟩) (by omega) (by decide)
  rw [valS_canS, show valS ⟨#[49]⟩ = 1 from by decide] at KA
  have KN := new_r (n := ⟨#[49]⟩) (d := ⟨#[50]⟩) (by decide) (by decide)
  rw [if_neg (by decide), if_neg (by decide), show valS ⟨#[49]⟩ = 1 from by decide, show valS ⟨#[50]⟩ = 2 from by decide, half_fr] at KN
  have KC2 := rcmpF (a := frN (fpart (ratV a b))) (b := frD (fpart (ratV a b))) (c := ⟨#[49]⟩) (d := ⟨#[50]⟩) (by omega) (by omega) (by decide) (by decide)
  rw [ratV_fr, half_val] at KC2
  have KC3 := rcmpF (a := a) (b := b) (c := ⟨#[]⟩) (d := ⟨#[]⟩) (by omega) (by omega) (by decide) (by decide)
  rw [show ratV ⟨#[]⟩ ⟨#[]⟩ = 0 from rfl] at KC3
  have KE := reven_any (ratV a b).floor (by omega)
  have q1 := cmpQ_zero (x := fpart (ratV a b))
  have q3 : decide (cmpQ (ratV a b) 0 < 0) = decide (ratV a b < 0) := decide_eq_decide.2 cmpQ_neg
  have HI : Hid (fpart (ratV a b) = 0 → ∀ m, canS (rndQ m (ratV a b)) = canS (ratV a b).floor) := fun h m => by rw [rnd_int h]
  have HRest : Hid (fpart (ratV a b) ≠ 0 → ∀ m t, upB m (cmpQ (fpart (ratV a b)) (1 / 2)) (decide (ratV a b < 0)) (evB (ratV a b).floor) = t → canS (rndQ m (ratV a b)) = if t = true then canS ((ratV a b).floor + 1) else canS (ratV a b).floor) := fun h m t ht => rnd_rest h ht
  obtain ⟨rr, hrr⟩ : ∃ x, canS (rndQ m (ratV a b)) = x := ⟨_, rfl⟩
  rw [hrr]
  have HRR := Lib.hid hrr
  unfold FV at *
  unfold FR at *
  clear fq fl zl flq zf fp zp h1 h2 hrr
  generalize cmpQ (ratV a b) 0 = c3 at *
  generalize cmpQ (fpart (ratV a b)) (1 / 2) = c at *
  generalize cmpQ (fpart (ratV a b)) 0 = c1 at *
  generalize decide (ratV a b < 0) = ng at *
  generalize evB (ratV a b).floor = ev at *
  generalize canS ((ratV a b).floor + 1) = up at *
  generalize frN (fpart (ratV a b)) = pn at *
  generalize frD (fpart (ratV a b)) = pd at *
  generalize frN (((ratV a b).floor : Int) : Rat) = ln at *
  generalize frD (((ratV a b).floor : Int) : Rat) = ld at *
  generalize canS (ratV a b).floor = lo at *
  obtain ⟨t1, q41⟩ : ∃ t, decide (0 < c) = t := ⟨_, rfl⟩
  obtain ⟨t2, q42⟩ : ∃ t, (c == 0) = t := ⟨_, rfl⟩
  by_cases hz : fpart (ratV a b) = 0
  · rw [decide_eq_true hz] at q1
    have e := HI.out hz m
    rw [HRR.out] at e
    subst e
    clear HI HRest HRR hz q41 q42
    go_enter Tryz.func145, Tryz.ntmps145
    go_wp2_with fail
    refine K1.step hs ?_
    intro w1 hs hb
    replace XF := XF.on hb
    have lw : w.heap.size ≤ w1.heap.size := hs.size
    go_wp2_with fail
    refine wp_region_fresh1 5 4 6 #[.string ⟨#[]⟩, .string ⟨#[]⟩] (by kernel_rfl) (by kernel_rfl) (by kernel_rfl) (by omega) rfl (by kernel_rfl) ⟨_, 6, _, rfl, rfl, rfl, fun _ _ => by simp [execOp, go_sem, ptrTo]; rfl⟩ ?_
    apply Exists.intro
    refine ⟨fun S W hne hk hcl => ?_, ?_⟩
    · simp only [List.take_succ_cons, List.take_zero, quietL, List.mem_cons, List.not_mem_nil, or_false, Nat.reduceAdd, Nat.reduceEqDiff, reduceIte, Nat.zero_add]
      have kk0 := XF.in hk (i := 0) (v := .string a) rfl
      have kk1 := XF.in hk (i := 1) (v := .string b) rfl
      repeat (go_big_quiet_step (first | (with_reducible exact KO.fresh hs hk hcl) | (with_reducible exact KS.fresh hs hk hcl)))
      exact wpQuiet_nil rfl
    intro b1 v1 hb1 hv1 hx1
    simp only [List.drop_succ_cons, List.drop_zero, ptrTo]
    have z0 := hx1.cell (i := 0) (v := .string ⟨#[]⟩) rfl
    have z1 := hx1.cell (i := 1) (v := .string ⟨#[]⟩) rfl
    have g0 := hx1.frozen 0
    have g1 := hx1.frozen 1
    go_wp2_with fail
    have lF := XF.lt
    replace hs := ((hs.on hv1).set (b := b1) (by omega) 0 (.string pn)).set (b := b1) (by omega) 1 (.string pd)
    replace XF := ((XF.on hv1).other (c := b1) (by omega) 0 (.string pn)).other (c := b1) (by omega) 1 (.string pd)
    have XP : Bx ((v1.setCell ⟨b1, 0, none⟩ (.string pn)).setCell ⟨b1, 1, none⟩ (.string pd)) b1 #[.string pn, .string pd] := (hx1.set 0 (.string pn)).set 1 (.string pd)
    clear z0 z1 g0 g1 hx1 hv1 hb1 lF
    generalize (v1.setCell ⟨b1, 0, none⟩ (.string pn)).setCell ⟨b1, 1, none⟩ (.string pd) = W8 at *
    refine KZ.step hs ?_
    intro w2 hs hb
    replace XF := XF.on hb
    replace XP := XP.on hb
    replace XF := XF.alloc (.cells #[.string ⟨#[]⟩, .string ⟨#[]⟩] 36)
    replace XP := XP.alloc (.cells #[.string ⟨#[]⟩, .string ⟨#[]⟩] 36)
    replace hs := hs.alloc (.cells #[.string ⟨#[]⟩, .string ⟨#[]⟩] 36)
    have XZ := Bx.new w2 #[.string ⟨#[]⟩, .string ⟨#[]⟩] 36
    have p0 := XP.cell (i := 0) (v := .string pn) rfl
    have p1 := XP.cell (i := 1) (v := .string pd) rfl
    have zz0 := XZ.cell (i := 0) (v := .string ⟨#[]⟩) rfl
    have zz1 := XZ.cell (i := 1) (v := .string ⟨#[]⟩) rfl
    go_wp2_with fail
    refine KC1.step hs ?_
    intro w3 hs hb
    clear p0 p1 zz0 zz1
    replace XF := XF.on hb
    replace XP := XP.on hb
    replace XZ := XZ.on hb
    go_wp2_with fail
    go_ret
    exact ⟨rfl, hs.2⟩
  · rw [decide_eq_false hz] at q1
    have HM : Hid (∀ m t, upB m c ng ev = t → canS (rndQ m (ratV a b)) = if t = true then up else lo) := HRest.out hz
    clear HI HRest hz
    by_cases h1 : m = 1
    · subst h1
      have e := HM.out 1 _ rfl
      rw [show upB 1 c ng ev = (decide (0 < c) || ((c == 0) && !ev)) from rfl, q41, q42] at e
      rw [HRR.out] at e
      clear HM HRR
      cases t1 with
      | true =>
        obtain rfl : rr = up := e
        go_enter Tryz.func145, Tryz.ntmps145
        go_wp2_with fail
        refine K1.step hs ?_
        intro w1 hs hb
        replace XF := XF.on hb
        have lw : w.heap.size ≤ w1.heap.size := hs.size
        go_wp2_with fail
        refine wp_region_fresh1 5 4 6 #[.string ⟨#[]⟩, .string ⟨#[]⟩] (by kernel_rfl) (by kernel_rfl) (by kernel_rfl) (by omega) rfl (by kernel_rfl) ⟨_, 6, _, rfl, rfl, rfl, fun _ _ => by simp [execOp, go_sem, ptrTo]; rfl⟩ ?_
        apply Exists.intro
        refine ⟨fun S W hne hk hcl => ?_, ?_⟩
        · simp only [List.take_succ_cons, List.take_zero, quietL, List.mem_cons, List.not_mem_nil, or_false, Nat.reduceAdd, Nat.reduceEqDiff, reduceIte, Nat.zero_add]
          have kk0 := XF.in hk (i := 0) (v := .string a) rfl
          have kk1 := XF.in hk (i := 1) (v := .string b) rfl
          repeat (go_big_quiet_step (first | (with_reducible exact KO.fresh hs hk hcl) | (with_reducible exact KS.fresh hs hk hcl)))
          exact wpQuiet_nil rfl
        intro b1 v1 hb1 hv1 hx1
        simp only [List.drop_succ_cons, List.drop_zero, ptrTo]
        have z0 := hx1.cell (i := 0) (v := .string ⟨#[]⟩) rfl
        have z1 := hx1.cell (i := 1) (v := .string ⟨#[]⟩) rfl
        have g0 := hx1.frozen 0
        have g1 := hx1.frozen 1
        go_wp2_with fail
        have lF := XF.lt
        replace hs := ((hs.on hv1).set (b := b1) (by omega) 0 (.string pn)).set (b := b1) (by omega) 1 (.string pd)
        replace XF := ((XF.on hv1).other (c := b1) (by omega) 0 (.string pn)).other (c := b1) (by omega) 1 (.string pd)
        have XP : Bx ((v1.setCell ⟨b1, 0, none⟩ (.string pn)).setCell ⟨b1, 1, none⟩ (.string pd)) b1 #[.string pn, .string pd] := (hx1.set 0 (.string pn)).set 1 (.string pd)
        clear z0 z1 g0 g1 hx1 hv1 hb1 lF
        generalize (v1.setCell ⟨b1, 0, none⟩ (.string pn)).setCell ⟨b1, 1, none⟩ (.string pd) = W8 at *
        refine KZ.step hs ?_
        intro w2 hs hb
        replace XF := XF.on hb
        replace XP := XP.on hb
        replace XF := XF.alloc (.cells #[.string ⟨#[]⟩, .string ⟨#[]⟩] 36)
        replace XP := XP.alloc (.cells #[.string ⟨#[]⟩, .string ⟨#[]⟩] 36)
        replace hs := hs.alloc (.cells #[.string ⟨#[]⟩, .string ⟨#[]⟩] 36)
        have XZ := Bx.new w2 #[.string ⟨#[]⟩, .string ⟨#[]⟩] 36
        have p0 := XP.cell (i := 0) (v := .string pn) rfl
        have p1 := XP.cell (i := 1) (v := .string pd) rfl
        have zz0 := XZ.cell (i := 0) (v := .string ⟨#[]⟩) rfl
        have zz1 := XZ.cell (i := 1) (v := .string ⟨#[]⟩) rfl
        go_wp2_with fail
        refine KC1.step hs ?_
        intro w3 hs hb
        clear p0 p1 zz0 zz1
        replace XF := XF.on hb
        replace XP := XP.on hb
        replace XZ := XZ.on hb
        go_wp2_with fail
        refine KA.step hs ?_
        intro w4 hs hb
        replace XF := XF.on hb
        replace XP := XP.on hb
        replace XZ := XZ.on hb
        go_wp2_with fail
        refine KN.step hs ?_
        intro w5 hs hb
        replace XF := XF.on hb
        replace XP := XP.on hb
        replace XZ := XZ.on hb
        replace XF := XF.alloc (.cells #[.string ⟨#[49]⟩, .string ⟨#[50]⟩] 36)
        replace XP := XP.alloc (.cells #[.string ⟨#[49]⟩, .string ⟨#[50]⟩] 36)
        replace XZ := XZ.alloc (.cells #[.string ⟨#[49]⟩, .string ⟨#[50]⟩] 36)
        replace hs := hs.alloc (.cells #[.string ⟨#[49]⟩, .string ⟨#[50]⟩] 36)
        have XH := Bx.new w5 #[.string ⟨#[49]⟩, .string ⟨#[50]⟩] 36
        have p0 := XP.cell (i := 0) (v := .string pn) rfl
        have p1 := XP.cell (i := 1) (v := .string pd) rfl
        have hh0 := XH.cell (i := 0) (v := .string ⟨#[49]⟩) rfl
        have hh1 := XH.cell (i := 1) (v := .string ⟨#[50]⟩) rfl
        go_wp2_with fail
        refine KC2.step hs ?_
        intro w6 hs hb
        clear p0 p1 hh0 hh1
        replace XF := XF.on hb
        replace XZ := XZ.on hb
        have f0 := XF.cell (i := 0) (v := .string a) rfl
        have f1 := XF.cell (i := 1) (v := .string b) rfl
        have zz0 := XZ.cell (i := 0) (v := .string ⟨#[]⟩) rfl
        have zz1 := XZ.cell (i := 1) (v := .string ⟨#[]⟩) rfl
        go_wp2_with fail
        refine KC3.step hs ?_
        intro w7 hs hb
        clear f0 f1 zz0 zz1
        go_wp2_with fail
        go_ret
        exact ⟨rfl, hs.2⟩
      | false =>
        cases t2 with
        | false =>
          obtain rfl : rr = lo := e
          go_enter Tryz.func145, Tryz.ntmps145
          go_wp2_with fail
          refine K1.step hs ?_
          intro w1 hs hb
          replace XF := XF.on hb
          have lw : w.heap.size ≤ w1.heap.size := hs.size
          go_wp2_with fail
          refine wp_region_fresh1 5 4 6 #[.string ⟨#[]⟩, .string ⟨#[]⟩] (by kernel_rfl) (by kernel_rfl) (by kernel_rfl) (by omega) rfl (by kernel_rfl) ⟨_, 6, _, rfl, rfl, rfl, fun _ _ => by simp [execOp, go_sem, ptrTo]; rfl⟩ ?_
          apply Exists.intro
          refine ⟨fun S W hne hk hcl => ?_, ?_⟩
          · simp only [List.take_succ_cons, List.take_zero, quietL, List.mem_cons, List.not_mem_nil, or_false, Nat.reduceAdd, Nat.reduceEqDiff, reduceIte, Nat.zero_add]
            have kk0 := XF.in hk (i := 0) (v := .string a) rfl
            have kk1 := XF.in hk (i := 1) (v := .string b) rfl
            repeat (go_big_quiet_step (first | (with_reducible exact KO.fresh hs hk hcl) | (with_reducible exact KS.fresh hs hk hcl)))
            exact wpQuiet_nil rfl
          intro b1 v1 hb1 hv1 hx1
          simp only [List.drop_succ_cons, List.drop_zero, ptrTo]
          have z0 := hx1.cell (i := 0) (v := .string ⟨#[]⟩) rfl
          have z1 := hx1.cell (i := 1) (v := .string ⟨#[]⟩) rfl
          have g0 := hx1.frozen 0
          have g1 := hx1.frozen 1
          go_wp2_with fail
          have lF := XF.lt
          replace hs := ((hs.on hv1).set (b := b1) (by omega) 0 (.string pn)).set (b := b1) (by omega) 1 (.string pd)
          replace XF := ((XF.on hv1).other (c := b1) (by omega) 0 (.string pn)).other (c := b1) (by omega) 1 (.string pd)
          have XP : Bx ((v1.setCell ⟨b1, 0, none⟩ (.string pn)).setCell ⟨b1, 1, none⟩ (.string pd)) b1 #[.string pn, .string pd] := (hx1.set 0 (.string pn)).set 1 (.string pd)
          clear z0 z1 g0 g1 hx1 hv1 hb1 lF
          generalize (v1.setCell ⟨b1, 0, none⟩ (.string pn)).setCell ⟨b1, 1, none⟩ (.string pd) = W8 at *
          refine KZ.step hs ?_
          intro w2 hs hb
          replace XF := XF.on hb
          replace XP := XP.on hb
          replace XF := XF.alloc (.cells #[.string ⟨#[]⟩, .string ⟨#[]⟩] 36)
          replace XP := XP.alloc (.cells #[.string ⟨#[]⟩, .string ⟨#[]⟩] 36)
          replace hs := hs.alloc (.cells #[.string ⟨#[]⟩, .string ⟨#[]⟩] 36)
          have XZ := Bx.new w2 #[.string ⟨#[]⟩, .string ⟨#[]⟩] 36
          have p0 := XP.cell (i := 0) (v := .string pn) rfl
          have p1 := XP.cell (i := 1) (v := .string pd) rfl
          have zz0 := XZ.cell (i := 0) (v := .string ⟨#[]⟩) rfl
          have zz1 := XZ.cell (i := 1) (v := .string ⟨#[]⟩) rfl
          go_wp2_with fail
          refine KC1.step hs ?_
          intro w3 hs hb
          clear p0 p1 zz0 zz1
          replace XF := XF.on hb
          replace XP := XP.on hb
          replace XZ := XZ.on hb
          go_wp2_with fail
          refine KA.step hs ?_
          intro w4 hs hb
          replace XF := XF.on hb
          replace XP := XP.on hb
          replace XZ := XZ.on hb
          go_wp2_with fail
          refine KN.step hs ?_
          intro w5 hs hb
          replace XF := XF.on hb
          replace XP := XP.on hb
          replace XZ := XZ.on hb
          replace XF := XF.alloc (.cells #[.string ⟨#[49]⟩, .string ⟨#[50]⟩] 36)
          replace XP := XP.alloc (.cells #[.string ⟨#[49]⟩, .string ⟨#[50]⟩] 36)
          replace XZ := XZ.alloc (.cells #[.string ⟨#[49]⟩, .string ⟨#[50]⟩] 36)
          replace hs := hs.alloc (.cells #[.string ⟨#[49]⟩, .string ⟨#[50]⟩] 36)
          have XH := Bx.new w5 #[.string ⟨#[49]⟩, .string ⟨#[50]⟩] 36
          have p0 := XP.cell (i := 0) (v := .string pn) rfl
          have p1 := XP.cell (i := 1) (v := .string pd) rfl
          have hh0 := XH.cell (i := 0) (v := .string ⟨#[49]⟩) rfl
          have hh1 := XH.cell (i := 1) (v := .string ⟨#[50]⟩) rfl
          go_wp2_with fail
          refine KC2.step hs ?_
          intro w6 hs hb
          clear p0 p1 hh0 hh1
          replace XF := XF.on hb
          replace XZ := XZ.on hb
          have f0 := XF.cell (i := 0) (v := .string a) rfl
          have f1 := XF.cell (i := 1) (v := .string b) rfl
          have zz0 := XZ.cell (i := 0) (v := .string ⟨#[]⟩) rfl
          have zz1 := XZ.cell (i := 1) (v := .string ⟨#[]⟩) rfl
          go_wp2_with fail
          refine KC3.step hs ?_
          intro w7 hs hb
          clear f0 f1 zz0 zz1
          go_wp2_with fail
          go_ret
          exact ⟨rfl, hs.2⟩
        | true =>
          cases ev with
          | true =>
            obtain rfl : rr = lo := e
            go_enter Tryz.func145, Tryz.ntmps145
            go_wp2_with fail
            refine K1.step hs ?_
            intro w1 hs hb
            replace XF := XF.on hb
            have lw : w.heap.size ≤ w1.heap.size := hs.size
            go_wp2_with fail
            refine wp_region_fresh1 5 4 6 #[.string ⟨#[]⟩, .string ⟨#[]⟩] (by kernel_rfl) (by kernel_rfl) (by kernel_rfl) (by omega) rfl (by kernel_rfl) ⟨_, 6, _, rfl, rfl, rfl, fun _ _ => by simp [execOp, go_sem, ptrTo]; rfl⟩ ?_
            apply Exists.intro
            refine ⟨fun S W hne hk hcl => ?_, ?_⟩
            · simp only [List.take_succ_cons, List.take_zero, quietL, List.mem_cons, List.not_mem_nil, or_false, Nat.reduceAdd, Nat.reduceEqDiff, reduceIte, Nat.zero_add]
              have kk0 := XF.in hk (i := 0) (v := .string a) rfl
              have kk1 := XF.in hk (i := 1) (v := .string b) rfl
              repeat (go_big_quiet_step (first | (with_reducible exact KO.fresh hs hk hcl) | (with_reducible exact KS.fresh hs hk hcl)))
              exact wpQuiet_nil rfl
            intro b1 v1 hb1 hv1 hx1
            simp only [List.drop_succ_cons, List.drop_zero, ptrTo]
            have z0 := hx1.cell (i := 0) (v := .string ⟨#[]⟩) rfl
            have z1 := hx1.cell (i := 1) (v := .string ⟨#[]⟩) rfl
            have g0 := hx1.frozen 0
            have g1 := hx1.frozen 1
            go_wp2_with fail
            have lF := XF.lt
            replace hs := ((hs.on hv1).set (b := b1) (by omega) 0 (.string pn)).set (b := b1) (by omega) 1 (.string pd)
            replace XF := ((XF.on hv1).other (c := b1) (by omega) 0 (.string pn)).other (c := b1) (by omega) 1 (.string pd)
            have XP : Bx ((v1.setCell ⟨b1, 0, none⟩ (.string pn)).setCell ⟨b1, 1, none⟩ (.string pd)) b1 #[.string pn, .string pd] := (hx1.set 0 (.string pn)).set 1 (.string pd)
            clear z0 z1 g0 g1 hx1 hv1 hb1 lF
            generalize (v1.setCell ⟨b1, 0, none⟩ (.string pn)).setCell ⟨b1, 1, none⟩ (.string pd) = W8 at *
            refine KZ.step hs ?_
            intro w2 hs hb
            replace XF := XF.on hb
            replace XP := XP.on hb
            replace XF := XF.alloc (.cells #[.string ⟨#[]⟩, .string ⟨#[]⟩] 36)
            replace XP := XP.alloc (.cells #[.string ⟨#[]⟩, .string ⟨#[]⟩] 36)
            replace hs := hs.alloc (.cells #[.string ⟨#[]⟩, .string ⟨#[]⟩] 36)
            have XZ := Bx.new w2 #[.string ⟨#[]⟩, .string ⟨#[]⟩] 36
            have p0 := XP.cell (i := 0) (v := .string pn) rfl
            have p1 := XP.cell (i := 1) (v := .string pd) rfl
            have zz0 := XZ.cell (i := 0) (v := .string ⟨#[]⟩) rfl
            have zz1 := XZ.cell (i := 1) (v := .string ⟨#[]⟩) rfl
            go_wp2_with fail
            refine KC1.step hs ?_
            intro w3 hs hb
            clear p0 p1 zz0 zz1
            replace XF := XF.on hb
            replace XP := XP.on hb
            replace XZ := XZ.on hb
            go_wp2_with fail
            refine KA.step hs ?_
            intro w4 hs hb
            replace XF := XF.on hb
            replace XP := XP.on hb
            replace XZ := XZ.on hb
            go_wp2_with fail
            refine KN.step hs ?_
            intro w5 hs hb
            replace XF := XF.on hb
            replace XP := XP.on hb
            replace XZ := XZ.on hb
            replace XF := XF.alloc (.cells #[.string ⟨#[49]⟩, .string ⟨#[50]⟩] 36)
            replace XP := XP.alloc (.cells #[.string ⟨#[49]⟩, .string ⟨#[50]⟩] 36)
            replace XZ := XZ.alloc (.cells #[.string ⟨#[49]⟩, .string ⟨#[50]⟩] 36)
            replace hs := hs.alloc (.cells #[.string ⟨#[49]⟩, .string ⟨#[50]⟩] 36)
            have XH := Bx.new w5 #[.string ⟨#[49]⟩, .string ⟨#[50]⟩] 36
            have p0 := XP.cell (i := 0) (v := .string pn) rfl
            have p1 := XP.cell (i := 1) (v := .string pd) rfl
            have hh0 := XH.cell (i := 0) (v := .string ⟨#[49]⟩) rfl
            have hh1 := XH.cell (i := 1) (v := .string ⟨#[50]⟩) rfl
            go_wp2_with fail
            refine KC2.step hs ?_
            intro w6 hs hb
            clear p0 p1 hh0 hh1
            replace XF := XF.on hb
            replace XZ := XZ.on hb
            have f0 := XF.cell (i := 0) (v := .string a) rfl
            have f1 := XF.cell (i := 1) (v := .string b) rfl
            have zz0 := XZ.cell (i := 0) (v := .string ⟨#[]⟩) rfl
            have zz1 := XZ.cell (i := 1) (v := .string ⟨#[]⟩) rfl
            go_wp2_with fail
            refine KC3.step hs ?_
            intro w7 hs hb
            clear f0 f1 zz0 zz1
            go_wp2_with fail
            refine KE.step hs ?_
            intro w8 hs hb
            go_wp2_with fail
            go_ret
            exact ⟨rfl, hs.2⟩
          | false =>
            obtain rfl : rr = up := e
            go_enter Tryz.func145, Tryz.ntmps145
            go_wp2_with fail
            refine K1.step hs ?_
            intro w1 hs hb
            replace XF := XF.on hb
            have lw : w.heap.size ≤ w1.heap.size := hs.size
            go_wp2_with fail
            refine wp_region_fresh1 5 4 6 #[.string ⟨#[]⟩, .string ⟨#[]⟩] (by kernel_rfl) (by kernel_rfl) (by kernel_rfl) (by omega) rfl (by kernel_rfl) ⟨_, 6, _, rfl, rfl, rfl, fun _ _ => by simp [execOp, go_sem, ptrTo]; rfl⟩ ?_
            apply Exists.intro
            refine ⟨fun S W hne hk hcl => ?_, ?_⟩
            · simp only [List.take_succ_cons, List.take_zero, quietL, List.mem_cons, List.not_mem_nil, or_false, Nat.reduceAdd, Nat.reduceEqDiff, reduceIte, Nat.zero_add]
              have kk0 := XF.in hk (i := 0) (v := .string a) rfl
              have kk1 := XF.in hk (i := 1) (v := .string b) rfl
              repeat (go_big_quiet_step (first | (with_reducible exact KO.fresh hs hk hcl) | (with_reducible exact KS.fresh hs hk hcl)))
              exact wpQuiet_nil rfl
            intro b1 v1 hb1 hv1 hx1
            simp only [List.drop_succ_cons, List.drop_zero, ptrTo]
            have z0 := hx1.cell (i := 0) (v := .string ⟨#[]⟩) rfl
            have z1 := hx1.cell (i := 1) (v := .string ⟨#[]⟩) rfl
            have g0 := hx1.frozen 0
            have g1 := hx1.frozen 1
            go_wp2_with fail
            have lF := XF.lt
            replace hs := ((hs.on hv1).set (b := b1) (by omega) 0 (.string pn)).set (b := b1) (by omega) 1 (.string pd)
            replace XF := ((XF.on hv1).other (c := b1) (by omega) 0 (.string pn)).other (c := b1) (by omega) 1 (.string pd)
            have XP : Bx ((v1.setCell ⟨b1, 0, none⟩ (.string pn)).setCell ⟨b1, 1, none⟩ (.string pd)) b1 #[.string pn, .string pd] := (hx1.set 0 (.string pn)).set 1 (.string pd)
            clear z0 z1 g0 g1 hx1 hv1 hb1 lF
            generalize (v1.setCell ⟨b1, 0, none⟩ (.string pn)).setCell ⟨b1, 1, none⟩ (.string pd) = W8 at *
            refine KZ.step hs ?_
            intro w2 hs hb
            replace XF := XF.on hb
            replace XP := XP.on hb
            replace XF := XF.alloc (.cells #[.string ⟨#[]⟩, .string ⟨#[]⟩] 36)
            replace XP := XP.alloc (.cells #[.string ⟨#[]⟩, .string ⟨#[]⟩] 36)
            replace hs := hs.alloc (.cells #[.string ⟨#[]⟩, .string ⟨#[]⟩] 36)
            have XZ := Bx.new w2 #[.string ⟨#[]⟩, .string ⟨#[]⟩] 36
            have p0 := XP.cell (i := 0) (v := .string pn) rfl
            have p1 := XP.cell (i := 1) (v := .string pd) rfl
            have zz0 := XZ.cell (i := 0) (v := .string ⟨#[]⟩) rfl
            have zz1 := XZ.cell (i := 1) (v := .string ⟨#[]⟩) rfl
            go_wp2_with fail
            refine KC1.step hs ?_
            intro w3 hs hb
            clear p0 p1 zz0 zz1
            replace XF := XF.on hb
            replace XP := XP.on hb
            replace XZ := XZ.on hb
            go_wp2_with fail
            refine KA.step hs ?_
            intro w4 hs hb
            replace XF := XF.on hb
            replace XP := XP.on hb
            replace XZ := XZ.on hb
            go_wp2_with fail
            refine KN.step hs ?_
            intro w5 hs hb
            replace XF := XF.on hb
            replace XP := XP.on hb
            replace XZ := XZ.on hb
            replace XF := XF.alloc (.cells #[.string ⟨#[49]⟩, .string ⟨#[50]⟩] 36)
            replace XP := XP.alloc (.cells #[.string ⟨#[49]⟩, .string ⟨#[50]⟩] 36)
            replace XZ := XZ.alloc (.cells #[.string ⟨#[49]⟩, .string ⟨#[50]⟩] 36)
            replace hs := hs.alloc (.cells #[.string ⟨#[49]⟩, .string ⟨#[50]⟩] 36)
            have XH := Bx.new w5 #[.string ⟨#[49]⟩, .string ⟨#[50]⟩] 36
            have p0 := XP.cell (i := 0) (v := .string pn) rfl
            have p1 := XP.cell (i := 1) (v := .string pd) rfl
            have hh0 := XH.cell (i := 0) (v := .string ⟨#[49]⟩) rfl
            have hh1 := XH.cell (i := 1) (v := .string ⟨#[50]⟩) rfl
            go_wp2_with fail
            refine KC2.step hs ?_
            intro w6 hs hb
            clear p0 p1 hh0 hh1
            replace XF := XF.on hb
            replace XZ := XZ.on hb
            have f0 := XF.cell (i := 0) (v := .string a) rfl
            have f1 := XF.cell (i := 1) (v := .string b) rfl
            have zz0 := XZ.cell (i := 0) (v := .string ⟨#[]⟩) rfl
            have zz1 := XZ.cell (i := 1) (v := .string ⟨#[]⟩) rfl
            go_wp2_with fail
            refine KC3.step hs ?_
            intro w7 hs hb
            clear f0 f1 zz0 zz1
            go_wp2_with fail
            refine KE.step hs ?_
            intro w8 hs hb
            go_wp2_with fail
            go_ret
            exact ⟨rfl, hs.2⟩
    by_cases h2 : m = 2
    · subst h2
      have e := HM.out 2 _ rfl
      rw [show upB 2 c ng ev = (decide (0 < c) || ((c == 0) && !ng)) from rfl, q41, q42] at e
      rw [HRR.out] at e
      clear HM HRR
      cases t1 with
      | true =>
        obtain rfl : rr = up := e
        go_enter Tryz.func145, Tryz.ntmps145
        go_wp2_with fail
        refine K1.step hs ?_
        intro w1 hs hb
        replace XF := XF.on hb
        have lw : w.heap.size ≤ w1.heap.size := hs.size
        go_wp2_with fail
        refine wp_region_fresh1 5 4 6 #[.string ⟨#[]⟩, .string ⟨#[]⟩] (by kernel_rfl) (by kernel_rfl) (by kernel_rfl) (by omega) rfl (by kernel_rfl) ⟨_, 6, _, rfl, rfl, rfl, fun _ _ => by simp [execOp, go_sem, ptrTo]; rfl⟩ ?_
        apply Exists.intro
        refine ⟨fun S W hne hk hcl => ?_, ?_⟩
        · simp only [List.take_succ_cons, List.take_zero, quietL, List.mem_cons, List.not_mem_nil, or_false, Nat.reduceAdd, Nat.reduceEqDiff, reduceIte, Nat.zero_add]
          have kk0 := XF.in hk (i := 0) (v := .string a) rfl
          have kk1 := XF.in hk (i := 1) (v := .string b) rfl
          repeat (go_big_quiet_step (first | (with_reducible exact KO.fresh hs hk hcl) | (with_reducible exact KS.fresh hs hk hcl)))
          exact wpQuiet_nil rfl
        intro b1 v1 hb1 hv1 hx1
        simp only [List.drop_succ_cons, List.drop_zero, ptrTo]
        have z0 := hx1.cell (i := 0) (v := .string ⟨#[]⟩) rfl
        have z1 := hx1.cell (i := 1) (v := .string ⟨#[]⟩) rfl
        have g0 := hx1.frozen 0
        have g1 := hx1.frozen 1
        go_wp2_with fail
        have lF := XF.lt
        replace hs := ((hs.on hv1).set (b := b1) (by omega) 0 (.string pn)).set (b := b1) (by omega) 1 (.string pd)
        replace XF := ((XF.on hv1).other (c := b1) (by omega) 0 (.string pn)).other (c := b1) (by omega) 1 (.string pd)
        have XP : Bx ((v1.setCell ⟨b1, 0, none⟩ (.string pn)).setCell ⟨b1, 1, none⟩ (.string pd)) b1 #[.string pn, .string pd] := (hx1.set 0 (.string pn)).set 1 (.string pd)
        clear z0 z1 g0 g1 hx1 hv1 hb1 lF
        generalize (v1.setCell ⟨b1, 0, none⟩ (.string pn)).setCell ⟨b1, 1, none⟩ (.string pd) = W8 at *
        refine KZ.step hs ?_
        intro w2 hs hb
        replace XF := XF.on hb
        replace XP := XP.on hb
        replace XF := XF.alloc (.cells #[.string ⟨#[]⟩, .string ⟨#[]⟩] 36)
        replace XP := XP.alloc (.cells #[.string ⟨#[]⟩, .string ⟨#[]⟩] 36)
        replace hs := hs.alloc (.cells #[.string ⟨#[]⟩, .string ⟨#[]⟩] 36)
        have XZ := Bx.new w2 #[.string ⟨#[]⟩, .string ⟨#[]⟩] 36
        have p0 := XP.cell (i := 0) (v := .string pn) rfl
        have p1 := XP.cell (i := 1) (v := .string pd) rfl
        have zz0 := XZ.cell (i := 0) (v := .string ⟨#[]⟩) rfl
        have zz1 := XZ.cell (i := 1) (v := .string ⟨#[]⟩) rfl
        go_wp2_with fail
        refine KC1.step hs ?_
        intro w3 hs hb
        clear p0 p1 zz0 zz1
        replace XF := XF.on hb
        replace XP := XP.on hb
        replace XZ := XZ.on hb
        go_wp2_with fail
        refine KA.step hs ?_
        intro w4 hs hb
        replace XF := XF.on hb
        replace XP := XP.on hb
        replace XZ := XZ.on hb
        go_wp2_with fail
        refine KN.step hs ?_
        intro w5 hs hb
        replace XF := XF.on hb
        replace XP := XP.on hb
        replace XZ := XZ.on hb
        replace XF := XF.alloc (.cells #[.string ⟨#[49]⟩, .string ⟨#[50]⟩] 36)
        replace XP := XP.alloc (.cells #[.string ⟨#[49]⟩, .string ⟨#[50]⟩] 36)
        replace XZ := XZ.alloc (.cells #[.string ⟨#[49]⟩, .string ⟨#[50]⟩] 36)
        replace hs := hs.alloc (.cells #[.string ⟨#[49]⟩, .string ⟨#[50]⟩] 36)
        have XH := Bx.new w5 #[.string ⟨#[49]⟩, .string ⟨#[50]⟩] 36
        have p0 := XP.cell (i := 0) (v := .string pn) rfl
        have p1 := XP.cell (i := 1) (v := .string pd) rfl
        have hh0 := XH.cell (i := 0) (v := .string ⟨#[49]⟩) rfl
        have hh1 := XH.cell (i := 1) (v := .string ⟨#[50]⟩) rfl
        go_wp2_with fail
        refine KC2.step hs ?_
        intro w6 hs hb
        clear p0 p1 hh0 hh1
        replace XF := XF.on hb
        replace XZ := XZ.on hb
        have f0 := XF.cell (i := 0) (v := .string a) rfl
        have f1 := XF.cell (i := 1) (v := .string b) rfl
        have zz0 := XZ.cell (i := 0) (v := .string ⟨#[]⟩) rfl
        have zz1 := XZ.cell (i := 1) (v := .string ⟨#[]⟩) rfl
        go_wp2_with fail
        refine KC3.step hs ?_
        intro w7 hs hb
        clear f0 f1 zz0 zz1
        go_wp2_with fail
        go_ret
        exact ⟨rfl, hs.2⟩
      | false =>
        cases t2 with
        | false =>
          obtain rfl : rr = lo := e
          go_enter Tryz.func145, Tryz.ntmps145
          go_wp2_with fail
          refine K1.step hs ?_
          intro w1 hs hb
          replace XF := XF.on hb
          have lw : w.heap.size ≤ w1.heap.size := hs.size
          go_wp2_with fail
          refine wp_region_fresh1 5 4 6 #[.string ⟨#[]⟩, .string ⟨#[]⟩] (by kernel_rfl) (by kernel_rfl) (by kernel_rfl) (by omega) rfl (by kernel_rfl) ⟨_, 6, _, rfl, rfl, rfl, fun _ _ => by simp [execOp, go_sem, ptrTo]; rfl⟩ ?_
          apply Exists.intro
          refine ⟨fun S W hne hk hcl => ?_, ?_⟩
          · simp only [List.take_succ_cons, List.take_zero, quietL, List.mem_cons, List.not_mem_nil, or_false, Nat.reduceAdd, Nat.reduceEqDiff, reduceIte, Nat.zero_add]
            have kk0 := XF.in hk (i := 0) (v := .string a) rfl
            have kk1 := XF.in hk (i := 1) (v := .string b) rfl
            repeat (go_big_quiet_step (first | (with_reducible exact KO.fresh hs hk hcl) | (with_reducible exact KS.fresh hs hk hcl)))
            exact wpQuiet_nil rfl
          intro b1 v1 hb1 hv1 hx1
          simp only [List.drop_succ_cons, List.drop_zero, ptrTo]
          have z0 := hx1.cell (i := 0) (v := .string ⟨#[]⟩) rfl
          have z1 := hx1.cell (i := 1) (v := .string ⟨#[]⟩) rfl
          have g0 := hx1.frozen 0
          have g1 := hx1.frozen 1
          go_wp2_with fail
          have lF := XF.lt
          replace hs := ((hs.on hv1).set (b := b1) (by omega) 0 (.string pn)).set (b := b1) (by omega) 1 (.string pd)
          replace XF := ((XF.on hv1).other (c := b1) (by omega) 0 (.string pn)).other (c := b1) (by omega) 1 (.string pd)
          have XP : Bx ((v1.setCell ⟨b1, 0, none⟩ (.string pn)).setCell ⟨b1, 1, none⟩ (.string pd)) b1 #[.string pn, .string pd] := (hx1.set 0 (.string pn)).set 1 (.string pd)
          clear z0 z1 g0 g1 hx1 hv1 hb1 lF
          generalize (v1.setCell ⟨b1, 0, none⟩ (.string pn)).setCell ⟨b1, 1, none⟩ (.string pd) = W8 at *
          refine KZ.step hs ?_
          intro w2 hs hb
          replace XF := XF.on hb
          replace XP := XP.on hb
          replace XF := XF.alloc (.cells #[.string ⟨#[]⟩, .string ⟨#[]⟩] 36)
          replace XP := XP.alloc (.cells #[.string ⟨#[]⟩, .string ⟨#[]⟩] 36)
          replace hs := hs.alloc (.cells #[.string ⟨#[]⟩, .string ⟨#[]⟩] 36)
          have XZ := Bx.new w2 #[.string ⟨#[]⟩, .string ⟨#[]⟩] 36
          have p0 := XP.cell (i := 0) (v := .string pn) rfl
          have p1 := XP.cell (i := 1) (v := .string pd) rfl
          have zz0 := XZ.cell (i := 0) (v := .string ⟨#[]⟩) rfl
          have zz1 := XZ.cell (i := 1) (v := .string ⟨#[]⟩) rfl
          go_wp2_with fail
          refine KC1.step hs ?_
          intro w3 hs hb
          clear p0 p1 zz0 zz1
          replace XF := XF.on hb
          replace XP := XP.on hb
          replace XZ := XZ.on hb
          go_wp2_with fail
          refine KA.step hs ?_
          intro w4 hs hb
          replace XF := XF.on hb
          replace XP := XP.on hb
          replace XZ := XZ.on hb
          go_wp2_with fail
          refine KN.step hs ?_
          intro w5 hs hb
          replace XF := XF.on hb
          replace XP := XP.on hb
          replace XZ := XZ.on hb
          replace XF := XF.alloc (.cells #[.string ⟨#[49]⟩, .string ⟨#[50]⟩] 36)
          replace XP := XP.alloc (.cells #[.string ⟨#[49]⟩, .string ⟨#[50]⟩] 36)
          replace XZ := XZ.alloc (.cells #[.string ⟨#[49]⟩, .string ⟨#[50]⟩] 36)
          replace hs := hs.alloc (.cells #[.string ⟨#[49]⟩, .string ⟨#[50]⟩] 36)
          have XH := Bx.new w5 #[.string ⟨#[49]⟩, .string ⟨#[50]⟩] 36
          have p0 := XP.cell (i := 0) (v := .string pn) rfl
          have p1 := XP.cell (i := 1) (v := .string pd) rfl
          have hh0 := XH.cell (i := 0) (v := .string ⟨#[49]⟩) rfl
          have hh1 := XH.cell (i := 1) (v := .string ⟨#[50]⟩) rfl
          go_wp2_with fail
          refine KC2.step hs ?_
          intro w6 hs hb
          clear p0 p1 hh0 hh1
          replace XF := XF.on hb
          replace XZ := XZ.on hb
          have f0 := XF.cell (i := 0) (v := .string a) rfl
          have f1 := XF.cell (i := 1) (v := .string b) rfl
          have zz0 := XZ.cell (i := 0) (v := .string ⟨#[]⟩) rfl
          have zz1 := XZ.cell (i := 1) (v := .string ⟨#[]⟩) rfl
          go_wp2_with fail
          refine KC3.step hs ?_
          intro w7 hs hb
          clear f0 f1 zz0 zz1
          go_wp2_with fail
          go_ret
          exact ⟨rfl, hs.2⟩
        | true =>
          cases ng with
          | true =>
            obtain rfl : rr = lo := e
            go_enter Tryz.func145, Tryz.ntmps145
            go_wp2_with fail
            refine K1.step hs ?_
            intro w1 hs hb
            replace XF := XF.on hb
            have lw : w.heap.size ≤ w1.heap.size := hs.size
            go_wp2_with fail
            refine wp_region_fresh1 5 4 6 #[.string ⟨#[]⟩, .string ⟨#[]⟩] (by kernel_rfl) (by kernel_rfl) (by kernel_rfl) (by omega) rfl (by kernel_rfl) ⟨_, 6, _, rfl, rfl, rfl, fun _ _ => by simp [execOp, go_sem, ptrTo]; rfl⟩ ?_
            apply Exists.intro
            refine ⟨fun S W hne hk hcl => ?_, ?_⟩
            · simp only [List.take_succ_cons, List.take_zero, quietL, List.mem_cons, List.not_mem_nil, or_false, Nat.reduceAdd, Nat.reduceEqDiff, reduceIte, Nat.zero_add]
              have kk0 := XF.in hk (i := 0) (v := .string a) rfl
              have kk1 := XF.in hk (i := 1) (v := .string b) rfl
              repeat (go_big_quiet_step (first | (with_reducible exact KO.fresh hs hk hcl) | (with_reducible exact KS.fresh hs hk hcl)))
              exact wpQuiet_nil rfl
            intro b1 v1 hb1 hv1 hx1
            simp only [List.drop_succ_cons, List.drop_zero, ptrTo]
            have z0 := hx1.cell (i := 0) (v := .string ⟨#[]⟩) rfl
            have z1 := hx1.cell (i := 1) (v := .string ⟨#[]⟩) rfl
            have g0 := hx1.frozen 0
            have g1 := hx1.frozen 1
            go_wp2_with fail
            have lF := XF.lt
            replace hs := ((hs.on hv1).set (b := b1) (by omega) 0 (.string pn)).set (b := b1) (by omega) 1 (.string pd)
            replace XF := ((XF.on hv1).other (c := b1) (by omega) 0 (.string pn)).other (c := b1) (by omega) 1 (.string pd)
            have XP : Bx ((v1.setCell ⟨b1, 0, none⟩ (.string pn)).setCell ⟨b1, 1, none⟩ (.string pd)) b1 #[.string pn, .string pd] := (hx1.set 0 (.string pn)).set 1 (.string pd)
            clear z0 z1 g0 g1 hx1 hv1 hb1 lF
            generalize (v1.setCell ⟨b1, 0, none⟩ (.string pn)).setCell ⟨b1, 1, none⟩ (.string pd) = W8 at *
            refine KZ.step hs ?_
            intro w2 hs hb
            replace XF := XF.on hb
            replace XP := XP.on hb
            replace XF := XF.alloc (.cells #[.string ⟨#[]⟩, .string ⟨#[]⟩] 36)
            replace XP := XP.alloc (.cells #[.string ⟨#[]⟩, .string ⟨#[]⟩] 36)
            replace hs := hs.alloc (.cells #[.string ⟨#[]⟩, .string ⟨#[]⟩] 36)
            have XZ := Bx.new w2 #[.string ⟨#[]⟩, .string ⟨#[]⟩] 36
            have p0 := XP.cell (i := 0) (v := .string pn) rfl
            have p1 := XP.cell (i := 1) (v := .string pd) rfl
            have zz0 := XZ.cell (i := 0) (v := .string ⟨#[]⟩) rfl
            have zz1 := XZ.cell (i := 1) (v := .string ⟨#[]⟩) rfl
            go_wp2_with fail
            refine KC1.step hs ?_
            intro w3 hs hb
            clear p0 p1 zz0 zz1
            replace XF := XF.on hb
            replace XP := XP.on hb
            replace XZ := XZ.on hb
            go_wp2_with fail
            refine KA.step hs ?_
            intro w4 hs hb
            replace XF := XF.on hb
            replace XP := XP.on hb
            replace XZ := XZ.on hb
            go_wp2_with fail
            refine KN.step hs ?_
            intro w5 hs hb
            replace XF := XF.on hb
            replace XP := XP.on hb
            replace XZ := XZ.on hb
            replace XF := XF.alloc (.cells #[.string ⟨#[49]⟩, .string ⟨#[50]⟩] 36)
            replace XP := XP.alloc (.cells #[.string ⟨#[49]⟩, .string ⟨#[50]⟩] 36)
            replace XZ := XZ.alloc (.cells #[.string ⟨#[49]⟩, .string ⟨#[50]⟩] 36)
            replace hs := hs.alloc (.cells #[.string ⟨#[49]⟩, .string ⟨#[50]⟩] 36)
            have XH := Bx.new w5 #[.string ⟨#[49]⟩, .string ⟨#[50]⟩] 36
            have p0 := XP.cell (i := 0) (v := .string pn) rfl
            have p1 := XP.cell (i := 1) (v := .string pd) rfl
            have hh0 := XH.cell (i := 0) (v := .string ⟨#[49]⟩) rfl
            have hh1 := XH.cell (i := 1) (v := .string ⟨#[50]⟩) rfl
            go_wp2_with fail
            refine KC2.step hs ?_
            intro w6 hs hb
            clear p0 p1 hh0 hh1
            replace XF := XF.on hb
            replace XZ := XZ.on hb
            have f0 := XF.cell (i := 0) (v := .string a) rfl
            have f1 := XF.cell (i := 1) (v := .string b) rfl
            have zz0 := XZ.cell (i := 0) (v := .string ⟨#[]⟩) rfl
            have zz1 := XZ.cell (i := 1) (v := .string ⟨#[]⟩) rfl
            go_wp2_with fail
            refine KC3.step hs ?_
            intro w7 hs hb
            clear f0 f1 zz0 zz1
            go_wp2_with fail
            go_ret
            exact ⟨rfl, hs.2⟩
          | false =>
            obtain rfl : rr = up := e
            go_enter Tryz.func145, Tryz.ntmps145
            go_wp2_with fail
            refine K1.step hs ?_
            intro w1 hs hb
            replace XF := XF.on hb
            have lw : w.heap.size ≤ w1.heap.size := hs.size
            go_wp2_with fail
            refine wp_region_fresh1 5 4 6 #[.string ⟨#[]⟩, .string ⟨#[]⟩] (by kernel_rfl) (by kernel_rfl) (by kernel_rfl) (by omega) rfl (by kernel_rfl) ⟨_, 6, _, rfl, rfl, rfl, fun _ _ => by simp [execOp, go_sem, ptrTo]; rfl⟩ ?_
            apply Exists.intro
            refine ⟨fun S W hne hk hcl => ?_, ?_⟩
            · simp only [List.take_succ_cons, List.take_zero, quietL, List.mem_cons, List.not_mem_nil, or_false, Nat.reduceAdd, Nat.reduceEqDiff, reduceIte, Nat.zero_add]
              have kk0 := XF.in hk (i := 0) (v := .string a) rfl
              have kk1 := XF.in hk (i := 1) (v := .string b) rfl
              repeat (go_big_quiet_step (first | (with_reducible exact KO.fresh hs hk hcl) | (with_reducible exact KS.fresh hs hk hcl)))
              exact wpQuiet_nil rfl
            intro b1 v1 hb1 hv1 hx1
            simp only [List.drop_succ_cons, List.drop_zero, ptrTo]
            have z0 := hx1.cell (i := 0) (v := .string ⟨#[]⟩) rfl
            have z1 := hx1.cell (i := 1) (v := .string ⟨#[]⟩) rfl
            have g0 := hx1.frozen 0
            have g1 := hx1.frozen 1
            go_wp2_with fail
            have lF := XF.lt
            replace hs := ((hs.on hv1).set (b := b1) (by omega) 0 (.string pn)).set (b := b1) (by omega) 1 (.string pd)
            replace XF := ((XF.on hv1).other (c := b1) (by omega) 0 (.string pn)).other (c := b1) (by omega) 1 (.string pd)
            have XP : Bx ((v1.setCell ⟨b1, 0, none⟩ (.string pn)).setCell ⟨b1, 1, none⟩ (.string pd)) b1 #[.string pn, .string pd] := (hx1.set 0 (.string pn)).set 1 (.string pd)
            clear z0 z1 g0 g1 hx1 hv1 hb1 lF
            generalize (v1.setCell ⟨b1, 0, none⟩ (.string pn)).setCell ⟨b1, 1, none⟩ (.string pd) = W8 at *
            refine KZ.step hs ?_
            intro w2 hs hb
            replace XF := XF.on hb
            replace XP := XP.on hb
            replace XF := XF.alloc (.cells #[.string ⟨#[]⟩, .string ⟨#[]⟩] 36)
            replace XP := XP.alloc (.cells #[.string ⟨#[]⟩, .string ⟨#[]⟩] 36)
            replace hs := hs.alloc (.cells #[.string ⟨#[]⟩, .string ⟨#[]⟩] 36)
            have XZ := Bx.new w2 #[.string ⟨#[]⟩, .string ⟨#[]⟩] 36
            have p0 := XP.cell (i := 0) (v := .string pn) rfl
            have p1 := XP.cell (i := 1) (v := .string pd) rfl
            have zz0 := XZ.cell (i := 0) (v := .string ⟨#[]⟩) rfl
            have zz1 := XZ.cell (i := 1) (v := .string ⟨#[]⟩) rfl
            go_wp2_with fail
            refine KC1.step hs ?_
            intro w3 hs hb
            clear p0 p1 zz0 zz1
            replace XF := XF.on hb
            replace XP := XP.on hb
            replace XZ := XZ.on hb
            go_wp2_with fail
            refine KA.step hs ?_
            intro w4 hs hb
            replace XF := XF.on hb
            replace XP := XP.on hb
            replace XZ := XZ.on hb
            go_wp2_with fail
            refine KN.step hs ?_
            intro w5 hs hb
            replace XF := XF.on hb
            replace XP := XP.on hb
            replace XZ := XZ.on hb
            replace XF := XF.alloc (.cells #[.string ⟨#[49]⟩, .string ⟨#[50]⟩] 36)
            replace XP := XP.alloc (.cells #[.string ⟨#[49]⟩, .string ⟨#[50]⟩] 36)
            replace XZ := XZ.alloc (.cells #[.string ⟨#[49]⟩, .string ⟨#[50]⟩] 36)
            replace hs := hs.alloc (.cells #[.string ⟨#[49]⟩, .string ⟨#[50]⟩] 36)
            have XH := Bx.new w5 #[.string ⟨#[49]⟩, .string ⟨#[50]⟩] 36
            have p0 := XP.cell (i := 0) (v := .string pn) rfl
            have p1 := XP.cell (i := 1) (v := .string pd) rfl
            have hh0 := XH.cell (i := 0) (v := .string ⟨#[49]⟩) rfl
            have hh1 := XH.cell (i := 1) (v := .string ⟨#[50]⟩) rfl
            go_wp2_with fail
            refine KC2.step hs ?_
            intro w6 hs hb
            clear p0 p1 hh0 hh1
            replace XF := XF.on hb
            replace XZ := XZ.on hb
            have f0 := XF.cell (i := 0) (v := .string a) rfl
            have f1 := XF.cell (i := 1) (v := .string b) rfl
            have zz0 := XZ.cell (i := 0) (v := .string ⟨#[]⟩) rfl
            have zz1 := XZ.cell (i := 1) (v := .string ⟨#[]⟩) rfl
            go_wp2_with fail
            refine KC3.step hs ?_
            intro w7 hs hb
            clear f0 f1 zz0 zz1
            go_wp2_with fail
            go_ret
            exact ⟨rfl, hs.2⟩
    by_cases h3 : m = 3
    · subst h3
      have e := HM.out 3 _ rfl
      rw [show upB 3 c ng ev = ng from rfl] at e
      rw [HRR.out] at e
      clear HM HRR
      cases ng with
      | true =>
        obtain rfl : rr = up := e
        go_enter Tryz.func145, Tryz.ntmps145
        go_wp2_with fail
        refine K1.step hs ?_
        intro w1 hs hb
        replace XF := XF.on hb
        have lw : w.heap.size ≤ w1.heap.size := hs.size
        go_wp2_with fail
        refine wp_region_fresh1 5 4 6 #[.string ⟨#[]⟩, .string ⟨#[]⟩] (by kernel_rfl) (by kernel_rfl) (by kernel_rfl) (by omega) rfl (by kernel_rfl) ⟨_, 6, _, rfl, rfl, rfl, fun _ _ => by simp [execOp, go_sem, ptrTo]; rfl⟩ ?_
        apply Exists.intro
        refine ⟨fun S W hne hk hcl => ?_, ?_⟩
        · simp only [List.take_succ_cons, List.take_zero, quietL, List.mem_cons, List.not_mem_nil, or_false, Nat.reduceAdd, Nat.reduceEqDiff, reduceIte, Nat.zero_add]
          have kk0 := XF.in hk (i := 0) (v := .string a) rfl
          have kk1 := XF.in hk (i := 1) (v := .string b) rfl
          repeat (go_big_quiet_step (first | (with_reducible exact KO.fresh hs hk hcl) | (with_reducible exact KS.fresh hs hk hcl)))
          exact wpQuiet_nil rfl
        intro b1 v1 hb1 hv1 hx1
        simp only [List.drop_succ_cons, List.drop_zero, ptrTo]
        have z0 := hx1.cell (i := 0) (v := .string ⟨#[]⟩) rfl
        have z1 := hx1.cell (i := 1) (v := .string ⟨#[]⟩) rfl
        have g0 := hx1.frozen 0
        have g1 := hx1.frozen 1
        go_wp2_with fail
        have lF := XF.lt
        replace hs := ((hs.on hv1).set (b := b1) (by omega) 0 (.string pn)).set (b := b1) (by omega) 1 (.string pd)
        replace XF := ((XF.on hv1).other (c := b1) (by omega) 0 (.string pn)).other (c := b1) (by omega) 1 (.string pd)
        have XP : Bx ((v1.setCell ⟨b1, 0, none⟩ (.string pn)).setCell ⟨b1, 1, none⟩ (.string pd)) b1 #[.string pn, .string pd] := (hx1.set 0 (.string pn)).set 1 (.string pd)
        clear z0 z1 g0 g1 hx1 hv1 hb1 lF
        generalize (v1.setCell ⟨b1, 0, none⟩ (.string pn)).setCell ⟨b1, 1, none⟩ (.string pd) = W8 at *
        refine KZ.step hs ?_
        intro w2 hs hb
        replace XF := XF.on hb
        replace XP := XP.on hb
        replace XF := XF.alloc (.cells #[.string ⟨#[]⟩, .string ⟨#[]⟩] 36)
        replace XP := XP.alloc (.cells #[.string ⟨#[]⟩, .string ⟨#[]⟩] 36)
        replace hs := hs.alloc (.cells #[.string ⟨#[]⟩, .string ⟨#[]⟩] 36)
        have XZ := Bx.new w2 #[.string ⟨#[]⟩, .string ⟨#[]⟩] 36
        have p0 := XP.cell (i := 0) (v := .string pn) rfl
        have p1 := XP.cell (i := 1) (v := .string pd) rfl
        have zz0 := XZ.cell (i := 0) (v := .string ⟨#[]⟩) rfl
        have zz1 := XZ.cell (i := 1) (v := .string ⟨#[]⟩) rfl
        go_wp2_with fail
        refine KC1.step hs ?_
        intro w3 hs hb
        clear p0 p1 zz0 zz1
        replace XF := XF.on hb
        replace XP := XP.on hb
        replace XZ := XZ.on hb
        go_wp2_with fail
        refine KA.step hs ?_
        intro w4 hs hb
        replace XF := XF.on hb
        replace XP := XP.on hb
        replace XZ := XZ.on hb
        go_wp2_with fail
        refine KN.step hs ?_
        intro w5 hs hb
        replace XF := XF.on hb
        replace XP := XP.on hb
        replace XZ := XZ.on hb
        replace XF := XF.alloc (.cells #[.string ⟨#[49]⟩, .string ⟨#[50]⟩] 36)
        replace XP := XP.alloc (.cells #[.string ⟨#[49]⟩, .string ⟨#[50]⟩] 36)
        replace XZ := XZ.alloc (.cells #[.string ⟨#[49]⟩, .string ⟨#[50]⟩] 36)
        replace hs := hs.alloc (.cells #[.string ⟨#[49]⟩, .string ⟨#[50]⟩] 36)
        have XH := Bx.new w5 #[.string ⟨#[49]⟩, .string ⟨#[50]⟩] 36
        have p0 := XP.cell (i := 0) (v := .string pn) rfl
        have p1 := XP.cell (i := 1) (v := .string pd) rfl
        have hh0 := XH.cell (i := 0) (v := .string ⟨#[49]⟩) rfl
        have hh1 := XH.cell (i := 1) (v := .string ⟨#[50]⟩) rfl
        go_wp2_with fail
        refine KC2.step hs ?_
        intro w6 hs hb
        clear p0 p1 hh0 hh1
        replace XF := XF.on hb
        replace XZ := XZ.on hb
        have f0 := XF.cell (i := 0) (v := .string a) rfl
        have f1 := XF.cell (i := 1) (v := .string b) rfl
        have zz0 := XZ.cell (i := 0) (v := .string ⟨#[]⟩) rfl
        have zz1 := XZ.cell (i := 1) (v := .string ⟨#[]⟩) rfl
        go_wp2_with fail
        refine KC3.step hs ?_
        intro w7 hs hb
        clear f0 f1 zz0 zz1
        go_wp2_with fail
        go_ret
        exact ⟨rfl, hs.2⟩
      | false =>
        obtain rfl : rr = lo := e
        go_enter Tryz.func145, Tryz.ntmps145
        go_wp2_with fail
        refine K1.step hs ?_
        intro w1 hs hb
        replace XF := XF.on hb
        have lw : w.heap.size ≤ w1.heap.size := hs.size
        go_wp2_with fail
        refine wp_region_fresh1 5 4 6 #[.string ⟨#[]⟩, .string ⟨#[]⟩] (by kernel_rfl) (by kernel_rfl) (by kernel_rfl) (by omega) rfl (by kernel_rfl) ⟨_, 6, _, rfl, rfl, rfl, fun _ _ => by simp [execOp, go_sem, ptrTo]; rfl⟩ ?_
        apply Exists.intro
        refine ⟨fun S W hne hk hcl => ?_, ?_⟩
        · simp only [List.take_succ_cons, List.take_zero, quietL, List.mem_cons, List.not_mem_nil, or_false, Nat.reduceAdd, Nat.reduceEqDiff, reduceIte, Nat.zero_add]
          have kk0 := XF.in hk (i := 0) (v := .string a) rfl
          have kk1 := XF.in hk (i := 1) (v := .string b) rfl
          repeat (go_big_quiet_step (first | (with_reducible exact KO.fresh hs hk hcl) | (with_reducible exact KS.fresh hs hk hcl)))
          exact wpQuiet_nil rfl
        intro b1 v1 hb1 hv1 hx1
        simp only [List.drop_succ_cons, List.drop_zero, ptrTo]
        have z0 := hx1.cell (i := 0) (v := .string ⟨#[]⟩) rfl
        have z1 := hx1.cell (i := 1) (v := .string ⟨#[]⟩) rfl
        have g0 := hx1.frozen 0
        have g1 := hx1.frozen 1
        go_wp2_with fail
        have lF := XF.lt
        replace hs := ((hs.on hv1).set (b := b1) (by omega) 0 (.string pn)).set (b := b1) (by omega) 1 (.string pd)
        replace XF := ((XF.on hv1).other (c := b1) (by omega) 0 (.string pn)).other (c := b1) (by omega) 1 (.string pd)
        have XP : Bx ((v1.setCell ⟨b1, 0, none⟩ (.string pn)).setCell ⟨b1, 1, none⟩ (.string pd)) b1 #[.string pn, .string pd] := (hx1.set 0 (.string pn)).set 1 (.string pd)
        clear z0 z1 g0 g1 hx1 hv1 hb1 lF
        generalize (v1.setCell ⟨b1, 0, none⟩ (.string pn)).setCell ⟨b1, 1, none⟩ (.string pd) = W8 at *
        refine KZ.step hs ?_
        intro w2 hs hb
        replace XF := XF.on hb
        replace XP := XP.on hb
        replace XF := XF.alloc (.cells #[.string ⟨#[]⟩, .string ⟨#[]⟩] 36)
        replace XP := XP.alloc (.cells #[.string ⟨#[]⟩, .string ⟨#[]⟩] 36)
        replace hs := hs.alloc (.cells #[.string ⟨#[]⟩, .string ⟨#[]⟩] 36)
        have XZ := Bx.new w2 #[.string ⟨#[]⟩, .string ⟨#[]⟩] 36
        have p0 := XP.cell (i := 0) (v := .string pn) rfl
        have p1 := XP.cell (i := 1) (v := .string pd) rfl
        have zz0 := XZ.cell (i := 0) (v := .string ⟨#[]⟩) rfl
        have zz1 := XZ.cell (i := 1) (v := .string ⟨#[]⟩) rfl
        go_wp2_with fail
        refine KC1.step hs ?_
        intro w3 hs hb
        clear p0 p1 zz0 zz1
        replace XF := XF.on hb
        replace XP := XP.on hb
        replace XZ := XZ.on hb
        go_wp2_with fail
        refine KA.step hs ?_
        intro w4 hs hb
        replace XF := XF.on hb
        replace XP := XP.on hb
        replace XZ := XZ.on hb
        go_wp2_with fail
        refine KN.step hs ?_
        intro w5 hs hb
        replace XF := XF.on hb
        replace XP := XP.on hb
        replace XZ := XZ.on hb
        replace XF := XF.alloc (.cells #[.string ⟨#[49]⟩, .string ⟨#[50]⟩] 36)
        replace XP := XP.alloc (.cells #[.string ⟨#[49]⟩, .string ⟨#[50]⟩] 36)
        replace XZ := XZ.alloc (.cells #[.string ⟨#[49]⟩, .string ⟨#[50]⟩] 36)
        replace hs := hs.alloc (.cells #[.string ⟨#[49]⟩, .string ⟨#[50]⟩] 36)
        have XH := Bx.new w5 #[.string ⟨#[49]⟩, .string ⟨#[50]⟩] 36
        have p0 := XP.cell (i := 0) (v := .string pn) rfl
        have p1 := XP.cell (i := 1) (v := .string pd) rfl
        have hh0 := XH.cell (i := 0) (v := .string ⟨#[49]⟩) rfl
        have hh1 := XH.cell (i := 1) (v := .string ⟨#[50]⟩) rfl
        go_wp2_with fail
        refine KC2.step hs ?_
        intro w6 hs hb
        clear p0 p1 hh0 hh1
        replace XF := XF.on hb
        replace XZ := XZ.on hb
        have f0 := XF.cell (i := 0) (v := .string a) rfl
        have f1 := XF.cell (i := 1) (v := .string b) rfl
        have zz0 := XZ.cell (i := 0) (v := .string ⟨#[]⟩) rfl
        have zz1 := XZ.cell (i := 1) (v := .string ⟨#[]⟩) rfl
        go_wp2_with fail
        refine KC3.step hs ?_
        intro w7 hs hb
        clear f0 f1 zz0 zz1
        go_wp2_with fail
        go_ret
        exact ⟨rfl, hs.2⟩
    by_cases h4 : m = 4
    · subst h4
      have e := HM.out 4 _ rfl
      rw [show upB 4 c ng ev = !ng from rfl] at e
      rw [HRR.out] at e
      clear HM HRR
      cases ng with
      | true =>
        obtain rfl : rr = lo := e
        go_enter Tryz.func145, Tryz.ntmps145
        go_wp2_with fail
        refine K1.step hs ?_
        intro w1 hs hb
        replace XF := XF.on hb
        have lw : w.heap.size ≤ w1.heap.size := hs.size
        go_wp2_with fail
        refine wp_region_fresh1 5 4 6 #[.string ⟨#[]⟩, .string ⟨#[]⟩] (by kernel_rfl) (by kernel_rfl) (by kernel_rfl) (by omega) rfl (by kernel_rfl) ⟨_, 6, _, rfl, rfl, rfl, fun _ _ => by simp [execOp, go_sem, ptrTo]; rfl⟩ ?_
        apply Exists.intro
        refine ⟨fun S W hne hk hcl => ?_, ?_⟩
        · simp only [List.take_succ_cons, List.take_zero, quietL, List.mem_cons, List.not_mem_nil, or_false, Nat.reduceAdd, Nat.reduceEqDiff, reduceIte, Nat.zero_add]
          have kk0 := XF.in hk (i := 0) (v := .string a) rfl
          have kk1 := XF.in hk (i := 1) (v := .string b) rfl
          repeat (go_big_quiet_step (first | (with_reducible exact KO.fresh hs hk hcl) | (with_reducible exact KS.fresh hs hk hcl)))
          exact wpQuiet_nil rfl
        intro b1 v1 hb1 hv1 hx1
        simp only [List.drop_succ_cons, List.drop_zero, ptrTo]
        have z0 := hx1.cell (i := 0) (v := .string ⟨#[]⟩) rfl
        have z1 := hx1.cell (i := 1) (v := .string ⟨#[]⟩) rfl
        have g0 := hx1.frozen 0
        have g1 := hx1.frozen 1
        go_wp2_with fail
        have lF := XF.lt
        replace hs := ((hs.on hv1).set (b := b1) (by omega) 0 (.string pn)).set (b := b1) (by omega) 1 (.string pd)
        replace XF := ((XF.on hv1).other (c := b1) (by omega) 0 (.string pn)).other (c := b1) (by omega) 1 (.string pd)
        have XP : Bx ((v1.setCell ⟨b1, 0, none⟩ (.string pn)).setCell ⟨b1, 1, none⟩ (.string pd)) b1 #[.string pn, .string pd] := (hx1.set 0 (.string pn)).set 1 (.string pd)
        clear z0 z1 g0 g1 hx1 hv1 hb1 lF
        generalize (v1.setCell ⟨b1, 0, none⟩ (.string pn)).setCell ⟨b1, 1, none⟩ (.string pd) = W8 at *
        refine KZ.step hs ?_
        intro w2 hs hb
        replace XF := XF.on hb
        replace XP := XP.on hb
        replace XF := XF.alloc (.cells #[.string ⟨#[]⟩, .string ⟨#[]⟩] 36)
        replace XP := XP.alloc (.cells #[.string ⟨#[]⟩, .string ⟨#[]⟩] 36)
        replace hs := hs.alloc (.cells #[.string ⟨#[]⟩, .string ⟨#[]⟩] 36)
        have XZ := Bx.new w2 #[.string ⟨#[]⟩, .string ⟨#[]⟩] 36
        have p0 := XP.cell (i := 0) (v := .string pn) rfl
        have p1 := XP.cell (i := 1) (v := .string pd) rfl
        have zz0 := XZ.cell (i := 0) (v := .string ⟨#[]⟩) rfl
        have zz1 := XZ.cell (i := 1) (v := .string ⟨#[]⟩) rfl
        go_wp2_with fail
        refine KC1.step hs ?_
        intro w3 hs hb
        clear p0 p1 zz0 zz1
        replace XF := XF.on hb
        replace XP := XP.on hb
        replace XZ := XZ.on hb
        go_wp2_with fail
        refine KA.step hs ?_
        intro w4 hs hb
        replace XF := XF.on hb
        replace XP := XP.on hb
        replace XZ := XZ.on hb
        go_wp2_with fail
        refine KN.step hs ?_
        intro w5 hs hb
        replace XF := XF.on hb
        replace XP := XP.on hb
        replace XZ := XZ.on hb
        replace XF := XF.alloc (.cells #[.string ⟨#[49]⟩, .string ⟨#[50]⟩] 36)
        replace XP := XP.alloc (.cells #[.string ⟨#[49]⟩, .string ⟨#[50]⟩] 36)
        replace XZ := XZ.alloc (.cells #[.string ⟨#[49]⟩, .string ⟨#[50]⟩] 36)
        replace hs := hs.alloc (.cells #[.string ⟨#[49]⟩, .string ⟨#[50]⟩] 36)
        have XH := Bx.new w5 #[.string ⟨#[49]⟩, .string ⟨#[50]⟩] 36
        have p0 := XP.cell (i := 0) (v := .string pn) rfl
        have p1 := XP.cell (i := 1) (v := .string pd) rfl
        have hh0 := XH.cell (i := 0) (v := .string ⟨#[49]⟩) rfl
        have hh1 := XH.cell (i := 1) (v := .string ⟨#[50]⟩) rfl
        go_wp2_with fail
        refine KC2.step hs ?_
        intro w6 hs hb
        clear p0 p1 hh0 hh1
        replace XF := XF.on hb
        replace XZ := XZ.on hb
        have f0 := XF.cell (i := 0) (v := .string a) rfl
        have f1 := XF.cell (i := 1) (v := .string b) rfl
        have zz0 := XZ.cell (i := 0) (v := .string ⟨#[]⟩) rfl
        have zz1 := XZ.cell (i := 1) (v := .string ⟨#[]⟩) rfl
        go_wp2_with fail
        refine KC3.step hs ?_
        intro w7 hs hb
        clear f0 f1 zz0 zz1
        go_wp2_with fail
        go_ret
        exact ⟨rfl, hs.2⟩
      | false =>
        obtain rfl : rr = up := e
        go_enter Tryz.func145, Tryz.ntmps145
        go_wp2_with fail
        refine K1.step hs ?_
        intro w1 hs hb
        replace XF := XF.on hb
        have lw : w.heap.size ≤ w1.heap.size := hs.size
        go_wp2_with fail
        refine wp_region_fresh1 5 4 6 #[.string ⟨#[]⟩, .string ⟨#[]⟩] (by kernel_rfl) (by kernel_rfl) (by kernel_rfl) (by omega) rfl (by kernel_rfl) ⟨_, 6, _, rfl, rfl, rfl, fun _ _ => by simp [execOp, go_sem, ptrTo]; rfl⟩ ?_
        apply Exists.intro
        refine ⟨fun S W hne hk hcl => ?_, ?_⟩
        · simp only [List.take_succ_cons, List.take_zero, quietL, List.mem_cons, List.not_mem_nil, or_false, Nat.reduceAdd, Nat.reduceEqDiff, reduceIte, Nat.zero_add]
          have kk0 := XF.in hk (i := 0) (v := .string a) rfl
          have kk1 := XF.in hk (i := 1) (v := .string b) rfl
          repeat (go_big_quiet_step (first | (with_reducible exact KO.fresh hs hk hcl) | (with_reducible exact KS.fresh hs hk hcl)))
          exact wpQuiet_nil rfl
        intro b1 v1 hb1 hv1 hx1
        simp only [List.drop_succ_cons, List.drop_zero, ptrTo]
        have z0 := hx1.cell (i := 0) (v := .string ⟨#[]⟩) rfl
        have z1 := hx1.cell (i := 1) (v := .string ⟨#[]⟩) rfl
        have g0 := hx1.frozen 0
        have g1 := hx1.frozen 1
        go_wp2_with fail
        have lF := XF.lt
        replace hs := ((hs.on hv1).set (b := b1) (by omega) 0 (.string pn)).set (b := b1) (by omega) 1 (.string pd)
        replace XF := ((XF.on hv1).other (c := b1) (by omega) 0 (.string pn)).other (c := b1) (by omega) 1 (.string pd)
        have XP : Bx ((v1.setCell ⟨b1, 0, none⟩ (.string pn)).setCell ⟨b1, 1, none⟩ (.string pd)) b1 #[.string pn, .string pd] := (hx1.set 0 (.string pn)).set 1 (.string pd)
        clear z0 z1 g0 g1 hx1 hv1 hb1 lF
        generalize (v1.setCell ⟨b1, 0, none⟩ (.string pn)).setCell ⟨b1, 1, none⟩ (.string pd) = W8 at *
        refine KZ.step hs ?_
        intro w2 hs hb
        replace XF := XF.on hb
        replace XP := XP.on hb
        replace XF := XF.alloc (.cells #[.string ⟨#[]⟩, .string ⟨#[]⟩] 36)
        replace XP := XP.alloc (.cells #[.string ⟨#[]⟩, .string ⟨#[]⟩] 36)
        replace hs := hs.alloc (.cells #[.string ⟨#[]⟩, .string ⟨#[]⟩] 36)
        have XZ := Bx.new w2 #[.string ⟨#[]⟩, .string ⟨#[]⟩] 36
        have p0 := XP.cell (i := 0) (v := .string pn) rfl
        have p1 := XP.cell (i := 1) (v := .string pd) rfl
        have zz0 := XZ.cell (i := 0) (v := .string ⟨#[]⟩) rfl
        have zz1 := XZ.cell (i := 1) (v := .string ⟨#[]⟩) rfl
        go_wp2_with fail
        refine KC1.step hs ?_
        intro w3 hs hb
        clear p0 p1 zz0 zz1
        replace XF := XF.on hb
        replace XP := XP.on hb
        replace XZ := XZ.on hb
        go_wp2_with fail
        refine KA.step hs ?_
        intro w4 hs hb
        replace XF := XF.on hb
        replace XP := XP.on hb
        replace XZ := XZ.on hb
        go_wp2_with fail
        refine KN.step hs ?_
        intro w5 hs hb
        replace XF := XF.on hb
        replace XP := XP.on hb
        replace XZ := XZ.on hb
        replace XF := XF.alloc (.cells #[.string ⟨#[49]⟩, .string ⟨#[50]⟩] 36)
        replace XP := XP.alloc (.cells #[.string ⟨#[49]⟩, .string ⟨#[50]⟩] 36)
        replace XZ := XZ.alloc (.cells #[.string ⟨#[49]⟩, .string ⟨#[50]⟩] 36)
        replace hs := hs.alloc (.cells #[.string ⟨#[49]⟩, .string ⟨#[50]⟩] 36)
        have XH := Bx.new w5 #[.string ⟨#[49]⟩, .string ⟨#[50]⟩] 36
        have p0 := XP.cell (i := 0) (v := .string pn) rfl
        have p1 := XP.cell (i := 1) (v := .string pd) rfl
        have hh0 := XH.cell (i := 0) (v := .string ⟨#[49]⟩) rfl
        have hh1 := XH.cell (i := 1) (v := .string ⟨#[50]⟩) rfl
        go_wp2_with fail
        refine KC2.step hs ?_
        intro w6 hs hb
        clear p0 p1 hh0 hh1
        replace XF := XF.on hb
        replace XZ := XZ.on hb
        have f0 := XF.cell (i := 0) (v := .string a) rfl
        have f1 := XF.cell (i := 1) (v := .string b) rfl
        have zz0 := XZ.cell (i := 0) (v := .string ⟨#[]⟩) rfl
        have zz1 := XZ.cell (i := 1) (v := .string ⟨#[]⟩) rfl
        go_wp2_with fail
        refine KC3.step hs ?_
        intro w7 hs hb
        clear f0 f1 zz0 zz1
        go_wp2_with fail
        go_ret
        exact ⟨rfl, hs.2⟩
    by_cases h5 : m = 5
    · subst h5
      have e := HM.out 5 _ rfl
      rw [show upB 5 c ng ev = false from rfl] at e
      rw [HRR.out] at e
      clear HM HRR
      obtain rfl : rr = lo := e
      go_enter Tryz.func145, Tryz.ntmps145
      go_wp2_with fail
      refine K1.step hs ?_
      intro w1 hs hb
      replace XF := XF.on hb
      have lw : w.heap.size ≤ w1.heap.size := hs.size
      go_wp2_with fail
      refine wp_region_fresh1 5 4 6 #[.string ⟨#[]⟩, .string ⟨#[]⟩] (by kernel_rfl) (by kernel_rfl) (by kernel_rfl) (by omega) rfl (by kernel_rfl) ⟨_, 6, _, rfl, rfl, rfl, fun _ _ => by simp [execOp, go_sem, ptrTo]; rfl⟩ ?_
      apply Exists.intro
      refine ⟨fun S W hne hk hcl => ?_, ?_⟩
      · simp only [List.take_succ_cons, List.take_zero, quietL, List.mem_cons, List.not_mem_nil, or_false, Nat.reduceAdd, Nat.reduceEqDiff, reduceIte, Nat.zero_add]
        have kk0 := XF.in hk (i := 0) (v := .string a) rfl
        have kk1 := XF.in hk (i := 1) (v := .string b) rfl
        repeat (go_big_quiet_step (first | (with_reducible exact KO.fresh hs hk hcl) | (with_reducible exact KS.fresh hs hk hcl)))
        exact wpQuiet_nil rfl
      intro b1 v1 hb1 hv1 hx1
      simp only [List.drop_succ_cons, List.drop_zero, ptrTo]
      have z0 := hx1.cell (i := 0) (v := .string ⟨#[]⟩) rfl
      have z1 := hx1.cell (i := 1) (v := .string ⟨#[]⟩) rfl
      have g0 := hx1.frozen 0
      have g1 := hx1.frozen 1
      go_wp2_with fail
      have lF := XF.lt
      replace hs := ((hs.on hv1).set (b := b1) (by omega) 0 (.string pn)).set (b := b1) (by omega) 1 (.string pd)
      replace XF := ((XF.on hv1).other (c := b1) (by omega) 0 (.string pn)).other (c := b1) (by omega) 1 (.string pd)
      have XP : Bx ((v1.setCell ⟨b1, 0, none⟩ (.string pn)).setCell ⟨b1, 1, none⟩ (.string pd)) b1 #[.string pn, .string pd] := (hx1.set 0 (.string pn)).set 1 (.string pd)
      clear z0 z1 g0 g1 hx1 hv1 hb1 lF
      generalize (v1.setCell ⟨b1, 0, none⟩ (.string pn)).setCell ⟨b1, 1, none⟩ (.string pd) = W8 at *
      refine KZ.step hs ?_
      intro w2 hs hb
      replace XF := XF.on hb
      replace XP := XP.on hb
      replace XF := XF.alloc (.cells #[.string ⟨#[]⟩, .string ⟨#[]⟩] 36)
      replace XP := XP.alloc (.cells #[.string ⟨#[]⟩, .string ⟨#[]⟩] 36)
      replace hs := hs.alloc (.cells #[.string ⟨#[]⟩, .string ⟨#[]⟩] 36)
      have XZ := Bx.new w2 #[.string ⟨#[]⟩, .string ⟨#[]⟩] 36
      have p0 := XP.cell (i := 0) (v := .string pn) rfl
      have p1 := XP.cell (i := 1) (v := .string pd) rfl
      have zz0 := XZ.cell (i := 0) (v := .string ⟨#[]⟩) rfl
      have zz1 := XZ.cell (i := 1) (v := .string ⟨#[]⟩) rfl
      go_wp2_with fail
      refine KC1.step hs ?_
      intro w3 hs hb
      clear p0 p1 zz0 zz1
      replace XF := XF.on hb
      replace XP := XP.on hb
      replace XZ := XZ.on hb
      go_wp2_with fail
      refine KA.step hs ?_
      intro w4 hs hb
      replace XF := XF.on hb
      replace XP := XP.on hb
      replace XZ := XZ.on hb
      go_wp2_with fail
      refine KN.step hs ?_
      intro w5 hs hb
      replace XF := XF.on hb
      replace XP := XP.on hb
      replace XZ := XZ.on hb
      replace XF := XF.alloc (.cells #[.string ⟨#[49]⟩, .string ⟨#[50]⟩] 36)
      replace XP := XP.alloc (.cells #[.string ⟨#[49]⟩, .string ⟨#[50]⟩] 36)
      replace XZ := XZ.alloc (.cells #[.string ⟨#[49]⟩, .string ⟨#[50]⟩] 36)
      replace hs := hs.alloc (.cells #[.string ⟨#[49]⟩, .string ⟨#[50]⟩] 36)
      have XH := Bx.new w5 #[.string ⟨#[49]⟩, .string ⟨#[50]⟩] 36
      have p0 := XP.cell (i := 0) (v := .string pn) rfl
      have p1 := XP.cell (i := 1) (v := .string pd) rfl
      have hh0 := XH.cell (i := 0) (v := .string ⟨#[49]⟩) rfl
      have hh1 := XH.cell (i := 1) (v := .string ⟨#[50]⟩) rfl
      go_wp2_with fail
      refine KC2.step hs ?_
      intro w6 hs hb
      clear p0 p1 hh0 hh1
      replace XF := XF.on hb
      replace XZ := XZ.on hb
      have f0 := XF.cell (i := 0) (v := .string a) rfl
      have f1 := XF.cell (i := 1) (v := .string b) rfl
      have zz0 := XZ.cell (i := 0) (v := .string ⟨#[]⟩) rfl
      have zz1 := XZ.cell (i := 1) (v := .string ⟨#[]⟩) rfl
      go_wp2_with fail
      refine KC3.step hs ?_
      intro w7 hs hb
      clear f0 f1 zz0 zz1
      go_wp2_with fail
      go_ret
      exact ⟨rfl, hs.2⟩
    by_cases h6 : m = 6
    · subst h6
      have e := HM.out 6 _ rfl
      rw [show upB 6 c ng ev = true from rfl] at e
      rw [HRR.out] at e
      clear HM HRR
      obtain rfl : rr = up := e
      go_enter Tryz.func145, Tryz.ntmps145
      go_wp2_with fail
      refine K1.step hs ?_
      intro w1 hs hb
      replace XF := XF.on hb
      have lw : w.heap.size ≤ w1.heap.size := hs.size
      go_wp2_with fail
      refine wp_region_fresh1 5 4 6 #[.string ⟨#[]⟩, .string ⟨#[]⟩] (by kernel_rfl) (by kernel_rfl) (by kernel_rfl) (by omega) rfl (by kernel_rfl) ⟨_, 6, _, rfl, rfl, rfl, fun _ _ => by simp [execOp, go_sem, ptrTo]; rfl⟩ ?_
      apply Exists.intro
      refine ⟨fun S W hne hk hcl => ?_, ?_⟩
      · simp only [List.take_succ_cons, List.take_zero, quietL, List.mem_cons, List.not_mem_nil, or_false, Nat.reduceAdd, Nat.reduceEqDiff, reduceIte, Nat.zero_add]
        have kk0 := XF.in hk (i := 0) (v := .string a) rfl
        have kk1 := XF.in hk (i := 1) (v := .string b) rfl
        repeat (go_big_quiet_step (first | (with_reducible exact KO.fresh hs hk hcl) | (with_reducible exact KS.fresh hs hk hcl)))
        exact wpQuiet_nil rfl
      intro b1 v1 hb1 hv1 hx1
      simp only [List.drop_succ_cons, List.drop_zero, ptrTo]
      have z0 := hx1.cell (i := 0) (v := .string ⟨#[]⟩) rfl
      have z1 := hx1.cell (i := 1) (v := .string ⟨#[]⟩) rfl
      have g0 := hx1.frozen 0
      have g1 := hx1.frozen 1
      go_wp2_with fail
      have lF := XF.lt
      replace hs := ((hs.on hv1).set (b := b1) (by omega) 0 (.string pn)).set (b := b1) (by omega) 1 (.string pd)
      replace XF := ((XF.on hv1).other (c := b1) (by omega) 0 (.string pn)).other (c := b1) (by omega) 1 (.string pd)
      have XP : Bx ((v1.setCell ⟨b1, 0, none⟩ (.string pn)).setCell ⟨b1, 1, none⟩ (.string pd)) b1 #[.string pn, .string pd] := (hx1.set 0 (.string pn)).set 1 (.string pd)
      clear z0 z1 g0 g1 hx1 hv1 hb1 lF
      generalize (v1.setCell ⟨b1, 0, none⟩ (.string pn)).setCell ⟨b1, 1, none⟩ (.string pd) = W8 at *
      refine KZ.step hs ?_
      intro w2 hs hb
      replace XF := XF.on hb
      replace XP := XP.on hb
      replace XF := XF.alloc (.cells #[.string ⟨#[]⟩, .string ⟨#[]⟩] 36)
      replace XP := XP.alloc (.cells #[.string ⟨#[]⟩, .string ⟨#[]⟩] 36)
      replace hs := hs.alloc (.cells #[.string ⟨#[]⟩, .string ⟨#[]⟩] 36)
      have XZ := Bx.new w2 #[.string ⟨#[]⟩, .string ⟨#[]⟩] 36
      have p0 := XP.cell (i := 0) (v := .string pn) rfl
      have p1 := XP.cell (i := 1) (v := .string pd) rfl
      have zz0 := XZ.cell (i := 0) (v := .string ⟨#[]⟩) rfl
      have zz1 := XZ.cell (i := 1) (v := .string ⟨#[]⟩) rfl
      go_wp2_with fail
      refine KC1.step hs ?_
      intro w3 hs hb
      clear p0 p1 zz0 zz1
      replace XF := XF.on hb
      replace XP := XP.on hb
      replace XZ := XZ.on hb
      go_wp2_with fail
      refine KA.step hs ?_
      intro w4 hs hb
      replace XF := XF.on hb
      replace XP := XP.on hb
      replace XZ := XZ.on hb
      go_wp2_with fail
      refine KN.step hs ?_
      intro w5 hs hb
      replace XF := XF.on hb
      replace XP := XP.on hb
      replace XZ := XZ.on hb
      replace XF := XF.alloc (.cells #[.string ⟨#[49]⟩, .string ⟨#[50]⟩] 36)
      replace XP := XP.alloc (.cells #[.string ⟨#[49]⟩, .string ⟨#[50]⟩] 36)
      replace XZ := XZ.alloc (.cells #[.string ⟨#[49]⟩, .string ⟨#[50]⟩] 36)
      replace hs := hs.alloc (.cells #[.string ⟨#[49]⟩, .string ⟨#[50]⟩] 36)
      have XH := Bx.new w5 #[.string ⟨#[49]⟩, .string ⟨#[50]⟩] 36
      have p0 := XP.cell (i := 0) (v := .string pn) rfl
      have p1 := XP.cell (i := 1) (v := .string pd) rfl
      have hh0 := XH.cell (i := 0) (v := .string ⟨#[49]⟩) rfl
      have hh1 := XH.cell (i := 1) (v := .string ⟨#[50]⟩) rfl
      go_wp2_with fail
      refine KC2.step hs ?_
      intro w6 hs hb
      clear p0 p1 hh0 hh1
      replace XF := XF.on hb
      replace XZ := XZ.on hb
      have f0 := XF.cell (i := 0) (v := .string a) rfl
      have f1 := XF.cell (i := 1) (v := .string b) rfl
      have zz0 := XZ.cell (i := 0) (v := .string ⟨#[]⟩) rfl
      have zz1 := XZ.cell (i := 1) (v := .string ⟨#[]⟩) rfl
      go_wp2_with fail
      refine KC3.step hs ?_
      intro w7 hs hb
      clear f0 f1 zz0 zz1
      go_wp2_with fail
      go_ret
      exact ⟨rfl, hs.2⟩
    omega
set_option maxRecDepth 100000 in
set_option maxHeartbeats 4000000 in
theorem rRound_any {a b : ByteArray} (m : Int) (h1 : a.size ≤ 1000) (h2 : b.size ≤ 1000) : Ret 84 #[FV a b, .int .i64 m] (.tuple #[.string (rndS m (ratV a b)), .int .i64 (rndE m)]) := by
  intro w hg
  have hs := (St.refl hg).alloc (.cells #[.string a, .string b] 36)
  have XF := Bx.new w #[.string a, .string b] 36
  have K1 := rmode_any m
  by_cases hm : 1 ≤ m ∧ m ≤ 6
  · have K2 := rRoundTo_any m h1 h2 hm.1 hm.2
    obtain ⟨e1, e2⟩ := rnd_mode hm.1 hm.2 (ratV a b)
    rw [e1] at K1
    rw [e1, e2]
    clear e1 e2 hm
    unfold FV at *
    generalize canS (rndQ m (ratV a b)) = r at *
    go_enter Tryz.func84, Tryz.ntmps84
    go_wp2_with fail
    refine K1.step hs ?_
    intro w1 hs hb
    replace XF := XF.on hb
    have f0 := XF.cell (i := 0) (v := .string a) rfl
    have f1 := XF.cell (i := 1) (v := .string b) rfl
    go_wp2_with fail
    refine K2.step hs ?_
    intro w2 hs hb
    go_wp2_with fail
    go_ret2
    exact ⟨rfl, hs.2⟩
  · have e1 : rndE m = 7 := if_pos (by omega)
    have e2 : rndS m (ratV a b) = ⟨#[]⟩ := if_neg (by rw [e1]; decide)
    rw [e1] at K1
    rw [e1, e2]
    clear e1 e2 hm
    unfold FV at *
    go_enter Tryz.func84, Tryz.ntmps84
    go_wp2_with fail
    refine K1.step hs ?_
    intro w1 hs hb
    go_wp2_with fail
    go_ret2
    exact ⟨rfl, hs.2⟩
end Go.Proofs.YtpipkeplhkccoaaGreatDoor
namespace Go.Proofs.YtpipkeplhkccoaaGreatDoor
open Go.RowKit Go.Shelf Dec QQ SP

set_option maxRecDepth 100000 in
set_option maxHeartbeats 4000000 in
theorem rshr_any {t p a : ByteArray} {k0 : Nat} (hk0 : k0 ≤ 400) (zt : t.size ≤ k0) (zp : p.size ≤ k0) (za : a.size ≤ k0) : Ret 31 #[.string t, .string p, .string a] (.tuple #[.string (shS t p a), .string (shR t p a), .int .i64 (shE t p a)]) := by
  intro w hg
  have hs := St.refl hg
  have K1 := rchkR (a := t) (by omega)
  have K2 := rchkR (a := p) (by omega)
  have K3 := rchkR (a := a) (by omega)
  have HSE : Hid (∀ e : Int, shE t p a = e → e ≠ 0 → shS t p a = ⟨#[]⟩ ∧ shR t p a = ⟨#[]⟩) := fun e h h0 => ⟨if_neg (by rw [h]; exact h0), if_neg (by rw [h]; exact h0)⟩
  have HE : Hid (shE t p a = if chk t ≠ 0 ∨ chk p ≠ 0 ∨ chk a ≠ 0 then 1 else if valS a = 0 then 10 else if valS a < 0 ∨ valS p < 0 ∨ valS a < valS p then 2 else 0) := rfl
  have nil_argR : ∀ s : ByteArray, chk s = 0 → (s.toList == []) = decide (valS s = 0) := fun s h => by
    have := nil_eq (valS s)
    rwa [chk_eq h] at this
  have gtR : ∀ x y : Int, decide (0 < cmpI x y) = decide (y < x) := fun x y => by
    unfold cmpI
    rw [decide_eq_decide]
    split
    · omega
    · split <;> omega
  have HNA := Lib.hid nil_argR
  have HGT := Lib.hid gtR
  clear nil_argR gtR
  by_cases h1 : chk t = 0
  · rw [h1] at K1
    by_cases h2 : chk p = 0
    · rw [h2] at K2
      by_cases h3 : chk a = 0
      · rw [h3] at K3
        have hno : ¬ (chk t ≠ 0 ∨ chk p ≠ 0 ∨ chk a ≠ 0) := by rw [h1, h2, h3]; simp
        have e := HE.out
        rw [if_neg hno] at e
        have qa := HNA.out _ h3
        by_cases h4 : valS a = 0
        · rw [if_pos h4] at e
          rw [(HSE.out _ e (by decide)).1, (HSE.out _ e (by decide)).2, e]
          rw [decide_eq_true h4] at qa
          clear HSE HE h1 h2 h3 h4 e hno
          go_enter Tryz.func31, Tryz.ntmps31
          go_wp2_with fail
          refine K1.step hs ?_
          intro w1 hs hb
          go_wp2_with fail
          refine K2.step hs ?_
          intro w1 hs hb
          go_wp2_with fail
          refine K3.step hs ?_
          intro w1 hs hb
          go_wp2_with fail
          go_ret3
          exact ⟨rfl, hs.2⟩
        · rw [if_neg h4] at e
          rw [decide_eq_false h4] at qa
          have K4 := rneg4 (a := a) (by omega)
          have K5 := rneg4 (a := p) (by omega)
          have K6 := rcmpR (a := p) (b := a) (by omega) (by omega)
          have q6 := HGT.out (valS p) (valS a)
          by_cases h5 : valS a < 0
          · rw [if_pos (.inl h5)] at e
            rw [(HSE.out _ e (by decide)).1, (HSE.out _ e (by decide)).2, e]
            rw [decide_eq_true h5] at K4
            clear HSE HE h1 h2 h3 h4 h5 e hno q6 K5 K6
            go_enter Tryz.func31, Tryz.ntmps31
            go_wp2_with fail
            refine K1.step hs ?_
            intro w1 hs hb
            go_wp2_with fail
            refine K2.step hs ?_
            intro w1 hs hb
            go_wp2_with fail
            refine K3.step hs ?_
            intro w1 hs hb
            go_wp2_with fail
            refine K4.step hs ?_
            intro w1 hs hb
            go_wp2_with fail
            go_ret3
            exact ⟨rfl, hs.2⟩
          · rw [decide_eq_false h5] at K4
            by_cases h6 : valS p < 0
            · rw [if_pos (.inr (.inl h6))] at e
              rw [(HSE.out _ e (by decide)).1, (HSE.out _ e (by decide)).2, e]
              rw [decide_eq_true h6] at K5
              clear HSE HE h1 h2 h3 h4 h5 h6 e hno q6 K6
              go_enter Tryz.func31, Tryz.ntmps31
              go_wp2_with fail
              refine K1.step hs ?_
              intro w1 hs hb
              go_wp2_with fail
              refine K2.step hs ?_
              intro w1 hs hb
              go_wp2_with fail
              refine K3.step hs ?_
              intro w1 hs hb
              go_wp2_with fail
              refine K4.step hs ?_
              intro w1 hs hb
              go_wp2_with fail
              refine K5.step hs ?_
              intro w1 hs hb
              go_wp2_with fail
              go_ret3
              exact ⟨rfl, hs.2⟩
            · rw [decide_eq_false h6] at K5
              by_cases h7 : valS a < valS p
              · rw [if_pos (.inr (.inr h7))] at e
                rw [(HSE.out _ e (by decide)).1, (HSE.out _ e (by decide)).2, e]
                rw [decide_eq_true h7] at q6
                generalize cmpI (valS p) (valS a) = ci at *
                clear HSE HE h1 h2 h3 h4 h5 h6 h7 e hno
                go_enter Tryz.func31, Tryz.ntmps31
                go_wp2_with fail
                refine K1.step hs ?_
                intro w1 hs hb
                go_wp2_with fail
                refine K2.step hs ?_
                intro w1 hs hb
                go_wp2_with fail
                refine K3.step hs ?_
                intro w1 hs hb
                go_wp2_with fail
                refine K4.step hs ?_
                intro w1 hs hb
                go_wp2_with fail
                refine K5.step hs ?_
                intro w1 hs hb
                go_wp2_with fail
                refine K6.step hs ?_
                intro w1 hs hb
                go_wp2_with fail
                go_ret3
                exact ⟨rfl, hs.2⟩
              · rw [if_neg (by rw [not_or, not_or]; exact ⟨h5, h6, h7⟩)] at e
                rw [decide_eq_false h7] at q6
                have eS : shS t p a = canS (shQ (valS t) (valS p) (valS a)) := if_pos e
                have eR : shR t p a = canS (valS t - shQ (valS t) (valS p) (valS a)) := if_pos e
                rw [eS, eR, e]
                have ft : Fit k0 (valS t) := Fit.val zt
                have fp : Fit k0 (valS p) := Fit.val zp
                have fa : Fit k0 (valS a) := Fit.val za
                have fm := ft.mul fp
                have K7 := rMulR (a := t) (b := p) (by omega) (by omega)
                have K8 := new_r (n := canS (valS t * valS p)) (d := a) (by have := fm.size; omega) (by omega)
                rw [valS_canS, if_neg h4, if_neg h4] at K8
                have fq : FitQ (k0 + k0 + 1) (rat (valS t * valS p) (valS a)) := FitQ.mono (FitQ.rat (k := k0 + k0) (m := k0 + 1) fm (fa.mono (by omega)) (by omega)) (by omega)
                have sq := FitQ.sizes fq
                have K9 := rRound_any (a := frN (rat (valS t * valS p) (valS a))) (b := frD (rat (valS t * valS p) (valS a))) 1 (by omega) (by omega)
                rw [ratV_fr, show rndE 1 = 0 from rfl, show rndS 1 (rat (valS t * valS p) (valS a)) = canS (shQ (valS t) (valS p) (valS a)) from rfl] at K9
                have fr1 := rnd_fit 1 fq
                have K10 := rSubR (a := t) (b := canS (shQ (valS t) (valS p) (valS a))) (by omega) (by have := (show Fit _ (shQ (valS t) (valS p) (valS a)) from fr1).size; omega)
                rw [valS_canS] at K10
                unfold FR at K8
                unfold FV at K9
                generalize canS (valS t - shQ (valS t) (valS p) (valS a)) = r2 at *
                generalize canS (shQ (valS t) (valS p) (valS a)) = r1 at *
                generalize frN (rat (valS t * valS p) (valS a)) = qn at *
                generalize frD (rat (valS t * valS p) (valS a)) = qd at *
                generalize canS (valS t * valS p) = mm at *
                generalize cmpI (valS p) (valS a) = ci at *
                clear HSE HE h1 h2 h3 h4 h5 h6 h7 e hno eS eR ft fp fa fm fq fr1 sq
                go_enter Tryz.func31, Tryz.ntmps31
                go_wp2_with fail
                refine K1.step hs ?_
                intro w1 hs hb
                go_wp2_with fail
                refine K2.step hs ?_
                intro w1 hs hb
                go_wp2_with fail
                refine K3.step hs ?_
                intro w1 hs hb
                go_wp2_with fail
                refine K4.step hs ?_
                intro w1 hs hb
                go_wp2_with fail
                refine K5.step hs ?_
                intro w1 hs hb
                go_wp2_with fail
                refine K6.step hs ?_
                intro w1 hs hb
                go_wp2_with fail
                refine K7.step hs ?_
                intro w1 hs hb
                go_wp2_with fail
                refine K8.step hs ?_
                intro w1 hs hb
                have X := Bx.new w1 #[.string qn, .string qd] 36
                replace hs := hs.alloc (.cells #[.string qn, .string qd] 36)
                have x0 := X.cell (i := 0) (v := .string qn) rfl
                have x1 := X.cell (i := 1) (v := .string qd) rfl
                go_wp2_with fail
                clear x0 x1
                refine K9.step hs ?_
                intro w1 hs hb
                go_wp2_with fail
                refine K10.step hs ?_
                intro w1 hs hb
                go_wp2_with fail
                go_ret3
                exact ⟨rfl, hs.2⟩
      · have q3 : (chk a != 0) = true := by simpa using h3
        have e := HE.out
        rw [if_pos (.inr (.inr h3))] at e
        rw [(HSE.out _ e (by decide)).1, (HSE.out _ e (by decide)).2, e]
        generalize chk a = ca at *
        clear HSE HE h1 h2 h3 e HNA
        go_enter Tryz.func31, Tryz.ntmps31
        go_wp2_with fail
        refine K1.step hs ?_
        intro w1 hs hb
        go_wp2_with fail
        refine K2.step hs ?_
        intro w1 hs hb
        go_wp2_with fail
        refine K3.step hs ?_
        intro w1 hs hb
        go_wp2_with fail
        go_ret3
        exact ⟨rfl, hs.2⟩
    · have q2 : (chk p != 0) = true := by simpa using h2
      have e := HE.out
      rw [if_pos (.inr (.inl h2))] at e
      rw [(HSE.out _ e (by decide)).1, (HSE.out _ e (by decide)).2, e]
      generalize chk p = ca at *
      clear HSE HE h1 h2 e K3 HNA
      go_enter Tryz.func31, Tryz.ntmps31
      go_wp2_with fail
      refine K1.step hs ?_
      intro w1 hs hb
      go_wp2_with fail
      refine K2.step hs ?_
      intro w1 hs hb
      go_wp2_with fail
      go_ret3
      exact ⟨rfl, hs.2⟩
  · have q1 : (chk t != 0) = true := by simpa using h1
    have e := HE.out
    rw [if_pos (.inl h1)] at e
    rw [(HSE.out _ e (by decide)).1, (HSE.out _ e (by decide)).2, e]
    generalize chk t = ca at *
    clear HSE HE h1 e K3 K2 HNA
    go_enter Tryz.func31, Tryz.ntmps31
    go_wp2_with fail
    refine K1.step hs ?_
    intro w1 hs hb
    go_wp2_with fail
    go_ret3
    exact ⟨rfl, hs.2⟩
end Go.Proofs.YtpipkeplhkccoaaGreatDoor
