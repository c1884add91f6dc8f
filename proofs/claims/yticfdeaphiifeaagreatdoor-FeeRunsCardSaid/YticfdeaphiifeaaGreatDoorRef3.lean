/- Rounding, the reference: even, RoundTo, Round. Conditions: numbers of bounded length. -/
import Derived.Test.YticfdeaphiifeaaGreatDoorRd3
import Derived.Test.YticfdeaphiifeaaGreatDoorRf2
import Derived.Test.YticfdeaphiifeaaGreatDoorRf3
set_option maxHeartbeats 4000000
set_option maxRecDepth 100000
namespace Go.Proofs.YticfdeaphiifeaaGreatDoor
open Go.RowKit Go.Shelf Dec QQ
theorem bytes_at {s : ByteArray} {l : Bytes} {d : UInt8} (h : bytes s = l ++ [d]) : ∃ hn : l.length < s.size, s.size = l.length + 1 ∧ s[l.length] = d := by
 have hl : s.size = l.length + 1 := by rw [size_bytes, h, List.length_append]; rfl
 refine ⟨by omega, hl, ?_⟩
 have e : (bytes s)[l.length]? = some d := by rw [h, List.getElem?_append_right (Nat.le_refl _), Nat.sub_self]; rfl
 have e2 : (bytes s)[l.length]? = some s[l.length] := by
  unfold bytes
  rw [Array.getElem?_toList]
  exact Array.getElem?_eq_getElem (by show l.length < s.size; omega)
 rw [e2] at e
 injection e
theorem canS_last {z : Int} (h : z ≠ 0) : ∃ l : Bytes, bytes (canS z) = l ++ [digB z.natAbs] := by
 unfold canS
 rw [bytes_str]
 have hd := dec_pos (n := z.natAbs) (by omega)
 unfold canon
 split
 ·exact ⟨45 :: dec (z.natAbs / 10), by rw [hd]; rfl⟩
 ·exact ⟨dec (z.natAbs / 10), hd⟩
theorem even_digit {z : Int} (h : z ≠ 0) : ∃ (n : Nat) (hn : n < (canS z).size) (d : Nat), (canS z).size = n + 1 ∧ ((canS z)[n].toNat : Int) = 48 + (d : Int) ∧ d ≤ 9 ∧ ((d : Int) % 2 == 0) = evB z := by
 obtain ⟨l, hl⟩ := canS_last h
 obtain ⟨hn, h1, h2⟩ := bytes_at hl
 refine ⟨l.length, hn, z.natAbs % 10, h1, ?_, by omega, ?_⟩
 ·rw [h2, digB_toNat]
  omega
 ·unfold evB
  rw [Bool.eq_iff_iff]
  simp
  omega
theorem reven_any (z : Int) (hz : (canS z).size ≤ 100000) : Ret 166 #[.string (canS z)] (.bool (evB z)) := by
 intro w hg
 have hs := St.refl hg
 have K1 : Ret 161 #[.string (canS z)] (.string (canS z)) := fun w _ => by
  have := rcanonical_any (canS z) w (by omega)
  rwa [valS_canS] at this
 by_cases h : z = 0
 ·subst h
  have e : canS 0 = ⟨#[]⟩ := canS_zero
  rw [e] at K1 ⊢
  have ev : evB 0 = true := by decide
  rw [ev]
  go_enter Tryz.func166, Tryz.ntmps166
  go_wp2_with fail
  refine K1.step hs ?_
  intro w1 hs _
  go_wp2_with fail
  go_ret
  exact ⟨rfl, hs.2⟩
 ·have q0 : ((canS z).toList == []) = false := by rw [nil_eq]; exact decide_eq_false h
  obtain ⟨n, hn, d, hsz, hd, hd9, hev⟩ := even_digit h
  generalize evB z = v at *
  generalize canS z = s at *
  have h1 : ((s.size : Int) - 1) = (n : Int) := by omega
  have hw : ((s[n].toNat : Int) - 48) = (d : Int) := by omega
  clear hd h hsz
  go_enter Tryz.func166, Tryz.ntmps166
  go_wp2_with fail
  refine K1.step hs ?_
  intro w1 hs _
  go_wp2_with fail
  go_ret
  exact ⟨rfl, hs.2⟩
theorem rmode_any (m : Int) : Ret 196 #[.int .i64 m] (.bool (rndE m == 0)) := by
 intro w hg
 have hs := St.refl hg
 unfold rndE
 by_cases h1 : m < 1
 ·rw [if_pos (.inl h1)]
  have q1 : decide (1 ≤ m) = false := decide_eq_false (by omega)
  go_enter Tryz.func196, Tryz.ntmps196
  go_wp2_with fail
  go_ret
  exact ⟨rfl, hs.2⟩
 ·have q1 : decide (1 ≤ m) = true := decide_eq_true (by omega)
  by_cases h6 : 6 < m
  ·rw [if_pos (.inr h6)]
   have q2 : decide (m ≤ 6) = false := decide_eq_false (by omega)
   go_enter Tryz.func196, Tryz.ntmps196
   go_wp2_with fail
   go_ret
   exact ⟨rfl, hs.2⟩
  ·rw [if_neg (by omega)]
   have q2 : decide (m ≤ 6) = true := decide_eq_true (by omega)
   go_enter Tryz.func196, Tryz.ntmps196
   go_wp2_with fail
   go_ret
   exact ⟨rfl, hs.2⟩
theorem FR_zero3 : FR ((0 : Int) : Rat) = .agg #[.string ⟨#[]⟩, .string ⟨#[]⟩] := by
 show FR 0 = _
 unfold FR
 rw [frN_zero, frD_zero]
theorem half_fr : FR (rat 1 2) = .agg #[.string ⟨#[49]⟩, .string ⟨#[50]⟩] := by
 unfold FR
 rw [show frN (rat 1 2) = ⟨#[49]⟩ from by decide +kernel, show frD (rat 1 2) = ⟨#[50]⟩ from by decide +kernel]
theorem half_val : ratV ⟨#[49]⟩ ⟨#[50]⟩ = 1 / 2 := by decide +kernel
theorem cmpQ_zero {x : Rat} : (cmpQ x 0 == 0) = decide (x = 0) := by
 rw [Bool.eq_iff_iff, beq_iff_eq, decide_eq_true_iff]
 unfold cmpQ
 by_cases h1 : x < 0
 ·rw [if_pos h1]
  constructor
  ·intro h; cases h
  ·intro h; rw [h] at h1; exact absurd h1 (by decide)
 ·rw [if_neg h1]
  by_cases h2 : x = 0
  ·rw [if_pos h2]; simp [h2]
  ·rw [if_neg h2]; simp [h2]
theorem rnd_rest {m : Int} {q : Rat} (h : fpart q ≠ 0) {t : Bool} (ht : upB m (cmpQ (fpart q) (1 / 2)) (decide (q < 0)) (evB q.floor) = t) : canS (rndQ m q) = if t = true then canS (q.floor + 1) else canS q.floor := by
 unfold rndQ
 rw [if_neg h, ht]
 cases t <;> rfl
theorem rRoundTo_any {a b : ByteArray} (m : Int) (h1 : a.size ≤ 1000) (h2 : b.size ≤ 1000) (hm1 : 1 ≤ m) (hm6 : m ≤ 6) : Ret 125 #[FV a b, .int .i64 m] (.string (canS (rndQ m (ratV a b)))) := by
 intro w hg
 have hs := (St.refl hg).alloc (.cells #[.string a, .string b] 34)
 have XF := Bx.new w #[.string a, .string b] 34
 have fq := FitQ.arg (n := a) (d := b) (k := 1000) h1 h2 (by omega)
 have K1 := rfloor_r (a := a) (b := b) (by omega) (by omega)
 have fl : Fit 1000 (ratV a b).floor := floor_fitR fq
 have zl := fl.size
 have KO := rof_r (a := canS (ratV a b).floor) (by omega)
 rw [valS_canS] at KO
 have flq : FitQ 1000 (((ratV a b).floor : Int) : Rat) := FitQ.int fl (by omega)
 have zf := FitQ.sizes flq
 have KS := rsub_r (a := a) (b := b) (c := frN (((ratV a b).floor : Int) : Rat)) (d := frD (((ratV a b).floor : Int) : Rat)) (by omega) (by omega) (by omega) (by omega)
 rw [ratV_fr] at KS
 change Ret _ _ (FR (fpart (ratV a b))) at KS
 have fp : FitQ 2001 (fpart (ratV a b)) := (fq.sub flq).mono (by omega)
 have zp := FitQ.sizes fp
 have KZ := rof_r (a := ⟨#[]⟩) (by decide)
 rw [show valS ⟨#[]⟩ = 0 from by decide, show FR ((0 : Int) : Rat) = .agg #[.string ⟨#[]⟩, .string ⟨#[]⟩] from FR_zero3] at KZ
 have KC1 := rcmpF (a := frN (fpart (ratV a b))) (b := frD (fpart (ratV a b))) (c := ⟨#[]⟩) (d := ⟨#[]⟩) (by omega) (by omega) (by decide) (by decide)
 rw [ratV_fr, show ratV ⟨#[]⟩ ⟨#[]⟩ = 0 from rfl] at KC1
 have KA := rAddR (a := canS (ratV a b).floor) (b := ⟨#[49]⟩) (by omega) (by decide)
 rw [valS_canS, show valS ⟨#[49]⟩ = 1 from by decide] at KA
 have KN := new_r (n := ⟨#[49]⟩) (d := ⟨#[50]⟩) (by decide) (by decide)
 rw [if_neg (by decide), if_neg (by decide), show valS ⟨#[49]⟩ = 1 from by decide, show valS ⟨#[50]⟩ = 2 from by decide, half_fr] at KN
 have KC2 := rcmpF (a := frN (fpart (ratV a b))) (b := frD (fpart (ratV a b))) (c := ⟨#[49]⟩) (d := ⟨#[50]⟩) (by omega) (by omega) (by decide) (by decide)
 rw [ratV_fr, half_val] at KC2
 have KC3 := rcmpF (a := a) (b := b) (c := ⟨#[]⟩) (d := ⟨#[]⟩) (by omega) (by omega) (by decide) (by decide)
 rw [show ratV ⟨#[]⟩ ⟨#[]⟩ = 0 from rfl] at KC3
 have KE := reven_any (ratV a b).floor (by omega)
 have q1 := cmpQ_zero (x := fpart (ratV a b))
 have q3 : decide (cmpQ (ratV a b) 0 < 0) = decide (ratV a b < 0) := decide_eq_decide.2 cmpQ_neg
 have HI : Hid (fpart (ratV a b) = 0 → ∀ m, canS (rndQ m (ratV a b)) = canS (ratV a b).floor) := fun h m => by rw [rnd_int h]
 have HRest : Hid (fpart (ratV a b) ≠ 0 → ∀ m t, upB m (cmpQ (fpart (ratV a b)) (1 / 2)) (decide (ratV a b < 0)) (evB (ratV a b).floor) = t → canS (rndQ m (ratV a b)) = if t = true then canS ((ratV a b).floor + 1) else canS (ratV a b).floor) := fun h m t ht => rnd_rest h ht
 obtain ⟨rr, hrr⟩ : ∃ x, canS (rndQ m (ratV a b)) = x := ⟨_, rfl⟩
 rw [hrr]
 have HRR := Lib.hid hrr
 unfold FV at *
 unfold FR at *
 clear fq fl zl flq zf fp zp h1 h2 hrr
 generalize cmpQ (ratV a b) 0 = c3 at *
 generalize cmpQ (fpart (ratV a b)) (1 / 2) = c at *
 generalize cmpQ (fpart (ratV a b)) 0 = c1 at *
 generalize decide (ratV a b < 0) = ng at *
 generalize evB (ratV a b).floor = ev at *
 generalize canS ((ratV a b).floor + 1) = up at *
 generalize frN (fpart (ratV a b)) = pn at *
 generalize frD (fpart (ratV a b)) = pd at *
 generalize frN (((ratV a b).floor : Int) : Rat) = ln at *
 generalize frD (((ratV a b).floor : Int) : Rat) = ld at *
 generalize canS (ratV a b).floor = lo at *
 obtain ⟨t1, q41⟩ : ∃ t, decide (0 < c) = t := ⟨_, rfl⟩
 obtain ⟨t2, q42⟩ : ∃ t, (c == 0) = t := ⟨_, rfl⟩
 by_cases hz : fpart (ratV a b) = 0
 ·rw [decide_eq_true hz] at q1
  have e := HI.out hz m
  rw [HRR.out] at e
  subst e
  clear HI HRest HRR hz q41 q42
  go_enter Tryz.func125, Tryz.ntmps125
  go_wp2_with fail
  refine K1.step hs ?_
  intro w1 hs hb
  replace XF := XF.on hb
  have lw : w.heap.size ≤ w1.heap.size := hs.size
  go_wp2_with fail
  refine wp_region_fresh1 5 4 6 #[.string ⟨#[]⟩, .string ⟨#[]⟩] (by kernel_rfl) (by kernel_rfl) (by kernel_rfl) (by omega) rfl (by kernel_rfl) ⟨_, 6, _, rfl, rfl, rfl, fun _ _ => by simp [execOp, go_sem, ptrTo]; rfl⟩ ?_
  apply Exists.intro
  refine ⟨fun S W hne hk hcl => ?_, ?_⟩
  ·simp only [List.take_succ_cons, List.take_zero, quietL, List.mem_cons, List.not_mem_nil, or_false, Nat.reduceAdd, Nat.reduceEqDiff, reduceIte, Nat.zero_add]
   have kk0 := XF.in hk (i := 0) (v := .string a) rfl
   have kk1 := XF.in hk (i := 1) (v := .string b) rfl
   repeat (go_big_quiet_step (first | (with_reducible exact KO.fresh hs hk hcl) | (with_reducible exact KS.fresh hs hk hcl)))
   exact wpQuiet_nil rfl
  intro b1 v1 hb1 hv1 hx1
  simp only [List.drop_succ_cons, List.drop_zero, ptrTo]
  have z0 := hx1.cell (i := 0) (v := .string ⟨#[]⟩) rfl
  have z1 := hx1.cell (i := 1) (v := .string ⟨#[]⟩) rfl
  have g0 := hx1.frozen 0
  have g1 := hx1.frozen 1
  go_wp2_with fail
  have lF := XF.lt
  replace hs := ((hs.on hv1).set (b := b1) (by omega) 0 (.string pn)).set (b := b1) (by omega) 1 (.string pd)
  replace XF := ((XF.on hv1).other (c := b1) (by omega) 0 (.string pn)).other (c := b1) (by omega) 1 (.string pd)
  have XP : Bx ((v1.setCell ⟨b1, 0, none⟩ (.string pn)).setCell ⟨b1, 1, none⟩ (.string pd)) b1 #[.string pn, .string pd] := (hx1.set 0 (.string pn)).set 1 (.string pd)
  clear z0 z1 g0 g1 hx1 hv1 hb1 lF
  generalize (v1.setCell ⟨b1, 0, none⟩ (.string pn)).setCell ⟨b1, 1, none⟩ (.string pd) = W8 at *
  refine KZ.step hs ?_
  intro w2 hs hb
  replace XF := XF.on hb
  replace XP := XP.on hb
  replace XF := XF.alloc (.cells #[.string ⟨#[]⟩, .string ⟨#[]⟩] 34)
  replace XP := XP.alloc (.cells #[.string ⟨#[]⟩, .string ⟨#[]⟩] 34)
  replace hs := hs.alloc (.cells #[.string ⟨#[]⟩, .string ⟨#[]⟩] 34)
  have XZ := Bx.new w2 #[.string ⟨#[]⟩, .string ⟨#[]⟩] 34
  have p0 := XP.cell (i := 0) (v := .string pn) rfl
  have p1 := XP.cell (i := 1) (v := .string pd) rfl
  have zz0 := XZ.cell (i := 0) (v := .string ⟨#[]⟩) rfl
  have zz1 := XZ.cell (i := 1) (v := .string ⟨#[]⟩) rfl
  go_wp2_with fail
  refine KC1.step hs ?_
  intro w3 hs hb
  clear p0 p1 zz0 zz1
  replace XF := XF.on hb
  replace XP := XP.on hb
  replace XZ := XZ.on hb
  go_wp2_with fail
  go_ret
  exact ⟨rfl, hs.2⟩
 ·rw [decide_eq_false hz] at q1
  have HM : Hid (∀ m t, upB m c ng ev = t → canS (rndQ m (ratV a b)) = if t = true then up else lo) := HRest.out hz
  clear HI HRest hz
  by_cases h1 : m = 1
  ·subst h1
   have e := HM.out 1 _ rfl
   rw [show upB 1 c ng ev = (decide (0 < c) || ((c == 0) && !ev)) from rfl, q41, q42] at e
   rw [HRR.out] at e
   clear HM HRR
   cases t1 with
   | true =>
    obtain rfl : rr = up := e
    go_enter Tryz.func125, Tryz.ntmps125
    go_wp2_with fail
    refine K1.step hs ?_
    intro w1 hs hb
    replace XF := XF.on hb
    have lw : w.heap.size ≤ w1.heap.size := hs.size
    go_wp2_with fail
    refine wp_region_fresh1 5 4 6 #[.string ⟨#[]⟩, .string ⟨#[]⟩] (by kernel_rfl) (by kernel_rfl) (by kernel_rfl) (by omega) rfl (by kernel_rfl) ⟨_, 6, _, rfl, rfl, rfl, fun _ _ => by simp [execOp, go_sem, ptrTo]; rfl⟩ ?_
    apply Exists.intro
    refine ⟨fun S W hne hk hcl => ?_, ?_⟩
    ·simp only [List.take_succ_cons, List.take_zero, quietL, List.mem_cons, List.not_mem_nil, or_false, Nat.reduceAdd, Nat.reduceEqDiff, reduceIte, Nat.zero_add]
     have kk0 := XF.in hk (i := 0) (v := .string a) rfl
     have kk1 := XF.in hk (i := 1) (v := .string b) rfl
     repeat (go_big_quiet_step (first | (with_reducible exact KO.fresh hs hk hcl) | (with_reducible exact KS.fresh hs hk hcl)))
     exact wpQuiet_nil rfl
    intro b1 v1 hb1 hv1 hx1
    simp only [List.drop_succ_cons, List.drop_zero, ptrTo]
    have z0 := hx1.cell (i := 0) (v := .string ⟨#[]⟩) rfl
    have z1 := hx1.cell (i := 1) (v := .string ⟨#[]⟩) rfl
    have g0 := hx1.frozen 0
    have g1 := hx1.frozen 1
    go_wp2_with fail
    have lF := XF.lt
    replace hs := ((hs.on hv1).set (b := b1) (by omega) 0 (.string pn)).set (b := b1) (by omega) 1 (.string pd)
    replace XF := ((XF.on hv1).other (c := b1) (by omega) 0 (.string pn)).other (c := b1) (by omega) 1 (.string pd)
    have XP : Bx ((v1.setCell ⟨b1, 0, none⟩ (.string pn)).setCell ⟨b1, 1, none⟩ (.string pd)) b1 #[.string pn, .string pd] := (hx1.set 0 (.string pn)).set 1 (.string pd)
    clear z0 z1 g0 g1 hx1 hv1 hb1 lF
    generalize (v1.setCell ⟨b1, 0, none⟩ (.string pn)).setCell ⟨b1, 1, none⟩ (.string pd) = W8 at *
    refine KZ.step hs ?_
    intro w2 hs hb
    replace XF := XF.on hb
    replace XP := XP.on hb
    replace XF := XF.alloc (.cells #[.string ⟨#[]⟩, .string ⟨#[]⟩] 34)
    replace XP := XP.alloc (.cells #[.string ⟨#[]⟩, .string ⟨#[]⟩] 34)
    replace hs := hs.alloc (.cells #[.string ⟨#[]⟩, .string ⟨#[]⟩] 34)
    have XZ := Bx.new w2 #[.string ⟨#[]⟩, .string ⟨#[]⟩] 34
    have p0 := XP.cell (i := 0) (v := .string pn) rfl
    have p1 := XP.cell (i := 1) (v := .string pd) rfl
    have zz0 := XZ.cell (i := 0) (v := .string ⟨#[]⟩) rfl
    have zz1 := XZ.cell (i := 1) (v := .string ⟨#[]⟩) rfl
    go_wp2_with fail
    refine KC1.step hs ?_
    intro w3 hs hb
    clear p0 p1 zz0 zz1
    replace XF := XF.on hb
    replace XP := XP.on hb
    replace XZ := XZ.on hb
    go_wp2_with fail
    refine KA.step hs ?_
    intro w4 hs hb
    replace XF := XF.on hb
    replace XP := XP.on hb
    replace XZ := XZ.on hb
    go_wp2_with fail
    refine KN.step hs ?_
    intro w5 hs hb
    replace XF := XF.on hb
    replace XP := XP.on hb
    replace XZ := XZ.on hb
    replace XF := XF.alloc (.cells #[.string ⟨#[49]⟩, .string ⟨#[50]⟩] 34)
    replace XP := XP.alloc (.cells #[.string ⟨#[49]⟩, .string ⟨#[50]⟩] 34)
    replace XZ := XZ.alloc (.cells #[.string ⟨#[49]⟩, .string ⟨#[50]⟩] 34)
    replace hs := hs.alloc (.cells #[.string ⟨#[49]⟩, .string ⟨#[50]⟩] 34)
    have XH := Bx.new w5 #[.string ⟨#[49]⟩, .string ⟨#[50]⟩] 34
    have p0 := XP.cell (i := 0) (v := .string pn) rfl
    have p1 := XP.cell (i := 1) (v := .string pd) rfl
    have hh0 := XH.cell (i := 0) (v := .string ⟨#[49]⟩) rfl
    have hh1 := XH.cell (i := 1) (v := .string ⟨#[50]⟩) rfl
    go_wp2_with fail
    refine KC2.step hs ?_
    intro w6 hs hb
    clear p0 p1 hh0 hh1
    replace XF := XF.on hb
    replace XZ := XZ.on hb
    have f0 := XF.cell (i := 0) (v := .string a) rfl
    have f1 := XF.cell (i := 1) (v := .string b) rfl
    have zz0 := XZ.cell (i := 0) (v := .string ⟨#[]⟩) rfl
    have zz1 := XZ.cell (i := 1) (v := .string ⟨#[]⟩) rfl
    go_wp2_with fail
    refine KC3.step hs ?_
    intro w7 hs hb
    clear f0 f1 zz0 zz1
    go_wp2_with fail
    go_ret
    exact ⟨rfl, hs.2⟩
   | false =>
    cases t2 with
    | false =>
     obtain rfl : rr = lo := e
     go_enter Tryz.func125, Tryz.ntmps125
     go_wp2_with fail
     refine K1.step hs ?_
     intro w1 hs hb
     replace XF := XF.on hb
     have lw : w.heap.size ≤ w1.heap.size := hs.size
     go_wp2_with fail
     refine wp_region_fresh1 5 4 6 #[.string ⟨#[]⟩, .string ⟨#[]⟩] (by kernel_rfl) (by kernel_rfl) (by kernel_rfl) (by omega) rfl (by kernel_rfl) ⟨_, 6, _, rfl, rfl, rfl, fun _ _ => by simp [execOp, go_sem, ptrTo]; rfl⟩ ?_
     apply Exists.intro
     refine ⟨fun S W hne hk hcl => ?_, ?_⟩
     ·simp only [List.take_succ_cons, List.take_zero, quietL, List.mem_cons, List.not_mem_nil, or_false, Nat.reduceAdd, Nat.reduceEqDiff, reduceIte, Nat.zero_add]
      have kk0 := XF.in hk (i := 0) (v := .string a) rfl
      have kk1 := XF.in hk (i := 1) (v := .string b) rfl
      repeat (go_big_quiet_step (first | (with_reducible exact KO.fresh hs hk hcl) | (with_reducible exact KS.fresh hs hk hcl)))
      exact wpQuiet_nil rfl
     intro b1 v1 hb1 hv1 hx1
     simp only [List.drop_succ_cons, List.drop_zero, ptrTo]
     have z0 := hx1.cell (i := 0) (v := .string ⟨#[]⟩) rfl
     have z1 := hx1.cell (i := 1) (v := .string ⟨#[]⟩) rfl
     have g0 := hx1.frozen 0
     have g1 := hx1.frozen 1
     go_wp2_with fail
     have lF := XF.lt
     replace hs := ((hs.on hv1).set (b := b1) (by omega) 0 (.string pn)).set (b := b1) (by omega) 1 (.string pd)
     replace XF := ((XF.on hv1).other (c := b1) (by omega) 0 (.string pn)).other (c := b1) (by omega) 1 (.string pd)
     have XP : Bx ((v1.setCell ⟨b1, 0, none⟩ (.string pn)).setCell ⟨b1, 1, none⟩ (.string pd)) b1 #[.string pn, .string pd] := (hx1.set 0 (.string pn)).set 1 (.string pd)
     clear z0 z1 g0 g1 hx1 hv1 hb1 lF
     generalize (v1.setCell ⟨b1, 0, none⟩ (.string pn)).setCell ⟨b1, 1, none⟩ (.string pd) = W8 at *
     refine KZ.step hs ?_
     intro w2 hs hb
     replace XF := XF.on hb
     replace XP := XP.on hb
     replace XF := XF.alloc (.cells #[.string ⟨#[]⟩, .string ⟨#[]⟩] 34)
     replace XP := XP.alloc (.cells #[.string ⟨#[]⟩, .string ⟨#[]⟩] 34)
     replace hs := hs.alloc (.cells #[.string ⟨#[]⟩, .string ⟨#[]⟩] 34)
     have XZ := Bx.new w2 #[.string ⟨#[]⟩, .string ⟨#[]⟩] 34
     have p0 := XP.cell (i := 0) (v := .string pn) rfl
     have p1 := XP.cell (i := 1) (v := .string pd) rfl
     have zz0 := XZ.cell (i := 0) (v := .string ⟨#[]⟩) rfl
     have zz1 := XZ.cell (i := 1) (v := .string ⟨#[]⟩) rfl
     go_wp2_with fail
     refine KC1.step hs ?_
     intro w3 hs hb
     clear p0 p1 zz0 zz1
     replace XF := XF.on hb
     replace XP := XP.on hb
     replace XZ := XZ.on hb
     go_wp2_with fail
     refine KA.step hs ?_
     intro w4 hs hb
     replace XF := XF.on hb
     replace XP := XP.on hb
     replace XZ := XZ.on hb
     go_wp2_with fail
     refine KN.step hs ?_
     intro w5 hs hb
     replace XF := XF.on hb
     replace XP := XP.on hb
     replace XZ := XZ.on hb
     replace XF := XF.alloc (.cells #[.string ⟨#[49]⟩, .string ⟨#[50]⟩] 34)
     replace XP := XP.alloc (.cells #[.string ⟨#[49]⟩, .string ⟨#[50]⟩] 34)
     replace XZ := XZ.alloc (.cells #[.string ⟨#[49]⟩, .string ⟨#[50]⟩] 34)
     replace hs := hs.alloc (.cells #[.string ⟨#[49]⟩, .string ⟨#[50]⟩] 34)
     have XH := Bx.new w5 #[.string ⟨#[49]⟩, .string ⟨#[50]⟩] 34
     have p0 := XP.cell (i := 0) (v := .string pn) rfl
     have p1 := XP.cell (i := 1) (v := .string pd) rfl
     have hh0 := XH.cell (i := 0) (v := .string ⟨#[49]⟩) rfl
     have hh1 := XH.cell (i := 1) (v := .string ⟨#[50]⟩) rfl
     go_wp2_with fail
     refine KC2.step hs ?_
     intro w6 hs hb
     clear p0 p1 hh0 hh1
     replace XF := XF.on hb
     replace XZ := XZ.on hb
     have f0 := XF.cell (i := 0) (v := .string a) rfl
     have f1 := XF.cell (i := 1) (v := .string b) rfl
     have zz0 := XZ.cell (i := 0) (v := .string ⟨#[]⟩) rfl
     have zz1 := XZ.cell (i := 1) (v := .string ⟨#[]⟩) rfl
     go_wp2_with fail
     refine KC3.step hs ?_
     intro w7 hs hb
     clear f0 f1 zz0 zz1
     go_wp2_with fail
     go_ret
     exact ⟨rfl, hs.2⟩
    | true =>
     cases ev with
     | true =>
      obtain rfl : rr = lo := e
      go_enter Tryz.func125, Tryz.ntmps125
      go_wp2_with fail
      refine K1.step hs ?_
      intro w1 hs hb
      replace XF := XF.on hb
      have lw : w.heap.size ≤ w1.heap.size := hs.size
      go_wp2_with fail
      refine wp_region_fresh1 5 4 6 #[.string ⟨#[]⟩, .string ⟨#[]⟩] (by kernel_rfl) (by kernel_rfl) (by kernel_rfl) (by omega) rfl (by kernel_rfl) ⟨_, 6, _, rfl, rfl, rfl, fun _ _ => by simp [execOp, go_sem, ptrTo]; rfl⟩ ?_
      apply Exists.intro
      refine ⟨fun S W hne hk hcl => ?_, ?_⟩
      ·simp only [List.take_succ_cons, List.take_zero, quietL, List.mem_cons, List.not_mem_nil, or_false, Nat.reduceAdd, Nat.reduceEqDiff, reduceIte, Nat.zero_add]
       have kk0 := XF.in hk (i := 0) (v := .string a) rfl
       have kk1 := XF.in hk (i := 1) (v := .string b) rfl
       repeat (go_big_quiet_step (first | (with_reducible exact KO.fresh hs hk hcl) | (with_reducible exact KS.fresh hs hk hcl)))
       exact wpQuiet_nil rfl
      intro b1 v1 hb1 hv1 hx1
      simp only [List.drop_succ_cons, List.drop_zero, ptrTo]
      have z0 := hx1.cell (i := 0) (v := .string ⟨#[]⟩) rfl
      have z1 := hx1.cell (i := 1) (v := .string ⟨#[]⟩) rfl
      have g0 := hx1.frozen 0
      have g1 := hx1.frozen 1
      go_wp2_with fail
      have lF := XF.lt
      replace hs := ((hs.on hv1).set (b := b1) (by omega) 0 (.string pn)).set (b := b1) (by omega) 1 (.string pd)
      replace XF := ((XF.on hv1).other (c := b1) (by omega) 0 (.string pn)).other (c := b1) (by omega) 1 (.string pd)
      have XP : Bx ((v1.setCell ⟨b1, 0, none⟩ (.string pn)).setCell ⟨b1, 1, none⟩ (.string pd)) b1 #[.string pn, .string pd] := (hx1.set 0 (.string pn)).set 1 (.string pd)
      clear z0 z1 g0 g1 hx1 hv1 hb1 lF
      generalize (v1.setCell ⟨b1, 0, none⟩ (.string pn)).setCell ⟨b1, 1, none⟩ (.string pd) = W8 at *
      refine KZ.step hs ?_
      intro w2 hs hb
      replace XF := XF.on hb
      replace XP := XP.on hb
      replace XF := XF.alloc (.cells #[.string ⟨#[]⟩, .string ⟨#[]⟩] 34)
      replace XP := XP.alloc (.cells #[.string ⟨#[]⟩, .string ⟨#[]⟩] 34)
      replace hs := hs.alloc (.cells #[.string ⟨#[]⟩, .string ⟨#[]⟩] 34)
      have XZ := Bx.new w2 #[.string ⟨#[]⟩, .string ⟨#[]⟩] 34
      have p0 := XP.cell (i := 0) (v := .string pn) rfl
      have p1 := XP.cell (i := 1) (v := .string pd) rfl
      have zz0 := XZ.cell (i := 0) (v := .string ⟨#[]⟩) rfl
      have zz1 := XZ.cell (i := 1) (v := .string ⟨#[]⟩) rfl
      go_wp2_with fail
      refine KC1.step hs ?_
      intro w3 hs hb
      clear p0 p1 zz0 zz1
      replace XF := XF.on hb
      replace XP := XP.on hb
      replace XZ := XZ.on hb
      go_wp2_with fail
      refine KA.step hs ?_
      intro w4 hs hb
      replace XF := XF.on hb
      replace XP := XP.on hb
      replace XZ := XZ.on hb
      go_wp2_with fail
      refine KN.step hs ?_
      intro w5 hs hb
      replace XF := XF.on hb
      replace XP := XP.on hb
      replace XZ := XZ.on hb
      replace XF := XF.alloc (.cells #[.string ⟨#[49]⟩, .string ⟨#[50]⟩] 34)
      replace XP := XP.alloc (.cells #[.string ⟨#[49]⟩, .string ⟨#[50]⟩] 34)
      replace XZ := XZ.alloc (.cells #[.string ⟨#[49]⟩, .string ⟨#[50]⟩] 34)
      replace hs := hs.alloc (.cells #[.string ⟨#[49]⟩, .string ⟨#[50]⟩] 34)
      have XH := Bx.new w5 #[.string ⟨#[49]⟩, .string ⟨#[50]⟩] 34
      have p0 := XP.cell (i := 0) (v := .string pn) rfl
      have p1 := XP.cell (i := 1) (v := .string pd) rfl
      have hh0 := XH.cell (i := 0) (v := .string ⟨#[49]⟩) rfl
      have hh1 := XH.cell (i := 1) (v := .string ⟨#[50]⟩) rfl
      go_wp2_with fail
      refine KC2.step hs ?_
      intro w6 hs hb
      clear p0 p1 hh0 hh1
      replace XF := XF.on hb
      replace XZ := XZ.on hb
      have f0 := XF.cell (i := 0) (v := .string a) rfl
      have f1 := XF.cell (i := 1) (v := .string b) rfl
      have zz0 := XZ.cell (i := 0) (v := .string ⟨#[]⟩) rfl
      have zz1 := XZ.cell (i := 1) (v := .string ⟨#[]⟩) rfl
      go_wp2_with fail
      refine KC3.step hs ?_
      intro w7 hs hb
      clear f0 f1 zz0 zz1
      go_wp2_with fail
      refine KE.step hs ?_
      intro w8 hs hb
      go_wp2_with fail
      go_ret
      exact ⟨rfl, hs.2⟩
     | false =>
      obtain rfl : rr = up := e
      go_enter Tryz.func125, Tryz.ntmps125
      go_wp2_with fail
      refine K1.step hs ?_
      intro w1 hs hb
      replace XF := XF.on hb
      have lw : w.heap.size ≤ w1.heap.size := hs.size
      go_wp2_with fail
      refine wp_region_fresh1 5 4 6 #[.string ⟨#[]⟩, .string ⟨#[]⟩] (by kernel_rfl) (by kernel_rfl) (by kernel_rfl) (by omega) rfl (by kernel_rfl) ⟨_, 6, _, rfl, rfl, rfl, fun _ _ => by simp [execOp, go_sem, ptrTo]; rfl⟩ ?_
      apply Exists.intro
      refine ⟨fun S W hne hk hcl => ?_, ?_⟩
      ·simp only [List.take_succ_cons, List.take_zero, quietL, List.mem_cons, List.not_mem_nil, or_false, Nat.reduceAdd, Nat.reduceEqDiff, reduceIte, Nat.zero_add]
       have kk0 := XF.in hk (i := 0) (v := .string a) rfl
       have kk1 := XF.in hk (i := 1) (v := .string b) rfl
       repeat (go_big_quiet_step (first | (with_reducible exact KO.fresh hs hk hcl) | (with_reducible exact KS.fresh hs hk hcl)))
       exact wpQuiet_nil rfl
      intro b1 v1 hb1 hv1 hx1
      simp only [List.drop_succ_cons, List.drop_zero, ptrTo]
      have z0 := hx1.cell (i := 0) (v := .string ⟨#[]⟩) rfl
      have z1 := hx1.cell (i := 1) (v := .string ⟨#[]⟩) rfl
      have g0 := hx1.frozen 0
      have g1 := hx1.frozen 1
      go_wp2_with fail
      have lF := XF.lt
      replace hs := ((hs.on hv1).set (b := b1) (by omega) 0 (.string pn)).set (b := b1) (by omega) 1 (.string pd)
      replace XF := ((XF.on hv1).other (c := b1) (by omega) 0 (.string pn)).other (c := b1) (by omega) 1 (.string pd)
      have XP : Bx ((v1.setCell ⟨b1, 0, none⟩ (.string pn)).setCell ⟨b1, 1, none⟩ (.string pd)) b1 #[.string pn, .string pd] := (hx1.set 0 (.string pn)).set 1 (.string pd)
      clear z0 z1 g0 g1 hx1 hv1 hb1 lF
      generalize (v1.setCell ⟨b1, 0, none⟩ (.string pn)).setCell ⟨b1, 1, none⟩ (.string pd) = W8 at *
      refine KZ.step hs ?_
      intro w2 hs hb
      replace XF := XF.on hb
      replace XP := XP.on hb
      replace XF := XF.alloc (.cells #[.string ⟨#[]⟩, .string ⟨#[]⟩] 34)
      replace XP := XP.alloc (.cells #[.string ⟨#[]⟩, .string ⟨#[]⟩] 34)
      replace hs := hs.alloc (.cells #[.string ⟨#[]⟩, .string ⟨#[]⟩] 34)
      have XZ := Bx.new w2 #[.string ⟨#[]⟩, .string ⟨#[]⟩] 34
      have p0 := XP.cell (i := 0) (v := .string pn) rfl
      have p1 := XP.cell (i := 1) (v := .string pd) rfl
      have zz0 := XZ.cell (i := 0) (v := .string ⟨#[]⟩) rfl
      have zz1 := XZ.cell (i := 1) (v := .string ⟨#[]⟩) rfl
      go_wp2_with fail
      refine KC1.step hs ?_
      intro w3 hs hb
      clear p0 p1 zz0 zz1
      replace XF := XF.on hb
      replace XP := XP.on hb
      replace XZ := XZ.on hb
      go_wp2_with fail
      refine KA.step hs ?_
      intro w4 hs hb
      replace XF := XF.on hb
      replace XP := XP.on hb
      replace XZ := XZ.on hb
      go_wp2_with fail
      refine KN.step hs ?_
      intro w5 hs hb
      replace XF := XF.on hb
      replace XP := XP.on hb
      replace XZ := XZ.on hb
      replace XF := XF.alloc (.cells #[.string ⟨#[49]⟩, .string ⟨#[50]⟩] 34)
      replace XP := XP.alloc (.cells #[.string ⟨#[49]⟩, .string ⟨#[50]⟩] 34)
      replace XZ := XZ.alloc (.cells #[.string ⟨#[49]⟩, .string ⟨#[50]⟩] 34)
      replace hs := hs.alloc (.cells #[.string ⟨#[49]⟩, .string ⟨#[50]⟩] 34)
      have XH := Bx.new w5 #[.string ⟨#[49]⟩, .string ⟨#[50]⟩] 34
      have p0 := XP.cell (i := 0) (v := .string pn) rfl
      have p1 := XP.cell (i := 1) (v := .string pd) rfl
      have hh0 := XH.cell (i := 0) (v := .string ⟨#[49]⟩) rfl
      have hh1 := XH.cell (i := 1) (v := .string ⟨#[50]⟩) rfl
      go_wp2_with fail
      refine KC2.step hs ?_
      intro w6 hs hb
      clear p0 p1 hh0 hh1
      replace XF := XF.on hb
      replace XZ := XZ.on hb
      have f0 := XF.cell (i := 0) (v := .string a) rfl
      have f1 := XF.cell (i := 1) (v := .string b) rfl
      have zz0 := XZ.cell (i := 0) (v := .string ⟨#[]⟩) rfl
      have zz1 := XZ.cell (i := 1) (v := .string ⟨#[]⟩) rfl
      go_wp2_with fail
      refine KC3.step hs ?_
      intro w7 hs hb
      clear f0 f1 zz0 zz1
      go_wp2_with fail
      refine KE.step hs ?_
      intro w8 hs hb
      go_wp2_with fail
      go_ret
      exact ⟨rfl, hs.2⟩
  by_cases h2 : m = 2
  ·subst h2
   have e := HM.out 2 _ rfl
   rw [show upB 2 c ng ev = (decide (0 < c) || ((c == 0) && !ng)) from rfl, q41, q42] at e
   rw [HRR.out] at e
   clear HM HRR
   cases t1 with
   | true =>
    obtain rfl : rr = up := e
    go_enter Tryz.func125, Tryz.ntmps125
    go_wp2_with fail
    refine K1.step hs ?_
    intro w1 hs hb
    replace XF := XF.on hb
    have lw : w.heap.size ≤ w1.heap.size := hs.size
    go_wp2_with fail
    refine wp_region_fresh1 5 4 6 #[.string ⟨#[]⟩, .string ⟨#[]⟩] (by kernel_rfl) (by kernel_rfl) (by kernel_rfl) (by omega) rfl (by kernel_rfl) ⟨_, 6, _, rfl, rfl, rfl, fun _ _ => by simp [execOp, go_sem, ptrTo]; rfl⟩ ?_
    apply Exists.intro
    refine ⟨fun S W hne hk hcl => ?_, ?_⟩
    ·simp only [List.take_succ_cons, List.take_zero, quietL, List.mem_cons, List.not_mem_nil, or_false, Nat.reduceAdd, Nat.reduceEqDiff, reduceIte, Nat.zero_add]
     have kk0 := XF.in hk (i := 0) (v := .string a) rfl
     have kk1 := XF.in hk (i := 1) (v := .string b) rfl
     repeat (go_big_quiet_step (first | (with_reducible exact KO.fresh hs hk hcl) | (with_reducible exact KS.fresh hs hk hcl)))
     exact wpQuiet_nil rfl
    intro b1 v1 hb1 hv1 hx1
    simp only [List.drop_succ_cons, List.drop_zero, ptrTo]
    have z0 := hx1.cell (i := 0) (v := .string ⟨#[]⟩) rfl
    have z1 := hx1.cell (i := 1) (v := .string ⟨#[]⟩) rfl
    have g0 := hx1.frozen 0
    have g1 := hx1.frozen 1
    go_wp2_with fail
    have lF := XF.lt
    replace hs := ((hs.on hv1).set (b := b1) (by omega) 0 (.string pn)).set (b := b1) (by omega) 1 (.string pd)
    replace XF := ((XF.on hv1).other (c := b1) (by omega) 0 (.string pn)).other (c := b1) (by omega) 1 (.string pd)
    have XP : Bx ((v1.setCell ⟨b1, 0, none⟩ (.string pn)).setCell ⟨b1, 1, none⟩ (.string pd)) b1 #[.string pn, .string pd] := (hx1.set 0 (.string pn)).set 1 (.string pd)
    clear z0 z1 g0 g1 hx1 hv1 hb1 lF
    generalize (v1.setCell ⟨b1, 0, none⟩ (.string pn)).setCell ⟨b1, 1, none⟩ (.string pd) = W8 at *
    refine KZ.step hs ?_
    intro w2 hs hb
    replace XF := XF.on hb
    replace XP := XP.on hb
    replace XF := XF.alloc (.cells #[.string ⟨#[]⟩, .string ⟨#[]⟩] 34)
    replace XP := XP.alloc (.cells #[.string ⟨#[]⟩, .string ⟨#[]⟩] 34)
    replace hs := hs.alloc (.cells #[.string ⟨#[]⟩, .string ⟨#[]⟩] 34)
    have XZ := Bx.new w2 #[.string ⟨#[]⟩, .string ⟨#[]⟩] 34
    have p0 := XP.cell (i := 0) (v := .string pn) rfl
    have p1 := XP.cell (i := 1) (v := .string pd) rfl
    have zz0 := XZ.cell (i := 0) (v := .string ⟨#[]⟩) rfl
    have zz1 := XZ.cell (i := 1) (v := .string ⟨#[]⟩) rfl
    go_wp2_with fail
    refine KC1.step hs ?_
    intro w3 hs hb
    clear p0 p1 zz0 zz1
    replace XF := XF.on hb
    replace XP := XP.on hb
    replace XZ := XZ.on hb
    go_wp2_with fail
    refine KA.step hs ?_
    intro w4 hs hb
    replace XF := XF.on hb
    replace XP := XP.on hb
    replace XZ := XZ.on hb
    go_wp2_with fail
    refine KN.step hs ?_
    intro w5 hs hb
    replace XF := XF.on hb
    replace XP := XP.on hb
    replace XZ := XZ.on hb
    replace XF := XF.alloc (.cells #[.string ⟨#[49]⟩, .string ⟨#[50]⟩] 34)
    replace XP := XP.alloc (.cells #[.string ⟨#[49]⟩, .string ⟨#[50]⟩] 34)
    replace XZ := XZ.alloc (.cells #[.string ⟨#[49]⟩, .string ⟨#[50]⟩] 34)
    replace hs := hs.alloc (.cells #[.string ⟨#[49]⟩, .string ⟨#[50]⟩] 34)
    have XH := Bx.new w5 #[.string ⟨#[49]⟩, .string ⟨#[50]⟩] 34
    have p0 := XP.cell (i := 0) (v := .string pn) rfl
    have p1 := XP.cell (i := 1) (v := .string pd) rfl
    have hh0 := XH.cell (i := 0) (v := .string ⟨#[49]⟩) rfl
    have hh1 := XH.cell (i := 1) (v := .string ⟨#[50]⟩) rfl
    go_wp2_with fail
    refine KC2.step hs ?_
    intro w6 hs hb
    clear p0 p1 hh0 hh1
    replace XF := XF.on hb
    replace XZ := XZ.on hb
    have f0 := XF.cell (i := 0) (v := .string a) rfl
    have f1 := XF.cell (i := 1) (v := .string b) rfl
    have zz0 := XZ.cell (i := 0) (v := .string ⟨#[]⟩) rfl
    have zz1 := XZ.cell (i := 1) (v := .string ⟨#[]⟩) rfl
    go_wp2_with fail
    refine KC3.step hs ?_
    intro w7 hs hb
    clear f0 f1 zz0 zz1
    go_wp2_with fail
    go_ret
    exact ⟨rfl, hs.2⟩
   | false =>
    cases t2 with
    | false =>
     obtain rfl : rr = lo := e
     go_enter Tryz.func125, Tryz.ntmps125
     go_wp2_with fail
     refine K1.step hs ?_
     intro w1 hs hb
     replace XF := XF.on hb
     have lw : w.heap.size ≤ w1.heap.size := hs.size
     go_wp2_with fail
     refine wp_region_fresh1 5 4 6 #[.string ⟨#[]⟩, .string ⟨#[]⟩] (by kernel_rfl) (by kernel_rfl) (by kernel_rfl) (by omega) rfl (by kernel_rfl) ⟨_, 6, _, rfl, rfl, rfl, fun _ _ => by simp [execOp, go_sem, ptrTo]; rfl⟩ ?_
     apply Exists.intro
     refine ⟨fun S W hne hk hcl => ?_, ?_⟩
     ·simp only [List.take_succ_cons, List.take_zero, quietL, List.mem_cons, List.not_mem_nil, or_false, Nat.reduceAdd, Nat.reduceEqDiff, reduceIte, Nat.zero_add]
      have kk0 := XF.in hk (i := 0) (v := .string a) rfl
      have kk1 := XF.in hk (i := 1) (v := .string b) rfl
      repeat (go_big_quiet_step (first | (with_reducible exact KO.fresh hs hk hcl) | (with_reducible exact KS.fresh hs hk hcl)))
      exact wpQuiet_nil rfl
     intro b1 v1 hb1 hv1 hx1
     simp only [List.drop_succ_cons, List.drop_zero, ptrTo]
     have z0 := hx1.cell (i := 0) (v := .string ⟨#[]⟩) rfl
     have z1 := hx1.cell (i := 1) (v := .string ⟨#[]⟩) rfl
     have g0 := hx1.frozen 0
     have g1 := hx1.frozen 1
     go_wp2_with fail
     have lF := XF.lt
     replace hs := ((hs.on hv1).set (b := b1) (by omega) 0 (.string pn)).set (b := b1) (by omega) 1 (.string pd)
     replace XF := ((XF.on hv1).other (c := b1) (by omega) 0 (.string pn)).other (c := b1) (by omega) 1 (.string pd)
     have XP : Bx ((v1.setCell ⟨b1, 0, none⟩ (.string pn)).setCell ⟨b1, 1, none⟩ (.string pd)) b1 #[.string pn, .string pd] := (hx1.set 0 (.string pn)).set 1 (.string pd)
     clear z0 z1 g0 g1 hx1 hv1 hb1 lF
     generalize (v1.setCell ⟨b1, 0, none⟩ (.string pn)).setCell ⟨b1, 1, none⟩ (.string pd) = W8 at *
     refine KZ.step hs ?_
     intro w2 hs hb
     replace XF := XF.on hb
     replace XP := XP.on hb
     replace XF := XF.alloc (.cells #[.string ⟨#[]⟩, .string ⟨#[]⟩] 34)
     replace XP := XP.alloc (.cells #[.string ⟨#[]⟩, .string ⟨#[]⟩] 34)
     replace hs := hs.alloc (.cells #[.string ⟨#[]⟩, .string ⟨#[]⟩] 34)
     have XZ := Bx.new w2 #[.string ⟨#[]⟩, .string ⟨#[]⟩] 34
     have p0 := XP.cell (i := 0) (v := .string pn) rfl
     have p1 := XP.cell (i := 1) (v := .string pd) rfl
     have zz0 := XZ.cell (i := 0) (v := .string ⟨#[]⟩) rfl
     have zz1 := XZ.cell (i := 1) (v := .string ⟨#[]⟩) rfl
     go_wp2_with fail
     refine KC1.step hs ?_
     intro w3 hs hb
     clear p0 p1 zz0 zz1
     replace XF := XF.on hb
     replace XP := XP.on hb
     replace XZ := XZ.on hb
     go_wp2_with fail
     refine KA.step hs ?_
     intro w4 hs hb
     replace XF := XF.on hb
     replace XP := XP.on hb
     replace XZ := XZ.on hb
     go_wp2_with fail
     refine KN.step hs ?_
     intro w5 hs hb
     replace XF := XF.on hb
     replace XP := XP.on hb
     replace XZ := XZ.on hb
     replace XF := XF.alloc (.cells #[.string ⟨#[49]⟩, .string ⟨#[50]⟩] 34)
     replace XP := XP.alloc (.cells #[.string ⟨#[49]⟩, .string ⟨#[50]⟩] 34)
     replace XZ := XZ.alloc (.cells #[.string ⟨#[49]⟩, .string ⟨#[50]⟩] 34)
     replace hs := hs.alloc (.cells #[.string ⟨#[49]⟩, .string ⟨#[50]⟩] 34)
     have XH := Bx.new w5 #[.string ⟨#[49]⟩, .string ⟨#[50]⟩] 34
     have p0 := XP.cell (i := 0) (v := .string pn) rfl
     have p1 := XP.cell (i := 1) (v := .string pd) rfl
     have hh0 := XH.cell (i := 0) (v := .string ⟨#[49]⟩) rfl
     have hh1 := XH.cell (i := 1) (v := .string ⟨#[50]⟩) rfl
     go_wp2_with fail
     refine KC2.step hs ?_
     intro w6 hs hb
     clear p0 p1 hh0 hh1
     replace XF := XF.on hb
     replace XZ := XZ.on hb
     have f0 := XF.cell (i := 0) (v := .string a) rfl
     have f1 := XF.cell (i := 1) (v := .string b) rfl
     have zz0 := XZ.cell (i := 0) (v := .string ⟨#[]⟩) rfl
     have zz1 := XZ.cell (i := 1) (v := .string ⟨#[]⟩) rfl
     go_wp2_with fail
     refine KC3.step hs ?_
     intro w7 hs hb
     clear f0 f1 zz0 zz1
     go_wp2_with fail
     go_ret
     exact ⟨rfl, hs.2⟩
    | true =>
     cases ng with
     | true =>
      obtain rfl : rr = lo := e
      go_enter Tryz.func125, Tryz.ntmps125
      go_wp2_with fail
      refine K1.step hs ?_
      intro w1 hs hb
      replace XF := XF.on hb
      have lw : w.heap.size ≤ w1.heap.size := hs.size
      go_wp2_with fail
      refine wp_region_fresh1 5 4 6 #[.string ⟨#[]⟩, .string ⟨#[]⟩] (by kernel_rfl) (by kernel_rfl) (by kernel_rfl) (by omega) rfl (by kernel_rfl) ⟨_, 6, _, rfl, rfl, rfl, fun _ _ => by simp [execOp, go_sem, ptrTo]; rfl⟩ ?_
      apply Exists.intro
      refine ⟨fun S W hne hk hcl => ?_, ?_⟩
      ·simp only [List.take_succ_cons, List.take_zero, quietL, List.mem_cons, List.not_mem_nil, or_false, Nat.reduceAdd, Nat.reduceEqDiff, reduceIte, Nat.zero_add]
       have kk0 := XF.in hk (i := 0) (v := .string a) rfl
       have kk1 := XF.in hk (i := 1) (v := .string b) rfl
       repeat (go_big_quiet_step (first | (with_reducible exact KO.fresh hs hk hcl) | (with_reducible exact KS.fresh hs hk hcl)))
       exact wpQuiet_nil rfl
      intro b1 v1 hb1 hv1 hx1
      simp only [List.drop_succ_cons, List.drop_zero, ptrTo]
      have z0 := hx1.cell (i := 0) (v := .string ⟨#[]⟩) rfl
      have z1 := hx1.cell (i := 1) (v := .string ⟨#[]⟩) rfl
      have g0 := hx1.frozen 0
      have g1 := hx1.frozen 1
      go_wp2_with fail
      have lF := XF.lt
      replace hs := ((hs.on hv1).set (b := b1) (by omega) 0 (.string pn)).set (b := b1) (by omega) 1 (.string pd)
      replace XF := ((XF.on hv1).other (c := b1) (by omega) 0 (.string pn)).other (c := b1) (by omega) 1 (.string pd)
      have XP : Bx ((v1.setCell ⟨b1, 0, none⟩ (.string pn)).setCell ⟨b1, 1, none⟩ (.string pd)) b1 #[.string pn, .string pd] := (hx1.set 0 (.string pn)).set 1 (.string pd)
      clear z0 z1 g0 g1 hx1 hv1 hb1 lF
      generalize (v1.setCell ⟨b1, 0, none⟩ (.string pn)).setCell ⟨b1, 1, none⟩ (.string pd) = W8 at *
      refine KZ.step hs ?_
      intro w2 hs hb
      replace XF := XF.on hb
      replace XP := XP.on hb
      replace XF := XF.alloc (.cells #[.string ⟨#[]⟩, .string ⟨#[]⟩] 34)
      replace XP := XP.alloc (.cells #[.string ⟨#[]⟩, .string ⟨#[]⟩] 34)
      replace hs := hs.alloc (.cells #[.string ⟨#[]⟩, .string ⟨#[]⟩] 34)
      have XZ := Bx.new w2 #[.string ⟨#[]⟩, .string ⟨#[]⟩] 34
      have p0 := XP.cell (i := 0) (v := .string pn) rfl
      have p1 := XP.cell (i := 1) (v := .string pd) rfl
      have zz0 := XZ.cell (i := 0) (v := .string ⟨#[]⟩) rfl
      have zz1 := XZ.cell (i := 1) (v := .string ⟨#[]⟩) rfl
      go_wp2_with fail
      refine KC1.step hs ?_
      intro w3 hs hb
      clear p0 p1 zz0 zz1
      replace XF := XF.on hb
      replace XP := XP.on hb
      replace XZ := XZ.on hb
      go_wp2_with fail
      refine KA.step hs ?_
      intro w4 hs hb
      replace XF := XF.on hb
      replace XP := XP.on hb
      replace XZ := XZ.on hb
      go_wp2_with fail
      refine KN.step hs ?_
      intro w5 hs hb
      replace XF := XF.on hb
      replace XP := XP.on hb
      replace XZ := XZ.on hb
      replace XF := XF.alloc (.cells #[.string ⟨#[49]⟩, .string ⟨#[50]⟩] 34)
      replace XP := XP.alloc (.cells #[.string ⟨#[49]⟩, .string ⟨#[50]⟩] 34)
      replace XZ := XZ.alloc (.cells #[.string ⟨#[49]⟩, .string ⟨#[50]⟩] 34)
      replace hs := hs.alloc (.cells #[.string ⟨#[49]⟩, .string ⟨#[50]⟩] 34)
      have XH := Bx.new w5 #[.string ⟨#[49]⟩, .string ⟨#[50]⟩] 34
      have p0 := XP.cell (i := 0) (v := .string pn) rfl
      have p1 := XP.cell (i := 1) (v := .string pd) rfl
      have hh0 := XH.cell (i := 0) (v := .string ⟨#[49]⟩) rfl
      have hh1 := XH.cell (i := 1) (v := .string ⟨#[50]⟩) rfl
      go_wp2_with fail
      refine KC2.step hs ?_
      intro w6 hs hb
      clear p0 p1 hh0 hh1
      replace XF := XF.on hb
      replace XZ := XZ.on hb
      have f0 := XF.cell (i := 0) (v := .string a) rfl
      have f1 := XF.cell (i := 1) (v := .string b) rfl
      have zz0 := XZ.cell (i := 0) (v := .string ⟨#[]⟩) rfl
      have zz1 := XZ.cell (i := 1) (v := .string ⟨#[]⟩) rfl
      go_wp2_with fail
      refine KC3.step hs ?_
      intro w7 hs hb
      clear f0 f1 zz0 zz1
      go_wp2_with fail
      go_ret
      exact ⟨rfl, hs.2⟩
     | false =>
      obtain rfl : rr = up := e
      go_enter Tryz.func125, Tryz.ntmps125
      go_wp2_with fail
      refine K1.step hs ?_
      intro w1 hs hb
      replace XF := XF.on hb
      have lw : w.heap.size ≤ w1.heap.size := hs.size
      go_wp2_with fail
      refine wp_region_fresh1 5 4 6 #[.string ⟨#[]⟩, .string ⟨#[]⟩] (by kernel_rfl) (by kernel_rfl) (by kernel_rfl) (by omega) rfl (by kernel_rfl) ⟨_, 6, _, rfl, rfl, rfl, fun _ _ => by simp [execOp, go_sem, ptrTo]; rfl⟩ ?_
      apply Exists.intro
      refine ⟨fun S W hne hk hcl => ?_, ?_⟩
      ·simp only [List.take_succ_cons, List.take_zero, quietL, List.mem_cons, List.not_mem_nil, or_false, Nat.reduceAdd, Nat.reduceEqDiff, reduceIte, Nat.zero_add]
       have kk0 := XF.in hk (i := 0) (v := .string a) rfl
       have kk1 := XF.in hk (i := 1) (v := .string b) rfl
       repeat (go_big_quiet_step (first | (with_reducible exact KO.fresh hs hk hcl) | (with_reducible exact KS.fresh hs hk hcl)))
       exact wpQuiet_nil rfl
      intro b1 v1 hb1 hv1 hx1
      simp only [List.drop_succ_cons, List.drop_zero, ptrTo]
      have z0 := hx1.cell (i := 0) (v := .string ⟨#[]⟩) rfl
      have z1 := hx1.cell (i := 1) (v := .string ⟨#[]⟩) rfl
      have g0 := hx1.frozen 0
      have g1 := hx1.frozen 1
      go_wp2_with fail
      have lF := XF.lt
      replace hs := ((hs.on hv1).set (b := b1) (by omega) 0 (.string pn)).set (b := b1) (by omega) 1 (.string pd)
      replace XF := ((XF.on hv1).other (c := b1) (by omega) 0 (.string pn)).other (c := b1) (by omega) 1 (.string pd)
      have XP : Bx ((v1.setCell ⟨b1, 0, none⟩ (.string pn)).setCell ⟨b1, 1, none⟩ (.string pd)) b1 #[.string pn, .string pd] := (hx1.set 0 (.string pn)).set 1 (.string pd)
      clear z0 z1 g0 g1 hx1 hv1 hb1 lF
      generalize (v1.setCell ⟨b1, 0, none⟩ (.string pn)).setCell ⟨b1, 1, none⟩ (.string pd) = W8 at *
      refine KZ.step hs ?_
      intro w2 hs hb
      replace XF := XF.on hb
      replace XP := XP.on hb
      replace XF := XF.alloc (.cells #[.string ⟨#[]⟩, .string ⟨#[]⟩] 34)
      replace XP := XP.alloc (.cells #[.string ⟨#[]⟩, .string ⟨#[]⟩] 34)
      replace hs := hs.alloc (.cells #[.string ⟨#[]⟩, .string ⟨#[]⟩] 34)
      have XZ := Bx.new w2 #[.string ⟨#[]⟩, .string ⟨#[]⟩] 34
      have p0 := XP.cell (i := 0) (v := .string pn) rfl
      have p1 := XP.cell (i := 1) (v := .string pd) rfl
      have zz0 := XZ.cell (i := 0) (v := .string ⟨#[]⟩) rfl
      have zz1 := XZ.cell (i := 1) (v := .string ⟨#[]⟩) rfl
      go_wp2_with fail
      refine KC1.step hs ?_
      intro w3 hs hb
      clear p0 p1 zz0 zz1
      replace XF := XF.on hb
      replace XP := XP.on hb
      replace XZ := XZ.on hb
      go_wp2_with fail
      refine KA.step hs ?_
      intro w4 hs hb
      replace XF := XF.on hb
      replace XP := XP.on hb
      replace XZ := XZ.on hb
      go_wp2_with fail
      refine KN.step hs ?_
      intro w5 hs hb
      replace XF := XF.on hb
      replace XP := XP.on hb
      replace XZ := XZ.on hb
      replace XF := XF.alloc (.cells #[.string ⟨#[49]⟩, .string ⟨#[50]⟩] 34)
      replace XP := XP.alloc (.cells #[.string ⟨#[49]⟩, .string ⟨#[50]⟩] 34)
      replace XZ := XZ.alloc (.cells #[.string ⟨#[49]⟩, .string ⟨#[50]⟩] 34)
      replace hs := hs.alloc (.cells #[.string ⟨#[49]⟩, .string ⟨#[50]⟩] 34)
      have XH := Bx.new w5 #[.string ⟨#[49]⟩, .string ⟨#[50]⟩] 34
      have p0 := XP.cell (i := 0) (v := .string pn) rfl
      have p1 := XP.cell (i := 1) (v := .string pd) rfl
      have hh0 := XH.cell (i := 0) (v := .string ⟨#[49]⟩) rfl
      have hh1 := XH.cell (i := 1) (v := .string ⟨#[50]⟩) rfl
      go_wp2_with fail
      refine KC2.step hs ?_
      intro w6 hs hb
      clear p0 p1 hh0 hh1
      replace XF := XF.on hb
      replace XZ := XZ.on hb
      have f0 := XF.cell (i := 0) (v := .string a) rfl
      have f1 := XF.cell (i := 1) (v := .string b) rfl
      have zz0 := XZ.cell (i := 0) (v := .string ⟨#[]⟩) rfl
      have zz1 := XZ.cell (i := 1) (v := .string ⟨#[]⟩) rfl
      go_wp2_with fail
      refine KC3.step hs ?_
      intro w7 hs hb
      clear f0 f1 zz0 zz1
      go_wp2_with fail
      go_ret
      exact ⟨rfl, hs.2⟩
  by_cases h3 : m = 3
  ·subst h3
   have e := HM.out 3 _ rfl
   rw [show upB 3 c ng ev = ng from rfl] at e
   rw [HRR.out] at e
   clear HM HRR
   cases ng with
   | true =>
    obtain rfl : rr = up := e
    go_enter Tryz.func125, Tryz.ntmps125
    go_wp2_with fail
    refine K1.step hs ?_
    intro w1 hs hb
    replace XF := XF.on hb
    have lw : w.heap.size ≤ w1.heap.size := hs.size
    go_wp2_with fail
    refine wp_region_fresh1 5 4 6 #[.string ⟨#[]⟩, .string ⟨#[]⟩] (by kernel_rfl) (by kernel_rfl) (by kernel_rfl) (by omega) rfl (by kernel_rfl) ⟨_, 6, _, rfl, rfl, rfl, fun _ _ => by simp [execOp, go_sem, ptrTo]; rfl⟩ ?_
    apply Exists.intro
    refine ⟨fun S W hne hk hcl => ?_, ?_⟩
    ·simp only [List.take_succ_cons, List.take_zero, quietL, List.mem_cons, List.not_mem_nil, or_false, Nat.reduceAdd, Nat.reduceEqDiff, reduceIte, Nat.zero_add]
     have kk0 := XF.in hk (i := 0) (v := .string a) rfl
     have kk1 := XF.in hk (i := 1) (v := .string b) rfl
     repeat (go_big_quiet_step (first | (with_reducible exact KO.fresh hs hk hcl) | (with_reducible exact KS.fresh hs hk hcl)))
     exact wpQuiet_nil rfl
    intro b1 v1 hb1 hv1 hx1
    simp only [List.drop_succ_cons, List.drop_zero, ptrTo]
    have z0 := hx1.cell (i := 0) (v := .string ⟨#[]⟩) rfl
    have z1 := hx1.cell (i := 1) (v := .string ⟨#[]⟩) rfl
    have g0 := hx1.frozen 0
    have g1 := hx1.frozen 1
    go_wp2_with fail
    have lF := XF.lt
    replace hs := ((hs.on hv1).set (b := b1) (by omega) 0 (.string pn)).set (b := b1) (by omega) 1 (.string pd)
    replace XF := ((XF.on hv1).other (c := b1) (by omega) 0 (.string pn)).other (c := b1) (by omega) 1 (.string pd)
    have XP : Bx ((v1.setCell ⟨b1, 0, none⟩ (.string pn)).setCell ⟨b1, 1, none⟩ (.string pd)) b1 #[.string pn, .string pd] := (hx1.set 0 (.string pn)).set 1 (.string pd)
    clear z0 z1 g0 g1 hx1 hv1 hb1 lF
    generalize (v1.setCell ⟨b1, 0, none⟩ (.string pn)).setCell ⟨b1, 1, none⟩ (.string pd) = W8 at *
    refine KZ.step hs ?_
    intro w2 hs hb
    replace XF := XF.on hb
    replace XP := XP.on hb
    replace XF := XF.alloc (.cells #[.string ⟨#[]⟩, .string ⟨#[]⟩] 34)
    replace XP := XP.alloc (.cells #[.string ⟨#[]⟩, .string ⟨#[]⟩] 34)
    replace hs := hs.alloc (.cells #[.string ⟨#[]⟩, .string ⟨#[]⟩] 34)
    have XZ := Bx.new w2 #[.string ⟨#[]⟩, .string ⟨#[]⟩] 34
    have p0 := XP.cell (i := 0) (v := .string pn) rfl
    have p1 := XP.cell (i := 1) (v := .string pd) rfl
    have zz0 := XZ.cell (i := 0) (v := .string ⟨#[]⟩) rfl
    have zz1 := XZ.cell (i := 1) (v := .string ⟨#[]⟩) rfl
    go_wp2_with fail
    refine KC1.step hs ?_
    intro w3 hs hb
    clear p0 p1 zz0 zz1
    replace XF := XF.on hb
    replace XP := XP.on hb
    replace XZ := XZ.on hb
    go_wp2_with fail
    refine KA.step hs ?_
    intro w4 hs hb
    replace XF := XF.on hb
    replace XP := XP.on hb
    replace XZ := XZ.on hb
    go_wp2_with fail
    refine KN.step hs ?_
    intro w5 hs hb
    replace XF := XF.on hb
    replace XP := XP.on hb
    replace XZ := XZ.on hb
    replace XF := XF.alloc (.cells #[.string ⟨#[49]⟩, .string ⟨#[50]⟩] 34)
    replace XP := XP.alloc (.cells #[.string ⟨#[49]⟩, .string ⟨#[50]⟩] 34)
    replace XZ := XZ.alloc (.cells #[.string ⟨#[49]⟩, .string ⟨#[50]⟩] 34)
    replace hs := hs.alloc (.cells #[.string ⟨#[49]⟩, .string ⟨#[50]⟩] 34)
    have XH := Bx.new w5 #[.string ⟨#[49]⟩, .string ⟨#[50]⟩] 34
    have p0 := XP.cell (i := 0) (v := .string pn) rfl
    have p1 := XP.cell (i := 1) (v := .string pd) rfl
    have hh0 := XH.cell (i := 0) (v := .string ⟨#[49]⟩) rfl
    have hh1 := XH.cell (i := 1) (v := .string ⟨#[50]⟩) rfl
    go_wp2_with fail
    refine KC2.step hs ?_
    intro w6 hs hb
    clear p0 p1 hh0 hh1
    replace XF := XF.on hb
    replace XZ := XZ.on hb
    have f0 := XF.cell (i := 0) (v := .string a) rfl
    have f1 := XF.cell (i := 1) (v := .string b) rfl
    have zz0 := XZ.cell (i := 0) (v := .string ⟨#[]⟩) rfl
    have zz1 := XZ.cell (i := 1) (v := .string ⟨#[]⟩) rfl
    go_wp2_with fail
    refine KC3.step hs ?_
    intro w7 hs hb
    clear f0 f1 zz0 zz1
    go_wp2_with fail
    go_ret
    exact ⟨rfl, hs.2⟩
   | false =>
    obtain rfl : rr = lo := e
    go_enter Tryz.func125, Tryz.ntmps125
    go_wp2_with fail
    refine K1.step hs ?_
    intro w1 hs hb
    replace XF := XF.on hb
    have lw : w.heap.size ≤ w1.heap.size := hs.size
    go_wp2_with fail
    refine wp_region_fresh1 5 4 6 #[.string ⟨#[]⟩, .string ⟨#[]⟩] (by kernel_rfl) (by kernel_rfl) (by kernel_rfl) (by omega) rfl (by kernel_rfl) ⟨_, 6, _, rfl, rfl, rfl, fun _ _ => by simp [execOp, go_sem, ptrTo]; rfl⟩ ?_
    apply Exists.intro
    refine ⟨fun S W hne hk hcl => ?_, ?_⟩
    ·simp only [List.take_succ_cons, List.take_zero, quietL, List.mem_cons, List.not_mem_nil, or_false, Nat.reduceAdd, Nat.reduceEqDiff, reduceIte, Nat.zero_add]
     have kk0 := XF.in hk (i := 0) (v := .string a) rfl
     have kk1 := XF.in hk (i := 1) (v := .string b) rfl
     repeat (go_big_quiet_step (first | (with_reducible exact KO.fresh hs hk hcl) | (with_reducible exact KS.fresh hs hk hcl)))
     exact wpQuiet_nil rfl
    intro b1 v1 hb1 hv1 hx1
    simp only [List.drop_succ_cons, List.drop_zero, ptrTo]
    have z0 := hx1.cell (i := 0) (v := .string ⟨#[]⟩) rfl
    have z1 := hx1.cell (i := 1) (v := .string ⟨#[]⟩) rfl
    have g0 := hx1.frozen 0
    have g1 := hx1.frozen 1
    go_wp2_with fail
    have lF := XF.lt
    replace hs := ((hs.on hv1).set (b := b1) (by omega) 0 (.string pn)).set (b := b1) (by omega) 1 (.string pd)
    replace XF := ((XF.on hv1).other (c := b1) (by omega) 0 (.string pn)).other (c := b1) (by omega) 1 (.string pd)
    have XP : Bx ((v1.setCell ⟨b1, 0, none⟩ (.string pn)).setCell ⟨b1, 1, none⟩ (.string pd)) b1 #[.string pn, .string pd] := (hx1.set 0 (.string pn)).set 1 (.string pd)
    clear z0 z1 g0 g1 hx1 hv1 hb1 lF
    generalize (v1.setCell ⟨b1, 0, none⟩ (.string pn)).setCell ⟨b1, 1, none⟩ (.string pd) = W8 at *
    refine KZ.step hs ?_
    intro w2 hs hb
    replace XF := XF.on hb
    replace XP := XP.on hb
    replace XF := XF.alloc (.cells #[.string ⟨#[]⟩, .string ⟨#[]⟩] 34)
    replace XP := XP.alloc (.cells #[.string ⟨#[]⟩, .string ⟨#[]⟩] 34)
    replace hs := hs.alloc (.cells #[.string ⟨#[]⟩, .string ⟨#[]⟩] 34)
    have XZ := Bx.new w2 #[.string ⟨#[]⟩, .string ⟨#[]⟩] 34
    have p0 := XP.cell (i := 0) (v := .string pn) rfl
    have p1 := XP.cell (i := 1) (v := .string pd) rfl
    have zz0 := XZ.cell (i := 0) (v := .string ⟨#[]⟩) rfl
    have zz1 := XZ.cell (i := 1) (v := .string ⟨#[]⟩) rfl
    go_wp2_with fail
    refine KC1.step hs ?_
    intro w3 hs hb
    clear p0 p1 zz0 zz1
    replace XF := XF.on hb
    replace XP := XP.on hb
    replace XZ := XZ.on hb
    go_wp2_with fail
    refine KA.step hs ?_
    intro w4 hs hb
    replace XF := XF.on hb
    replace XP := XP.on hb
    replace XZ := XZ.on hb
    go_wp2_with fail
    refine KN.step hs ?_
    intro w5 hs hb
    replace XF := XF.on hb
    replace XP := XP.on hb
    replace XZ := XZ.on hb
    replace XF := XF.alloc (.cells #[.string ⟨#[49]⟩, .string ⟨#[50]⟩] 34)
    replace XP := XP.alloc (.cells #[.string ⟨#[49]⟩, .string ⟨#[50]⟩] 34)
    replace XZ := XZ.alloc (.cells #[.string ⟨#[49]⟩, .string ⟨#[50]⟩] 34)
    replace hs := hs.alloc (.cells #[.string ⟨#[49]⟩, .string ⟨#[50]⟩] 34)
    have XH := Bx.new w5 #[.string ⟨#[49]⟩, .string ⟨#[50]⟩] 34
    have p0 := XP.cell (i := 0) (v := .string pn) rfl
    have p1 := XP.cell (i := 1) (v := .string pd) rfl
    have hh0 := XH.cell (i := 0) (v := .string ⟨#[49]⟩) rfl
    have hh1 := XH.cell (i := 1) (v := .string ⟨#[50]⟩) rfl
    go_wp2_with fail
    refine KC2.step hs ?_
    intro w6 hs hb
    clear p0 p1 hh0 hh1
    replace XF := XF.on hb
    replace XZ := XZ.on hb
    have f0 := XF.cell (i := 0) (v := .string a) rfl
    have f1 := XF.cell (i := 1) (v := .string b) rfl
    have zz0 := XZ.cell (i := 0) (v := .string ⟨#[]⟩) rfl
    have zz1 := XZ.cell (i := 1) (v := .string ⟨#[]⟩) rfl
    go_wp2_with fail
    refine KC3.step hs ?_
    intro w7 hs hb
    clear f0 f1 zz0 zz1
    go_wp2_with fail
    go_ret
    exact ⟨rfl, hs.2⟩
  by_cases h4 : m = 4
  ·subst h4
   have e := HM.out 4 _ rfl
   rw [show upB 4 c ng ev = !ng from rfl] at e
   rw [HRR.out] at e
   clear HM HRR
   cases ng with
   | true =>
    obtain rfl : rr = lo := e
    go_enter Tryz.func125, Tryz.ntmps125
    go_wp2_with fail
    refine K1.step hs ?_
    intro w1 hs hb
    replace XF := XF.on hb
    have lw : w.heap.size ≤ w1.heap.size := hs.size
    go_wp2_with fail
    refine wp_region_fresh1 5 4 6 #[.string ⟨#[]⟩, .string ⟨#[]⟩] (by kernel_rfl) (by kernel_rfl) (by kernel_rfl) (by omega) rfl (by kernel_rfl) ⟨_, 6, _, rfl, rfl, rfl, fun _ _ => by simp [execOp, go_sem, ptrTo]; rfl⟩ ?_
    apply Exists.intro
    refine ⟨fun S W hne hk hcl => ?_, ?_⟩
    ·simp only [List.take_succ_cons, List.take_zero, quietL, List.mem_cons, List.not_mem_nil, or_false, Nat.reduceAdd, Nat.reduceEqDiff, reduceIte, Nat.zero_add]
     have kk0 := XF.in hk (i := 0) (v := .string a) rfl
     have kk1 := XF.in hk (i := 1) (v := .string b) rfl
     repeat (go_big_quiet_step (first | (with_reducible exact KO.fresh hs hk hcl) | (with_reducible exact KS.fresh hs hk hcl)))
     exact wpQuiet_nil rfl
    intro b1 v1 hb1 hv1 hx1
    simp only [List.drop_succ_cons, List.drop_zero, ptrTo]
    have z0 := hx1.cell (i := 0) (v := .string ⟨#[]⟩) rfl
    have z1 := hx1.cell (i := 1) (v := .string ⟨#[]⟩) rfl
    have g0 := hx1.frozen 0
    have g1 := hx1.frozen 1
    go_wp2_with fail
    have lF := XF.lt
    replace hs := ((hs.on hv1).set (b := b1) (by omega) 0 (.string pn)).set (b := b1) (by omega) 1 (.string pd)
    replace XF := ((XF.on hv1).other (c := b1) (by omega) 0 (.string pn)).other (c := b1) (by omega) 1 (.string pd)
    have XP : Bx ((v1.setCell ⟨b1, 0, none⟩ (.string pn)).setCell ⟨b1, 1, none⟩ (.string pd)) b1 #[.string pn, .string pd] := (hx1.set 0 (.string pn)).set 1 (.string pd)
    clear z0 z1 g0 g1 hx1 hv1 hb1 lF
    generalize (v1.setCell ⟨b1, 0, none⟩ (.string pn)).setCell ⟨b1, 1, none⟩ (.string pd) = W8 at *
    refine KZ.step hs ?_
    intro w2 hs hb
    replace XF := XF.on hb
    replace XP := XP.on hb
    replace XF := XF.alloc (.cells #[.string ⟨#[]⟩, .string ⟨#[]⟩] 34)
    replace XP := XP.alloc (.cells #[.string ⟨#[]⟩, .string ⟨#[]⟩] 34)
    replace hs := hs.alloc (.cells #[.string ⟨#[]⟩, .string ⟨#[]⟩] 34)
    have XZ := Bx.new w2 #[.string ⟨#[]⟩, .string ⟨#[]⟩] 34
    have p0 := XP.cell (i := 0) (v := .string pn) rfl
    have p1 := XP.cell (i := 1) (v := .string pd) rfl
    have zz0 := XZ.cell (i := 0) (v := .string ⟨#[]⟩) rfl
    have zz1 := XZ.cell (i := 1) (v := .string ⟨#[]⟩) rfl
    go_wp2_with fail
    refine KC1.step hs ?_
    intro w3 hs hb
    clear p0 p1 zz0 zz1
    replace XF := XF.on hb
    replace XP := XP.on hb
    replace XZ := XZ.on hb
    go_wp2_with fail
    refine KA.step hs ?_
    intro w4 hs hb
    replace XF := XF.on hb
    replace XP := XP.on hb
    replace XZ := XZ.on hb
    go_wp2_with fail
    refine KN.step hs ?_
    intro w5 hs hb
    replace XF := XF.on hb
    replace XP := XP.on hb
    replace XZ := XZ.on hb
    replace XF := XF.alloc (.cells #[.string ⟨#[49]⟩, .string ⟨#[50]⟩] 34)
    replace XP := XP.alloc (.cells #[.string ⟨#[49]⟩, .string ⟨#[50]⟩] 34)
    replace XZ := XZ.alloc (.cells #[.string ⟨#[49]⟩, .string ⟨#[50]⟩] 34)
    replace hs := hs.alloc (.cells #[.string ⟨#[49]⟩, .string ⟨#[50]⟩] 34)
    have XH := Bx.new w5 #[.string ⟨#[49]⟩, .string ⟨#[50]⟩] 34
    have p0 := XP.cell (i := 0) (v := .string pn) rfl
    have p1 := XP.cell (i := 1) (v := .string pd) rfl
    have hh0 := XH.cell (i := 0) (v := .string ⟨#[49]⟩) rfl
    have hh1 := XH.cell (i := 1) (v := .string ⟨#[50]⟩) rfl
    go_wp2_with fail
    refine KC2.step hs ?_
    intro w6 hs hb
    clear p0 p1 hh0 hh1
    replace XF := XF.on hb
    replace XZ := XZ.on hb
    have f0 := XF.cell (i := 0) (v := .string a) rfl
    have f1 := XF.cell (i := 1) (v := .string b) rfl
    have zz0 := XZ.cell (i := 0) (v := .string ⟨#[]⟩) rfl
    have zz1 := XZ.cell (i := 1) (v := .string ⟨#[]⟩) rfl
    go_wp2_with fail
    refine KC3.step hs ?_
    intro w7 hs hb
    clear f0 f1 zz0 zz1
    go_wp2_with fail
    go_ret
    exact ⟨rfl, hs.2⟩
   | false =>
    obtain rfl : rr = up := e
    go_enter Tryz.func125, Tryz.ntmps125
    go_wp2_with fail
    refine K1.step hs ?_
    intro w1 hs hb
    replace XF := XF.on hb
    have lw : w.heap.size ≤ w1.heap.size := hs.size
    go_wp2_with fail
    refine wp_region_fresh1 5 4 6 #[.string ⟨#[]⟩, .string ⟨#[]⟩] (by kernel_rfl) (by kernel_rfl) (by kernel_rfl) (by omega) rfl (by kernel_rfl) ⟨_, 6, _, rfl, rfl, rfl, fun _ _ => by simp [execOp, go_sem, ptrTo]; rfl⟩ ?_
    apply Exists.intro
    refine ⟨fun S W hne hk hcl => ?_, ?_⟩
    ·simp only [List.take_succ_cons, List.take_zero, quietL, List.mem_cons, List.not_mem_nil, or_false, Nat.reduceAdd, Nat.reduceEqDiff, reduceIte, Nat.zero_add]
     have kk0 := XF.in hk (i := 0) (v := .string a) rfl
     have kk1 := XF.in hk (i := 1) (v := .string b) rfl
     repeat (go_big_quiet_step (first | (with_reducible exact KO.fresh hs hk hcl) | (with_reducible exact KS.fresh hs hk hcl)))
     exact wpQuiet_nil rfl
    intro b1 v1 hb1 hv1 hx1
    simp only [List.drop_succ_cons, List.drop_zero, ptrTo]
    have z0 := hx1.cell (i := 0) (v := .string ⟨#[]⟩) rfl
    have z1 := hx1.cell (i := 1) (v := .string ⟨#[]⟩) rfl
    have g0 := hx1.frozen 0
    have g1 := hx1.frozen 1
    go_wp2_with fail
    have lF := XF.lt
    replace hs := ((hs.on hv1).set (b := b1) (by omega) 0 (.string pn)).set (b := b1) (by omega) 1 (.string pd)
    replace XF := ((XF.on hv1).other (c := b1) (by omega) 0 (.string pn)).other (c := b1) (by omega) 1 (.string pd)
    have XP : Bx ((v1.setCell ⟨b1, 0, none⟩ (.string pn)).setCell ⟨b1, 1, none⟩ (.string pd)) b1 #[.string pn, .string pd] := (hx1.set 0 (.string pn)).set 1 (.string pd)
    clear z0 z1 g0 g1 hx1 hv1 hb1 lF
    generalize (v1.setCell ⟨b1, 0, none⟩ (.string pn)).setCell ⟨b1, 1, none⟩ (.string pd) = W8 at *
    refine KZ.step hs ?_
    intro w2 hs hb
    replace XF := XF.on hb
    replace XP := XP.on hb
    replace XF := XF.alloc (.cells #[.string ⟨#[]⟩, .string ⟨#[]⟩] 34)
    replace XP := XP.alloc (.cells #[.string ⟨#[]⟩, .string ⟨#[]⟩] 34)
    replace hs := hs.alloc (.cells #[.string ⟨#[]⟩, .string ⟨#[]⟩] 34)
    have XZ := Bx.new w2 #[.string ⟨#[]⟩, .string ⟨#[]⟩] 34
    have p0 := XP.cell (i := 0) (v := .string pn) rfl
    have p1 := XP.cell (i := 1) (v := .string pd) rfl
    have zz0 := XZ.cell (i := 0) (v := .string ⟨#[]⟩) rfl
    have zz1 := XZ.cell (i := 1) (v := .string ⟨#[]⟩) rfl
    go_wp2_with fail
    refine KC1.step hs ?_
    intro w3 hs hb
    clear p0 p1 zz0 zz1
    replace XF := XF.on hb
    replace XP := XP.on hb
    replace XZ := XZ.on hb
    go_wp2_with fail
    refine KA.step hs ?_
    intro w4 hs hb
    replace XF := XF.on hb
    replace XP := XP.on hb
    replace XZ := XZ.on hb
    go_wp2_with fail
    refine KN.step hs ?_
    intro w5 hs hb
    replace XF := XF.on hb
    replace XP := XP.on hb
    replace XZ := XZ.on hb
    replace XF := XF.alloc (.cells #[.string ⟨#[49]⟩, .string ⟨#[50]⟩] 34)
    replace XP := XP.alloc (.cells #[.string ⟨#[49]⟩, .string ⟨#[50]⟩] 34)
    replace XZ := XZ.alloc (.cells #[.string ⟨#[49]⟩, .string ⟨#[50]⟩] 34)
    replace hs := hs.alloc (.cells #[.string ⟨#[49]⟩, .string ⟨#[50]⟩] 34)
    have XH := Bx.new w5 #[.string ⟨#[49]⟩, .string ⟨#[50]⟩] 34
    have p0 := XP.cell (i := 0) (v := .string pn) rfl
    have p1 := XP.cell (i := 1) (v := .string pd) rfl
    have hh0 := XH.cell (i := 0) (v := .string ⟨#[49]⟩) rfl
    have hh1 := XH.cell (i := 1) (v := .string ⟨#[50]⟩) rfl
    go_wp2_with fail
    refine KC2.step hs ?_
    intro w6 hs hb
    clear p0 p1 hh0 hh1
    replace XF := XF.on hb
    replace XZ := XZ.on hb
    have f0 := XF.cell (i := 0) (v := .string a) rfl
    have f1 := XF.cell (i := 1) (v := .string b) rfl
    have zz0 := XZ.cell (i := 0) (v := .string ⟨#[]⟩) rfl
    have zz1 := XZ.cell (i := 1) (v := .string ⟨#[]⟩) rfl
    go_wp2_with fail
    refine KC3.step hs ?_
    intro w7 hs hb
    clear f0 f1 zz0 zz1
    go_wp2_with fail
    go_ret
    exact ⟨rfl, hs.2⟩
  by_cases h5 : m = 5
  ·subst h5
   have e := HM.out 5 _ rfl
   rw [show upB 5 c ng ev = false from rfl] at e
   rw [HRR.out] at e
   clear HM HRR
   obtain rfl : rr = lo := e
   go_enter Tryz.func125, Tryz.ntmps125
   go_wp2_with fail
   refine K1.step hs ?_
   intro w1 hs hb
   replace XF := XF.on hb
   have lw : w.heap.size ≤ w1.heap.size := hs.size
   go_wp2_with fail
   refine wp_region_fresh1 5 4 6 #[.string ⟨#[]⟩, .string ⟨#[]⟩] (by kernel_rfl) (by kernel_rfl) (by kernel_rfl) (by omega) rfl (by kernel_rfl) ⟨_, 6, _, rfl, rfl, rfl, fun _ _ => by simp [execOp, go_sem, ptrTo]; rfl⟩ ?_
   apply Exists.intro
   refine ⟨fun S W hne hk hcl => ?_, ?_⟩
   ·simp only [List.take_succ_cons, List.take_zero, quietL, List.mem_cons, List.not_mem_nil, or_false, Nat.reduceAdd, Nat.reduceEqDiff, reduceIte, Nat.zero_add]
    have kk0 := XF.in hk (i := 0) (v := .string a) rfl
    have kk1 := XF.in hk (i := 1) (v := .string b) rfl
    repeat (go_big_quiet_step (first | (with_reducible exact KO.fresh hs hk hcl) | (with_reducible exact KS.fresh hs hk hcl)))
    exact wpQuiet_nil rfl
   intro b1 v1 hb1 hv1 hx1
   simp only [List.drop_succ_cons, List.drop_zero, ptrTo]
   have z0 := hx1.cell (i := 0) (v := .string ⟨#[]⟩) rfl
   have z1 := hx1.cell (i := 1) (v := .string ⟨#[]⟩) rfl
   have g0 := hx1.frozen 0
   have g1 := hx1.frozen 1
   go_wp2_with fail
   have lF := XF.lt
   replace hs := ((hs.on hv1).set (b := b1) (by omega) 0 (.string pn)).set (b := b1) (by omega) 1 (.string pd)
   replace XF := ((XF.on hv1).other (c := b1) (by omega) 0 (.string pn)).other (c := b1) (by omega) 1 (.string pd)
   have XP : Bx ((v1.setCell ⟨b1, 0, none⟩ (.string pn)).setCell ⟨b1, 1, none⟩ (.string pd)) b1 #[.string pn, .string pd] := (hx1.set 0 (.string pn)).set 1 (.string pd)
   clear z0 z1 g0 g1 hx1 hv1 hb1 lF
   generalize (v1.setCell ⟨b1, 0, none⟩ (.string pn)).setCell ⟨b1, 1, none⟩ (.string pd) = W8 at *
   refine KZ.step hs ?_
   intro w2 hs hb
   replace XF := XF.on hb
   replace XP := XP.on hb
   replace XF := XF.alloc (.cells #[.string ⟨#[]⟩, .string ⟨#[]⟩] 34)
   replace XP := XP.alloc (.cells #[.string ⟨#[]⟩, .string ⟨#[]⟩] 34)
   replace hs := hs.alloc (.cells #[.string ⟨#[]⟩, .string ⟨#[]⟩] 34)
   have XZ := Bx.new w2 #[.string ⟨#[]⟩, .string ⟨#[]⟩] 34
   have p0 := XP.cell (i := 0) (v := .string pn) rfl
   have p1 := XP.cell (i := 1) (v := .string pd) rfl
   have zz0 := XZ.cell (i := 0) (v := .string ⟨#[]⟩) rfl
   have zz1 := XZ.cell (i := 1) (v := .string ⟨#[]⟩) rfl
   go_wp2_with fail
   refine KC1.step hs ?_
   intro w3 hs hb
   clear p0 p1 zz0 zz1
   replace XF := XF.on hb
   replace XP := XP.on hb
   replace XZ := XZ.on hb
   go_wp2_with fail
   refine KA.step hs ?_
   intro w4 hs hb
   replace XF := XF.on hb
   replace XP := XP.on hb
   replace XZ := XZ.on hb
   go_wp2_with fail
   refine KN.step hs ?_
   intro w5 hs hb
   replace XF := XF.on hb
   replace XP := XP.on hb
   replace XZ := XZ.on hb
   replace XF := XF.alloc (.cells #[.string ⟨#[49]⟩, .string ⟨#[50]⟩] 34)
   replace XP := XP.alloc (.cells #[.string ⟨#[49]⟩, .string ⟨#[50]⟩] 34)
   replace XZ := XZ.alloc (.cells #[.string ⟨#[49]⟩, .string ⟨#[50]⟩] 34)
   replace hs := hs.alloc (.cells #[.string ⟨#[49]⟩, .string ⟨#[50]⟩] 34)
   have XH := Bx.new w5 #[.string ⟨#[49]⟩, .string ⟨#[50]⟩] 34
   have p0 := XP.cell (i := 0) (v := .string pn) rfl
   have p1 := XP.cell (i := 1) (v := .string pd) rfl
   have hh0 := XH.cell (i := 0) (v := .string ⟨#[49]⟩) rfl
   have hh1 := XH.cell (i := 1) (v := .string ⟨#[50]⟩) rfl
   go_wp2_with fail
   refine KC2.step hs ?_
   intro w6 hs hb
   clear p0 p1 hh0 hh1
   replace XF := XF.on hb
   replace XZ := XZ.on hb
   have f0 := XF.cell (i := 0) (v := .string a) rfl
   have f1 := XF.cell (i := 1) (v := .string b) rfl
   have zz0 := XZ.cell (i := 0) (v := .string ⟨#[]⟩) rfl
   have zz1 := XZ.cell (i := 1) (v := .string ⟨#[]⟩) rfl
   go_wp2_with fail
   refine KC3.step hs ?_
   intro w7 hs hb
   clear f0 f1 zz0 zz1
   go_wp2_with fail
   go_ret
   exact ⟨rfl, hs.2⟩
  by_cases h6 : m = 6
  ·subst h6
   have e := HM.out 6 _ rfl
   rw [show upB 6 c ng ev = true from rfl] at e
   rw [HRR.out] at e
   clear HM HRR
   obtain rfl : rr = up := e
   go_enter Tryz.func125, Tryz.ntmps125
   go_wp2_with fail
   refine K1.step hs ?_
   intro w1 hs hb
   replace XF := XF.on hb
   have lw : w.heap.size ≤ w1.heap.size := hs.size
   go_wp2_with fail
   refine wp_region_fresh1 5 4 6 #[.string ⟨#[]⟩, .string ⟨#[]⟩] (by kernel_rfl) (by kernel_rfl) (by kernel_rfl) (by omega) rfl (by kernel_rfl) ⟨_, 6, _, rfl, rfl, rfl, fun _ _ => by simp [execOp, go_sem, ptrTo]; rfl⟩ ?_
   apply Exists.intro
   refine ⟨fun S W hne hk hcl => ?_, ?_⟩
   ·simp only [List.take_succ_cons, List.take_zero, quietL, List.mem_cons, List.not_mem_nil, or_false, Nat.reduceAdd, Nat.reduceEqDiff, reduceIte, Nat.zero_add]
    have kk0 := XF.in hk (i := 0) (v := .string a) rfl
    have kk1 := XF.in hk (i := 1) (v := .string b) rfl
    repeat (go_big_quiet_step (first | (with_reducible exact KO.fresh hs hk hcl) | (with_reducible exact KS.fresh hs hk hcl)))
    exact wpQuiet_nil rfl
   intro b1 v1 hb1 hv1 hx1
   simp only [List.drop_succ_cons, List.drop_zero, ptrTo]
   have z0 := hx1.cell (i := 0) (v := .string ⟨#[]⟩) rfl
   have z1 := hx1.cell (i := 1) (v := .string ⟨#[]⟩) rfl
   have g0 := hx1.frozen 0
   have g1 := hx1.frozen 1
   go_wp2_with fail
   have lF := XF.lt
   replace hs := ((hs.on hv1).set (b := b1) (by omega) 0 (.string pn)).set (b := b1) (by omega) 1 (.string pd)
   replace XF := ((XF.on hv1).other (c := b1) (by omega) 0 (.string pn)).other (c := b1) (by omega) 1 (.string pd)
   have XP : Bx ((v1.setCell ⟨b1, 0, none⟩ (.string pn)).setCell ⟨b1, 1, none⟩ (.string pd)) b1 #[.string pn, .string pd] := (hx1.set 0 (.string pn)).set 1 (.string pd)
   clear z0 z1 g0 g1 hx1 hv1 hb1 lF
   generalize (v1.setCell ⟨b1, 0, none⟩ (.string pn)).setCell ⟨b1, 1, none⟩ (.string pd) = W8 at *
   refine KZ.step hs ?_
   intro w2 hs hb
   replace XF := XF.on hb
   replace XP := XP.on hb
   replace XF := XF.alloc (.cells #[.string ⟨#[]⟩, .string ⟨#[]⟩] 34)
   replace XP := XP.alloc (.cells #[.string ⟨#[]⟩, .string ⟨#[]⟩] 34)
   replace hs := hs.alloc (.cells #[.string ⟨#[]⟩, .string ⟨#[]⟩] 34)
   have XZ := Bx.new w2 #[.string ⟨#[]⟩, .string ⟨#[]⟩] 34
   have p0 := XP.cell (i := 0) (v := .string pn) rfl
   have p1 := XP.cell (i := 1) (v := .string pd) rfl
   have zz0 := XZ.cell (i := 0) (v := .string ⟨#[]⟩) rfl
   have zz1 := XZ.cell (i := 1) (v := .string ⟨#[]⟩) rfl
   go_wp2_with fail
   refine KC1.step hs ?_
   intro w3 hs hb
   clear p0 p1 zz0 zz1
   replace XF := XF.on hb
   replace XP := XP.on hb
   replace XZ := XZ.on hb
   go_wp2_with fail
   refine KA.step hs ?_
   intro w4 hs hb
   replace XF := XF.on hb
   replace XP := XP.on hb
   replace XZ := XZ.on hb
   go_wp2_with fail
   refine KN.step hs ?_
   intro w5 hs hb
   replace XF := XF.on hb
   replace XP := XP.on hb
   replace XZ := XZ.on hb
   replace XF := XF.alloc (.cells #[.string ⟨#[49]⟩, .string ⟨#[50]⟩] 34)
   replace XP := XP.alloc (.cells #[.string ⟨#[49]⟩, .string ⟨#[50]⟩] 34)
   replace XZ := XZ.alloc (.cells #[.string ⟨#[49]⟩, .string ⟨#[50]⟩] 34)
   replace hs := hs.alloc (.cells #[.string ⟨#[49]⟩, .string ⟨#[50]⟩] 34)
   have XH := Bx.new w5 #[.string ⟨#[49]⟩, .string ⟨#[50]⟩] 34
   have p0 := XP.cell (i := 0) (v := .string pn) rfl
   have p1 := XP.cell (i := 1) (v := .string pd) rfl
   have hh0 := XH.cell (i := 0) (v := .string ⟨#[49]⟩) rfl
   have hh1 := XH.cell (i := 1) (v := .string ⟨#[50]⟩) rfl
   go_wp2_with fail
   refine KC2.step hs ?_
   intro w6 hs hb
   clear p0 p1 hh0 hh1
   replace XF := XF.on hb
   replace XZ := XZ.on hb
   have f0 := XF.cell (i := 0) (v := .string a) rfl
   have f1 := XF.cell (i := 1) (v := .string b) rfl
   have zz0 := XZ.cell (i := 0) (v := .string ⟨#[]⟩) rfl
   have zz1 := XZ.cell (i := 1) (v := .string ⟨#[]⟩) rfl
   go_wp2_with fail
   refine KC3.step hs ?_
   intro w7 hs hb
   clear f0 f1 zz0 zz1
   go_wp2_with fail
   go_ret
   exact ⟨rfl, hs.2⟩
  omega
theorem rRound_any {a b : ByteArray} (m : Int) (h1 : a.size ≤ 1000) (h2 : b.size ≤ 1000) : Ret 164 #[FV a b, .int .i64 m] (.tuple #[.string (rndS m (ratV a b)), .int .i64 (rndE m)]) := by
 intro w hg
 have hs := (St.refl hg).alloc (.cells #[.string a, .string b] 34)
 have XF := Bx.new w #[.string a, .string b] 34
 have K1 := rmode_any m
 by_cases hm : 1 ≤ m ∧ m ≤ 6
 ·have K2 := rRoundTo_any m h1 h2 hm.1 hm.2
  obtain ⟨e1, e2⟩ := rnd_mode hm.1 hm.2 (ratV a b)
  rw [e1] at K1
  rw [e1, e2]
  clear e1 e2 hm
  unfold FV at *
  generalize canS (rndQ m (ratV a b)) = r at *
  go_enter Tryz.func164, Tryz.ntmps164
  go_wp2_with fail
  refine K1.step hs ?_
  intro w1 hs hb
  replace XF := XF.on hb
  have f0 := XF.cell (i := 0) (v := .string a) rfl
  have f1 := XF.cell (i := 1) (v := .string b) rfl
  go_wp2_with fail
  refine K2.step hs ?_
  intro w2 hs hb
  go_wp2_with fail
  go_ret2
  exact ⟨rfl, hs.2⟩
 ·have e1 : rndE m = 7 := if_pos (by omega)
  have e2 : rndS m (ratV a b) = ⟨#[]⟩ := if_neg (by rw [e1]; decide)
  rw [e1] at K1
  rw [e1, e2]
  clear e1 e2 hm
  unfold FV at *
  go_enter Tryz.func164, Tryz.ntmps164
  go_wp2_with fail
  refine K1.step hs ?_
  intro w1 hs hb
  go_wp2_with fail
  go_ret2
  exact ⟨rfl, hs.2⟩
end Go.Proofs.YticfdeaphiifeaaGreatDoor
