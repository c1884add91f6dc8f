/- Fees: the contracts of digits, Check, round, valid, checkUnits. Conditions: numbers of up to 13 bytes. Fees: the contracts of management and Management. Conditions: numbers of up to 40 bytes. Fees: the contracts of performance and Performance. Conditions: numbers of bounded length. -/
import Derived.Test.YticfdeaphiifeaaGreatDoorRd3
import Derived.Test.YticfdeaphiifeaaGreatDoorFpl
import Derived.Test.YticfdeaphiifeaaGreatDoorFd
set_option maxHeartbeats 4000000
set_option maxRecDepth 100000
namespace Go.Proofs.YticfdeaphiifeaaGreatDoor
open Go.RowKit Go.Shelf Dec QQ
theorem vq0 : Vq ⟨#[]⟩ ⟨#[]⟩ 0 := ⟨rfl, by decide, by decide⟩
theorem fit0 : FitQ 1 (0 : Rat) := ⟨by decide, by decide⟩
theorem fr_one : FR ((1 : Int) : Rat) = .agg #[.string ⟨#[49]⟩, .string ⟨#[]⟩] := by
 unfold FR
 rw [show frN ((1 : Int) : Rat) = ⟨#[49]⟩ from by decide +kernel, show frD ((1 : Int) : Rat) = ⟨#[]⟩ from by decide +kernel]
theorem vq1 : Vq ⟨#[49]⟩ ⟨#[]⟩ 1 := ⟨by decide +kernel, by decide, by decide⟩
theorem fit1 : FitQ 1 (1 : Rat) := ⟨by decide, by decide⟩
theorem cmpI_le0 (z : Int) : decide (cmpI z 0 ≤ 0) = decide (z ≤ 0) := by
 rw [decide_eq_decide]
 unfold cmpI
 split
 ·constructor <;> intro _ <;> omega
 ·split
  ·constructor <;> intro _ <;> omega
  ·constructor <;> intro _ <;> omega
theorem cmpQ_pos {p q : Rat} : decide (0 < cmpQ p q) = decide (q < p) := by
 rw [decide_eq_decide]
 unfold cmpQ
 by_cases h1 : p < q
 ·rw [if_pos h1]
  constructor
  ·intro h; exact absurd h (by decide)
  ·intro h; grind
 ·rw [if_neg h1]
  by_cases h2 : p = q
  ·rw [if_pos h2]
   constructor
   ·intro h; exact absurd h (by decide)
   ·intro h; grind
  ·rw [if_neg h2]
   constructor
   ·intro _; grind
   ·intro _; decide
theorem fdig_any {a : ByteArray} (h : a.size ≤ 40) : ∃ z : Int, z ≤ 40 ∧ Ret 115 #[.string a] (.int .i64 z) := by
 by_cases h0 : 0 < a.size
 ·have q0 : decide ((0 : Int) < (a.size : Int)) = true := decide_eq_true (by omega)
  cases h1 : ((a[0].toNat : Int) == 45) with
  | true =>
   refine ⟨(a.size : Int) - 1, by omega, ?_⟩
   intro w hg
   have hs := St.refl hg
   go_enter Tryz.func115, Tryz.ntmps115
   go_wp2_with fail
   go_ret
   exact ⟨rfl, hs.2⟩
  | false =>
   refine ⟨a.size, by omega, ?_⟩
   intro w hg
   have hs := St.refl hg
   go_enter Tryz.func115, Tryz.ntmps115
   go_wp2_with fail
   go_ret
   exact ⟨rfl, hs.2⟩
 ·have hz : a.size = 0 := by omega
  refine ⟨0, by omega, ?_⟩
  intro w hg
  have hs := St.refl hg
  go_enter Tryz.func115, Tryz.ntmps115
  go_wp2_with fail
  go_ret
  exact ⟨rfl, hs.2⟩
theorem round_any {n d : ByteArray} {q : Rat} {k : Nat} (h : Vq n d q) (hf : FitQ k q) (hk : k ≤ 90000) : Ret 131 #[FV n d] (.string (canS (rndQ 1 q))) := by
 intro w hg
 have hs := (St.refl hg).alloc (.cells #[.string n, .string d] 34)
 have K1 := Round_any 1 h hf hk
 obtain ⟨e1, e2⟩ := rnd_mode (m := 1) (by decide) (by decide) q
 rw [e1, e2] at K1
 unfold FV at *
 clear e1 e2 h hf
 generalize canS (rndQ 1 q) = r at *
 go_enter Tryz.func131, Tryz.ntmps131
 go_wp2_with fail
 refine K1.step hs ?_
 intro w1 hs _
 go_wp2_with fail
 go_ret
 exact ⟨rfl, hs.2⟩
theorem fvalid_any (D : Int) : Ret 78 #[.int .i64 D] (.bool (!notDay D)) := by
 intro w hg
 have hs := St.refl hg
 unfold notDay
 by_cases h1 : D < -25567
 ·have q1 : decide (-25567 ≤ D) = false := decide_eq_false (by omega)
  have q2 : decide (D < -25567) = true := decide_eq_true h1
  rw [q2]
  go_enter Tryz.func78, Tryz.ntmps78
  go_wp2_with fail
  go_ret
  exact ⟨rfl, hs.2⟩
 ·have q1 : decide (-25567 ≤ D) = true := decide_eq_true (by omega)
  have q2 : decide (D < -25567) = false := decide_eq_false h1
  rw [q2]
  have q3 : (!(false || decide (84005 < D))) = decide (D ≤ 84005) := by rw [Bool.false_or, ← decide_not, decide_eq_decide]; omega
  rw [q3]
  clear q2 q3 h1
  go_enter Tryz.func78, Tryz.ntmps78
  go_wp2_with fail
  go_ret
  exact ⟨rfl, hs.2⟩
theorem cntU_any {u kn kd : ByteArray} (s0 : u.size ≤ 40) (s1 : kn.size ≤ 40000) (s2 : kd.size ≤ 40000) : Ret 60 #[.string u, FV kn kd] (.int .i64 (cntE u kn kd)) := by
 intro w hg
 have hs := (St.refl hg).alloc (.cells #[.string kn, .string kd] 34)
 have XR := Bx.new w #[.string kn, .string kd] 34
 have K1 := ChkR (a := u) (by omega)
 have K2 := ChkF (a := kn) (b := kd) (by omega) (by omega)
 have K3 := CmpR (Vs.arg (s := u) (by omega)) Vs.nil
 have vk := Vq.arg (n := kn) (d := kd) (by omega) (by omega)
 have fk := FitQ.arg (n := kn) (d := kd) (k := 40000) s1 s2 (by omega)
 have K4 := CmpF vk vq0 (fk.sub fit0) (by omega)
 unfold FV at *
 have q3 : decide (cmpI (valS u) 0 ≤ 0) = decide (valS u ≤ 0) := cmpI_le0 _
 have q4 : decide (cmpQ (ratV kn kd) 0 < 0) = decide (ratV kn kd < 0) := decide_eq_decide.2 cmpQ_neg
 unfold cntE
 clear vk fk s0 s1 s2
 generalize cmpI (valS u) 0 = c3 at *
 generalize cmpQ (ratV kn kd) 0 = c4 at *
 by_cases h1 : chk u = 0
 ·by_cases h2 : chkF kn kd = 0
  ·rw [if_neg (by rw [h1, h2]; simp)]
   rw [h1] at K1
   rw [h2] at K2
   by_cases h3 : valS u ≤ 0
   ·rw [if_pos (.inl h3)]
    rw [decide_eq_true h3] at q3
    clear h1 h2 h3
    go_enter Tryz.func60, Tryz.ntmps60
    go_wp2_with fail
    refine K1.step hs ?_
    intro w1 hs hb
    replace XR := XR.on hb
    have x0 := XR.cell (i := 0) (v := .string kn) rfl
    have x1 := XR.cell (i := 1) (v := .string kd) rfl
    go_wp2_with fail
    refine K2.step hs ?_
    intro w1 hs _
    go_wp2_with fail
    refine K3.step hs ?_
    intro w1 hs _
    go_wp2_with fail
    go_ret
    exact ⟨rfl, hs.2⟩
   ·rw [decide_eq_false h3] at q3
    have e : (if valS u ≤ 0 ∨ ratV kn kd < 0 then (2 : Int) else 0) = if decide (ratV kn kd < 0) = true then 2 else 0 := by
     congr 1
     simp [h3]
    rw [e]
    clear e h1 h2 h3
    generalize decide (ratV kn kd < 0) = t at *
    cases t
    all_goals
     go_enter Tryz.func60, Tryz.ntmps60
     go_wp2_with fail
     refine K1.step hs ?_
     intro w1 hs hb
     replace XR := XR.on hb
     have x0 := XR.cell (i := 0) (v := .string kn) rfl
     have x1 := XR.cell (i := 1) (v := .string kd) rfl
     go_wp2_with fail
     refine K2.step hs ?_
     intro w2 hs hb
     replace XR := XR.on hb
     clear x0 x1
     go_wp2_with fail
     refine K3.step hs ?_
     intro w3 hs hb
     replace XR := XR.on hb
     have x0 := XR.cell (i := 0) (v := .string kn) rfl
     have x1 := XR.cell (i := 1) (v := .string kd) rfl
     go_wp2_with fail
     refine K4.step hs ?_
     intro w1 hs _
     go_wp2_with fail
     go_ret
     exact ⟨by rfl, hs.2⟩
  ·rw [if_pos (.inr h2)]
   have q : (chkF kn kd != 0) = true := by simpa using h2
   rw [h1] at K1
   clear h1 h2
   generalize chkF kn kd = e at *
   go_enter Tryz.func60, Tryz.ntmps60
   go_wp2_with fail
   refine K1.step hs ?_
   intro w1 hs hb
   replace XR := XR.on hb
   have x0 := XR.cell (i := 0) (v := .string kn) rfl
   have x1 := XR.cell (i := 1) (v := .string kd) rfl
   go_wp2_with fail
   refine K2.step hs ?_
   intro w1 hs _
   go_wp2_with fail
   go_ret
   exact ⟨rfl, hs.2⟩
 ·rw [if_pos (.inl h1)]
  have q : (chk u != 0) = true := by simpa using h1
  clear h1
  generalize chk u = e at *
  go_enter Tryz.func60, Tryz.ntmps60
  go_wp2_with fail
  refine K1.step hs ?_
  intro w1 hs _
  go_wp2_with fail
  go_ret
  exact ⟨rfl, hs.2⟩
def tcells (T : TermS) : Array Value := #[.string T.mn, .string T.md, .string T.pn, .string T.pd, .int .i64 T.cnt]
theorem rate_cases (n d : ByteArray) : (chkF n d ≠ 0 ∧ rateE n d = 1) ∨ (chkF n d = 0 ∧ ratV n d < 0 ∧ rateE n d = 2) ∨ (chkF n d = 0 ∧ ¬ ratV n d < 0 ∧ 1 < ratV n d ∧ rateE n d = 2) ∨ (chkF n d = 0 ∧ ¬ ratV n d < 0 ∧ ¬ 1 < ratV n d ∧ rateE n d = 0) := by
 unfold rateE
 by_cases h1 : chkF n d = 0
 ·rw [if_neg (by simpa using h1)]
  by_cases h2 : ratV n d < 0
  ·exact .inr (.inl ⟨h1, h2, if_pos (.inl h2)⟩)
  ·by_cases h3 : 1 < ratV n d
   ·exact .inr (.inr (.inl ⟨h1, h2, h3, if_pos (.inr h3)⟩))
   ·exact .inr (.inr (.inr ⟨h1, h2, h3, if_neg (by simp [h2, h3])⟩))
 ·exact .inl ⟨h1, if_pos h1⟩
theorem fchk_any {T : TermS} (hz : T.le 13) : Ret 59 #[tval T] (.int .i64 (termE T)) := by
 intro w hg
 obtain ⟨mn, md, pn, pd, ct⟩ := T
 unfold tval
 dsimp only
 have hs := ((St.refl hg).alloc (.cells #[.string mn, .string md, .string pn, .string pd, .int .i64 ct] 44)).alloc (.cells #[.string mn, .string md, .string pn, .string pd] 34)
 have XT := (Bx.new w #[.string mn, .string md, .string pn, .string pd, .int .i64 ct] 44).alloc (.cells #[.string mn, .string md, .string pn, .string pd] 34)
 have XS := Bx.new1 w (.cells #[.string mn, .string md, .string pn, .string pd, .int .i64 ct] 44) #[.string mn, .string md, .string pn, .string pd] 34
 obtain ⟨z1, z2, z3, z4⟩ : mn.size ≤ 13 ∧ md.size ≤ 13 ∧ pn.size ≤ 13 ∧ pd.size ≤ 13 := hz
 obtain ⟨te, hte⟩ : ∃ x, termE ⟨mn, md, pn, pd, ct⟩ = x := ⟨_, rfl⟩
 rw [hte]
 have HE0 : Hid (∀ x : Int, rateE mn md = x → x ≠ 0 → te = x) := by
  intro x hx h0
  rw [← hte]
  unfold termE
  dsimp only
  rw [if_pos (by rw [hx]; exact h0), hx]
 have HE1' : Hid (rateE mn md = 0 → ∀ x : Int, rateE pn pd = x → x ≠ 0 → te = x) := by
  intro h1 x hx h0
  rw [← hte]
  unfold termE
  dsimp only
  rw [if_neg (by simpa using h1), if_pos (by rw [hx]; exact h0), hx]
 have HE2 : Hid (rateE mn md = 0 → rateE pn pd = 0 → te = if ct < 1 ∨ 5 < ct then 7 else 0) := by
  intro h1 h2
  rw [← hte]
  unfold termE
  dsimp only
  rw [if_neg (by simpa using h1), if_neg (by simpa using h2)]
 have a0 := (Bx.new w #[.string mn, .string md, .string pn, .string pd, .int .i64 ct] 44).cell (i := 0) (v := .string mn) rfl
 have a1 := (Bx.new w #[.string mn, .string md, .string pn, .string pd, .int .i64 ct] 44).cell (i := 1) (v := .string md) rfl
 have a2 := (Bx.new w #[.string mn, .string md, .string pn, .string pd, .int .i64 ct] 44).cell (i := 2) (v := .string pn) rfl
 have a3 := (Bx.new w #[.string mn, .string md, .string pn, .string pd, .int .i64 ct] 44).cell (i := 3) (v := .string pd) rfl
 have HT0 := Lib.hid XT
 have HS0 := Lib.hid XS
 clear XT XS hte
 go_enter Tryz.func59, Tryz.ntmps59
 go_wp2_with fail
 clear a0 a1 a2 a3
 go_loopw [11] (fun s wr => ∃ i : Nat, i ≤ 2 ∧ s = .int .i64 (i : Int) ∧ St w wr ∧ Hid (Bx wr w.heap.size #[.string mn, .string md, .string pn, .string pd, .int .i64 ct]) ∧ Hid (Bx wr (w.heap.size + 1) #[.string mn, .string md, .string pn, .string pd]) ∧ Hid (1 ≤ i → rateE mn md = 0) ∧ Hid (i = 2 → rateE pn pd = 0)) (fun s _ => (2 - intOf s).toNat)
 case atStart => exact ⟨0, by omega, rfl, hs, HT0, HS0, fun h => by omega, fun h => by cases h⟩
 case round =>
  obtain ⟨i, hi, rfl, hs, HT, HS, HA, HB⟩ := hrel
  by_cases h0 : i = 0
  ·subst h0
   have KC := ChkF (a := mn) (b := md) (by omega) (by omega)
   obtain ⟨z1, hz1, KD1⟩ := fdig_any (a := mn) (by omega)
   obtain ⟨z2, hz2, KD2⟩ := fdig_any (a := md) (by omega)
   have qz1 : decide (40 < z1) = false := decide_eq_false (by omega)
   have qz2 : decide (40 < z2) = false := decide_eq_false (by omega)
   have vr := Vq.arg (n := mn) (d := md) (by omega) (by omega)
   have frr := FitQ.arg (n := mn) (d := md) (k := 13) (by omega) (by omega) (by omega)
   have KL := CmpF vr vq0 (frr.sub fit0) (by omega)
   have KO := OfF Vs.one (by decide)
   have KG := CmpF vr vq1 (frr.sub fit1) (by omega)
   have qL : decide (cmpQ (ratV mn md) 0 < 0) = decide (ratV mn md < 0) := decide_eq_decide.2 cmpQ_neg
   have qG : decide (0 < cmpQ (ratV mn md) 1) = decide (1 < ratV mn md) := cmpQ_pos
   unfold FV at KC KL KG
   rw [fr_one] at KO
   have XT := HT.out
   have XS := HS.out
   have c0 := XS.cell (i := 0) (v := .string mn) rfl
   have c1 := XS.cell (i := 1) (v := .string md) rfl
   have hs0 := hs.alloc (.cells #[.string mn, .string md] 34)
   have XF := Bx.new wr #[.string mn, .string md] 34
   have y0 := XF.cell (i := 0) (v := .string mn) rfl
   have y1 := XF.cell (i := 1) (v := .string md) rfl
   have nb := XS.lt
   clear vr frr hz1 hz2
   generalize cmpQ (ratV mn md) 0 = cl at *
   generalize cmpQ (ratV mn md) 1 = cg at *
   rcases rate_cases mn md with ⟨h1, he⟩ | ⟨h1, h2, he⟩ | ⟨h1, h2, h3, he⟩ | ⟨h1, h2, h3, he⟩
   ·obtain rfl : te = 1 := HE0.out 1 he (by decide)
    have q : (chkF mn md != 0) = true := by simpa using h1
    generalize chkF mn md = e at *
    clear h1 he qL qG
    go_wp2_with fail
    refine KC.step hs0 ?_
    intro w2 hs hb
    go_wp2_with fail
    go_ret
    exact ⟨rfl, hs.2⟩
   ·obtain rfl : te = 2 := HE0.out 2 he (by decide)
    rw [h1] at KC
    rw [decide_eq_true h2] at qL
    clear h1 h2 he qG
    go_wp2_with fail
    refine KC.step hs0 ?_
    intro w2 hs hb2
    replace XF := XF.on hb2
    have y0 := XF.cell (i := 0) (v := .string mn) rfl
    have y1 := XF.cell (i := 1) (v := .string md) rfl
    go_wp2_with fail
    refine KD1.step hs ?_
    intro w3 hs hb3
    replace XF := XF.on hb3
    have y0 := XF.cell (i := 0) (v := .string mn) rfl
    have y1 := XF.cell (i := 1) (v := .string md) rfl
    go_wp2_with fail
    refine KD2.step hs ?_
    intro w4 hs hb4
    replace XF := XF.on hb4
    have k0 := XF.keeps (i := 0) (v := .string mn) rfl
    have k1 := XF.keeps (i := 1) (v := .string md) rfl
    go_wp2_with fail
    refine wp_region_kept (by kernel_rfl) (by kernel_rfl) ?_
    repeat (go_big_quiet_step (first | (with_reducible exact KL.kept hs) | (with_reducible exact KO.kept hs) | (with_reducible exact KG.kept hs)))
    refine wpQuiet_nil ?_
    rintro _ ⟨u, rfl⟩
    replace hs := hs.kept u
    go_wp2_with fail
    go_ret
    exact ⟨rfl, hs.2⟩
   ·obtain rfl : te = 2 := HE0.out 2 he (by decide)
    rw [h1] at KC
    rw [decide_eq_false h2] at qL
    rw [decide_eq_true h3] at qG
    clear h1 h2 h3 he
    go_wp2_with fail
    refine KC.step hs0 ?_
    intro w2 hs hb2
    replace XF := XF.on hb2
    have y0 := XF.cell (i := 0) (v := .string mn) rfl
    have y1 := XF.cell (i := 1) (v := .string md) rfl
    go_wp2_with fail
    refine KD1.step hs ?_
    intro w3 hs hb3
    replace XF := XF.on hb3
    have y0 := XF.cell (i := 0) (v := .string mn) rfl
    have y1 := XF.cell (i := 1) (v := .string md) rfl
    go_wp2_with fail
    refine KD2.step hs ?_
    intro w4 hs hb4
    replace XF := XF.on hb4
    have k0 := XF.keeps (i := 0) (v := .string mn) rfl
    have k1 := XF.keeps (i := 1) (v := .string md) rfl
    go_wp2_with fail
    refine wp_region_kept (by kernel_rfl) (by kernel_rfl) ?_
    repeat (go_big_quiet_step (first | (with_reducible exact KL.kept hs) | (with_reducible exact KO.kept hs) | (with_reducible exact KG.kept hs)))
    refine wpQuiet_nil ?_
    rintro _ ⟨u, rfl⟩
    replace hs := hs.kept u
    go_wp2_with fail
    go_ret
    exact ⟨rfl, hs.2⟩
   ·rw [h1] at KC
    rw [decide_eq_false h2] at qL
    rw [decide_eq_false h3] at qG
    have HN := Lib.hid he
    clear h1 h2 h3 he
    go_wp2_with fail
    refine KC.step hs0 ?_
    intro w2 hs hb2
    replace XF := XF.on hb2
    have y0 := XF.cell (i := 0) (v := .string mn) rfl
    have y1 := XF.cell (i := 1) (v := .string md) rfl
    go_wp2_with fail
    refine KD1.step hs ?_
    intro w3 hs hb3
    replace XF := XF.on hb3
    have y0 := XF.cell (i := 0) (v := .string mn) rfl
    have y1 := XF.cell (i := 1) (v := .string md) rfl
    go_wp2_with fail
    refine KD2.step hs ?_
    intro w4 hs hb4
    replace XF := XF.on hb4
    have k0 := XF.keeps (i := 0) (v := .string mn) rfl
    have k1 := XF.keeps (i := 1) (v := .string md) rfl
    go_wp2_with fail
    refine wp_region_kept (by kernel_rfl) (by kernel_rfl) ?_
    repeat (go_big_quiet_step (first | (with_reducible exact KL.kept hs) | (with_reducible exact KO.kept hs) | (with_reducible exact KG.kept hs)))
    refine wpQuiet_nil ?_
    rintro _ ⟨u, rfl⟩
    replace hs := hs.kept u
    have XT2 := ((((XT.alloc (.cells #[.string mn, .string md] 34)).on hb2).on hb3).on hb4).kept u
    have XS2 := ((((XS.alloc (.cells #[.string mn, .string md] 34)).on hb2).on hb3).on hb4).kept u
    go_wp2_with fail
    go_roundw
    case rel => exact ⟨1, by omega, rfl, hs, XT2, XS2, fun _ => HN.out, fun h => by cases h⟩
    case measure => simp [intOf]
  ·by_cases h1 : i = 1
   ·subst h1
    have HE1 := Lib.hid (HE1'.out (HA.out (by decide)))
    have KC := ChkF (a := pn) (b := pd) (by omega) (by omega)
    obtain ⟨z1, hz1, KD1⟩ := fdig_any (a := pn) (by omega)
    obtain ⟨z2, hz2, KD2⟩ := fdig_any (a := pd) (by omega)
    have qz1 : decide (40 < z1) = false := decide_eq_false (by omega)
    have qz2 : decide (40 < z2) = false := decide_eq_false (by omega)
    have vr := Vq.arg (n := pn) (d := pd) (by omega) (by omega)
    have frr := FitQ.arg (n := pn) (d := pd) (k := 13) (by omega) (by omega) (by omega)
    have KL := CmpF vr vq0 (frr.sub fit0) (by omega)
    have KO := OfF Vs.one (by decide)
    have KG := CmpF vr vq1 (frr.sub fit1) (by omega)
    have qL : decide (cmpQ (ratV pn pd) 0 < 0) = decide (ratV pn pd < 0) := decide_eq_decide.2 cmpQ_neg
    have qG : decide (0 < cmpQ (ratV pn pd) 1) = decide (1 < ratV pn pd) := cmpQ_pos
    unfold FV at KC KL KG
    rw [fr_one] at KO
    have XT := HT.out
    have XS := HS.out
    have c0 := XS.cell (i := 2) (v := .string pn) rfl
    have c1 := XS.cell (i := 3) (v := .string pd) rfl
    have hs0 := hs.alloc (.cells #[.string pn, .string pd] 34)
    have XF := Bx.new wr #[.string pn, .string pd] 34
    have y0 := XF.cell (i := 0) (v := .string pn) rfl
    have y1 := XF.cell (i := 1) (v := .string pd) rfl
    have nb := XS.lt
    clear vr frr hz1 hz2
    generalize cmpQ (ratV pn pd) 0 = cl at *
    generalize cmpQ (ratV pn pd) 1 = cg at *
    rcases rate_cases pn pd with ⟨h1, he⟩ | ⟨h1, h2, he⟩ | ⟨h1, h2, h3, he⟩ | ⟨h1, h2, h3, he⟩
    ·obtain rfl : te = 1 := HE1.out 1 he (by decide)
     have q : (chkF pn pd != 0) = true := by simpa using h1
     generalize chkF pn pd = e at *
     clear h1 he qL qG
     go_wp2_with fail
     refine KC.step hs0 ?_
     intro w2 hs hb
     go_wp2_with fail
     go_ret
     exact ⟨rfl, hs.2⟩
    ·obtain rfl : te = 2 := HE1.out 2 he (by decide)
     rw [h1] at KC
     rw [decide_eq_true h2] at qL
     clear h1 h2 he qG
     go_wp2_with fail
     refine KC.step hs0 ?_
     intro w2 hs hb2
     replace XF := XF.on hb2
     have y0 := XF.cell (i := 0) (v := .string pn) rfl
     have y1 := XF.cell (i := 1) (v := .string pd) rfl
     go_wp2_with fail
     refine KD1.step hs ?_
     intro w3 hs hb3
     replace XF := XF.on hb3
     have y0 := XF.cell (i := 0) (v := .string pn) rfl
     have y1 := XF.cell (i := 1) (v := .string pd) rfl
     go_wp2_with fail
     refine KD2.step hs ?_
     intro w4 hs hb4
     replace XF := XF.on hb4
     have k0 := XF.keeps (i := 0) (v := .string pn) rfl
     have k1 := XF.keeps (i := 1) (v := .string pd) rfl
     go_wp2_with fail
     refine wp_region_kept (by kernel_rfl) (by kernel_rfl) ?_
     repeat (go_big_quiet_step (first | (with_reducible exact KL.kept hs) | (with_reducible exact KO.kept hs) | (with_reducible exact KG.kept hs)))
     refine wpQuiet_nil ?_
     rintro _ ⟨u, rfl⟩
     replace hs := hs.kept u
     go_wp2_with fail
     go_ret
     exact ⟨rfl, hs.2⟩
    ·obtain rfl : te = 2 := HE1.out 2 he (by decide)
     rw [h1] at KC
     rw [decide_eq_false h2] at qL
     rw [decide_eq_true h3] at qG
     clear h1 h2 h3 he
     go_wp2_with fail
     refine KC.step hs0 ?_
     intro w2 hs hb2
     replace XF := XF.on hb2
     have y0 := XF.cell (i := 0) (v := .string pn) rfl
     have y1 := XF.cell (i := 1) (v := .string pd) rfl
     go_wp2_with fail
     refine KD1.step hs ?_
     intro w3 hs hb3
     replace XF := XF.on hb3
     have y0 := XF.cell (i := 0) (v := .string pn) rfl
     have y1 := XF.cell (i := 1) (v := .string pd) rfl
     go_wp2_with fail
     refine KD2.step hs ?_
     intro w4 hs hb4
     replace XF := XF.on hb4
     have k0 := XF.keeps (i := 0) (v := .string pn) rfl
     have k1 := XF.keeps (i := 1) (v := .string pd) rfl
     go_wp2_with fail
     refine wp_region_kept (by kernel_rfl) (by kernel_rfl) ?_
     repeat (go_big_quiet_step (first | (with_reducible exact KL.kept hs) | (with_reducible exact KO.kept hs) | (with_reducible exact KG.kept hs)))
     refine wpQuiet_nil ?_
     rintro _ ⟨u, rfl⟩
     replace hs := hs.kept u
     go_wp2_with fail
     go_ret
     exact ⟨rfl, hs.2⟩
    ·rw [h1] at KC
     rw [decide_eq_false h2] at qL
     rw [decide_eq_false h3] at qG
     have HN := Lib.hid he
     clear h1 h2 h3 he
     go_wp2_with fail
     refine KC.step hs0 ?_
     intro w2 hs hb2
     replace XF := XF.on hb2
     have y0 := XF.cell (i := 0) (v := .string pn) rfl
     have y1 := XF.cell (i := 1) (v := .string pd) rfl
     go_wp2_with fail
     refine KD1.step hs ?_
     intro w3 hs hb3
     replace XF := XF.on hb3
     have y0 := XF.cell (i := 0) (v := .string pn) rfl
     have y1 := XF.cell (i := 1) (v := .string pd) rfl
     go_wp2_with fail
     refine KD2.step hs ?_
     intro w4 hs hb4
     replace XF := XF.on hb4
     have k0 := XF.keeps (i := 0) (v := .string pn) rfl
     have k1 := XF.keeps (i := 1) (v := .string pd) rfl
     go_wp2_with fail
     refine wp_region_kept (by kernel_rfl) (by kernel_rfl) ?_
     repeat (go_big_quiet_step (first | (with_reducible exact KL.kept hs) | (with_reducible exact KO.kept hs) | (with_reducible exact KG.kept hs)))
     refine wpQuiet_nil ?_
     rintro _ ⟨u, rfl⟩
     replace hs := hs.kept u
     have XT2 := ((((XT.alloc (.cells #[.string pn, .string pd] 34)).on hb2).on hb3).on hb4).kept u
     have XS2 := ((((XS.alloc (.cells #[.string pn, .string pd] 34)).on hb2).on hb3).on hb4).kept u
     go_wp2_with fail
     go_roundw
     case rel => exact ⟨2, by omega, rfl, hs, XT2, XS2, fun _ => HA.out (by decide), fun _ => HN.out⟩
     case measure => simp [intOf]
   ·obtain rfl : i = 2 := by omega
    have hte := HE2.out (HA.out (by decide)) (HB.out rfl)
    have XT := HT.out
    have t4 := XT.cell (i := 4) (v := .int .i64 ct) rfl
    clear h0 h1 hi
    by_cases g1 : ct < 1
    ·rw [if_pos (.inl g1)] at hte
     subst hte
     have q1 : decide (ct < 1) = true := decide_eq_true g1
     go_wp2_with fail
     go_ret
     exact ⟨rfl, hs.2⟩
    ·have q1 : decide (ct < 1) = false := decide_eq_false g1
     by_cases g2 : 5 < ct
     ·rw [if_pos (.inr g2)] at hte
      subst hte
      have q2 : decide (5 < ct) = true := decide_eq_true g2
      go_wp2_with fail
      go_ret
      exact ⟨rfl, hs.2⟩
     ·rw [if_neg (by omega)] at hte
      subst hte
      have q2 : decide (5 < ct) = false := decide_eq_false g2
      go_wp2_with fail
      go_ret
      exact ⟨rfl, hs.2⟩
end Go.Proofs.YticfdeaphiifeaaGreatDoor
namespace Go.Proofs.YticfdeaphiifeaaGreatDoor
open Go.RowKit Go.Shelf Dec QQ
theorem frac_self (c A : Int) : (fracR c A A).1 = 0 := by
 by_cases h : (fracR c A A).2 = 0
 ·rw [(grows_law h h).1]
 ·unfold fracR at h ⊢
  split
  ·rfl
  ·split
   ·rfl
   ·rename_i h1 h2
    rw [if_neg h1, if_neg h2, if_neg (by omega)] at h
    exact absurd rfl h
theorem mg_same (v : Int) (m : Rat) (c A : Int) : mgI v m c A A = 0 := by
 unfold mgI
 split
 ·rfl
 ·rw [frac_self, Rat.mul_zero, Rat.mul_zero, rnd_zero]
theorem mg_neg {v : Int} (m : Rat) (c A B : Int) (h : v < 0) : mgI v m c A B = 0 := if_pos (by omega)
theorem mg_pos {v : Int} (m : Rat) (c A B : Int) (h : ¬ v < 0) : mgI v m c A B = rndQ 1 ((v : Rat) * (m * (fracR c A B).1)) := by
 unfold mgI
 by_cases h0 : v ≤ 0
 ·obtain rfl : v = 0 := by omega
  rw [if_pos h0, show ((0 : Int) : Rat) = 0 from rfl, Rat.zero_mul, rnd_zero]
 ·rw [if_neg h0]
theorem mgmt_any {T : TermS} (hz : T.le 13) {v : ByteArray} (hv : v.size ≤ 40) (A B : Int) : Ret 79 #[tval T, .string v, .agg #[.int .i64 A, .int .i64 B]] (.string (canS (mgI (valS v) T.m T.cnt A B))) := by
 intro w hg
 obtain ⟨mn, md, pn, pd, ct⟩ := T
 unfold tval TermS.m
 dsimp only
 obtain ⟨z1, z2, z3, z4⟩ : mn.size ≤ 13 ∧ md.size ≤ 13 ∧ pn.size ≤ 13 ∧ pd.size ≤ 13 := hz
 have hs := ((St.refl hg).alloc (.cells #[.string mn, .string md, .string pn, .string pd, .int .i64 ct] 44)).alloc (.cells #[.int .i64 A, .int .i64 B] 65)
 have XT := (Bx.new w #[.string mn, .string md, .string pn, .string pd, .int .i64 ct] 44).alloc (.cells #[.int .i64 A, .int .i64 B] 65)
 have XP := Bx.new1 w (.cells #[.string mn, .string md, .string pn, .string pd, .int .i64 ct] 44) #[.int .i64 A, .int .i64 B] 65
 have KC := CmpR (Vs.arg (s := v) (by omega)) Vs.nil
 have qc : decide (cmpI (valS v) 0 < 0) = decide (valS v < 0) := cmpI_lt
 have a0 := XP.cell (i := 0) (v := .int .i64 A) rfl
 have a1 := XP.cell (i := 1) (v := .int .i64 B) rfl
 by_cases hab : A = B
 ·subst hab
  rw [mg_same, canS_zero]
  have q : (A == A) = true := beq_self_eq_true A
  go_enter Tryz.func79, Tryz.ntmps79
  go_wp2_with fail
  go_ret
  exact ⟨rfl, hs.2⟩
 ·have q : (A == B) = false := beq_eq_false_iff_ne.2 hab
  by_cases hn : valS v < 0
  ·rw [mg_neg _ _ _ _ hn, canS_zero]
   rw [decide_eq_true hn] at qc
   generalize cmpI (valS v) 0 = cc at *
   clear hab hn
   go_enter Tryz.func79, Tryz.ntmps79
   go_wp2_with fail
   refine KC.step hs ?_
   intro w1 hs _
   go_wp2_with fail
   go_ret
   exact ⟨rfl, hs.2⟩
  ·rw [mg_pos _ _ _ _ hn]
   rw [decide_eq_false hn] at qc
   have va := Vs.arg (s := v) (by omega)
   have fa : FitQ 40 ((valS v : Int) : Rat) := FitQ.int (Fit.val hv) (by omega)
   have vm := Vq.arg (n := mn) (d := md) (by omega) (by omega)
   have fm := FitQ.arg (n := mn) (d := md) (k := 13) z1 z2 (by omega)
   have fp := frac_fit ct A B
   have KF := Fraction_any ct A B
   have KO := OfF va (by omega)
   have KM1 := MulF vm (Vq.fr fp (by omega))
   have f1 := fm.mul fp
   have KM2 := MulF (Vq.fr fa (by omega)) (Vq.fr f1 (by omega))
   have f2 := fa.mul f1
   have KR := round_any (Vq.fr f2 (by omega)) f2 (by omega)
   unfold FV at *
   unfold FR at *
   clear va fa vm fm fp f1 f2 hn hab
   generalize canS (rndQ 1 ((valS v : Int) * (ratV mn md * (fracR ct A B).1))) = rs at *
   generalize frN ((valS v : Int) * (ratV mn md * (fracR ct A B).1)) = n3 at *
   generalize frD ((valS v : Int) * (ratV mn md * (fracR ct A B).1)) = d3 at *
   generalize frN (ratV mn md * (fracR ct A B).1) = n2 at *
   generalize frD (ratV mn md * (fracR ct A B).1) = d2 at *
   generalize frN (fracR ct A B).1 = n1 at *
   generalize frD (fracR ct A B).1 = d1 at *
   generalize frN ((valS v : Int) : Rat) = n0 at *
   generalize frD ((valS v : Int) : Rat) = d0 at *
   generalize cmpI (valS v) 0 = cc at *
   generalize (fracR ct A B).2 = fe at *
   go_enter Tryz.func79, Tryz.ntmps79
   go_wp2_with fail
   refine KC.step hs ?_
   intro w2 hs hb
   replace XT := XT.on hb
   replace XP := XP.on hb
   have t4 := XT.cell (i := 4) (v := .int .i64 ct) rfl
   have a0 := XP.cell (i := 0) (v := .int .i64 A) rfl
   have a1 := XP.cell (i := 1) (v := .int .i64 B) rfl
   go_wp2_with fail
   refine KF.step hs ?_
   intro w3 hs hb
   replace XT := (XT.on hb).alloc (.cells #[.string n1, .string d1] 34)
   have XF := Bx.new w3 #[.string n1, .string d1] 34
   replace hs := hs.alloc (.cells #[.string n1, .string d1] 34)
   clear t4 a0 a1
   have k0 := XT.keeps (i := 0) (v := .string mn) rfl
   have k1 := XT.keeps (i := 1) (v := .string md) rfl
   have k2 := XF.keeps (i := 0) (v := .string n1) rfl
   have k3 := XF.keeps (i := 1) (v := .string d1) rfl
   go_wp2_with fail
   refine wp_region_kept (by kernel_rfl) (by kernel_rfl) ?_
   repeat (go_big_quiet_step (first | (with_reducible exact KO.kept hs) | (with_reducible exact KM1.kept hs) | (with_reducible exact KM2.kept hs) | (with_reducible exact KR.kept hs)))
   refine wpQuiet_nil ?_
   rintro _ ⟨u, rfl⟩
   replace hs := hs.kept u
   go_wp2_with fail
   go_ret
   exact ⟨rfl, hs.2⟩
theorem man_any {T : TermS} (hz : T.le 13) {v : ByteArray} (hv : v.size ≤ 40) (A B : Int) : Ret 29 #[tval T, .string v, .agg #[.int .i64 A, .int .i64 B]] (.tuple #[.string (manR T v A B), .int .i64 (manE T v A B)]) := by
 intro w hg
 have KT := fchk_any hz
 have KV := ChkR (a := v) (by omega)
 have KA := fvalid_any A
 have KB := fvalid_any B
 have KM := mgmt_any hz hv A B
 have HR : Hid (∀ e : Int, manE T v A B = e → e ≠ 0 → manR T v A B = ⟨#[]⟩) := fun e h h0 => if_neg (by rw [h]; exact h0)
 have HZ : Hid (manE T v A B = 0 → manR T v A B = canS (mgI (valS v) T.m T.cnt A B)) := fun h => if_pos h
 have HE : Hid (manE T v A B = if termE T ≠ 0 ∨ chk v ≠ 0 then 1 else if (notDay A || notDay B) = true then 13 else if B < A then 8 else 0) := rfl
 generalize manE T v A B = me at *
 generalize manR T v A B = mr at *
 generalize canS (mgI (valS v) T.m T.cnt A B) = ms at *
 obtain ⟨mn, md, pn, pd, ct⟩ := T
 unfold tval at *
 dsimp only at *
 have hs := ((St.refl hg).alloc (.cells #[.string mn, .string md, .string pn, .string pd, .int .i64 ct] 44)).alloc (.cells #[.int .i64 A, .int .i64 B] 65)
 have XT := (Bx.new w #[.string mn, .string md, .string pn, .string pd, .int .i64 ct] 44).alloc (.cells #[.int .i64 A, .int .i64 B] 65)
 have XP := Bx.new1 w (.cells #[.string mn, .string md, .string pn, .string pd, .int .i64 ct] 44) #[.int .i64 A, .int .i64 B] 65
 have b0 := (Bx.new w #[.string mn, .string md, .string pn, .string pd, .int .i64 ct] 44).cell (i := 0) (v := .string mn) rfl
 have b1 := (Bx.new w #[.string mn, .string md, .string pn, .string pd, .int .i64 ct] 44).cell (i := 1) (v := .string md) rfl
 have t0 := XT.cell (i := 0) (v := .string mn) rfl
 have t1 := XT.cell (i := 1) (v := .string md) rfl
 have t2 := XT.cell (i := 2) (v := .string pn) rfl
 have t3 := XT.cell (i := 3) (v := .string pd) rfl
 have t4 := XT.cell (i := 4) (v := .int .i64 ct) rfl
 generalize termE ⟨mn, md, pn, pd, ct⟩ = te at *
 generalize chk v = cv at *
 clear hz b0 b1
 by_cases h1 : te = 0
 ·subst h1
  by_cases h2 : cv = 0
  ·subst h2
   have HE2 := HE.out
   rw [if_neg (by decide)] at HE2
   cases hA : notDay A with
   | true =>
    rw [hA] at HE2 KA
    rw [Bool.true_or, if_pos rfl] at HE2
    rw [HR.out 13 HE2 (by decide), HE2]
    clear HE HE2 HR HZ hA
    go_enter Tryz.func29, Tryz.ntmps29
    go_wp2_with fail
    refine KT.step hs ?_
    intro w2 hs hb
    replace XT := XT.on hb
    replace XP := XP.on hb
    have a0 := XP.cell (i := 0) (v := .int .i64 A) rfl
    have a1 := XP.cell (i := 1) (v := .int .i64 B) rfl
    go_wp2_with fail
    refine KV.step hs ?_
    intro w3 hs hb
    clear a0 a1
    replace XT := XT.on hb
    replace XP := XP.on hb
    have a0 := XP.cell (i := 0) (v := .int .i64 A) rfl
    have a1 := XP.cell (i := 1) (v := .int .i64 B) rfl
    have t0 := XT.cell (i := 0) (v := .string mn) rfl
    have t1 := XT.cell (i := 1) (v := .string md) rfl
    have t2 := XT.cell (i := 2) (v := .string pn) rfl
    have t3 := XT.cell (i := 3) (v := .string pd) rfl
    have t4 := XT.cell (i := 4) (v := .int .i64 ct) rfl
    go_wp2_with fail
    clear t0 t1 t2 t3 t4
    refine KA.step hs ?_
    intro w3 hs hb
    clear a0 a1
    replace XT := XT.on hb
    replace XP := XP.on hb
    have a0 := XP.cell (i := 0) (v := .int .i64 A) rfl
    have a1 := XP.cell (i := 1) (v := .int .i64 B) rfl
    have t0 := XT.cell (i := 0) (v := .string mn) rfl
    have t1 := XT.cell (i := 1) (v := .string md) rfl
    have t2 := XT.cell (i := 2) (v := .string pn) rfl
    have t3 := XT.cell (i := 3) (v := .string pd) rfl
    have t4 := XT.cell (i := 4) (v := .int .i64 ct) rfl
    go_wp2_with fail
    clear t0 t1 t2 t3 t4
    go_ret2
    exact ⟨rfl, hs.2⟩
   | false =>
    rw [hA] at HE2 KA
    cases hB : notDay B with
    | true =>
     rw [hB] at HE2 KB
     rw [Bool.false_or, if_pos rfl] at HE2
     rw [HR.out 13 HE2 (by decide), HE2]
     clear HE HE2 HR HZ hA hB
     go_enter Tryz.func29, Tryz.ntmps29
     go_wp2_with fail
     refine KT.step hs ?_
     intro w2 hs hb
     replace XT := XT.on hb
     replace XP := XP.on hb
     have a0 := XP.cell (i := 0) (v := .int .i64 A) rfl
     have a1 := XP.cell (i := 1) (v := .int .i64 B) rfl
     go_wp2_with fail
     refine KV.step hs ?_
     intro w3 hs hb
     clear a0 a1
     replace XT := XT.on hb
     replace XP := XP.on hb
     have a0 := XP.cell (i := 0) (v := .int .i64 A) rfl
     have a1 := XP.cell (i := 1) (v := .int .i64 B) rfl
     have t0 := XT.cell (i := 0) (v := .string mn) rfl
     have t1 := XT.cell (i := 1) (v := .string md) rfl
     have t2 := XT.cell (i := 2) (v := .string pn) rfl
     have t3 := XT.cell (i := 3) (v := .string pd) rfl
     have t4 := XT.cell (i := 4) (v := .int .i64 ct) rfl
     go_wp2_with fail
     clear t0 t1 t2 t3 t4
     refine KA.step hs ?_
     intro w3 hs hb
     clear a0 a1
     replace XT := XT.on hb
     replace XP := XP.on hb
     have a0 := XP.cell (i := 0) (v := .int .i64 A) rfl
     have a1 := XP.cell (i := 1) (v := .int .i64 B) rfl
     have t0 := XT.cell (i := 0) (v := .string mn) rfl
     have t1 := XT.cell (i := 1) (v := .string md) rfl
     have t2 := XT.cell (i := 2) (v := .string pn) rfl
     have t3 := XT.cell (i := 3) (v := .string pd) rfl
     have t4 := XT.cell (i := 4) (v := .int .i64 ct) rfl
     go_wp2_with fail
     clear t0 t1 t2 t3 t4
     refine KB.step hs ?_
     intro w3 hs hb
     clear a0 a1
     replace XT := XT.on hb
     replace XP := XP.on hb
     have a0 := XP.cell (i := 0) (v := .int .i64 A) rfl
     have a1 := XP.cell (i := 1) (v := .int .i64 B) rfl
     have t0 := XT.cell (i := 0) (v := .string mn) rfl
     have t1 := XT.cell (i := 1) (v := .string md) rfl
     have t2 := XT.cell (i := 2) (v := .string pn) rfl
     have t3 := XT.cell (i := 3) (v := .string pd) rfl
     have t4 := XT.cell (i := 4) (v := .int .i64 ct) rfl
     go_wp2_with fail
     clear t0 t1 t2 t3 t4
     go_ret2
     exact ⟨rfl, hs.2⟩
    | false =>
     rw [hB] at HE2 KB
     rw [Bool.false_or, if_neg (by decide)] at HE2
     by_cases hl : B < A
     ·rw [if_pos hl] at HE2
      rw [HR.out 8 HE2 (by decide), HE2]
      have q : decide (B < A) = true := decide_eq_true hl
      clear HE HE2 HR HZ hA hB hl
      go_enter Tryz.func29, Tryz.ntmps29
      go_wp2_with fail
      refine KT.step hs ?_
      intro w2 hs hb
      replace XT := XT.on hb
      replace XP := XP.on hb
      have a0 := XP.cell (i := 0) (v := .int .i64 A) rfl
      have a1 := XP.cell (i := 1) (v := .int .i64 B) rfl
      go_wp2_with fail
      refine KV.step hs ?_
      intro w3 hs hb
      clear a0 a1
      replace XT := XT.on hb
      replace XP := XP.on hb
      have a0 := XP.cell (i := 0) (v := .int .i64 A) rfl
      have a1 := XP.cell (i := 1) (v := .int .i64 B) rfl
      have t0 := XT.cell (i := 0) (v := .string mn) rfl
      have t1 := XT.cell (i := 1) (v := .string md) rfl
      have t2 := XT.cell (i := 2) (v := .string pn) rfl
      have t3 := XT.cell (i := 3) (v := .string pd) rfl
      have t4 := XT.cell (i := 4) (v := .int .i64 ct) rfl
      go_wp2_with fail
      clear t0 t1 t2 t3 t4
      refine KA.step hs ?_
      intro w3 hs hb
      clear a0 a1
      replace XT := XT.on hb
      replace XP := XP.on hb
      have a0 := XP.cell (i := 0) (v := .int .i64 A) rfl
      have a1 := XP.cell (i := 1) (v := .int .i64 B) rfl
      have t0 := XT.cell (i := 0) (v := .string mn) rfl
      have t1 := XT.cell (i := 1) (v := .string md) rfl
      have t2 := XT.cell (i := 2) (v := .string pn) rfl
      have t3 := XT.cell (i := 3) (v := .string pd) rfl
      have t4 := XT.cell (i := 4) (v := .int .i64 ct) rfl
      go_wp2_with fail
      clear t0 t1 t2 t3 t4
      refine KB.step hs ?_
      intro w3 hs hb
      clear a0 a1
      replace XT := XT.on hb
      replace XP := XP.on hb
      have a0 := XP.cell (i := 0) (v := .int .i64 A) rfl
      have a1 := XP.cell (i := 1) (v := .int .i64 B) rfl
      have t0 := XT.cell (i := 0) (v := .string mn) rfl
      have t1 := XT.cell (i := 1) (v := .string md) rfl
      have t2 := XT.cell (i := 2) (v := .string pn) rfl
      have t3 := XT.cell (i := 3) (v := .string pd) rfl
      have t4 := XT.cell (i := 4) (v := .int .i64 ct) rfl
      go_wp2_with fail
      clear t0 t1 t2 t3 t4
      go_ret2
      exact ⟨rfl, hs.2⟩
     ·rw [if_neg hl] at HE2
      rw [HZ.out HE2, HE2]
      have q : decide (B < A) = false := decide_eq_false hl
      clear HE HE2 HR HZ hA hB hl
      go_enter Tryz.func29, Tryz.ntmps29
      go_wp2_with fail
      refine KT.step hs ?_
      intro w2 hs hb
      replace XT := XT.on hb
      replace XP := XP.on hb
      have a0 := XP.cell (i := 0) (v := .int .i64 A) rfl
      have a1 := XP.cell (i := 1) (v := .int .i64 B) rfl
      go_wp2_with fail
      refine KV.step hs ?_
      intro w3 hs hb
      clear a0 a1
      replace XT := XT.on hb
      replace XP := XP.on hb
      have a0 := XP.cell (i := 0) (v := .int .i64 A) rfl
      have a1 := XP.cell (i := 1) (v := .int .i64 B) rfl
      have t0 := XT.cell (i := 0) (v := .string mn) rfl
      have t1 := XT.cell (i := 1) (v := .string md) rfl
      have t2 := XT.cell (i := 2) (v := .string pn) rfl
      have t3 := XT.cell (i := 3) (v := .string pd) rfl
      have t4 := XT.cell (i := 4) (v := .int .i64 ct) rfl
      go_wp2_with fail
      clear t0 t1 t2 t3 t4
      refine KA.step hs ?_
      intro w3 hs hb
      clear a0 a1
      replace XT := XT.on hb
      replace XP := XP.on hb
      have a0 := XP.cell (i := 0) (v := .int .i64 A) rfl
      have a1 := XP.cell (i := 1) (v := .int .i64 B) rfl
      have t0 := XT.cell (i := 0) (v := .string mn) rfl
      have t1 := XT.cell (i := 1) (v := .string md) rfl
      have t2 := XT.cell (i := 2) (v := .string pn) rfl
      have t3 := XT.cell (i := 3) (v := .string pd) rfl
      have t4 := XT.cell (i := 4) (v := .int .i64 ct) rfl
      go_wp2_with fail
      clear t0 t1 t2 t3 t4
      refine KB.step hs ?_
      intro w3 hs hb
      clear a0 a1
      replace XT := XT.on hb
      replace XP := XP.on hb
      have a0 := XP.cell (i := 0) (v := .int .i64 A) rfl
      have a1 := XP.cell (i := 1) (v := .int .i64 B) rfl
      have t0 := XT.cell (i := 0) (v := .string mn) rfl
      have t1 := XT.cell (i := 1) (v := .string md) rfl
      have t2 := XT.cell (i := 2) (v := .string pn) rfl
      have t3 := XT.cell (i := 3) (v := .string pd) rfl
      have t4 := XT.cell (i := 4) (v := .int .i64 ct) rfl
      go_wp2_with fail
      clear t0 t1 t2 t3 t4
      refine KM.step hs ?_
      intro w3 hs hb
      clear a0 a1
      replace XT := XT.on hb
      replace XP := XP.on hb
      have a0 := XP.cell (i := 0) (v := .int .i64 A) rfl
      have a1 := XP.cell (i := 1) (v := .int .i64 B) rfl
      have t0 := XT.cell (i := 0) (v := .string mn) rfl
      have t1 := XT.cell (i := 1) (v := .string md) rfl
      have t2 := XT.cell (i := 2) (v := .string pn) rfl
      have t3 := XT.cell (i := 3) (v := .string pd) rfl
      have t4 := XT.cell (i := 4) (v := .int .i64 ct) rfl
      go_wp2_with fail
      clear t0 t1 t2 t3 t4
      go_ret2
      exact ⟨rfl, hs.2⟩
  ·have HE2 := HE.out
   rw [if_pos (.inr h2)] at HE2
   rw [HR.out 1 HE2 (by decide), HE2]
   have q : (cv != 0) = true := by simpa using h2
   clear HE HE2 HR HZ h2
   go_enter Tryz.func29, Tryz.ntmps29
   go_wp2_with fail
   refine KT.step hs ?_
   intro w2 hs hb
   replace XT := XT.on hb
   replace XP := XP.on hb
   have a0 := XP.cell (i := 0) (v := .int .i64 A) rfl
   have a1 := XP.cell (i := 1) (v := .int .i64 B) rfl
   go_wp2_with fail
   refine KV.step hs ?_
   intro w3 hs hb
   clear a0 a1
   replace XT := XT.on hb
   replace XP := XP.on hb
   have a0 := XP.cell (i := 0) (v := .int .i64 A) rfl
   have a1 := XP.cell (i := 1) (v := .int .i64 B) rfl
   have t0 := XT.cell (i := 0) (v := .string mn) rfl
   have t1 := XT.cell (i := 1) (v := .string md) rfl
   have t2 := XT.cell (i := 2) (v := .string pn) rfl
   have t3 := XT.cell (i := 3) (v := .string pd) rfl
   have t4 := XT.cell (i := 4) (v := .int .i64 ct) rfl
   go_wp2_with fail
   clear t0 t1 t2 t3 t4
   go_ret2
   exact ⟨rfl, hs.2⟩
 ·have HE2 := HE.out
  rw [if_pos (.inl h1)] at HE2
  rw [HR.out 1 HE2 (by decide), HE2]
  have q : (te != 0) = true := by simpa using h1
  clear HE HE2 HR HZ h1
  go_enter Tryz.func29, Tryz.ntmps29
  go_wp2_with fail
  refine KT.step hs ?_
  intro w2 hs hb
  replace XT := XT.on hb
  replace XP := XP.on hb
  have a0 := XP.cell (i := 0) (v := .int .i64 A) rfl
  have a1 := XP.cell (i := 1) (v := .int .i64 B) rfl
  go_wp2_with fail
  go_ret2
  exact ⟨rfl, hs.2⟩
end Go.Proofs.YticfdeaphiifeaaGreatDoor
namespace Go.Proofs.YticfdeaphiifeaaGreatDoor
open Go.RowKit Go.Shelf Dec QQ
theorem Fit.subI {k m : Nat} {x y : Int} (h : Fit k x) (h2 : Fit m y) (hk : k ≤ m) : Fit (m + 1) (x - y) := by
 have h3 : 10 ^ k ≤ 10 ^ m := Nat.pow_le_pow_right (by decide) hk
 unfold Fit at *
 rw [Nat.pow_succ]
 omega
theorem perf_any {T : TermS} (hz : T.le 13) {v u : ByteArray} (hv : v.size ≤ 60) (hu : u.size ≤ 40) (hp : 0 < valS u) {mk : Rat} {km : Nat} (hk : FitQ km mk) (hkm : km ≤ 10000) :
  Ret 80 #[tval T, .string v, .string u, FR mk] (.tuple #[.string (canS (pfI (valS v) T.p (valS u) mk)), FR (pfM (valS v) T.p (valS u) mk)]) := by
 intro w hg
 obtain ⟨mn, md, pn, pd, ct⟩ := T
 unfold tval TermS.p
 dsimp only
 obtain ⟨z1, z2, z3, z4⟩ : mn.size ≤ 13 ∧ md.size ≤ 13 ∧ pn.size ≤ 13 ∧ pd.size ≤ 13 := hz
 have va := Vs.arg (s := v) (by omega)
 have vu := Vs.arg (s := u) (by omega)
 have vp := Vq.arg (n := pn) (d := pd) (by omega) (by omega)
 have fp := FitQ.arg (n := pn) (d := pd) (k := 13) z3 z4 (by omega)
 have fv : FitQ 60 ((valS v : Int) : Rat) := FitQ.int (Fit.val hv) (by omega)
 have fu : FitQ 40 ((valS u : Int) : Rat) := FitQ.int (Fit.val hu) (by omega)
 have vk := Vq.fr hk (by omega)
 have KO1 := OfF va (by omega)
 have KO2 := OfF vu (by omega)
 have KM := MulF vk (Vq.fr fu (by omega))
 have f1 := hk.mul fu
 have KS := SubF (Vq.fr fv (by omega)) (Vq.fr f1 (by omega))
 have fo := fv.sub f1
 have KC := CmpF (Vq.fr fo (by omega)) vq0 (fo.sub fit0) (by omega)
 have qo : decide (0 < cmpQ (((valS v : Int) : Rat) - mk * ((valS u : Int) : Rat)) 0) = decide (0 < ((valS v : Int) : Rat) - mk * ((valS u : Int) : Rat)) := cmpQ_pos
 clear fv fu f1
 by_cases ho : 0 < ((valS v : Int) : Rat) - mk * ((valS u : Int) : Rat)
 ·skip
  have eF : pfI (valS v) (ratV pn pd) (valS u) mk = rndQ 1 (ratV pn pd * (((valS v : Int) : Rat) - mk * ((valS u : Int) : Rat))) := if_pos ho
  rw [decide_eq_true ho] at qo
  have KM2 := MulF vp (Vq.fr fo (by omega))
  have f3 := fp.mul fo
  have KR := round_any (Vq.fr f3 (by omega)) f3 (by omega)
  have ff : Fit (13 + (60 + (km + 40) + 1) + 1) (rndQ 1 (ratV pn pd * (((valS v : Int) : Rat) - mk * ((valS u : Int) : Rat)))) := rnd_fit 1 f3
  have vf : Vs (canS (rndQ 1 (ratV pn pd * (((valS v : Int) : Rat) - mk * ((valS u : Int) : Rat))))) (rndQ 1 (ratV pn pd * (((valS v : Int) : Rat) - mk * ((valS u : Int) : Rat)))) := Vs.can ff (by omega)
  have KS2 := SubR va vf
  have fs := Fit.subI (Fit.val hv) ff (by omega)
  have vs2 : Vs (canS (valS v - (rndQ 1 (ratV pn pd * (((valS v : Int) : Rat) - mk * ((valS u : Int) : Rat)))))) (valS v - (rndQ 1 (ratV pn pd * (((valS v : Int) : Rat) - mk * ((valS u : Int) : Rat))))) := Vs.can fs (by omega)
  have KN := NewF vs2 vu (by have := fs.size; omega) (by omega) (by omega)
  have fq := (FitQ.rat fs (Fit.val hu) (by omega)).mono (show _ ≤ km + 200 by omega)
  have KC2 := CmpF (Vq.fr fq (by omega)) vk (fq.sub hk) (by omega)
  have qt : decide (0 < cmpQ (rat (valS v - (rndQ 1 (ratV pn pd * (((valS v : Int) : Rat) - mk * ((valS u : Int) : Rat))))) (valS u)) mk) = decide (mk < rat (valS v - (rndQ 1 (ratV pn pd * (((valS v : Int) : Rat) - mk * ((valS u : Int) : Rat))))) (valS u)) := cmpQ_pos
  have eM : pfM (valS v) (ratV pn pd) (valS u) mk = if mk < rat (valS v - (rndQ 1 (ratV pn pd * (((valS v : Int) : Rat) - mk * ((valS u : Int) : Rat))))) (valS u) then rat (valS v - (rndQ 1 (ratV pn pd * (((valS v : Int) : Rat) - mk * ((valS u : Int) : Rat))))) (valS u) else mk := by unfold pfM; rw [eF]
  rw [eF, eM]
  have HRes : Hid (∀ t, decide (mk < rat (valS v - (rndQ 1 (ratV pn pd * (((valS v : Int) : Rat) - mk * ((valS u : Int) : Rat))))) (valS u)) = t → FR (if mk < rat (valS v - (rndQ 1 (ratV pn pd * (((valS v : Int) : Rat) - mk * ((valS u : Int) : Rat))))) (valS u) then rat (valS v - (rndQ 1 (ratV pn pd * (((valS v : Int) : Rat) - mk * ((valS u : Int) : Rat))))) (valS u) else mk) = if t = true then FR (rat (valS v - (rndQ 1 (ratV pn pd * (((valS v : Int) : Rat) - mk * ((valS u : Int) : Rat))))) (valS u)) else FR mk) := fun t ht => by
   subst ht
   by_cases hc : mk < rat (valS v - (rndQ 1 (ratV pn pd * (((valS v : Int) : Rat) - mk * ((valS u : Int) : Rat))))) (valS u)
   ·rw [if_pos hc, decide_eq_true hc, if_pos rfl]
   ·rw [if_neg hc, decide_eq_false hc, if_neg (by decide)]
  obtain ⟨tp, htp⟩ : ∃ t, decide (mk < rat (valS v - (rndQ 1 (ratV pn pd * (((valS v : Int) : Rat) - mk * ((valS u : Int) : Rat))))) (valS u)) = t := ⟨_, rfl⟩
  rw [htp] at qt
  rw [HRes.out tp htp]
  clear HRes htp eF eM
  unfold FV at *
  unfold FR at *
  clear va vu vp vk fp fo ff vf fs vs2 fq ho f3
  generalize cmpQ (rat (valS v - (rndQ 1 (ratV pn pd * (((valS v : Int) : Rat) - mk * ((valS u : Int) : Rat))))) (valS u)) mk = cq at *
  generalize frN (rat (valS v - (rndQ 1 (ratV pn pd * (((valS v : Int) : Rat) - mk * ((valS u : Int) : Rat))))) (valS u)) = qn at *
  generalize frD (rat (valS v - (rndQ 1 (ratV pn pd * (((valS v : Int) : Rat) - mk * ((valS u : Int) : Rat))))) (valS u)) = qd at *
  generalize canS (valS v - (rndQ 1 (ratV pn pd * (((valS v : Int) : Rat) - mk * ((valS u : Int) : Rat))))) = ss at *
  generalize canS (rndQ 1 (ratV pn pd * (((valS v : Int) : Rat) - mk * ((valS u : Int) : Rat)))) = fs at *
  generalize frN (ratV pn pd * (((valS v : Int) : Rat) - mk * ((valS u : Int) : Rat))) = rn at *
  generalize frD (ratV pn pd * (((valS v : Int) : Rat) - mk * ((valS u : Int) : Rat))) = rd at *
  generalize cmpQ (((valS v : Int) : Rat) - mk * ((valS u : Int) : Rat)) 0 = co at *
  generalize frN (((valS v : Int) : Rat) - mk * ((valS u : Int) : Rat)) = on at *
  generalize frD (((valS v : Int) : Rat) - mk * ((valS u : Int) : Rat)) = od at *
  generalize frN (mk * ((valS u : Int) : Rat)) = xn at *
  generalize frD (mk * ((valS u : Int) : Rat)) = xd at *
  generalize frN ((valS u : Int) : Rat) = un at *
  generalize frD ((valS u : Int) : Rat) = ud at *
  generalize frN ((valS v : Int) : Rat) = vn at *
  generalize frD ((valS v : Int) : Rat) = vd at *
  generalize frN mk = kn at *
  generalize frD mk = kd at *
  have hs := (((St.refl hg).alloc (.cells #[.string mn, .string md, .string pn, .string pd, .int .i64 ct] 44)).alloc (.cells #[.string kn, .string kd] 34)).alloc (.cells #[.string ⟨#[]⟩, .string ⟨#[]⟩] 34)
  have XT := ((Bx.new w #[.string mn, .string md, .string pn, .string pd, .int .i64 ct] 44).alloc (.cells #[.string kn, .string kd] 34)).alloc (.cells #[.string ⟨#[]⟩, .string ⟨#[]⟩] 34)
  have XM := (Bx.new1 w (.cells #[.string mn, .string md, .string pn, .string pd, .int .i64 ct] 44) #[.string kn, .string kd] 34).alloc (.cells #[.string ⟨#[]⟩, .string ⟨#[]⟩] 34)
  have XZ := Bx.new2 w (.cells #[.string mn, .string md, .string pn, .string pd, .int .i64 ct] 44) (.cells #[.string kn, .string kd] 34) #[.string ⟨#[]⟩, .string ⟨#[]⟩] 34
  go_enter Tryz.func80, Tryz.ntmps80
  go_wp2_with fail
  refine wp_region_fresh1 8 7 11 #[.string ⟨#[]⟩, .string ⟨#[]⟩] (by kernel_rfl) (by kernel_rfl) (by kernel_rfl) (by omega) rfl (by kernel_rfl) ⟨_, 11, _, rfl, rfl, rfl, fun _ _ => by simp [execOp, go_sem, ptrTo]; rfl⟩ ?_
  apply Exists.intro
  refine ⟨fun S W hne hk hcl => ?_, ?_⟩
  ·simp only [List.take_succ_cons, List.take_zero, quietL, List.mem_cons, List.not_mem_nil, or_false, Nat.reduceAdd, Nat.reduceEqDiff, reduceIte, Nat.zero_add]
   have kk0 := XM.in hk (i := 0) (v := .string kn) rfl
   have kk1 := XM.in hk (i := 1) (v := .string kd) rfl
   repeat (go_big_quiet_step (first | (with_reducible exact KO1.fresh hs hk hcl) | (with_reducible exact KO2.fresh hs hk hcl) | (with_reducible exact KM.fresh hs hk hcl) | (with_reducible exact KS.fresh hs hk hcl)))
   exact wpQuiet_nil rfl
  intro b1 v1 hb1 hv1 hx1
  simp only [List.drop_succ_cons, List.drop_zero, ptrTo]
  have z0 := hx1.cell (i := 0) (v := .string ⟨#[]⟩) rfl
  have z1 := hx1.cell (i := 1) (v := .string ⟨#[]⟩) rfl
  have g0 := hx1.frozen 0
  have g1 := hx1.frozen 1
  go_wp2_with fail
  have lb : w.heap.size + 3 ≤ b1 := by simp at hb1; omega
  have hl : Below w.heap.size w v1 := hs.2.trans (hv1.mono hs.2.size)
  replace hs : St w ((v1.setCell ⟨b1, 0, none⟩ (.string on)).setCell ⟨b1, 1, none⟩ (.string od)) := ((hs.on hv1).set (b := b1) (by omega) 0 (.string on)).set (b := b1) (by omega) 1 (.string od)
  replace XT := ((XT.on hv1).other (c := b1) (by omega) 0 (.string on)).other (c := b1) (by omega) 1 (.string od)
  replace XM := ((XM.on hv1).other (c := b1) (by omega) 0 (.string on)).other (c := b1) (by omega) 1 (.string od)
  replace XZ := ((XZ.on hv1).other (c := b1) (by omega) 0 (.string on)).other (c := b1) (by omega) 1 (.string od)
  have XO : Bx ((v1.setCell ⟨b1, 0, none⟩ (.string on)).setCell ⟨b1, 1, none⟩ (.string od)) b1 #[.string on, .string od] := (hx1.set 0 (.string on)).set 1 (.string od)
  clear z0 z1 g0 g1 hx1 hl hv1 hb1
  generalize (v1.setCell ⟨b1, 0, none⟩ (.string on)).setCell ⟨b1, 1, none⟩ (.string od) = W4 at *
  refine KC.step hs ?_
  intro w4 hs hb
  replace XT := XT.on hb
  replace XM := XM.on hb
  replace XZ := XZ.on hb
  replace XO := XO.on hb
  have y0 := XT.cell (i := 2) (v := .string pn) rfl
  have y1 := XT.cell (i := 3) (v := .string pd) rfl
  have y2 := XO.cell (i := 0) (v := .string on) rfl
  have y3 := XO.cell (i := 1) (v := .string od) rfl
  go_wp2_with fail
  refine KM2.step hs ?_
  intro w4 hs hb
  clear y0 y1 y2 y3
  replace XM := XM.on hb
  replace XZ := XZ.on hb
  go_wp2_with fail
  refine KR.step hs ?_
  intro w4 hs hb
  replace XM := XM.on hb
  replace XZ := XZ.on hb
  go_wp2_with fail
  refine KS2.step hs ?_
  intro w5 hs hb
  replace XM := XM.on hb
  replace XZ := XZ.on hb
  go_wp2_with fail
  refine KN.step hs ?_
  intro w6 hs hb
  have lM := (XM.on hb).lt
  have lZ := (XZ.on hb).lt
  replace XM := (XM.on hb).alloc (.cells #[.string qn, .string qd] 34)
  replace XZ := (XZ.on hb).alloc (.cells #[.string qn, .string qd] 34)
  have XQ := Bx.new w6 #[.string qn, .string qd] 34
  replace hs := hs.alloc (.cells #[.string qn, .string qd] 34)
  have y0 := XM.cell (i := 0) (v := .string kn) rfl
  have y1 := XM.cell (i := 1) (v := .string kd) rfl
  have y2 := XQ.cell (i := 0) (v := .string qn) rfl
  have y3 := XQ.cell (i := 1) (v := .string qd) rfl
  go_wp2_with fail
  refine KC2.step hs ?_
  intro w7 hs hb
  clear y0 y1 y2 y3
  replace XM := XM.on hb
  replace XZ := XZ.on hb
  replace XQ := XQ.on hb
  have y0 := XM.cell (i := 0) (v := .string kn) rfl
  have y1 := XM.cell (i := 1) (v := .string kd) rfl
  have y2 := XQ.cell (i := 0) (v := .string qn) rfl
  have y3 := XQ.cell (i := 1) (v := .string qd) rfl
  have g0 := XM.frozen 0
  have g1 := XM.frozen 1
  have n1 : ¬ w6.heap.size = w.heap.size + 1 := by omega
  have n2 : ¬ w.heap.size + 1 = w6.heap.size := by omega
  cases tp with
  | true =>
   go_wp2_with fail
   have hs2 := (hs.set (b := w.heap.size + 1) (by omega) 0 (.string qn)).set (b := w.heap.size + 1) (by omega) 1 (.string qd)
   have XM2 := (XM.set 0 (.string qn)).set 1 (.string qd)
   have XZ2 := (XZ.other (c := w.heap.size + 1) (by omega) 0 (.string qn)).other (c := w.heap.size + 1) (by omega) 1 (.string qd)
   clear y0 y1 y2 y3 g0 g1 XM XZ XQ hs
   generalize (w7.setCell ⟨w.heap.size + 1, 0, none⟩ (.string qn)).setCell ⟨w.heap.size + 1, 1, none⟩ (.string qd) = W8 at *
   replace XM2 : Bx W8 (w.heap.size + 1) #[.string qn, .string qd] := XM2
   have y0 := XM2.cell (i := 0) (v := .string qn) rfl
   have y1 := XM2.cell (i := 1) (v := .string qd) rfl
   have e0 := XZ2.cell (i := 0) (v := .string ⟨#[]⟩) rfl
   have e1 := XZ2.cell (i := 1) (v := .string ⟨#[]⟩) rfl
   have f0 := XZ2.frozen 0
   have f1 := XZ2.frozen 1
   go_region
   all_goals
    go_wp2_with fail
    obtain ⟨W, hW, y0, y1, hbe⟩ := ret_frac hs2 (by omega) XZ2 qn qd
    rw [hW]
    exact bodyPost_ret (v := .tuple #[.string fs, .agg #[.string qn, .string qd]]) (by simp [results, Tryz.results80, go_sem, y0, y1]) rfl ⟨rfl, hbe.drew⟩
  | false =>
   have e0 := XZ.cell (i := 0) (v := .string ⟨#[]⟩) rfl
   have e1 := XZ.cell (i := 1) (v := .string ⟨#[]⟩) rfl
   have f0 := XZ.frozen 0
   have f1 := XZ.frozen 1
   go_wp2_with fail
   go_region
   all_goals
    go_wp2_with fail
    obtain ⟨W, hW, y0, y1, hbe⟩ := ret_frac hs (by omega) XZ kn kd
    rw [hW]
    exact bodyPost_ret (v := .tuple #[.string fs, .agg #[.string kn, .string kd]]) (by simp [results, Tryz.results80, go_sem, y0, y1]) rfl ⟨rfl, hbe.drew⟩
 ·skip
  have eF : pfI (valS v) (ratV pn pd) (valS u) mk = 0 := if_neg ho
  rw [decide_eq_false ho] at qo
  have ff : Fit (13 + (60 + (km + 40) + 1) + 1) 0 := Nat.pow_pos (by decide)
  have vf : Vs ⟨#[]⟩ 0 := Vs.nil
  have KS2 := SubR va vf
  have fs := Fit.subI (Fit.val hv) ff (by omega)
  have vs2 : Vs (canS (valS v - (0))) (valS v - (0)) := Vs.can fs (by omega)
  have KN := NewF vs2 vu (by have := fs.size; omega) (by omega) (by omega)
  have fq := (FitQ.rat fs (Fit.val hu) (by omega)).mono (show _ ≤ km + 200 by omega)
  have KC2 := CmpF (Vq.fr fq (by omega)) vk (fq.sub hk) (by omega)
  have qt : decide (0 < cmpQ (rat (valS v - (0)) (valS u)) mk) = decide (mk < rat (valS v - (0)) (valS u)) := cmpQ_pos
  have eM : pfM (valS v) (ratV pn pd) (valS u) mk = if mk < rat (valS v - (0)) (valS u) then rat (valS v - (0)) (valS u) else mk := by unfold pfM; rw [eF]
  rw [eF, eM]
  rw [canS_zero]
  have HRes : Hid (∀ t, decide (mk < rat (valS v - (0)) (valS u)) = t → FR (if mk < rat (valS v - (0)) (valS u) then rat (valS v - (0)) (valS u) else mk) = if t = true then FR (rat (valS v - (0)) (valS u)) else FR mk) := fun t ht => by
   subst ht
   by_cases hc : mk < rat (valS v - (0)) (valS u)
   ·rw [if_pos hc, decide_eq_true hc, if_pos rfl]
   ·rw [if_neg hc, decide_eq_false hc, if_neg (by decide)]
  obtain ⟨tp, htp⟩ : ∃ t, decide (mk < rat (valS v - (0)) (valS u)) = t := ⟨_, rfl⟩
  rw [htp] at qt
  rw [HRes.out tp htp]
  clear HRes htp eF eM
  unfold FV at *
  unfold FR at *
  clear va vu vp vk fp fo ff vf fs vs2 fq ho
  generalize cmpQ (rat (valS v - (0)) (valS u)) mk = cq at *
  generalize frN (rat (valS v - (0)) (valS u)) = qn at *
  generalize frD (rat (valS v - (0)) (valS u)) = qd at *
  generalize canS (valS v - (0)) = ss at *
  generalize cmpQ (((valS v : Int) : Rat) - mk * ((valS u : Int) : Rat)) 0 = co at *
  generalize frN (((valS v : Int) : Rat) - mk * ((valS u : Int) : Rat)) = on at *
  generalize frD (((valS v : Int) : Rat) - mk * ((valS u : Int) : Rat)) = od at *
  generalize frN (mk * ((valS u : Int) : Rat)) = xn at *
  generalize frD (mk * ((valS u : Int) : Rat)) = xd at *
  generalize frN ((valS u : Int) : Rat) = un at *
  generalize frD ((valS u : Int) : Rat) = ud at *
  generalize frN ((valS v : Int) : Rat) = vn at *
  generalize frD ((valS v : Int) : Rat) = vd at *
  generalize frN mk = kn at *
  generalize frD mk = kd at *
  have hs := (((St.refl hg).alloc (.cells #[.string mn, .string md, .string pn, .string pd, .int .i64 ct] 44)).alloc (.cells #[.string kn, .string kd] 34)).alloc (.cells #[.string ⟨#[]⟩, .string ⟨#[]⟩] 34)
  have XT := ((Bx.new w #[.string mn, .string md, .string pn, .string pd, .int .i64 ct] 44).alloc (.cells #[.string kn, .string kd] 34)).alloc (.cells #[.string ⟨#[]⟩, .string ⟨#[]⟩] 34)
  have XM := (Bx.new1 w (.cells #[.string mn, .string md, .string pn, .string pd, .int .i64 ct] 44) #[.string kn, .string kd] 34).alloc (.cells #[.string ⟨#[]⟩, .string ⟨#[]⟩] 34)
  have XZ := Bx.new2 w (.cells #[.string mn, .string md, .string pn, .string pd, .int .i64 ct] 44) (.cells #[.string kn, .string kd] 34) #[.string ⟨#[]⟩, .string ⟨#[]⟩] 34
  go_enter Tryz.func80, Tryz.ntmps80
  go_wp2_with fail
  refine wp_region_fresh1 8 7 11 #[.string ⟨#[]⟩, .string ⟨#[]⟩] (by kernel_rfl) (by kernel_rfl) (by kernel_rfl) (by omega) rfl (by kernel_rfl) ⟨_, 11, _, rfl, rfl, rfl, fun _ _ => by simp [execOp, go_sem, ptrTo]; rfl⟩ ?_
  apply Exists.intro
  refine ⟨fun S W hne hk hcl => ?_, ?_⟩
  ·simp only [List.take_succ_cons, List.take_zero, quietL, List.mem_cons, List.not_mem_nil, or_false, Nat.reduceAdd, Nat.reduceEqDiff, reduceIte, Nat.zero_add]
   have kk0 := XM.in hk (i := 0) (v := .string kn) rfl
   have kk1 := XM.in hk (i := 1) (v := .string kd) rfl
   repeat (go_big_quiet_step (first | (with_reducible exact KO1.fresh hs hk hcl) | (with_reducible exact KO2.fresh hs hk hcl) | (with_reducible exact KM.fresh hs hk hcl) | (with_reducible exact KS.fresh hs hk hcl)))
   exact wpQuiet_nil rfl
  intro b1 v1 hb1 hv1 hx1
  simp only [List.drop_succ_cons, List.drop_zero, ptrTo]
  have z0 := hx1.cell (i := 0) (v := .string ⟨#[]⟩) rfl
  have z1 := hx1.cell (i := 1) (v := .string ⟨#[]⟩) rfl
  have g0 := hx1.frozen 0
  have g1 := hx1.frozen 1
  go_wp2_with fail
  have lb : w.heap.size + 3 ≤ b1 := by simp at hb1; omega
  have hl : Below w.heap.size w v1 := hs.2.trans (hv1.mono hs.2.size)
  replace hs : St w ((v1.setCell ⟨b1, 0, none⟩ (.string on)).setCell ⟨b1, 1, none⟩ (.string od)) := ((hs.on hv1).set (b := b1) (by omega) 0 (.string on)).set (b := b1) (by omega) 1 (.string od)
  replace XT := ((XT.on hv1).other (c := b1) (by omega) 0 (.string on)).other (c := b1) (by omega) 1 (.string od)
  replace XM := ((XM.on hv1).other (c := b1) (by omega) 0 (.string on)).other (c := b1) (by omega) 1 (.string od)
  replace XZ := ((XZ.on hv1).other (c := b1) (by omega) 0 (.string on)).other (c := b1) (by omega) 1 (.string od)
  have XO : Bx ((v1.setCell ⟨b1, 0, none⟩ (.string on)).setCell ⟨b1, 1, none⟩ (.string od)) b1 #[.string on, .string od] := (hx1.set 0 (.string on)).set 1 (.string od)
  clear z0 z1 g0 g1 hx1 hl hv1 hb1
  generalize (v1.setCell ⟨b1, 0, none⟩ (.string on)).setCell ⟨b1, 1, none⟩ (.string od) = W4 at *
  refine KC.step hs ?_
  intro w4 hs hb
  replace XT := XT.on hb
  replace XM := XM.on hb
  replace XZ := XZ.on hb
  replace XO := XO.on hb
  go_wp2_with fail
  refine KS2.step hs ?_
  intro w5 hs hb
  replace XM := XM.on hb
  replace XZ := XZ.on hb
  go_wp2_with fail
  refine KN.step hs ?_
  intro w6 hs hb
  have lM := (XM.on hb).lt
  have lZ := (XZ.on hb).lt
  replace XM := (XM.on hb).alloc (.cells #[.string qn, .string qd] 34)
  replace XZ := (XZ.on hb).alloc (.cells #[.string qn, .string qd] 34)
  have XQ := Bx.new w6 #[.string qn, .string qd] 34
  replace hs := hs.alloc (.cells #[.string qn, .string qd] 34)
  have y0 := XM.cell (i := 0) (v := .string kn) rfl
  have y1 := XM.cell (i := 1) (v := .string kd) rfl
  have y2 := XQ.cell (i := 0) (v := .string qn) rfl
  have y3 := XQ.cell (i := 1) (v := .string qd) rfl
  go_wp2_with fail
  refine KC2.step hs ?_
  intro w7 hs hb
  clear y0 y1 y2 y3
  replace XM := XM.on hb
  replace XZ := XZ.on hb
  replace XQ := XQ.on hb
  have y0 := XM.cell (i := 0) (v := .string kn) rfl
  have y1 := XM.cell (i := 1) (v := .string kd) rfl
  have y2 := XQ.cell (i := 0) (v := .string qn) rfl
  have y3 := XQ.cell (i := 1) (v := .string qd) rfl
  have g0 := XM.frozen 0
  have g1 := XM.frozen 1
  have n1 : ¬ w6.heap.size = w.heap.size + 1 := by omega
  have n2 : ¬ w.heap.size + 1 = w6.heap.size := by omega
  cases tp with
  | true =>
   go_wp2_with fail
   have hs2 := (hs.set (b := w.heap.size + 1) (by omega) 0 (.string qn)).set (b := w.heap.size + 1) (by omega) 1 (.string qd)
   have XM2 := (XM.set 0 (.string qn)).set 1 (.string qd)
   have XZ2 := (XZ.other (c := w.heap.size + 1) (by omega) 0 (.string qn)).other (c := w.heap.size + 1) (by omega) 1 (.string qd)
   clear y0 y1 y2 y3 g0 g1 XM XZ XQ hs
   generalize (w7.setCell ⟨w.heap.size + 1, 0, none⟩ (.string qn)).setCell ⟨w.heap.size + 1, 1, none⟩ (.string qd) = W8 at *
   replace XM2 : Bx W8 (w.heap.size + 1) #[.string qn, .string qd] := XM2
   have y0 := XM2.cell (i := 0) (v := .string qn) rfl
   have y1 := XM2.cell (i := 1) (v := .string qd) rfl
   have e0 := XZ2.cell (i := 0) (v := .string ⟨#[]⟩) rfl
   have e1 := XZ2.cell (i := 1) (v := .string ⟨#[]⟩) rfl
   have f0 := XZ2.frozen 0
   have f1 := XZ2.frozen 1
   go_region
   all_goals
    go_wp2_with fail
    obtain ⟨W, hW, y0, y1, hbe⟩ := ret_frac hs2 (by omega) XZ2 qn qd
    rw [hW]
    exact bodyPost_ret (v := .tuple #[.string ⟨#[]⟩, .agg #[.string qn, .string qd]]) (by simp [results, Tryz.results80, go_sem, y0, y1]) rfl ⟨rfl, hbe.drew⟩
  | false =>
   have e0 := XZ.cell (i := 0) (v := .string ⟨#[]⟩) rfl
   have e1 := XZ.cell (i := 1) (v := .string ⟨#[]⟩) rfl
   have f0 := XZ.frozen 0
   have f1 := XZ.frozen 1
   go_wp2_with fail
   go_region
   all_goals
    go_wp2_with fail
    obtain ⟨W, hW, y0, y1, hbe⟩ := ret_frac hs (by omega) XZ kn kd
    rw [hW]
    exact bodyPost_ret (v := .tuple #[.string ⟨#[]⟩, .agg #[.string kn, .string kd]]) (by simp [results, Tryz.results80, go_sem, y0, y1]) rfl ⟨rfl, hbe.drew⟩
theorem FR_zero : FR 0 = .agg #[.string ⟨#[]⟩, .string ⟨#[]⟩] := by
 unfold FR
 rw [frN_zero, frD_zero]
theorem FR_can {n d : ByteArray} (h : chkF n d = 0) : n = frN (ratV n d) ∧ d = frD (ratV n d) := canB_iff.1 (by unfold canB; rw [h]; rfl)
theorem pft_any {T : TermS} (hz : T.le 13) {v u kn kd : ByteArray} (hv : v.size ≤ 60) (hu : u.size ≤ 40) (s1 : kn.size ≤ 10000) (s2 : kd.size ≤ 10000) :
  Ret 30 #[tval T, .string v, .string u, FV kn kd] (.tuple #[.string (pfR T v u kn kd), FR (pfQ T v u kn kd), .int .i64 (pfE T v u kn kd)]) := by
 intro w hg
 have KT := fchk_any hz
 have KV := ChkR (a := v) (by omega)
 have KU := cntU_any (u := u) (kn := kn) (kd := kd) hu (by omega) (by omega)
 unfold FV at KU ⊢
 have HR : Hid (∀ e : Int, pfE T v u kn kd = e → e ≠ 0 → pfR T v u kn kd = ⟨#[]⟩ ∧ pfQ T v u kn kd = 0) := fun e h h0 => ⟨if_neg (by rw [h]; exact h0), if_neg (by rw [h]; exact h0)⟩
 have HE : Hid (pfE T v u kn kd = if termE T ≠ 0 ∨ chk v ≠ 0 then 1 else cntE u kn kd) := rfl
 have hs := (((St.refl hg).alloc (.cells (tcells T) 44)).alloc (.cells #[.string kn, .string kd] 34)).alloc (.cells #[.string ⟨#[]⟩, .string ⟨#[]⟩] 34)
 have XT := ((Bx.new w (tcells T) 44).alloc (.cells #[.string kn, .string kd] 34)).alloc (.cells #[.string ⟨#[]⟩, .string ⟨#[]⟩] 34)
 have XM := (Bx.new1 w (.cells (tcells T) 44) #[.string kn, .string kd] 34).alloc (.cells #[.string ⟨#[]⟩, .string ⟨#[]⟩] 34)
 have XZ := Bx.new2 w (.cells (tcells T) 44) (.cells #[.string kn, .string kd] 34) #[.string ⟨#[]⟩, .string ⟨#[]⟩] 34
 by_cases h1 : termE T = 0
 ·by_cases h2 : chk v = 0
  ·have HE2 := HE.out
   rw [if_neg (by rw [h1, h2]; simp)] at HE2
   rw [h1] at KT
   rw [h2] at KV
   by_cases h3 : cntE u kn kd = 0
   ·obtain ⟨c1, c2, c3, c4⟩ := cnt_zero h3
    obtain ⟨e1, e2⟩ := FR_can c2
    have KP := perf_any hz hv hu c3 (mk := ratV kn kd) (FitQ.arg (k := 10000) s1 s2 (by omega)) (by omega)
    rw [h3] at KU HE2
    have eR : pfR T v u kn kd = canS (pfI (valS v) T.p (valS u) (ratV kn kd)) := if_pos HE2
    have eQ : pfQ T v u kn kd = pfM (valS v) T.p (valS u) (ratV kn kd) := if_pos HE2
    rw [eR, eQ, HE2]
    unfold FR at KP ⊢
    rw [← e1, ← e2] at KP
    clear HE HE2 HR h1 h2 h3 c1 c2 c3 c4 e1 e2 eR eQ hv hu s1 s2 hz
    generalize canS (pfI (valS v) T.p (valS u) (ratV kn kd)) = fs at *
    generalize frN (pfM (valS v) T.p (valS u) (ratV kn kd)) = rn at *
    generalize frD (pfM (valS v) T.p (valS u) (ratV kn kd)) = rd at *
    obtain ⟨mn, md, pn, pd, ct⟩ := T
    unfold tval tcells at *
    dsimp only at *
    have t0 := XT.cell (i := 0) (v := .string mn) rfl
    have t1 := XT.cell (i := 1) (v := .string md) rfl
    have t2 := XT.cell (i := 2) (v := .string pn) rfl
    have t3 := XT.cell (i := 3) (v := .string pd) rfl
    have t4 := XT.cell (i := 4) (v := .int .i64 ct) rfl
    go_enter Tryz.func30, Tryz.ntmps30
    go_wp2_with fail
    refine KT.step hs ?_
    intro w2 hs hb
    replace XT := XT.on hb
    replace XM := XM.on hb
    replace XZ := XZ.on hb
    clear t0 t1 t2 t3 t4
    have t0 := XT.cell (i := 0) (v := .string mn) rfl
    have t1 := XT.cell (i := 1) (v := .string md) rfl
    have t2 := XT.cell (i := 2) (v := .string pn) rfl
    have t3 := XT.cell (i := 3) (v := .string pd) rfl
    have t4 := XT.cell (i := 4) (v := .int .i64 ct) rfl
    have m0 := XM.cell (i := 0) (v := .string kn) rfl
    have m1 := XM.cell (i := 1) (v := .string kd) rfl
    have e0 := XZ.cell (i := 0) (v := .string ⟨#[]⟩) rfl
    have e1 := XZ.cell (i := 1) (v := .string ⟨#[]⟩) rfl
    have f0 := XZ.frozen 0
    have f1 := XZ.frozen 1
    go_wp2_with fail
    clear m0 m1 e0 e1 f0 f1
    refine KV.step hs ?_
    intro w2 hs hb
    replace XT := XT.on hb
    replace XM := XM.on hb
    replace XZ := XZ.on hb
    clear t0 t1 t2 t3 t4
    have t0 := XT.cell (i := 0) (v := .string mn) rfl
    have t1 := XT.cell (i := 1) (v := .string md) rfl
    have t2 := XT.cell (i := 2) (v := .string pn) rfl
    have t3 := XT.cell (i := 3) (v := .string pd) rfl
    have t4 := XT.cell (i := 4) (v := .int .i64 ct) rfl
    have m0 := XM.cell (i := 0) (v := .string kn) rfl
    have m1 := XM.cell (i := 1) (v := .string kd) rfl
    have e0 := XZ.cell (i := 0) (v := .string ⟨#[]⟩) rfl
    have e1 := XZ.cell (i := 1) (v := .string ⟨#[]⟩) rfl
    have f0 := XZ.frozen 0
    have f1 := XZ.frozen 1
    go_wp2_with fail
    clear m0 m1 e0 e1 f0 f1
    refine KU.step hs ?_
    intro w2 hs hb
    replace XT := XT.on hb
    replace XM := XM.on hb
    replace XZ := XZ.on hb
    clear t0 t1 t2 t3 t4
    have t0 := XT.cell (i := 0) (v := .string mn) rfl
    have t1 := XT.cell (i := 1) (v := .string md) rfl
    have t2 := XT.cell (i := 2) (v := .string pn) rfl
    have t3 := XT.cell (i := 3) (v := .string pd) rfl
    have t4 := XT.cell (i := 4) (v := .int .i64 ct) rfl
    have m0 := XM.cell (i := 0) (v := .string kn) rfl
    have m1 := XM.cell (i := 1) (v := .string kd) rfl
    have e0 := XZ.cell (i := 0) (v := .string ⟨#[]⟩) rfl
    have e1 := XZ.cell (i := 1) (v := .string ⟨#[]⟩) rfl
    have f0 := XZ.frozen 0
    have f1 := XZ.frozen 1
    go_wp2_with fail
    clear m0 m1 e0 e1 f0 f1
    refine KP.step hs ?_
    intro w5 hs hb
    have lZ := (XZ.on hb).lt
    replace XZ := (XZ.on hb).alloc (.cells #[.string rn, .string rd] 34)
    have XQ := Bx.new w5 #[.string rn, .string rd] 34
    replace hs := hs.alloc (.cells #[.string rn, .string rd] 34)
    clear t0 t1 t2 t3 t4
    have y0 := XQ.cell (i := 0) (v := .string rn) rfl
    have y1 := XQ.cell (i := 1) (v := .string rd) rfl
    have e0 := XZ.cell (i := 0) (v := .string ⟨#[]⟩) rfl
    have e1 := XZ.cell (i := 1) (v := .string ⟨#[]⟩) rfl
    have f0 := XZ.frozen 0
    have f1 := XZ.frozen 1
    have n1 : ¬ w5.heap.size = w.heap.size + 2 := by omega
    have n2 : ¬ w.heap.size + 2 = w5.heap.size := by omega
    obtain ⟨W0, hW0⟩ : ∃ W0, w5.alloc (.cells #[.string rn, .string rd] 34) = W0 := ⟨_, rfl⟩
    go_wp2_with fail
    rw [hW0] at hs XZ XQ y0 y1 e0 e1 f0 f1
    clear hW0
    generalize w5.heap.size = b2 at *
    go_region
    all_goals
     go_wp2_with fail
     obtain ⟨W, hW, y0, y1, hbe⟩ := ret_frac hs (by omega) XZ rn rd
     rw [hW]
     exact bodyPost_ret (v := .tuple #[.string fs, .agg #[.string rn, .string rd], .int .i64 0]) (by simp [results, Tryz.results30, go_sem, y0, y1]) rfl ⟨rfl, hbe.drew⟩
   ·obtain ⟨r1, r2⟩ := HR.out _ HE2 h3
    rw [r1, r2, HE2, FR_zero]
    have q : (cntE u kn kd != 0) = true := by simpa using h3
    clear HE HE2 HR h1 h2 h3 r1 r2 hv hu s1 s2 hz
    generalize cntE u kn kd = ce at *
    obtain ⟨mn, md, pn, pd, ct⟩ := T
    unfold tval tcells at *
    dsimp only at *
    have t0 := XT.cell (i := 0) (v := .string mn) rfl
    have t1 := XT.cell (i := 1) (v := .string md) rfl
    have t2 := XT.cell (i := 2) (v := .string pn) rfl
    have t3 := XT.cell (i := 3) (v := .string pd) rfl
    have t4 := XT.cell (i := 4) (v := .int .i64 ct) rfl
    go_enter Tryz.func30, Tryz.ntmps30
    go_wp2_with fail
    refine KT.step hs ?_
    intro w2 hs hb
    replace XT := XT.on hb
    replace XM := XM.on hb
    replace XZ := XZ.on hb
    clear t0 t1 t2 t3 t4
    have t0 := XT.cell (i := 0) (v := .string mn) rfl
    have t1 := XT.cell (i := 1) (v := .string md) rfl
    have t2 := XT.cell (i := 2) (v := .string pn) rfl
    have t3 := XT.cell (i := 3) (v := .string pd) rfl
    have t4 := XT.cell (i := 4) (v := .int .i64 ct) rfl
    have m0 := XM.cell (i := 0) (v := .string kn) rfl
    have m1 := XM.cell (i := 1) (v := .string kd) rfl
    have e0 := XZ.cell (i := 0) (v := .string ⟨#[]⟩) rfl
    have e1 := XZ.cell (i := 1) (v := .string ⟨#[]⟩) rfl
    have f0 := XZ.frozen 0
    have f1 := XZ.frozen 1
    go_wp2_with fail
    clear m0 m1 e0 e1 f0 f1
    refine KV.step hs ?_
    intro w2 hs hb
    replace XT := XT.on hb
    replace XM := XM.on hb
    replace XZ := XZ.on hb
    clear t0 t1 t2 t3 t4
    have t0 := XT.cell (i := 0) (v := .string mn) rfl
    have t1 := XT.cell (i := 1) (v := .string md) rfl
    have t2 := XT.cell (i := 2) (v := .string pn) rfl
    have t3 := XT.cell (i := 3) (v := .string pd) rfl
    have t4 := XT.cell (i := 4) (v := .int .i64 ct) rfl
    have m0 := XM.cell (i := 0) (v := .string kn) rfl
    have m1 := XM.cell (i := 1) (v := .string kd) rfl
    have e0 := XZ.cell (i := 0) (v := .string ⟨#[]⟩) rfl
    have e1 := XZ.cell (i := 1) (v := .string ⟨#[]⟩) rfl
    have f0 := XZ.frozen 0
    have f1 := XZ.frozen 1
    go_wp2_with fail
    clear m0 m1 e0 e1 f0 f1
    refine KU.step hs ?_
    intro w2 hs hb
    replace XT := XT.on hb
    replace XM := XM.on hb
    replace XZ := XZ.on hb
    clear t0 t1 t2 t3 t4
    have t0 := XT.cell (i := 0) (v := .string mn) rfl
    have t1 := XT.cell (i := 1) (v := .string md) rfl
    have t2 := XT.cell (i := 2) (v := .string pn) rfl
    have t3 := XT.cell (i := 3) (v := .string pd) rfl
    have t4 := XT.cell (i := 4) (v := .int .i64 ct) rfl
    have m0 := XM.cell (i := 0) (v := .string kn) rfl
    have m1 := XM.cell (i := 1) (v := .string kd) rfl
    have e0 := XZ.cell (i := 0) (v := .string ⟨#[]⟩) rfl
    have e1 := XZ.cell (i := 1) (v := .string ⟨#[]⟩) rfl
    have f0 := XZ.frozen 0
    have f1 := XZ.frozen 1
    go_wp2_with fail
    clear m0 m1 e0 e1 f0 f1
    obtain ⟨W, hW, y0, y1, hbe⟩ := ret_frac hs (by omega) XZ ⟨#[]⟩ ⟨#[]⟩
    rw [hW]
    exact bodyPost_ret (v := .tuple #[.string ⟨#[]⟩, .agg #[.string ⟨#[]⟩, .string ⟨#[]⟩], .int .i64 ce]) (by simp [results, Tryz.results30, go_sem, y0, y1]) rfl ⟨rfl, hbe⟩
  ·have HE2 := HE.out
   rw [if_pos (.inr h2)] at HE2
   obtain ⟨r1, r2⟩ := HR.out _ HE2 (by decide)
   rw [r1, r2, HE2, FR_zero]
   rw [h1] at KT
   have q : (chk v != 0) = true := by simpa using h2
   clear HE HE2 HR h1 h2 r1 r2 hv hu s1 s2 hz
   generalize chk v = cv at *
   obtain ⟨mn, md, pn, pd, ct⟩ := T
   unfold tval tcells at *
   dsimp only at *
   have t0 := XT.cell (i := 0) (v := .string mn) rfl
   have t1 := XT.cell (i := 1) (v := .string md) rfl
   have t2 := XT.cell (i := 2) (v := .string pn) rfl
   have t3 := XT.cell (i := 3) (v := .string pd) rfl
   have t4 := XT.cell (i := 4) (v := .int .i64 ct) rfl
   go_enter Tryz.func30, Tryz.ntmps30
   go_wp2_with fail
   refine KT.step hs ?_
   intro w2 hs hb
   replace XT := XT.on hb
   replace XM := XM.on hb
   replace XZ := XZ.on hb
   clear t0 t1 t2 t3 t4
   have t0 := XT.cell (i := 0) (v := .string mn) rfl
   have t1 := XT.cell (i := 1) (v := .string md) rfl
   have t2 := XT.cell (i := 2) (v := .string pn) rfl
   have t3 := XT.cell (i := 3) (v := .string pd) rfl
   have t4 := XT.cell (i := 4) (v := .int .i64 ct) rfl
   have m0 := XM.cell (i := 0) (v := .string kn) rfl
   have m1 := XM.cell (i := 1) (v := .string kd) rfl
   have e0 := XZ.cell (i := 0) (v := .string ⟨#[]⟩) rfl
   have e1 := XZ.cell (i := 1) (v := .string ⟨#[]⟩) rfl
   have f0 := XZ.frozen 0
   have f1 := XZ.frozen 1
   go_wp2_with fail
   clear m0 m1 e0 e1 f0 f1
   refine KV.step hs ?_
   intro w2 hs hb
   replace XT := XT.on hb
   replace XM := XM.on hb
   replace XZ := XZ.on hb
   clear t0 t1 t2 t3 t4
   have t0 := XT.cell (i := 0) (v := .string mn) rfl
   have t1 := XT.cell (i := 1) (v := .string md) rfl
   have t2 := XT.cell (i := 2) (v := .string pn) rfl
   have t3 := XT.cell (i := 3) (v := .string pd) rfl
   have t4 := XT.cell (i := 4) (v := .int .i64 ct) rfl
   have m0 := XM.cell (i := 0) (v := .string kn) rfl
   have m1 := XM.cell (i := 1) (v := .string kd) rfl
   have e0 := XZ.cell (i := 0) (v := .string ⟨#[]⟩) rfl
   have e1 := XZ.cell (i := 1) (v := .string ⟨#[]⟩) rfl
   have f0 := XZ.frozen 0
   have f1 := XZ.frozen 1
   go_wp2_with fail
   clear m0 m1 e0 e1 f0 f1
   obtain ⟨W, hW, y0, y1, hbe⟩ := ret_frac hs (by omega) XZ ⟨#[]⟩ ⟨#[]⟩
   rw [hW]
   exact bodyPost_ret (v := .tuple #[.string ⟨#[]⟩, .agg #[.string ⟨#[]⟩, .string ⟨#[]⟩], .int .i64 1]) (by simp [results, Tryz.results30, go_sem, y0, y1]) rfl ⟨rfl, hbe⟩
 ·have HE2 := HE.out
  rw [if_pos (.inl h1)] at HE2
  obtain ⟨r1, r2⟩ := HR.out _ HE2 (by decide)
  rw [r1, r2, HE2, FR_zero]
  have q : (termE T != 0) = true := by simpa using h1
  clear HE HE2 HR h1 r1 r2 hv hu s1 s2 hz
  generalize termE T = te at *
  obtain ⟨mn, md, pn, pd, ct⟩ := T
  unfold tval tcells at *
  dsimp only at *
  have t0 := XT.cell (i := 0) (v := .string mn) rfl
  have t1 := XT.cell (i := 1) (v := .string md) rfl
  have t2 := XT.cell (i := 2) (v := .string pn) rfl
  have t3 := XT.cell (i := 3) (v := .string pd) rfl
  have t4 := XT.cell (i := 4) (v := .int .i64 ct) rfl
  go_enter Tryz.func30, Tryz.ntmps30
  go_wp2_with fail
  refine KT.step hs ?_
  intro w2 hs hb
  replace XT := XT.on hb
  replace XM := XM.on hb
  replace XZ := XZ.on hb
  clear t0 t1 t2 t3 t4
  have t0 := XT.cell (i := 0) (v := .string mn) rfl
  have t1 := XT.cell (i := 1) (v := .string md) rfl
  have t2 := XT.cell (i := 2) (v := .string pn) rfl
  have t3 := XT.cell (i := 3) (v := .string pd) rfl
  have t4 := XT.cell (i := 4) (v := .int .i64 ct) rfl
  have m0 := XM.cell (i := 0) (v := .string kn) rfl
  have m1 := XM.cell (i := 1) (v := .string kd) rfl
  have e0 := XZ.cell (i := 0) (v := .string ⟨#[]⟩) rfl
  have e1 := XZ.cell (i := 1) (v := .string ⟨#[]⟩) rfl
  have f0 := XZ.frozen 0
  have f1 := XZ.frozen 1
  go_wp2_with fail
  clear m0 m1 e0 e1 f0 f1
  obtain ⟨W, hW, y0, y1, hbe⟩ := ret_frac hs (by omega) XZ ⟨#[]⟩ ⟨#[]⟩
  rw [hW]
  exact bodyPost_ret (v := .tuple #[.string ⟨#[]⟩, .agg #[.string ⟨#[]⟩, .string ⟨#[]⟩], .int .i64 1]) (by simp [results, Tryz.results30, go_sem, y0, y1]) rfl ⟨rfl, hbe⟩
end Go.Proofs.YticfdeaphiifeaaGreatDoor
