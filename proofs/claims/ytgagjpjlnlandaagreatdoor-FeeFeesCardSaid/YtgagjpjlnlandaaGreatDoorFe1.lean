/- Fees: the contracts of digits, Check, round, valid, checkUnits. Conditions: numbers of up to 13 bytes. -/
import Derived.Test.YtgagjpjlnlandaaGreatDoorRd3
import Derived.Test.YtgagjpjlnlandaaGreatDoorFeL
namespace Go.Proofs.YtgagjpjlnlandaaGreatDoor
open Go.RowKit Go.Shelf Dec QQ

theorem vq0 : Vq ⟨#[]⟩ ⟨#[]⟩ 0 := ⟨rfl, by decide, by decide⟩
theorem fit0 : FitQ 1 (0 : Rat) := ⟨by decide, by decide⟩
theorem fr_one : FR ((1 : Int) : Rat) = .agg #[.string ⟨#[49]⟩, .string ⟨#[]⟩] := by
  unfold FR
  rw [show frN ((1 : Int) : Rat) = ⟨#[49]⟩ from by decide +kernel, show frD ((1 : Int) : Rat) = ⟨#[]⟩ from by decide +kernel]
theorem vq1 : Vq ⟨#[49]⟩ ⟨#[]⟩ 1 := ⟨by decide +kernel, by decide, by decide⟩
theorem fit1 : FitQ 1 (1 : Rat) := ⟨by decide, by decide⟩
theorem cmpI_le0 (z : Int) : decide (cmpI z 0 ≤ 0) = decide (z ≤ 0) := by
  rw [decide_eq_decide]
  unfold cmpI
  split
  · constructor <;> intro _ <;> omega
  · split
    · constructor <;> intro _ <;> omega
    · constructor <;> intro _ <;> omega
theorem cmpQ_pos {p q : Rat} : decide (0 < cmpQ p q) = decide (q < p) := by
  rw [decide_eq_decide]
  unfold cmpQ
  by_cases h1 : p < q
  · rw [if_pos h1]
    constructor
    · intro h; exact absurd h (by decide)
    · intro h; grind
  · rw [if_neg h1]
    by_cases h2 : p = q
    · rw [if_pos h2]
      constructor
      · intro h; exact absurd h (by decide)
      · intro h; grind
    · rw [if_neg h2]
      constructor
      · intro _; grind
      · intro _; decide
set_option maxRecDepth 100000 in
set_option maxHeartbeats 4000000 in
theorem fdig_any {a : ByteArray} (h : a.size ≤ 40) : ∃ z : Int, z ≤ 40 ∧ Ret 119 #[.string a] (.int .i64 z) := by
  by_cases h0 : 0 < a.size
  · have q0 : decide ((0 : Int) < (a.size : Int)) = true := decide_eq_true (by omega)
    cases h1 : ((a[0].toNat : Int) == 45) with
    | true =>
      refine ⟨(a.size : Int) - 1, by omega, ?_⟩
      intro w hg
      have hs := St.refl hg
      go_enter Tryz.func119, Tryz.ntmps119
      go_wp2_with fail
      go_ret
      exact ⟨rfl, hs.2⟩
    | false =>
      refine ⟨a.size, by omega, ?_⟩
      intro w hg
      have hs := St.refl hg
      go_enter Tryz.func119, Tryz.ntmps119
      go_wp2_with fail
      go_ret
      exact ⟨rfl, hs.2⟩
  · have hz : a.size = 0 := by omega
    refine ⟨0, by omega, ?_⟩
    intro w hg
    have hs := St.refl hg
    go_enter Tryz.func119, Tryz.ntmps119
    go_wp2_with fail
    go_ret
    exact ⟨rfl, hs.2⟩
set_option maxRecDepth 100000 in
set_option maxHeartbeats 4000000 in
theorem round_any {n d : ByteArray} {q : Rat} {k : Nat} (h : Vq n d q) (hf : FitQ k q) (hk : k ≤ 90000) : Ret 191 #[FV n d] (.string (canS (rndQ 1 q))) := by
  intro w hg
  have hs := (St.refl hg).alloc (.cells #[.string n, .string d] 34)
  have K1 := Round_any 1 h hf hk
  obtain ⟨e1, e2⟩ := rnd_mode (m := 1) (by decide) (by decide) q
  rw [e1, e2] at K1
  unfold FV at *
  clear e1 e2 h hf
  generalize canS (rndQ 1 q) = r at *
  go_enter Tryz.func191, Tryz.ntmps191
  go_wp2_with fail
  refine K1.step hs ?_
  intro w1 hs _
  go_wp2_with fail
  go_ret
  exact ⟨rfl, hs.2⟩
set_option maxRecDepth 100000 in
set_option maxHeartbeats 4000000 in
theorem fvalid_any (D : Int) : Ret 111 #[.int .i64 D] (.bool (!notDay D)) := by
  intro w hg
  have hs := St.refl hg
  unfold notDay
  by_cases h1 : D < -25567
  · have q1 : decide (-25567 ≤ D) = false := decide_eq_false (by omega)
    have q2 : decide (D < -25567) = true := decide_eq_true h1
    rw [q2]
    go_enter Tryz.func111, Tryz.ntmps111
    go_wp2_with fail
    go_ret
    exact ⟨rfl, hs.2⟩
  · have q1 : decide (-25567 ≤ D) = true := decide_eq_true (by omega)
    have q2 : decide (D < -25567) = false := decide_eq_false h1
    rw [q2]
    have q3 : (!(false || decide (84005 < D))) = decide (D ≤ 84005) := by rw [Bool.false_or, ← decide_not, decide_eq_decide]; omega
    rw [q3]
    clear q2 q3 h1
    go_enter Tryz.func111, Tryz.ntmps111
    go_wp2_with fail
    go_ret
    exact ⟨rfl, hs.2⟩
set_option maxRecDepth 100000 in
set_option maxHeartbeats 4000000 in
theorem cntU_any {u kn kd : ByteArray} (s0 : u.size ≤ 40) (s1 : kn.size ≤ 40000) (s2 : kd.size ≤ 40000) : Ret 115 #[.string u, FV kn kd] (.int .i64 (cntE u kn kd)) := by
  intro w hg
  have hs := (St.refl hg).alloc (.cells #[.string kn, .string kd] 34)
  have XR := Bx.new w #[.string kn, .string kd] 34
  have K1 := ChkR (a := u) (by omega)
  have K2 := ChkF (a := kn) (b := kd) (by omega) (by omega)
  have K3 := CmpR (Vs.arg (s := u) (by omega)) Vs.nil
  have vk := Vq.arg (n := kn) (d := kd) (by omega) (by omega)
  have fk := FitQ.arg (n := kn) (d := kd) (k := 40000) s1 s2 (by omega)
  have K4 := CmpF vk vq0 (fk.sub fit0) (by omega)
  unfold FV at *
  have q3 : decide (cmpI (valS u) 0 ≤ 0) = decide (valS u ≤ 0) := cmpI_le0 _
  have q4 : decide (cmpQ (ratV kn kd) 0 < 0) = decide (ratV kn kd < 0) := decide_eq_decide.2 cmpQ_neg
  unfold cntE
  clear vk fk s0 s1 s2
  generalize cmpI (valS u) 0 = c3 at *
  generalize cmpQ (ratV kn kd) 0 = c4 at *
  by_cases h1 : chk u = 0
  · by_cases h2 : chkF kn kd = 0
    · rw [if_neg (by rw [h1, h2]; simp)]
      rw [h1] at K1
      rw [h2] at K2
      by_cases h3 : valS u ≤ 0
      · rw [if_pos (.inl h3)]
        rw [decide_eq_true h3] at q3
        clear h1 h2 h3
        go_enter Tryz.func115, Tryz.ntmps115
        go_wp2_with fail
        refine K1.step hs ?_
        intro w1 hs hb
        replace XR := XR.on hb
        have x0 := XR.cell (i := 0) (v := .string kn) rfl
        have x1 := XR.cell (i := 1) (v := .string kd) rfl
        go_wp2_with fail
        refine K2.step hs ?_
        intro w1 hs _
        go_wp2_with fail
        refine K3.step hs ?_
        intro w1 hs _
        go_wp2_with fail
        go_ret
        exact ⟨rfl, hs.2⟩
      · rw [decide_eq_false h3] at q3
        have e : (if valS u ≤ 0 ∨ ratV kn kd < 0 then (2 : Int) else 0) = if decide (ratV kn kd < 0) = true then 2 else 0 := by
          congr 1
          simp [h3]
        rw [e]
        clear e h1 h2 h3
        generalize decide (ratV kn kd < 0) = t at *
        cases t
        all_goals
          go_enter Tryz.func115, Tryz.ntmps115
          go_wp2_with fail
          refine K1.step hs ?_
          intro w1 hs hb
          replace XR := XR.on hb
          have x0 := XR.cell (i := 0) (v := .string kn) rfl
          have x1 := XR.cell (i := 1) (v := .string kd) rfl
          go_wp2_with fail
          refine K2.step hs ?_
          intro w2 hs hb
          replace XR := XR.on hb
          clear x0 x1
          go_wp2_with fail
          refine K3.step hs ?_
          intro w3 hs hb
          replace XR := XR.on hb
          have x0 := XR.cell (i := 0) (v := .string kn) rfl
          have x1 := XR.cell (i := 1) (v := .string kd) rfl
          go_wp2_with fail
          refine K4.step hs ?_
          intro w1 hs _
          go_wp2_with fail
          go_ret
          exact ⟨by rfl, hs.2⟩
    · rw [if_pos (.inr h2)]
      have q : (chkF kn kd != 0) = true := by simpa using h2
      rw [h1] at K1
      clear h1 h2
      generalize chkF kn kd = e at *
      go_enter Tryz.func115, Tryz.ntmps115
      go_wp2_with fail
      refine K1.step hs ?_
      intro w1 hs hb
      replace XR := XR.on hb
      have x0 := XR.cell (i := 0) (v := .string kn) rfl
      have x1 := XR.cell (i := 1) (v := .string kd) rfl
      go_wp2_with fail
      refine K2.step hs ?_
      intro w1 hs _
      go_wp2_with fail
      go_ret
      exact ⟨rfl, hs.2⟩
  · rw [if_pos (.inl h1)]
    have q : (chk u != 0) = true := by simpa using h1
    clear h1
    generalize chk u = e at *
    go_enter Tryz.func115, Tryz.ntmps115
    go_wp2_with fail
    refine K1.step hs ?_
    intro w1 hs _
    go_wp2_with fail
    go_ret
    exact ⟨rfl, hs.2⟩
def tcells (T : TermS) : Array Value := #[.string T.mn, .string T.md, .string T.pn, .string T.pd, .int .i64 T.cnt]
/-- what the loop of Check learns of one rate -/
theorem rate_cases (n d : ByteArray) : (chkF n d ≠ 0 ∧ rateE n d = 1) ∨ (chkF n d = 0 ∧ ratV n d < 0 ∧ rateE n d = 2) ∨ (chkF n d = 0 ∧ ¬ ratV n d < 0 ∧ 1 < ratV n d ∧ rateE n d = 2) ∨ (chkF n d = 0 ∧ ¬ ratV n d < 0 ∧ ¬ 1 < ratV n d ∧ rateE n d = 0) := by
  unfold rateE
  by_cases h1 : chkF n d = 0
  · rw [if_neg (by simpa using h1)]
    by_cases h2 : ratV n d < 0
    · exact .inr (.inl ⟨h1, h2, if_pos (.inl h2)⟩)
    · by_cases h3 : 1 < ratV n d
      · exact .inr (.inr (.inl ⟨h1, h2, h3, if_pos (.inr h3)⟩))
      · exact .inr (.inr (.inr ⟨h1, h2, h3, if_neg (by simp [h2, h3])⟩))
  · exact .inl ⟨h1, if_pos h1⟩
set_option maxRecDepth 100000 in
set_option maxHeartbeats 4000000 in
theorem fchk_any {T : TermS} (hz : T.le 13) : Ret 43 #[tval T] (.int .i64 (termE T)) := by
  intro w hg
  obtain ⟨mn, md, pn, pd, ct⟩ := T
  unfold tval
  dsimp only
  have hs := ((St.refl hg).alloc (.cells #[.string mn, .string md, .string pn, .string pd, .int .i64 ct] 54)).alloc (.cells #[.string mn, .string md, .string pn, .string pd] 34)
  have XT := (Bx.new w #[.string mn, .string md, .string pn, .string pd, .int .i64 ct] 54).alloc (.cells #[.string mn, .string md, .string pn, .string pd] 34)
  have XS := Bx.new1 w (.cells #[.string mn, .string md, .string pn, .string pd, .int .i64 ct] 54) #[.string mn, .string md, .string pn, .string pd] 34
  obtain ⟨z1, z2, z3, z4⟩ : mn.size ≤ 13 ∧ md.size ≤ 13 ∧ pn.size ≤ 13 ∧ pd.size ≤ 13 := hz
  obtain ⟨te, hte⟩ : ∃ x, termE ⟨mn, md, pn, pd, ct⟩ = x := ⟨_, rfl⟩
  rw [hte]
  have HE0 : Hid (∀ x : Int, rateE mn md = x → x ≠ 0 → te = x) := by
    intro x hx h0
    rw [← hte]
    unfold termE
    dsimp only
    rw [if_pos (by rw [hx]; exact h0), hx]
  have HE1' : Hid (rateE mn md = 0 → ∀ x : Int, rateE pn pd = x → x ≠ 0 → te = x) := by
    intro h1 x hx h0
    rw [← hte]
    unfold termE
    dsimp only
    rw [if_neg (by simpa using h1), if_pos (by rw [hx]; exact h0), hx]
  have HE2 : Hid (rateE mn md = 0 → rateE pn pd = 0 → te = if ct < 1 ∨ 5 < ct then 7 else 0) := by
    intro h1 h2
    rw [← hte]
    unfold termE
    dsimp only
    rw [if_neg (by simpa using h1), if_neg (by simpa using h2)]
  have a0 := (Bx.new w #[.string mn, .string md, .string pn, .string pd, .int .i64 ct] 54).cell (i := 0) (v := .string mn) rfl
  have a1 := (Bx.new w #[.string mn, .string md, .string pn, .string pd, .int .i64 ct] 54).cell (i := 1) (v := .string md) rfl
  have a2 := (Bx.new w #[.string mn, .string md, .string pn, .string pd, .int .i64 ct] 54).cell (i := 2) (v := .string pn) rfl
  have a3 := (Bx.new w #[.string mn, .string md, .string pn, .string pd, .int .i64 ct] 54).cell (i := 3) (v := .string pd) rfl
  have HT0 := Lib.hid XT
  have HS0 := Lib.hid XS
  clear XT XS hte
  go_enter Tryz.func43, Tryz.ntmps43
  go_wp2_with fail
  clear a0 a1 a2 a3
  go_loopw [11] (fun s wr => ∃ i : Nat, i ≤ 2 ∧ s = .int .i64 (i : Int) ∧ St w wr ∧ Hid (Bx wr w.heap.size #[.string mn, .string md, .string pn, .string pd, .int .i64 ct]) ∧ Hid (Bx wr (w.heap.size + 1) #[.string mn, .string md, .string pn, .string pd]) ∧ Hid (1 ≤ i → rateE mn md = 0) ∧ Hid (i = 2 → rateE pn pd = 0)) (fun s _ => (2 - intOf s).toNat)
  case atStart => exact ⟨0, by omega, rfl, hs, HT0, HS0, fun h => by omega, fun h => by cases h⟩
  case round =>
    obtain ⟨i, hi, rfl, hs, HT, HS, HA, HB⟩ := hrel
    by_cases h0 : i = 0
    · subst h0
      have KC := ChkF (a := mn) (b := md) (by omega) (by omega)
      obtain ⟨z1, hz1, KD1⟩ := fdig_any (a := mn) (by omega)
      obtain ⟨z2, hz2, KD2⟩ := fdig_any (a := md) (by omega)
      have qz1 : decide (40 < z1) = false := decide_eq_false (by omega)
      have qz2 : decide (40 < z2) = false := decide_eq_false (by omega)
      have vr := Vq.arg (n := mn) (d := md) (by omega) (by omega)
      have frr := FitQ.arg (n := mn) (d := md) (k := 13) (by omega) (by omega) (by omega)
      have KL := CmpF vr vq0 (frr.sub fit0) (by omega)
      have KO := OfF Vs.one (by decide)
      have KG := CmpF vr vq1 (frr.sub fit1) (by omega)
      have qL : decide (cmpQ (ratV mn md) 0 < 0) = decide (ratV mn md < 0) := decide_eq_decide.2 cmpQ_neg
      have qG : decide (0 < cmpQ (ratV mn md) 1) = decide (1 < ratV mn md) := cmpQ_pos
      unfold FV at KC KL KG
      rw [fr_one] at KO
      have XT := HT.out
      have XS := HS.out
      have c0 := XS.cell (i := 0) (v := .string mn) rfl
      have c1 := XS.cell (i := 1) (v := .string md) rfl
      have hs0 := hs.alloc (.cells #[.string mn, .string md] 34)
      have XF := Bx.new wr #[.string mn, .string md] 34
      have y0 := XF.cell (i := 0) (v := .string mn) rfl
      have y1 := XF.cell (i := 1) (v := .string md) rfl
      have nb := XS.lt
      clear vr frr hz1 hz2
      generalize cmpQ (ratV mn md) 0 = cl at *
      generalize cmpQ (ratV mn md) 1 = cg at *
      rcases rate_cases mn md with ⟨h1, he⟩ | ⟨h1, h2, he⟩ | ⟨h1, h2, h3, he⟩ | ⟨h1, h2, h3, he⟩
      · obtain rfl : te = 1 := HE0.out 1 he (by decide)
        have q : (chkF mn md != 0) = true := by simpa using h1
        generalize chkF mn md = e at *
        clear h1 he qL qG
        go_wp2_with fail
        refine KC.step hs0 ?_
        intro w2 hs hb
        go_wp2_with fail
        go_ret
        exact ⟨rfl, hs.2⟩
      · obtain rfl : te = 2 := HE0.out 2 he (by decide)
        rw [h1] at KC
        rw [decide_eq_true h2] at qL
        clear h1 h2 he qG
        go_wp2_with fail
        refine KC.step hs0 ?_
        intro w2 hs hb2
        replace XF := XF.on hb2
        have y0 := XF.cell (i := 0) (v := .string mn) rfl
        have y1 := XF.cell (i := 1) (v := .string md) rfl
        go_wp2_with fail
        refine KD1.step hs ?_
        intro w3 hs hb3
        replace XF := XF.on hb3
        have y0 := XF.cell (i := 0) (v := .string mn) rfl
        have y1 := XF.cell (i := 1) (v := .string md) rfl
        go_wp2_with fail
        refine KD2.step hs ?_
        intro w4 hs hb4
        replace XF := XF.on hb4
        have k0 := XF.keeps (i := 0) (v := .string mn) rfl
        have k1 := XF.keeps (i := 1) (v := .string md) rfl
        go_wp2_with fail
        refine wp_region_kept (by kernel_rfl) (by kernel_rfl) ?_
        repeat (go_big_quiet_step (first | (with_reducible exact KL.kept hs) | (with_reducible exact KO.kept hs) | (with_reducible exact KG.kept hs)))
        refine wpQuiet_nil ?_
        rintro _ ⟨u, rfl⟩
        replace hs := hs.kept u
        go_wp2_with fail
        go_ret
        exact ⟨rfl, hs.2⟩
      · obtain rfl : te = 2 := HE0.out 2 he (by decide)
        rw [h1] at KC
        rw [decide_eq_false h2] at qL
        rw [decide_eq_true h3] at qG
        clear h1 h2 h3 he
        go_wp2_with fail
        refine KC.step hs0 ?_
        intro w2 hs hb2
        replace XF := XF.on hb2
        have y0 := XF.cell (i := 0) (v := .string mn) rfl
        have y1 := XF.cell (i := 1) (v := .string md) rfl
        go_wp2_with fail
        refine KD1.step hs ?_
        intro w3 hs hb3
        replace XF := XF.on hb3
        have y0 := XF.cell (i := 0) (v := .string mn) rfl
        have y1 := XF.cell (i := 1) (v := .string md) rfl
        go_wp2_with fail
        refine KD2.step hs ?_
        intro w4 hs hb4
        replace XF := XF.on hb4
        have k0 := XF.keeps (i := 0) (v := .string mn) rfl
        have k1 := XF.keeps (i := 1) (v := .string md) rfl
        go_wp2_with fail
        refine wp_region_kept (by kernel_rfl) (by kernel_rfl) ?_
        repeat (go_big_quiet_step (first | (with_reducible exact KL.kept hs) | (with_reducible exact KO.kept hs) | (with_reducible exact KG.kept hs)))
        refine wpQuiet_nil ?_
        rintro _ ⟨u, rfl⟩
        replace hs := hs.kept u
        go_wp2_with fail
        go_ret
        exact ⟨rfl, hs.2⟩
      · rw [h1] at KC
        rw [decide_eq_false h2] at qL
        rw [decide_eq_false h3] at qG
        have HN := Lib.hid he
        clear h1 h2 h3 he
        go_wp2_with fail
        refine KC.step hs0 ?_
        intro w2 hs hb2
        replace XF := XF.on hb2
        have y0 := XF.cell (i := 0) (v := .string mn) rfl
        have y1 := XF.cell (i := 1) (v := .string md) rfl
        go_wp2_with fail
        refine KD1.step hs ?_
        intro w3 hs hb3
        replace XF := XF.on hb3
        have y0 := XF.cell (i := 0) (v := .string mn) rfl
        have y1 := XF.cell (i := 1) (v := .string md) rfl
        go_wp2_with fail
        refine KD2.step hs ?_
        intro w4 hs hb4
        replace XF := XF.on hb4
        have k0 := XF.keeps (i := 0) (v := .string mn) rfl
        have k1 := XF.keeps (i := 1) (v := .string md) rfl
        go_wp2_with fail
        refine wp_region_kept (by kernel_rfl) (by kernel_rfl) ?_
        repeat (go_big_quiet_step (first | (with_reducible exact KL.kept hs) | (with_reducible exact KO.kept hs) | (with_reducible exact KG.kept hs)))
        refine wpQuiet_nil ?_
        rintro _ ⟨u, rfl⟩
        replace hs := hs.kept u
        have XT2 := ((((XT.alloc (.cells #[.string mn, .string md] 34)).on hb2).on hb3).on hb4).kept u
        have XS2 := ((((XS.alloc (.cells #[.string mn, .string md] 34)).on hb2).on hb3).on hb4).kept u
        go_wp2_with fail
        go_roundw
        case rel => exact ⟨1, by omega, rfl, hs, XT2, XS2, fun _ => HN.out, fun h => by cases h⟩
        case measure => simp [intOf]
    · by_cases h1 : i = 1
      · subst h1
        have HE1 := Lib.hid (HE1'.out (HA.out (by decide)))
        have KC := ChkF (a := pn) (b := pd) (by omega) (by omega)
        obtain ⟨z1, hz1, KD1⟩ := fdig_any (a := pn) (by omega)
        obtain ⟨z2, hz2, KD2⟩ := fdig_any (a := pd) (by omega)
        have qz1 : decide (40 < z1) = false := decide_eq_false (by omega)
        have qz2 : decide (40 < z2) = false := decide_eq_false (by omega)
        have vr := Vq.arg (n := pn) (d := pd) (by omega) (by omega)
        have frr := FitQ.arg (n := pn) (d := pd) (k := 13) (by omega) (by omega) (by omega)
        have KL := CmpF vr vq0 (frr.sub fit0) (by omega)
        have KO := OfF Vs.one (by decide)
        have KG := CmpF vr vq1 (frr.sub fit1) (by omega)
        have qL : decide (cmpQ (ratV pn pd) 0 < 0) = decide (ratV pn pd < 0) := decide_eq_decide.2 cmpQ_neg
        have qG : decide (0 < cmpQ (ratV pn pd) 1) = decide (1 < ratV pn pd) := cmpQ_pos
        unfold FV at KC KL KG
        rw [fr_one] at KO
        have XT := HT.out
        have XS := HS.out
        have c0 := XS.cell (i := 2) (v := .string pn) rfl
        have c1 := XS.cell (i := 3) (v := .string pd) rfl
        have hs0 := hs.alloc (.cells #[.string pn, .string pd] 34)
        have XF := Bx.new wr #[.string pn, .string pd] 34
        have y0 := XF.cell (i := 0) (v := .string pn) rfl
        have y1 := XF.cell (i := 1) (v := .string pd) rfl
        have nb := XS.lt
        clear vr frr hz1 hz2
        generalize cmpQ (ratV pn pd) 0 = cl at *
        generalize cmpQ (ratV pn pd) 1 = cg at *
        rcases rate_cases pn pd with ⟨h1, he⟩ | ⟨h1, h2, he⟩ | ⟨h1, h2, h3, he⟩ | ⟨h1, h2, h3, he⟩
        · obtain rfl : te = 1 := HE1.out 1 he (by decide)
          have q : (chkF pn pd != 0) = true := by simpa using h1
          generalize chkF pn pd = e at *
          clear h1 he qL qG
          go_wp2_with fail
          refine KC.step hs0 ?_
          intro w2 hs hb
          go_wp2_with fail
          go_ret
          exact ⟨rfl, hs.2⟩
        · obtain rfl : te = 2 := HE1.out 2 he (by decide)
          rw [h1] at KC
          rw [decide_eq_true h2] at qL
          clear h1 h2 he qG
          go_wp2_with fail
          refine KC.step hs0 ?_
          intro w2 hs hb2
          replace XF := XF.on hb2
          have y0 := XF.cell (i := 0) (v := .string pn) rfl
          have y1 := XF.cell (i := 1) (v := .string pd) rfl
          go_wp2_with fail
          refine KD1.step hs ?_
          intro w3 hs hb3
          replace XF := XF.on hb3
          have y0 := XF.cell (i := 0) (v := .string pn) rfl
          have y1 := XF.cell (i := 1) (v := .string pd) rfl
          go_wp2_with fail
          refine KD2.step hs ?_
          intro w4 hs hb4
          replace XF := XF.on hb4
          have k0 := XF.keeps (i := 0) (v := .string pn) rfl
          have k1 := XF.keeps (i := 1) (v := .string pd) rfl
          go_wp2_with fail
          refine wp_region_kept (by kernel_rfl) (by kernel_rfl) ?_
          repeat (go_big_quiet_step (first | (with_reducible exact KL.kept hs) | (with_reducible exact KO.kept hs) | (with_reducible exact KG.kept hs)))
          refine wpQuiet_nil ?_
          rintro _ ⟨u, rfl⟩
          replace hs := hs.kept u
          go_wp2_with fail
          go_ret
          exact ⟨rfl, hs.2⟩
        · obtain rfl : te = 2 := HE1.out 2 he (by decide)
          rw [h1] at KC
          rw [decide_eq_false h2] at qL
          rw [decide_eq_true h3] at qG
          clear h1 h2 h3 he
          go_wp2_with fail
          refine KC.step hs0 ?_
          intro w2 hs hb2
          replace XF := XF.on hb2
          have y0 := XF.cell (i := 0) (v := .string pn) rfl
          have y1 := XF.cell (i := 1) (v := .string pd) rfl
          go_wp2_with fail
          refine KD1.step hs ?_
          intro w3 hs hb3
          replace XF := XF.on hb3
          have y0 := XF.cell (i := 0) (v := .string pn) rfl
          have y1 := XF.cell (i := 1) (v := .string pd) rfl
          go_wp2_with fail
          refine KD2.step hs ?_
          intro w4 hs hb4
          replace XF := XF.on hb4
          have k0 := XF.keeps (i := 0) (v := .string pn) rfl
          have k1 := XF.keeps (i := 1) (v := .string pd) rfl
          go_wp2_with fail
          refine wp_region_kept (by kernel_rfl) (by kernel_rfl) ?_
          repeat (go_big_quiet_step (first | (with_reducible exact KL.kept hs) | (with_reducible exact KO.kept hs) | (with_reducible exact KG.kept hs)))
          refine wpQuiet_nil ?_
          rintro _ ⟨u, rfl⟩
          replace hs := hs.kept u
          go_wp2_with fail
          go_ret
          exact ⟨rfl, hs.2⟩
        · rw [h1] at KC
          rw [decide_eq_false h2] at qL
          rw [decide_eq_false h3] at qG
          have HN := Lib.hid he
          clear h1 h2 h3 he
          go_wp2_with fail
          refine KC.step hs0 ?_
          intro w2 hs hb2
          replace XF := XF.on hb2
          have y0 := XF.cell (i := 0) (v := .string pn) rfl
          have y1 := XF.cell (i := 1) (v := .string pd) rfl
          go_wp2_with fail
          refine KD1.step hs ?_
          intro w3 hs hb3
          replace XF := XF.on hb3
          have y0 := XF.cell (i := 0) (v := .string pn) rfl
          have y1 := XF.cell (i := 1) (v := .string pd) rfl
          go_wp2_with fail
          refine KD2.step hs ?_
          intro w4 hs hb4
          replace XF := XF.on hb4
          have k0 := XF.keeps (i := 0) (v := .string pn) rfl
          have k1 := XF.keeps (i := 1) (v := .string pd) rfl
          go_wp2_with fail
          refine wp_region_kept (by kernel_rfl) (by kernel_rfl) ?_
          repeat (go_big_quiet_step (first | (with_reducible exact KL.kept hs) | (with_reducible exact KO.kept hs) | (with_reducible exact KG.kept hs)))
          refine wpQuiet_nil ?_
          rintro _ ⟨u, rfl⟩
          replace hs := hs.kept u
          have XT2 := ((((XT.alloc (.cells #[.string pn, .string pd] 34)).on hb2).on hb3).on hb4).kept u
          have XS2 := ((((XS.alloc (.cells #[.string pn, .string pd] 34)).on hb2).on hb3).on hb4).kept u
          go_wp2_with fail
          go_roundw
          case rel => exact ⟨2, by omega, rfl, hs, XT2, XS2, fun _ => HA.out (by decide), fun _ => HN.out⟩
          case measure => simp [intOf]
      · obtain rfl : i = 2 := by omega
        have hte := HE2.out (HA.out (by decide)) (HB.out rfl)
        have XT := HT.out
        have t4 := XT.cell (i := 4) (v := .int .i64 ct) rfl
        clear h0 h1 hi
        by_cases g1 : ct < 1
        · rw [if_pos (.inl g1)] at hte
          subst hte
          have q1 : decide (ct < 1) = true := decide_eq_true g1
          go_wp2_with fail
          go_ret
          exact ⟨rfl, hs.2⟩
        · have q1 : decide (ct < 1) = false := decide_eq_false g1
          by_cases g2 : 5 < ct
          · rw [if_pos (.inr g2)] at hte
            subst hte
            have q2 : decide (5 < ct) = true := decide_eq_true g2
            go_wp2_with fail
            go_ret
            exact ⟨rfl, hs.2⟩
          · rw [if_neg (by omega)] at hte
            subst hte
            have q2 : decide (5 < ct) = false := decide_eq_false g2
            go_wp2_with fail
            go_ret
            exact ⟨rfl, hs.2⟩
end Go.Proofs.YtgagjpjlnlandaaGreatDoor
