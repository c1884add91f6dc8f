/- Fractions, the reference: contracts of Raw, Canonical, New. Conditions: strings of up to eighty thousand bytes. Fractions, the reference: contracts of Add, Sub, Neg, Mul, Quo, Floor, Of, Check. Conditions: strings of up to thirty thousand bytes. Reference fractions: comparison, sign, ratio; digits; long numbers. Conditions: numbers of bounded length. -/
import Derived.Test.YtpipkeplhkccoaaGreatDoorRt
import Derived.Test.YtpipkeplhkccoaaGreatDoorFc
import Derived.Test.YtpipkeplhkccoaaGreatDoorFq
import Derived.Test.YtpipkeplhkccoaaGreatDoorOwn
namespace Go.Proofs.YtpipkeplhkccoaaGreatDoor
open Go.RowKit Go.Shelf Dec
open QQ

theorem one_r : Ret 128 #[] (.string ⟨#[49]⟩) := by
  intro w hg
  have hs := St.refl hg
  have K1 : Ret 132 #[.int .i64 1] (.string ⟨#[49]⟩) := fun w _ => by
    have := rof_any 1 w (by decide) (by decide)
    rwa [show canS 1 = ⟨#[49]⟩ by decide +kernel] at this
  go_enter Tryz.func128, Tryz.ntmps128
  go_wp2_with fail
  refine K1.step hs ?_
  intro w1 hs _
  go_wp2_with fail
  go_ret
  exact ⟨rfl, hs.2⟩
theorem rchkR {a : ByteArray} (h : a.size ≤ 1000000) : Ret 82 #[.string a] (.int .i64 (chk a)) := fun w _ => rcheck_any a w (by omega)
theorem rcmpR {a b : ByteArray} (ha : a.size ≤ 1000000) (hb : b.size ≤ 1000000) : Ret 83 #[.string a, .string b] (.int .i64 (cmpI (valS a) (valS b))) := fun w _ => rcompare_any a b w (by omega) (by omega)
theorem rnegR {a : ByteArray} (ha : a.size ≤ 1000000) : Ret 68 #[.string a] (.string (canS (-(valS a)))) := fun w _ => rneg_any a w (by omega)
theorem rdivR {a b : ByteArray} (ha : a.size ≤ 100000) (hb : b.size ≤ 100000) (h0 : valS b ≠ 0) : Ret 127 #[.string a, .string b] (.tuple #[.string (canS ((valS a).fdiv (valS b))), .string (canS ((valS a).fmod (valS b))), .int .i64 0]) := fun w _ => by
  have := rDiv_any a b w ha hb
  unfold divR at this
  rw [if_neg h0] at this
  exact this
theorem zero_r {a : ByteArray} (ha : a.size ≤ 1000000) : Ret 136 #[.string a] (.bool (decide (valS a = 0))) := by
  intro w hg
  have hs := St.refl hg
  have K1 := rcmpR (a := a) (b := ⟨#[]⟩) ha (by decide)
  have q : (cmpI (valS a) (valS ⟨#[]⟩) == 0) = decide (valS a = 0) := cmpI_eq
  generalize cmpI (valS a) (valS ⟨#[]⟩) = c at *
  generalize decide (valS a = 0) = t at *
  go_enter Tryz.func136, Tryz.ntmps136
  go_wp2_with fail
  refine K1.step hs ?_
  intro w1 hs _
  go_wp2_with fail
  go_ret
  exact ⟨rfl, hs.2⟩
theorem exact_r {a b : ByteArray} (ha : a.size ≤ 100000) (hb : b.size ≤ 100000) (h0 : valS b ≠ 0) : Ret 169 #[.string a, .string b] (.string (canS ((valS a).fdiv (valS b)))) := by
  intro w hg
  have hs := St.refl hg
  have K1 := rdivR ha hb h0
  generalize canS ((valS a).fdiv (valS b)) = q at *
  generalize canS ((valS a).fmod (valS b)) = r at *
  go_enter Tryz.func169, Tryz.ntmps169
  go_wp2_with fail
  refine K1.step hs ?_
  intro w1 hs _
  go_wp2_with fail
  go_ret
  exact ⟨rfl, hs.2⟩
/-- what Raw returns -/
def rawR (n d : ByteArray) : ByteArray × ByteArray := if valS d = 0 then (n, ⟨#[49]⟩) else if valS d < 0 then (canS (-(valS n)), canS (-(valS d))) else (n, d)
theorem raw_rat (n d : ByteArray) : rat (valS (rawR n d).1) (valS (rawR n d).2) = ratV n d ∧ 0 < valS (rawR n d).2 := by
  unfold rawR ratV
  by_cases h : valS d = 0
  · rw [if_pos h, h, rat_zero]
    have e : valS (⟨#[49]⟩ : ByteArray) = 1 := by decide +kernel
    show rat (valS n) (valS ⟨#[49]⟩) = _ ∧ 0 < valS ⟨#[49]⟩
    rw [e, rat_one]
    exact ⟨rfl, by decide⟩
  · rw [if_neg h]
    by_cases h2 : valS d < 0
    · rw [if_pos h2]
      show rat (valS (canS (-(valS n)))) (valS (canS (-(valS d)))) = _ ∧ 0 < valS (canS (-(valS d)))
      rw [valS_canS, valS_canS, rat_neg _ _ h]
      exact ⟨rfl, by omega⟩
    · rw [if_neg h2]
      exact ⟨rfl, by show 0 < valS d; omega⟩
theorem raw_size {n d : ByteArray} {k : Nat} (h1 : n.size ≤ k) (h2 : d.size ≤ k) (hk : 1 ≤ k) : (rawR n d).1.size ≤ k + 1 ∧ (rawR n d).2.size ≤ k + 1 := by
  unfold rawR
  split
  · exact ⟨by show n.size ≤ _; omega, by show (1 : Nat) ≤ _; omega⟩
  · split
    · exact ⟨((Fit.val h1).neg).size, ((Fit.val h2).neg).size⟩
    · exact ⟨by show n.size ≤ _; omega, by show d.size ≤ _; omega⟩
set_option maxRecDepth 100000 in
set_option maxHeartbeats 4000000 in
theorem raw_r {n d : ByteArray} (h1 : n.size ≤ 80000) (h2 : d.size ≤ 80000) : Ret 126 #[.agg #[.string n, .string d]] (.tuple #[.string (rawR n d).1, .string (rawR n d).2]) := by
  intro w hg
  have hs := (St.refl hg).alloc (.cells #[.string n, .string d] 36)
  have X := Bx.new w #[.string n, .string d] 36
  have K1 := zero_r (a := d) (by omega)
  have KO := one_r
  have K2 := rcmpR (a := d) (b := ⟨#[]⟩) (by omega) (by decide)
  have q2 : decide (cmpI (valS d) (valS ⟨#[]⟩) < 0) = decide (valS d < 0) := cmpI_lt
  have K3 := rnegR (a := n) (by omega)
  have K4 := rnegR (a := d) (by omega)
  generalize cmpI (valS d) (valS ⟨#[]⟩) = c at *
  have e : rawR n d = if valS d = 0 then (n, ⟨#[49]⟩) else if valS d < 0 then (canS (-(valS n)), canS (-(valS d))) else (n, d) := rfl
  by_cases h : valS d = 0
  · rw [if_pos h] at e
    rw [e]
    rw [decide_eq_true h] at K1
    clear e h K2 K3 K4 q2
    go_enter Tryz.func126, Tryz.ntmps126
    go_wp2_with fail
    refine K1.step hs ?_
    intro w1 hs hb
    have z0 := (X.on hb).keeps (i := 0) (v := .string n) rfl
    go_wp2_with fail
    refine wp_region_kept (by kernel_rfl) (by kernel_rfl) ?_
    repeat (go_big_quiet_step (first | (with_reducible exact KO.kept hs)))
    refine wpQuiet_nil ?_
    rintro _ ⟨u, rfl⟩
    go_wp2_with fail
    go_ret2
    exact ⟨rfl, (hs.kept u).2⟩
  · rw [if_neg h] at e
    rw [decide_eq_false h] at K1
    clear KO
    by_cases h3 : valS d < 0
    · rw [if_pos h3] at e
      rw [e]
      rw [decide_eq_true h3] at q2
      clear e h h3
      generalize canS (-(valS n)) = r1 at *
      generalize canS (-(valS d)) = r2 at *
      go_enter Tryz.func126, Tryz.ntmps126
      go_wp2_with fail
      refine K1.step hs ?_
      intro w1 hs hb
      have X1 := X.on hb
      have x1 := X1.cell (i := 1) (v := .string d) rfl
      go_wp2_with fail
      refine K2.step hs ?_
      intro w2 hs hb
      have z0 := (X1.on hb).keeps (i := 0) (v := .string n) rfl
      have z1 := (X1.on hb).keeps (i := 1) (v := .string d) rfl
      go_wp2_with fail
      refine wp_region_kept (by kernel_rfl) (by kernel_rfl) ?_
      repeat (go_big_quiet_step (first | (with_reducible exact K3.kept hs) | (with_reducible exact K4.kept hs)))
      refine wpQuiet_nil ?_
      rintro _ ⟨u, rfl⟩
      go_wp2_with fail
      go_ret2
      exact ⟨rfl, (hs.kept u).2⟩
    · rw [if_neg h3] at e
      rw [e]
      rw [decide_eq_false h3] at q2
      clear e h h3 K3 K4
      go_enter Tryz.func126, Tryz.ntmps126
      go_wp2_with fail
      refine K1.step hs ?_
      intro w1 hs hb
      have X1 := X.on hb
      have x1 := X1.cell (i := 1) (v := .string d) rfl
      go_wp2_with fail
      refine K2.step hs ?_
      intro w2 hs hb
      have z0 := (X1.on hb).keeps (i := 0) (v := .string n) rfl
      have z1 := (X1.on hb).keeps (i := 1) (v := .string d) rfl
      go_wp2_with fail
      refine wp_region_kept (by kernel_rfl) (by kernel_rfl) ?_
      repeat (go_big_quiet_step (fail))
      refine wpQuiet_nil ?_
      rintro _ ⟨u, rfl⟩
      go_wp2_with fail
      go_ret2
      exact ⟨rfl, (hs.kept u).2⟩
theorem den_one (q : Rat) : (cmpI (q.den : Int) 1 == 0) = decide (q.den = 1) := by rw [cmpI_eq, decide_eq_decide]; omega
set_option maxRecDepth 100000 in
set_option maxHeartbeats 4000000 in
theorem reduced_r {n d : ByteArray} (h1 : n.size ≤ 80001) (h2 : d.size ≤ 80001) (hd : 0 < valS d) : Ret 129 #[.string n, .string d] (FR (rat (valS n) (valS d))) := by
  intro w hg
  have hs := (St.refl hg).alloc (.cells #[.string ⟨#[]⟩, .string ⟨#[]⟩] 36)
  have B := Bx.new w #[.string ⟨#[]⟩, .string ⟨#[]⟩] 36
  have K1 := zero_r (a := n) (by omega)
  by_cases h : valS n = 0
  · rw [decide_eq_true h] at K1
    have e : rat (valS n) (valS d) = 0 := rat_eq_zero.2 h
    rw [e]
    unfold FR
    rw [frN_zero, frD_zero]
    clear e h
    go_enter Tryz.func129, Tryz.ntmps129
    go_wp2_with fail
    refine K1.step hs ?_
    intro w1 hs hb
    replace B := B.on hb
    have x0 := B.cell (i := 0) (v := .string ⟨#[]⟩) rfl
    have x1 := B.cell (i := 1) (v := .string ⟨#[]⟩) rfl
    have f0 := B.frozen 0
    have f1 := B.frozen 1
    go_wp2_with fail
    have B6 := (B.set 0 (.string ⟨#[]⟩)).set 1 (.string ⟨#[]⟩)
    have y0 := B6.cell (i := 0) (v := .string ⟨#[]⟩) rfl
    have y1 := B6.cell (i := 1) (v := .string ⟨#[]⟩) rfl
    have hs4 := (hs.set (b := w.heap.size) (Nat.le_refl _) 0 (.string ⟨#[]⟩)).set (b := w.heap.size) (Nat.le_refl _) 1 (.string ⟨#[]⟩)
    exact bodyPost_ret (v := .agg #[.string ⟨#[]⟩, .string ⟨#[]⟩]) (by simp [results, Tryz.results129, go_sem, y0, y1]) rfl ⟨rfl, hs4.2⟩
  · rw [decide_eq_false h] at K1
    have K2 := rGcd_any n d (by omega) (by omega)
    have hg0 : ((Nat.gcd (valS n).natAbs (valS d).natAbs : Nat) : Int) ≠ 0 := gcd_ne (by omega)
    have fg : Fit 80001 ((Nat.gcd (valS n).natAbs (valS d).natAbs : Nat) : Int) := by
      have h3 := Fit.val h2
      have h4 := Nat.le_of_dvd (by omega) (Nat.gcd_dvd_right (valS n).natAbs (valS d).natAbs)
      rcases Nat.lt_or_eq_of_le h4 with h5 | h5
      · exact fit_lt (fit_abs h3) h5
      · rw [h5]; exact fit_abs h3
    have sg := fg.size
    have K3 := exact_r (a := n) (b := canS ((Nat.gcd (valS n).natAbs (valS d).natAbs : Nat) : Int)) (by omega) (by omega) (by rw [valS_canS]; exact hg0)
    have K4 := exact_r (a := d) (b := canS ((Nat.gcd (valS n).natAbs (valS d).natAbs : Nat) : Int)) (by omega) (by omega) (by rw [valS_canS]; exact hg0)
    rw [valS_canS, ← rat_num hd] at K3
    rw [valS_canS, ← rat_den hd] at K4
    have sd : (canS ((rat (valS n) (valS d)).den : Int)).size ≤ 1000000 := by
      have h3 := (rat_le (n := valS n) (d := valS d)).2.1 (by omega)
      have h4 : Fit 80001 (((valS d).natAbs : Nat) : Int) := fit_abs (Fit.val h2)
      have h5 : Fit 80001 (((rat (valS n) (valS d)).den : Nat) : Int) := by
        rcases Nat.lt_or_eq_of_le h3 with h6 | h6
        · exact fit_lt h4 h6
        · rw [h6]; exact h4
      have := h5.size
      omega
    have K5 := rcmpR (a := canS ((rat (valS n) (valS d)).den : Int)) (b := ⟨#[49]⟩) sd (by decide)
    rw [valS_canS, show valS (⟨#[49]⟩ : ByteArray) = 1 by decide +kernel] at K5
    have q5 := den_one (rat (valS n) (valS d))
    have KO := one_r
    have eD : frD (rat (valS n) (valS d)) = if (rat (valS n) (valS d)).den = 1 then ⟨#[]⟩ else canS (rat (valS n) (valS d)).den := rfl
    unfold FR frN
    clear hg0 fg sg sd
    generalize cmpI ((rat (valS n) (valS d)).den : Int) 1 = cc at *
    generalize canS ((Nat.gcd (valS n).natAbs (valS d).natAbs : Nat) : Int) = g at *
    generalize canS ((rat (valS n) (valS d)).den : Int) = rd at *
    generalize canS (rat (valS n) (valS d)).num = rn at *
    by_cases h1d : (rat (valS n) (valS d)).den = 1
    · rw [if_pos h1d] at eD
      rw [decide_eq_true h1d] at q5
      rw [eD]
      clear eD h1d h
      go_enter Tryz.func129, Tryz.ntmps129
      go_wp2_with fail
      refine K1.step hs ?_
      intro w1 hs hb
      replace B := B.on hb
      go_wp2_with fail
      refine K2.step hs ?_
      intro w2 hs hb
      replace B := B.on hb
      go_wp2_with fail
      refine K3.step hs ?_
      intro w3 hs hb
      replace B := B.on hb
      go_wp2_with fail
      refine K4.step hs ?_
      intro w4 hs hb
      have hlt : w.heap.size < w4.heap.size := (B.on hb).lt
      replace B := (B.on hb).alloc (.cells #[.string rn, .string rd] 36)
      have C := Bx.new w4 #[.string rn, .string rd] 36
      replace hs := hs.alloc (.cells #[.string rn, .string rd] 36)
      have z1 := C.keeps (i := 1) (v := .string rd) rfl
      go_wp2_with fail
      refine wp_region_kept (by kernel_rfl) (by kernel_rfl) ?_
      repeat (go_big_quiet_step (first | (with_reducible exact KO.kept hs) | (with_reducible exact K5.kept hs)))
      refine wpQuiet_nil ?_
      rintro _ ⟨u, rfl⟩
      have hs3 := hs.kept u
      replace B := B.kept u
      replace C := C.kept u
      have c1 := C.cell (i := 1) (v := .string rd) rfl
      have g1 := C.frozen 1
      have x0 := B.cell (i := 0) (v := .string ⟨#[]⟩) rfl
      have x1 := B.cell (i := 1) (v := .string ⟨#[]⟩) rfl
      have f0 := B.frozen 0
      have f1 := B.frozen 1
      have C2 := C.set 1 (.string ⟨#[]⟩)
      have c2 := C2.cell (i := 0) (v := .string rn) rfl
      have c3 := C2.cell (i := 1) (v := .string ⟨#[]⟩) rfl
      have B2 := B.other (c := w4.heap.size) (by omega) 1 (.string ⟨#[]⟩)
      have x2 := B2.cell (i := 0) (v := .string ⟨#[]⟩) rfl
      have x3 := B2.cell (i := 1) (v := .string ⟨#[]⟩) rfl
      have f2 := B2.frozen 0
      have f3 := B2.frozen 1
      replace B := B2
      have hs5 := hs3.set (b := w4.heap.size) (by omega) 1 (.string ⟨#[]⟩)
      go_wp2_with fail
      have B6 := (B.set 0 (.string rn)).set 1 (.string ⟨#[]⟩)
      have y0 := B6.cell (i := 0) (v := .string rn) rfl
      have y1 := B6.cell (i := 1) (v := .string ⟨#[]⟩) rfl
      have hs4 := (hs5.set (b := w.heap.size) (Nat.le_refl _) 0 (.string rn)).set (b := w.heap.size) (Nat.le_refl _) 1 (.string ⟨#[]⟩)
      exact bodyPost_ret (v := .agg #[.string rn, .string ⟨#[]⟩]) (by simp [results, Tryz.results129, go_sem, y0, y1]) rfl ⟨rfl, hs4.2⟩
    · rw [if_neg h1d] at eD
      rw [decide_eq_false h1d] at q5
      rw [eD]
      clear eD h1d h
      go_enter Tryz.func129, Tryz.ntmps129
      go_wp2_with fail
      refine K1.step hs ?_
      intro w1 hs hb
      replace B := B.on hb
      go_wp2_with fail
      refine K2.step hs ?_
      intro w2 hs hb
      replace B := B.on hb
      go_wp2_with fail
      refine K3.step hs ?_
      intro w3 hs hb
      replace B := B.on hb
      go_wp2_with fail
      refine K4.step hs ?_
      intro w4 hs hb
      have hlt : w.heap.size < w4.heap.size := (B.on hb).lt
      replace B := (B.on hb).alloc (.cells #[.string rn, .string rd] 36)
      have C := Bx.new w4 #[.string rn, .string rd] 36
      replace hs := hs.alloc (.cells #[.string rn, .string rd] 36)
      have z1 := C.keeps (i := 1) (v := .string rd) rfl
      go_wp2_with fail
      refine wp_region_kept (by kernel_rfl) (by kernel_rfl) ?_
      repeat (go_big_quiet_step (first | (with_reducible exact KO.kept hs) | (with_reducible exact K5.kept hs)))
      refine wpQuiet_nil ?_
      rintro _ ⟨u, rfl⟩
      have hs3 := hs.kept u
      replace B := B.kept u
      replace C := C.kept u
      have c0 := C.cell (i := 0) (v := .string rn) rfl
      have c1 := C.cell (i := 1) (v := .string rd) rfl
      have x0 := B.cell (i := 0) (v := .string ⟨#[]⟩) rfl
      have x1 := B.cell (i := 1) (v := .string ⟨#[]⟩) rfl
      have f0 := B.frozen 0
      have f1 := B.frozen 1
      go_wp2_with fail
      have B6 := (B.set 0 (.string rn)).set 1 (.string rd)
      have y0 := B6.cell (i := 0) (v := .string rn) rfl
      have y1 := B6.cell (i := 1) (v := .string rd) rfl
      have hs4 := (hs3.set (b := w.heap.size) (Nat.le_refl _) 0 (.string rn)).set (b := w.heap.size) (Nat.le_refl _) 1 (.string rd)
      exact bodyPost_ret (v := .agg #[.string rn, .string rd]) (by simp [results, Tryz.results129, go_sem, y0, y1]) rfl ⟨rfl, hs4.2⟩
set_option maxRecDepth 100000 in
set_option maxHeartbeats 4000000 in
theorem canonical_r {n d : ByteArray} (h1 : n.size ≤ 80000) (h2 : d.size ≤ 80000) : Ret 137 #[.agg #[.string n, .string d]] (FR (ratV n d)) := by
  intro w hg
  have hs := ((St.refl hg).alloc (.cells #[.string n, .string d] 36)).alloc (.cells #[.string ⟨#[]⟩, .string ⟨#[]⟩] 36)
  have B := Bx.new1 w (.cells #[.string n, .string d] 36) #[.string ⟨#[]⟩, .string ⟨#[]⟩] 36
  have K1 := raw_r h1 h2
  obtain ⟨e1, e2⟩ := raw_rat n d
  obtain ⟨s1, s2⟩ := raw_size (k := 80000) h1 h2 (by omega)
  have K2 := reduced_r s1 s2 e2
  rw [e1] at K2
  unfold FR at K2 ⊢
  clear e1 e2 s1 s2
  generalize (rawR n d).1 = a at *
  generalize (rawR n d).2 = b at *
  generalize frN (ratV n d) = rn at *
  generalize frD (ratV n d) = rd at *
  go_enter Tryz.func137, Tryz.ntmps137
  go_wp2_with fail
  refine K1.step hs ?_
  intro w1 hs hb
  replace B := B.on hb
  go_wp2_with fail
  refine K2.step hs ?_
  intro w2 hs hb
  replace B := B.on hb
  have x0 := B.cell (i := 0) (v := .string ⟨#[]⟩) rfl
  have x1 := B.cell (i := 1) (v := .string ⟨#[]⟩) rfl
  have f0 := B.frozen 0
  have f1 := B.frozen 1
  go_wp2_with fail
  have B6 := (B.set 0 (.string rn)).set 1 (.string rd)
  have y0 := B6.cell (i := 0) (v := .string rn) rfl
  have y1 := B6.cell (i := 1) (v := .string rd) rfl
  have hs4 := (hs.set (b := w.heap.size + 1) (by omega) 0 (.string rn)).set (b := w.heap.size + 1) (by omega) 1 (.string rd)
  exact bodyPost_ret (v := .agg #[.string rn, .string rd]) (by simp [results, Tryz.results137, go_sem, y0, y1]) rfl ⟨rfl, hs4.2⟩
set_option maxRecDepth 100000 in
set_option maxHeartbeats 4000000 in
theorem new_r {n d : ByteArray} (h1 : n.size ≤ 80000) (h2 : d.size ≤ 80000) : Ret 71 #[.string n, .string d] (.tuple #[FR (if valS d = 0 then 0 else rat (valS n) (valS d)), .int .i64 (if valS d = 0 then 10 else 0)]) := by
  intro w hg
  have hs := (St.refl hg).alloc (.cells #[.string ⟨#[]⟩, .string ⟨#[]⟩] 36)
  have B := Bx.new w #[.string ⟨#[]⟩, .string ⟨#[]⟩] 36
  have K1 := zero_r (a := d) (by omega)
  have K2 := canonical_r h1 h2
  by_cases h : valS d = 0
  · rw [if_pos h, if_pos h]
    rw [decide_eq_true h] at K1
    unfold FR
    rw [frN_zero, frD_zero]
    clear K2 h
    go_enter Tryz.func71, Tryz.ntmps71
    go_wp2_with fail
    refine K1.step hs ?_
    intro w1 hs hb
    replace B := B.on hb
    have x0 := B.cell (i := 0) (v := .string ⟨#[]⟩) rfl
    have x1 := B.cell (i := 1) (v := .string ⟨#[]⟩) rfl
    have f0 := B.frozen 0
    have f1 := B.frozen 1
    go_wp2_with fail
    have B6 := (B.set 0 (.string ⟨#[]⟩)).set 1 (.string ⟨#[]⟩)
    have y0 := B6.cell (i := 0) (v := .string ⟨#[]⟩) rfl
    have y1 := B6.cell (i := 1) (v := .string ⟨#[]⟩) rfl
    have hs4 := (hs.set (b := w.heap.size) (Nat.le_refl _) 0 (.string ⟨#[]⟩)).set (b := w.heap.size) (Nat.le_refl _) 1 (.string ⟨#[]⟩)
    exact bodyPost_ret (v := .tuple #[.agg #[.string ⟨#[]⟩, .string ⟨#[]⟩], .int .i64 10]) (by simp [results, Tryz.results71, go_sem, y0, y1]) rfl ⟨rfl, hs4.2⟩
  · rw [if_neg h, if_neg h]
    rw [decide_eq_false h] at K1
    change Ret _ _ (FR (rat (valS n) (valS d))) at K2
    unfold FR at K2 ⊢
    generalize frN (rat (valS n) (valS d)) = rn at *
    generalize frD (rat (valS n) (valS d)) = rd at *
    clear h
    go_enter Tryz.func71, Tryz.ntmps71
    go_wp2_with fail
    refine K1.step hs ?_
    intro w1 hs hb
    replace B := B.on hb
    go_wp2_with fail
    refine K2.step hs ?_
    intro w2 hs hb
    replace B := B.on hb
    have x0 := B.cell (i := 0) (v := .string ⟨#[]⟩) rfl
    have x1 := B.cell (i := 1) (v := .string ⟨#[]⟩) rfl
    have f0 := B.frozen 0
    have f1 := B.frozen 1
    go_wp2_with fail
    have B6 := (B.set 0 (.string rn)).set 1 (.string rd)
    have y0 := B6.cell (i := 0) (v := .string rn) rfl
    have y1 := B6.cell (i := 1) (v := .string rd) rfl
    have hs4 := (hs.set (b := w.heap.size) (Nat.le_refl _) 0 (.string rn)).set (b := w.heap.size) (Nat.le_refl _) 1 (.string rd)
    exact bodyPost_ret (v := .tuple #[.agg #[.string rn, .string rd], .int .i64 0]) (by simp [results, Tryz.results71, go_sem, y0, y1]) rfl ⟨rfl, hs4.2⟩
end Go.Proofs.YtpipkeplhkccoaaGreatDoor
namespace Go.Proofs.YtpipkeplhkccoaaGreatDoor
open Go.RowKit Go.Shelf Dec QQ

theorem rAddR {a b : ByteArray} (ha : a.size ≤ 900000) (hb : b.size ≤ 900000) : Ret 66 #[.string a, .string b] (.string (canS (valS a + valS b))) := fun w _ => rAdd_any a b w ha hb
theorem rSubR {a b : ByteArray} (ha : a.size ≤ 900000) (hb : b.size ≤ 800000) : Ret 63 #[.string a, .string b] (.string (canS (valS a - valS b))) := fun w _ => rSub_any a b w ha hb
set_option maxRecDepth 100000 in
set_option maxHeartbeats 4000000 in
theorem radd_r {a b c d : ByteArray} (h1 : a.size ≤ 30000) (h2 : b.size ≤ 30000) (h3 : c.size ≤ 30000) (h4 : d.size ≤ 30000) : Ret 76 #[FV a b, FV c d] (FR (ratV a b + ratV c d)) := by
  intro w hg
  have hs := (((St.refl hg).alloc (.cells #[.string a, .string b] 36)).alloc (.cells #[.string c, .string d] 36)).alloc (.cells #[.string ⟨#[]⟩, .string ⟨#[]⟩] 36)
  have B1 := (Bx.new1 w (.cells #[.string a, .string b] 36) #[.string c, .string d] 36).alloc (.cells #[.string ⟨#[]⟩, .string ⟨#[]⟩] 36)
  have B2 := Bx.new2 w (.cells #[.string a, .string b] 36) (.cells #[.string c, .string d] 36) #[.string ⟨#[]⟩, .string ⟨#[]⟩] 36
  have K1 := raw_r (n := a) (d := b) (by omega) (by omega)
  have K2 := raw_r (n := c) (d := d) (by omega) (by omega)
  obtain ⟨e1, p1⟩ := raw_rat a b
  obtain ⟨e2, p2⟩ := raw_rat c d
  obtain ⟨s1, s2⟩ := raw_size (k := 30000) h1 h2 (by omega)
  obtain ⟨s3, s4⟩ := raw_size (k := 30000) h3 h4 (by omega)
  generalize (rawR a b).1 = n1 at *
  generalize (rawR a b).2 = d1 at *
  generalize (rawR c d).1 = n2 at *
  generalize (rawR c d).2 = d2 at *
  have f1 := (Fit.val s1).mul (Fit.val s4)
  have f2 := (Fit.val s3).mul (Fit.val s2)
  have f3 := (Fit.val s2).mul (Fit.val s4)
  have f4 := f1.add f2
  have z1 := f1.size
  have z2 := f2.size
  have z3 := f3.size
  have z4 := f4.size
  have K3 := rMulR (a := n1) (b := d2) (by omega) (by omega)
  have K4 := rMulR (a := n2) (b := d1) (by omega) (by omega)
  have K5 := rAddR (a := canS (valS n1 * valS d2)) (b := canS (valS n2 * valS d1)) (by omega) (by omega)
  rw [valS_canS, valS_canS] at K5
  have K6 := rMulR (a := d1) (b := d2) (by omega) (by omega)
  have K7 := reduced_r (n := canS (valS n1 * valS d2 + valS n2 * valS d1)) (d := canS (valS d1 * valS d2)) (by omega) (by omega) (by rw [valS_canS]; exact Int.mul_pos p1 p2)
  rw [valS_canS, valS_canS, rat_add (by omega) (by omega), e1, e2] at K7
  unfold FR at K7 ⊢
  unfold FV
  clear e1 e2 p1 p2 f1 f2 f3 f4 z1 z2 z3 z4 s1 s2 s3 s4
  generalize frN (ratV a b + ratV c d) = rn at *
  generalize frD (ratV a b + ratV c d) = rd at *
  generalize canS (valS n1 * valS d2 + valS n2 * valS d1) = u3 at *
  generalize canS (valS n1 * valS d2) = u1 at *
  generalize canS (valS n2 * valS d1) = u2 at *
  generalize canS (valS d1 * valS d2) = u4 at *
  go_enter Tryz.func76, Tryz.ntmps76
  go_wp2_with fail
  refine K1.step hs ?_
  intro w1 hs hb
  replace B1 := B1.on hb
  replace B2 := B2.on hb
  have c0 := B1.cell (i := 0) (v := .string c) rfl
  have c1 := B1.cell (i := 1) (v := .string d) rfl
  go_wp2_with fail
  refine K2.step hs ?_
  intro w2 hs hb
  replace B2 := B2.on hb
  clear c0 c1 B1
  go_wp2_with fail
  refine K3.step hs ?_
  intro w3 hs hb
  replace B2 := B2.on hb
  go_wp2_with fail
  refine K4.step hs ?_
  intro w4 hs hb
  replace B2 := B2.on hb
  go_wp2_with fail
  refine K5.step hs ?_
  intro w5 hs hb
  replace B2 := B2.on hb
  go_wp2_with fail
  refine K6.step hs ?_
  intro w6 hs hb
  replace B2 := B2.on hb
  go_wp2_with fail
  refine K7.step hs ?_
  intro w7 hs hb
  replace B2 := B2.on hb
  have x0 := B2.cell (i := 0) (v := .string ⟨#[]⟩) rfl
  have x1 := B2.cell (i := 1) (v := .string ⟨#[]⟩) rfl
  have f0 := B2.frozen 0
  have f1 := B2.frozen 1
  go_wp2_with fail
  obtain ⟨W, hW, y0, y1, hbe⟩ := ret_frac hs (by omega) B2 rn rd
  rw [hW]
  exact bodyPost_ret (v := .agg #[.string rn, .string rd]) (by simp [results, Tryz.results76, go_sem, y0, y1]) rfl ⟨rfl, hbe⟩
set_option maxRecDepth 100000 in
set_option maxHeartbeats 4000000 in
theorem rmul_r {a b c d : ByteArray} (h1 : a.size ≤ 30000) (h2 : b.size ≤ 30000) (h3 : c.size ≤ 30000) (h4 : d.size ≤ 30000) : Ret 93 #[FV a b, FV c d] (FR (ratV a b * ratV c d)) := by
  intro w hg
  have hs := (((St.refl hg).alloc (.cells #[.string a, .string b] 36)).alloc (.cells #[.string c, .string d] 36)).alloc (.cells #[.string ⟨#[]⟩, .string ⟨#[]⟩] 36)
  have B1 := (Bx.new1 w (.cells #[.string a, .string b] 36) #[.string c, .string d] 36).alloc (.cells #[.string ⟨#[]⟩, .string ⟨#[]⟩] 36)
  have B2 := Bx.new2 w (.cells #[.string a, .string b] 36) (.cells #[.string c, .string d] 36) #[.string ⟨#[]⟩, .string ⟨#[]⟩] 36
  have K1 := raw_r (n := a) (d := b) (by omega) (by omega)
  have K2 := raw_r (n := c) (d := d) (by omega) (by omega)
  obtain ⟨e1, p1⟩ := raw_rat a b
  obtain ⟨e2, p2⟩ := raw_rat c d
  obtain ⟨s1, s2⟩ := raw_size (k := 30000) h1 h2 (by omega)
  obtain ⟨s3, s4⟩ := raw_size (k := 30000) h3 h4 (by omega)
  generalize (rawR a b).1 = n1 at *
  generalize (rawR a b).2 = d1 at *
  generalize (rawR c d).1 = n2 at *
  generalize (rawR c d).2 = d2 at *
  have f1 := (Fit.val s1).mul (Fit.val s3)
  have f3 := (Fit.val s2).mul (Fit.val s4)
  have z1 := f1.size
  have z3 := f3.size
  have K3 := rMulR (a := n1) (b := n2) (by omega) (by omega)
  have K6 := rMulR (a := d1) (b := d2) (by omega) (by omega)
  have K7 := reduced_r (n := canS (valS n1 * valS n2)) (d := canS (valS d1 * valS d2)) (by omega) (by omega) (by rw [valS_canS]; exact Int.mul_pos p1 p2)
  rw [valS_canS, valS_canS, rat_mul (by omega) (by omega), e1, e2] at K7
  unfold FR at K7 ⊢
  unfold FV
  clear e1 e2 p1 p2 f1 f3 z1 z3 s1 s2 s3 s4
  generalize frN (ratV a b * ratV c d) = rn at *
  generalize frD (ratV a b * ratV c d) = rd at *
  generalize canS (valS n1 * valS n2) = u1 at *
  generalize canS (valS d1 * valS d2) = u4 at *
  go_enter Tryz.func93, Tryz.ntmps93
  go_wp2_with fail
  refine K1.step hs ?_
  intro w1 hs hb
  replace B1 := B1.on hb
  replace B2 := B2.on hb
  have c0 := B1.cell (i := 0) (v := .string c) rfl
  have c1 := B1.cell (i := 1) (v := .string d) rfl
  go_wp2_with fail
  refine K2.step hs ?_
  intro w2 hs hb
  replace B2 := B2.on hb
  clear c0 c1 B1
  go_wp2_with fail
  refine K3.step hs ?_
  intro w3 hs hb
  replace B2 := B2.on hb
  go_wp2_with fail
  refine K6.step hs ?_
  intro w4 hs hb
  replace B2 := B2.on hb
  go_wp2_with fail
  refine K7.step hs ?_
  intro w5 hs hb
  replace B2 := B2.on hb
  have x0 := B2.cell (i := 0) (v := .string ⟨#[]⟩) rfl
  have x1 := B2.cell (i := 1) (v := .string ⟨#[]⟩) rfl
  have f0 := B2.frozen 0
  have f1 := B2.frozen 1
  go_wp2_with fail
  obtain ⟨W, hW, y0, y1, hbe⟩ := ret_frac hs (by omega) B2 rn rd
  rw [hW]
  exact bodyPost_ret (v := .agg #[.string rn, .string rd]) (by simp [results, Tryz.results93, go_sem, y0, y1]) rfl ⟨rfl, hbe⟩
set_option maxRecDepth 100000 in
set_option maxHeartbeats 4000000 in
theorem rneg_r {a b : ByteArray} (h1 : a.size ≤ 40000) (h2 : b.size ≤ 40000) : Ret 125 #[FV a b] (FR (-(ratV a b))) := by
  intro w hg
  have hs := ((St.refl hg).alloc (.cells #[.string a, .string b] 36)).alloc (.cells #[.string ⟨#[]⟩, .string ⟨#[]⟩] 36)
  have B2 := Bx.new1 w (.cells #[.string a, .string b] 36) #[.string ⟨#[]⟩, .string ⟨#[]⟩] 36
  have K1 := raw_r (n := a) (d := b) (by omega) (by omega)
  obtain ⟨e1, p1⟩ := raw_rat a b
  obtain ⟨s1, s2⟩ := raw_size (k := 40000) h1 h2 (by omega)
  generalize (rawR a b).1 = n1 at *
  generalize (rawR a b).2 = d1 at *
  have z1 := (Fit.val s1).neg.size
  have K2 := rnegR (a := n1) (by omega)
  have K3 := reduced_r (n := canS (-(valS n1))) (d := d1) (by omega) (by omega) p1
  rw [valS_canS, rat_negn, e1] at K3
  unfold FR at K3 ⊢
  unfold FV
  clear e1 p1 z1 s1 s2
  generalize frN (-(ratV a b)) = rn at *
  generalize frD (-(ratV a b)) = rd at *
  generalize canS (-(valS n1)) = u1 at *
  go_enter Tryz.func125, Tryz.ntmps125
  go_wp2_with fail
  refine K1.step hs ?_
  intro w1 hs hb
  replace B2 := B2.on hb
  go_wp2_with fail
  refine K2.step hs ?_
  intro w3 hs hb
  replace B2 := B2.on hb
  go_wp2_with fail
  refine K3.step hs ?_
  intro w4 hs hb
  replace B2 := B2.on hb
  have x0 := B2.cell (i := 0) (v := .string ⟨#[]⟩) rfl
  have x1 := B2.cell (i := 1) (v := .string ⟨#[]⟩) rfl
  have f0 := B2.frozen 0
  have f1 := B2.frozen 1
  go_wp2_with fail
  obtain ⟨W, hW, y0, y1, hbe⟩ := ret_frac hs (by omega) B2 rn rd
  rw [hW]
  exact bodyPost_ret (v := .agg #[.string rn, .string rd]) (by simp [results, Tryz.results125, go_sem, y0, y1]) rfl ⟨rfl, hbe⟩
set_option maxRecDepth 100000 in
set_option maxHeartbeats 4000000 in
theorem rsub_r {a b c d : ByteArray} (h1 : a.size ≤ 30000) (h2 : b.size ≤ 30000) (h3 : c.size ≤ 20000) (h4 : d.size ≤ 20000) : Ret 60 #[FV a b, FV c d] (FR (ratV a b - ratV c d)) := by
  intro w hg
  have hs := (((St.refl hg).alloc (.cells #[.string a, .string b] 36)).alloc (.cells #[.string c, .string d] 36)).alloc (.cells #[.string ⟨#[]⟩, .string ⟨#[]⟩] 36)
  have B1 := (Bx.new1 w (.cells #[.string a, .string b] 36) #[.string c, .string d] 36).alloc (.cells #[.string ⟨#[]⟩, .string ⟨#[]⟩] 36)
  have B2 := Bx.new2 w (.cells #[.string a, .string b] 36) (.cells #[.string c, .string d] 36) #[.string ⟨#[]⟩, .string ⟨#[]⟩] 36
  have B0 := ((Bx.new w #[.string a, .string b] 36).alloc (.cells #[.string c, .string d] 36)).alloc (.cells #[.string ⟨#[]⟩, .string ⟨#[]⟩] 36)
  have K1 := rneg_r (a := c) (b := d) (by omega) (by omega)
  have ff : FitQ 20001 (-(ratV c d)) := (FitQ.arg (k := 20001) (by omega) (by omega) (by omega)).neg
  have zz := FitQ.sizes ff
  have K2 := radd_r (a := a) (b := b) (c := frN (-(ratV c d))) (d := frD (-(ratV c d))) h1 h2 (by omega) (by omega)
  rw [ratV_fr, ← Rat.sub_eq_add_neg] at K2
  unfold FR at K1 K2 ⊢
  unfold FV at K1 K2 ⊢
  clear ff zz
  generalize frN (-(ratV c d)) = m1 at *
  generalize frD (-(ratV c d)) = m2 at *
  generalize frN (ratV a b - ratV c d) = rn at *
  generalize frD (ratV a b - ratV c d) = rd at *
  obtain ⟨W, hW, hsW, BW0, BW1, BW2⟩ : ∃ W, ((w.alloc (.cells #[.string a, .string b] 36)).alloc (.cells #[.string c, .string d] 36)).alloc (.cells #[.string ⟨#[]⟩, .string ⟨#[]⟩] 36) = W ∧ St w W ∧ Bx W w.heap.size #[.string a, .string b] ∧ Bx W (w.heap.size + 1) #[.string c, .string d] ∧ Bx W (w.heap.size + 2) #[.string ⟨#[]⟩, .string ⟨#[]⟩] := ⟨_, rfl, hs, B0, B1, B2⟩
  have HW := Lib.hid hW
  clear hW hs B0 B1 B2
  have k0 := BW0.keeps (i := 0) (v := .string a) rfl
  have k1 := BW0.keeps (i := 1) (v := .string b) rfl
  have k2 := BW1.keeps (i := 0) (v := .string c) rfl
  have k3 := BW1.keeps (i := 1) (v := .string d) rfl
  go_enter Tryz.func60, Tryz.ntmps60
  go_wp2_with fail
  go_wp2_with fail
  rw [HW.out]
  refine wp_region_kept_tail 4 (by kernel_rfl) (by kernel_rfl) ?_
  simp only [List.take_succ_cons, List.take_zero, List.drop_succ_cons, List.drop_zero]
  repeat (go_big_quiet_step (first | (with_reducible exact K1.kept hsW) | (with_reducible exact K2.kept hsW)))
  refine wpQuiet_nil ?_
  rintro _ ⟨u, rfl⟩
  have hs := hsW.kept u
  have B2 := BW2.kept u
  have x0 := B2.cell (i := 0) (v := .string ⟨#[]⟩) rfl
  have x1 := B2.cell (i := 1) (v := .string ⟨#[]⟩) rfl
  have f0 := B2.frozen 0
  have f1 := B2.frozen 1
  go_wp2_with fail
  obtain ⟨W, hW, y0, y1, hbe⟩ := ret_frac hs (by omega) B2 rn rd
  rw [hW]
  exact bodyPost_ret (v := .agg #[.string rn, .string rd]) (by simp [results, Tryz.results60, go_sem, y0, y1]) rfl ⟨rfl, hbe⟩
set_option maxRecDepth 100000 in
set_option maxHeartbeats 4000000 in
theorem rof_r {a : ByteArray} (h1 : a.size ≤ 80000) : Ret 61 #[.string a] (FR ((valS a : Int) : Rat)) := by
  intro w hg
  have hs := (St.refl hg).alloc (.cells #[.string ⟨#[]⟩, .string ⟨#[]⟩] 36)
  have B2 := Bx.new w #[.string ⟨#[]⟩, .string ⟨#[]⟩] 36
  have KO := one_r
  have K2 := reduced_r (n := a) (d := ⟨#[49]⟩) (by omega) (by decide) (by rw [one_val]; decide)
  rw [one_val, rat_one] at K2
  unfold FR at K2 ⊢
  generalize frN ((valS a : Int) : Rat) = rn at *
  generalize frD ((valS a : Int) : Rat) = rd at *
  go_enter Tryz.func61, Tryz.ntmps61
  go_wp2_with fail
  refine KO.step hs ?_
  intro w3 hs hb
  replace B2 := B2.on hb
  go_wp2_with fail
  refine K2.step hs ?_
  intro w4 hs hb
  replace B2 := B2.on hb
  have x0 := B2.cell (i := 0) (v := .string ⟨#[]⟩) rfl
  have x1 := B2.cell (i := 1) (v := .string ⟨#[]⟩) rfl
  have f0 := B2.frozen 0
  have f1 := B2.frozen 1
  go_wp2_with fail
  obtain ⟨W, hW, y0, y1, hbe⟩ := ret_frac hs (by omega) B2 rn rd
  rw [hW]
  exact bodyPost_ret (v := .agg #[.string rn, .string rd]) (by simp [results, Tryz.results61, go_sem, y0, y1]) rfl ⟨rfl, hbe⟩
set_option maxRecDepth 100000 in
set_option maxHeartbeats 4000000 in
theorem rchk_r {a b : ByteArray} (h1 : a.size ≤ 80000) (h2 : b.size ≤ 80000) : Ret 91 #[FV a b] (.int .i64 (chkF a b)) := by
  intro w hg
  have hs := (St.refl hg).alloc (.cells #[.string a, .string b] 36)
  have x0 := (Bx.new w #[.string a, .string b] 36).keeps (i := 0) (v := .string a) rfl
  have x1 := (Bx.new w #[.string a, .string b] 36).keeps (i := 1) (v := .string b) rfl
  have K2 := canonical_r (n := a) (d := b) h1 h2
  have he := chkF_eq a b
  rw [he]
  unfold FR at K2
  unfold FV
  generalize frN (ratV a b) = rn at *
  generalize frD (ratV a b) = rd at *
  clear he
  have hn := neqF a b rn rd
  generalize ((a.toList == rn.toList) && (b.toList == rd.toList)) = t at *
  cases t
  all_goals
    go_enter Tryz.func91, Tryz.ntmps91
    go_wp2_with fail
    refine wp_region_kept (by kernel_rfl) (by kernel_rfl) ?_
    repeat (go_big_quiet_step (first | (with_reducible exact K2.kept hs)))
    refine wpQuiet_nil ?_
    rintro _ ⟨u, rfl⟩
    go_wp2_with fail
    go_ret
    exact ⟨rfl, (hs.kept u).2⟩
set_option maxRecDepth 100000 in
set_option maxHeartbeats 4000000 in
theorem rfloor_r {a b : ByteArray} (h1 : a.size ≤ 30000) (h2 : b.size ≤ 30000) : Ret 59 #[FV a b] (.string (canS (ratV a b).floor)) := by
  intro w hg
  have hs := (St.refl hg).alloc (.cells #[.string a, .string b] 36)
  have K1 := raw_r (n := a) (d := b) (by omega) (by omega)
  obtain ⟨e1, p1⟩ := raw_rat a b
  obtain ⟨s1, s2⟩ := raw_size (k := 30000) h1 h2 (by omega)
  generalize (rawR a b).1 = n1 at *
  generalize (rawR a b).2 = d1 at *
  have K2 := rdivR (a := n1) (b := d1) (by omega) (by omega) (by omega)
  have hle : valS n1 / valS d1 * valS d1 ≤ valS n1 := Int.ediv_mul_le _ (by omega)
  rw [← Int.fdiv_eq_ediv_of_nonneg _ (by omega)] at hle
  have ff : Fit 30001 ((valS n1).fdiv (valS d1)) := fit_fdiv (Fit.val s1) (by omega)
  have zz := ff.size
  have K3 := rMulR (a := canS ((valS n1).fdiv (valS d1))) (b := d1) (by omega) (by omega)
  rw [valS_canS] at K3
  have z2 := (ff.mul (Fit.val s2)).size
  have K4 := rcmpR (a := canS ((valS n1).fdiv (valS d1) * valS d1)) (b := n1) (by omega) (by omega)
  rw [valS_canS] at K4
  have q : decide (0 < cmpI ((valS n1).fdiv (valS d1) * valS d1) (valS n1)) = false := by rw [cmpI_gt]; exact decide_eq_false (by omega)
  rw [floor_rat (by omega), e1] at K2 K3 K4 q
  unfold FV
  clear e1 p1 hle ff zz z2 s1 s2
  generalize canS ((ratV a b).floor * valS d1) = u1 at *
  generalize cmpI ((ratV a b).floor * valS d1) (valS n1) = c at *
  generalize canS (ratV a b).floor = u2 at *
  generalize canS ((valS n1).fmod (valS d1)) = u3 at *
  go_enter Tryz.func59, Tryz.ntmps59
  go_wp2_with fail
  refine K1.step hs ?_
  intro w1 hs _
  go_wp2_with fail
  refine K2.step hs ?_
  intro w2 hs _
  go_wp2_with fail
  refine K3.step hs ?_
  intro w3 hs _
  go_wp2_with fail
  refine K4.step hs ?_
  intro w4 hs _
  go_wp2_with fail
  go_ret
  exact ⟨rfl, hs.2⟩
end Go.Proofs.YtpipkeplhkccoaaGreatDoor
namespace Go.Proofs.YtpipkeplhkccoaaGreatDoor
open Go.RowKit Go.Shelf Dec QQ

set_option maxRecDepth 100000 in
set_option maxHeartbeats 4000000 in
theorem rcmpF {a b c d : ByteArray} (h1 : a.size ≤ 30000) (h2 : b.size ≤ 30000) (h3 : c.size ≤ 30000) (h4 : d.size ≤ 30000) : Ret 65 #[FV a b, FV c d] (.int .i64 (cmpQ (ratV a b) (ratV c d))) := by
  intro w hg
  have hs := ((St.refl hg).alloc (.cells #[.string a, .string b] 36)).alloc (.cells #[.string c, .string d] 36)
  have B1 := Bx.new1 w (.cells #[.string a, .string b] 36) #[.string c, .string d] 36
  have K1 := raw_r (n := a) (d := b) (by omega) (by omega)
  have K2 := raw_r (n := c) (d := d) (by omega) (by omega)
  obtain ⟨e1, p1⟩ := raw_rat a b
  obtain ⟨e2, p2⟩ := raw_rat c d
  obtain ⟨s1, s2⟩ := raw_size (k := 30000) h1 h2 (by omega)
  obtain ⟨s3, s4⟩ := raw_size (k := 30000) h3 h4 (by omega)
  generalize (rawR a b).1 = n1 at *
  generalize (rawR a b).2 = d1 at *
  generalize (rawR c d).1 = n2 at *
  generalize (rawR c d).2 = d2 at *
  have f1 := (Fit.val s1).mul (Fit.val s4)
  have f3 := (Fit.val s3).mul (Fit.val s2)
  have z1 := f1.size
  have z3 := f3.size
  have K3 := rMulR (a := n1) (b := d2) (by omega) (by omega)
  have K4 := rMulR (a := n2) (b := d1) (by omega) (by omega)
  have K5 := rcmpR (a := canS (valS n1 * valS d2)) (b := canS (valS n2 * valS d1)) (by omega) (by omega)
  rw [valS_canS, valS_canS] at K5
  have ec : cmpI (valS n1 * valS d2) (valS n2 * valS d1) = cmpQ (ratV a b) (ratV c d) := by
    rw [← e1, ← e2]
    exact cmp_cross p1 p2
  rw [ec] at K5
  unfold FV
  clear e1 e2 p1 p2 f1 f3 z1 z3 s1 s2 s3 s4 ec
  generalize cmpQ (ratV a b) (ratV c d) = v at *
  generalize canS (valS n1 * valS d2) = u1 at *
  generalize canS (valS n2 * valS d1) = u4 at *
  go_enter Tryz.func65, Tryz.ntmps65
  go_wp2_with fail
  refine K1.step hs ?_
  intro w1 hs hb
  replace B1 := B1.on hb
  have c0 := B1.cell (i := 0) (v := .string c) rfl
  have c1 := B1.cell (i := 1) (v := .string d) rfl
  go_wp2_with fail
  refine K2.step hs ?_
  intro w1 hs _
  go_wp2_with fail
  refine K3.step hs ?_
  intro w1 hs _
  go_wp2_with fail
  refine K4.step hs ?_
  intro w1 hs _
  go_wp2_with fail
  refine K5.step hs ?_
  intro w1 hs _
  go_wp2_with fail
  go_ret
  exact ⟨rfl, hs.2⟩
end Go.Proofs.YtpipkeplhkccoaaGreatDoor
