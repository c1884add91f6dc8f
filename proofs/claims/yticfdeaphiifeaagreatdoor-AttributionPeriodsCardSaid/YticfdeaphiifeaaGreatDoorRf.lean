/- Fractions, the reference: contracts of Raw, Canonical, New. Conditions: strings of up to eighty thousand bytes. -/
import Derived.Test.YticfdeaphiifeaaGreatDoorRt
set_option maxHeartbeats 4000000
set_option maxRecDepth 100000
namespace Go.Proofs.YticfdeaphiifeaaGreatDoor
open Go.RowKit Go.Shelf Dec
open QQ
theorem one_r : Ret 100 #[] (.string ⟨#[49]⟩) := by
 intro w hg
 have hs := St.refl hg
 have K1 : Ret 148 #[.int .i64 1] (.string ⟨#[49]⟩) := fun w _ => by
  have := rof_any 1 w (by decide) (by decide)
  rwa [show canS 1 = ⟨#[49]⟩ by decide +kernel] at this
 go_enter Tryz.func100, Tryz.ntmps100
 go_wp2_with fail
 refine K1.step hs ?_
 intro w1 hs _
 go_wp2_with fail
 go_ret
 exact ⟨rfl, hs.2⟩
theorem rchkR {a : ByteArray} (h : a.size ≤ 1000000) : Ret 119 #[.string a] (.int .i64 (chk a)) := fun w _ => rcheck_any a w (by omega)
theorem rcmpR {a b : ByteArray} (ha : a.size ≤ 1000000) (hb : b.size ≤ 1000000) : Ret 128 #[.string a, .string b] (.int .i64 (cmpI (valS a) (valS b))) := fun w _ => rcompare_any a b w (by omega) (by omega)
theorem rnegR {a : ByteArray} (ha : a.size ≤ 1000000) : Ret 126 #[.string a] (.string (canS (-(valS a)))) := fun w _ => rneg_any a w (by omega)
theorem rdivR {a b : ByteArray} (ha : a.size ≤ 100000) (hb : b.size ≤ 100000) (h0 : valS b ≠ 0) : Ret 182 #[.string a, .string b] (.tuple #[.string (canS ((valS a).fdiv (valS b))), .string (canS ((valS a).fmod (valS b))), .int .i64 0]) := fun w _ => by
 have := rDiv_any a b w ha hb
 unfold divR at this
 rw [if_neg h0] at this
 exact this
theorem zero_r {a : ByteArray} (ha : a.size ≤ 1000000) : Ret 145 #[.string a] (.bool (decide (valS a = 0))) := by
 intro w hg
 have hs := St.refl hg
 have K1 := rcmpR (a := a) (b := ⟨#[]⟩) ha (by decide)
 have q : (cmpI (valS a) (valS ⟨#[]⟩) == 0) = decide (valS a = 0) := cmpI_eq
 generalize cmpI (valS a) (valS ⟨#[]⟩) = c at *
 generalize decide (valS a = 0) = t at *
 go_enter Tryz.func145, Tryz.ntmps145
 go_wp2_with fail
 refine K1.step hs ?_
 intro w1 hs _
 go_wp2_with fail
 go_ret
 exact ⟨rfl, hs.2⟩
theorem exact_r {a b : ByteArray} (ha : a.size ≤ 100000) (hb : b.size ≤ 100000) (h0 : valS b ≠ 0) : Ret 147 #[.string a, .string b] (.string (canS ((valS a).fdiv (valS b)))) := by
 intro w hg
 have hs := St.refl hg
 have K1 := rdivR ha hb h0
 generalize canS ((valS a).fdiv (valS b)) = q at *
 generalize canS ((valS a).fmod (valS b)) = r at *
 go_enter Tryz.func147, Tryz.ntmps147
 go_wp2_with fail
 refine K1.step hs ?_
 intro w1 hs _
 go_wp2_with fail
 go_ret
 exact ⟨rfl, hs.2⟩
def rawR (n d : ByteArray) : ByteArray × ByteArray := if valS d = 0 then (n, ⟨#[49]⟩) else if valS d < 0 then (canS (-(valS n)), canS (-(valS d))) else (n, d)
theorem raw_rat (n d : ByteArray) : rat (valS (rawR n d).1) (valS (rawR n d).2) = ratV n d ∧ 0 < valS (rawR n d).2 := by
 unfold rawR ratV
 by_cases h : valS d = 0
 ·rw [if_pos h, h, rat_zero]
  have e : valS (⟨#[49]⟩ : ByteArray) = 1 := by decide +kernel
  show rat (valS n) (valS ⟨#[49]⟩) = _ ∧ 0 < valS ⟨#[49]⟩
  rw [e, rat_one]
  exact ⟨rfl, by decide⟩
 ·rw [if_neg h]
  by_cases h2 : valS d < 0
  ·rw [if_pos h2]
   show rat (valS (canS (-(valS n)))) (valS (canS (-(valS d)))) = _ ∧ 0 < valS (canS (-(valS d)))
   rw [valS_canS, valS_canS, rat_neg _ _ h]
   exact ⟨rfl, by omega⟩
  ·rw [if_neg h2]
   exact ⟨rfl, by show 0 < valS d; omega⟩
theorem raw_size {n d : ByteArray} {k : Nat} (h1 : n.size ≤ k) (h2 : d.size ≤ k) (hk : 1 ≤ k) : (rawR n d).1.size ≤ k + 1 ∧ (rawR n d).2.size ≤ k + 1 := by
 unfold rawR
 split
 ·exact ⟨by show n.size ≤ _; omega, by show (1 : Nat) ≤ _; omega⟩
 ·split
  ·exact ⟨((Fit.val h1).neg).size, ((Fit.val h2).neg).size⟩
  ·exact ⟨by show n.size ≤ _; omega, by show d.size ≤ _; omega⟩
theorem raw_r {n d : ByteArray} (h1 : n.size ≤ 80000) (h2 : d.size ≤ 80000) : Ret 101 #[.agg #[.string n, .string d]] (.tuple #[.string (rawR n d).1, .string (rawR n d).2]) := by
 intro w hg
 have hs := (St.refl hg).alloc (.cells #[.string n, .string d] 34)
 have X := Bx.new w #[.string n, .string d] 34
 have K1 := zero_r (a := d) (by omega)
 have KO := one_r
 have K2 := rcmpR (a := d) (b := ⟨#[]⟩) (by omega) (by decide)
 have q2 : decide (cmpI (valS d) (valS ⟨#[]⟩) < 0) = decide (valS d < 0) := cmpI_lt
 have K3 := rnegR (a := n) (by omega)
 have K4 := rnegR (a := d) (by omega)
 generalize cmpI (valS d) (valS ⟨#[]⟩) = c at *
 have e : rawR n d = if valS d = 0 then (n, ⟨#[49]⟩) else if valS d < 0 then (canS (-(valS n)), canS (-(valS d))) else (n, d) := rfl
 by_cases h : valS d = 0
 ·rw [if_pos h] at e
  rw [e]
  rw [decide_eq_true h] at K1
  clear e h K2 K3 K4 q2
  go_enter Tryz.func101, Tryz.ntmps101
  go_wp2_with fail
  refine K1.step hs ?_
  intro w1 hs hb
  have z0 := (X.on hb).keeps (i := 0) (v := .string n) rfl
  go_wp2_with fail
  refine wp_region_kept (by kernel_rfl) (by kernel_rfl) ?_
  repeat (go_big_quiet_step (first | (with_reducible exact KO.kept hs)))
  refine wpQuiet_nil ?_
  rintro _ ⟨u, rfl⟩
  go_wp2_with fail
  go_ret2
  exact ⟨rfl, (hs.kept u).2⟩
 ·rw [if_neg h] at e
  rw [decide_eq_false h] at K1
  clear KO
  by_cases h3 : valS d < 0
  ·rw [if_pos h3] at e
   rw [e]
   rw [decide_eq_true h3] at q2
   clear e h h3
   generalize canS (-(valS n)) = r1 at *
   generalize canS (-(valS d)) = r2 at *
   go_enter Tryz.func101, Tryz.ntmps101
   go_wp2_with fail
   refine K1.step hs ?_
   intro w1 hs hb
   have X1 := X.on hb
   have x1 := X1.cell (i := 1) (v := .string d) rfl
   go_wp2_with fail
   refine K2.step hs ?_
   intro w2 hs hb
   have z0 := (X1.on hb).keeps (i := 0) (v := .string n) rfl
   have z1 := (X1.on hb).keeps (i := 1) (v := .string d) rfl
   go_wp2_with fail
   refine wp_region_kept (by kernel_rfl) (by kernel_rfl) ?_
   repeat (go_big_quiet_step (first | (with_reducible exact K3.kept hs) | (with_reducible exact K4.kept hs)))
   refine wpQuiet_nil ?_
   rintro _ ⟨u, rfl⟩
   go_wp2_with fail
   go_ret2
   exact ⟨rfl, (hs.kept u).2⟩
  ·rw [if_neg h3] at e
   rw [e]
   rw [decide_eq_false h3] at q2
   clear e h h3 K3 K4
   go_enter Tryz.func101, Tryz.ntmps101
   go_wp2_with fail
   refine K1.step hs ?_
   intro w1 hs hb
   have X1 := X.on hb
   have x1 := X1.cell (i := 1) (v := .string d) rfl
   go_wp2_with fail
   refine K2.step hs ?_
   intro w2 hs hb
   have z0 := (X1.on hb).keeps (i := 0) (v := .string n) rfl
   have z1 := (X1.on hb).keeps (i := 1) (v := .string d) rfl
   go_wp2_with fail
   refine wp_region_kept (by kernel_rfl) (by kernel_rfl) ?_
   repeat (go_big_quiet_step (fail))
   refine wpQuiet_nil ?_
   rintro _ ⟨u, rfl⟩
   go_wp2_with fail
   go_ret2
   exact ⟨rfl, (hs.kept u).2⟩
theorem den_one (q : Rat) : (cmpI (q.den : Int) 1 == 0) = decide (q.den = 1) := by rw [cmpI_eq, decide_eq_decide]; omega
theorem reduced_r {n d : ByteArray} (h1 : n.size ≤ 80001) (h2 : d.size ≤ 80001) (hd : 0 < valS d) : Ret 99 #[.string n, .string d] (FR (rat (valS n) (valS d))) := by
 intro w hg
 have hs := (St.refl hg).alloc (.cells #[.string ⟨#[]⟩, .string ⟨#[]⟩] 34)
 have B := Bx.new w #[.string ⟨#[]⟩, .string ⟨#[]⟩] 34
 have K1 := zero_r (a := n) (by omega)
 by_cases h : valS n = 0
 ·rw [decide_eq_true h] at K1
  have e : rat (valS n) (valS d) = 0 := rat_eq_zero.2 h
  rw [e]
  unfold FR
  rw [frN_zero, frD_zero]
  clear e h
  go_enter Tryz.func99, Tryz.ntmps99
  go_wp2_with fail
  refine K1.step hs ?_
  intro w1 hs hb
  replace B := B.on hb
  have x0 := B.cell (i := 0) (v := .string ⟨#[]⟩) rfl
  have x1 := B.cell (i := 1) (v := .string ⟨#[]⟩) rfl
  have f0 := B.frozen 0
  have f1 := B.frozen 1
  go_wp2_with fail
  have B6 := (B.set 0 (.string ⟨#[]⟩)).set 1 (.string ⟨#[]⟩)
  have y0 := B6.cell (i := 0) (v := .string ⟨#[]⟩) rfl
  have y1 := B6.cell (i := 1) (v := .string ⟨#[]⟩) rfl
  have hs4 := (hs.set (b := w.heap.size) (Nat.le_refl _) 0 (.string ⟨#[]⟩)).set (b := w.heap.size) (Nat.le_refl _) 1 (.string ⟨#[]⟩)
  exact bodyPost_ret (v := .agg #[.string ⟨#[]⟩, .string ⟨#[]⟩]) (by simp [results, Tryz.results99, go_sem, y0, y1]) rfl ⟨rfl, hs4.2⟩
 ·rw [decide_eq_false h] at K1
  have K2 := rGcd_any n d (by omega) (by omega)
  have hg0 : ((Nat.gcd (valS n).natAbs (valS d).natAbs : Nat) : Int) ≠ 0 := gcd_ne (by omega)
  have fg : Fit 80001 ((Nat.gcd (valS n).natAbs (valS d).natAbs : Nat) : Int) := by
   have h3 := Fit.val h2
   have h4 := Nat.le_of_dvd (by omega) (Nat.gcd_dvd_right (valS n).natAbs (valS d).natAbs)
   rcases Nat.lt_or_eq_of_le h4 with h5 | h5
   ·exact fit_lt (fit_abs h3) h5
   ·rw [h5]; exact fit_abs h3
  have sg := fg.size
  have K3 := exact_r (a := n) (b := canS ((Nat.gcd (valS n).natAbs (valS d).natAbs : Nat) : Int)) (by omega) (by omega) (by rw [valS_canS]; exact hg0)
  have K4 := exact_r (a := d) (b := canS ((Nat.gcd (valS n).natAbs (valS d).natAbs : Nat) : Int)) (by omega) (by omega) (by rw [valS_canS]; exact hg0)
  rw [valS_canS, ← rat_num hd] at K3
  rw [valS_canS, ← rat_den hd] at K4
  have sd : (canS ((rat (valS n) (valS d)).den : Int)).size ≤ 1000000 := by
   have h3 := (rat_le (n := valS n) (d := valS d)).2.1 (by omega)
   have h4 : Fit 80001 (((valS d).natAbs : Nat) : Int) := fit_abs (Fit.val h2)
   have h5 : Fit 80001 (((rat (valS n) (valS d)).den : Nat) : Int) := by
    rcases Nat.lt_or_eq_of_le h3 with h6 | h6
    ·exact fit_lt h4 h6
    ·rw [h6]; exact h4
   have := h5.size
   omega
  have K5 := rcmpR (a := canS ((rat (valS n) (valS d)).den : Int)) (b := ⟨#[49]⟩) sd (by decide)
  rw [valS_canS, show valS (⟨#[49]⟩ : ByteArray) = 1 by decide +kernel] at K5
  have q5 := den_one (rat (valS n) (valS d))
  have KO := one_r
  have eD : frD (rat (valS n) (valS d)) = if (rat (valS n) (valS d)).den = 1 then ⟨#[]⟩ else canS (rat (valS n) (valS d)).den := rfl
  unfold FR frN
  clear hg0 fg sg sd
  generalize cmpI ((rat (valS n) (valS d)).den : Int) 1 = cc at *
  generalize canS ((Nat.gcd (valS n).natAbs (valS d).natAbs : Nat) : Int) = g at *
  generalize canS ((rat (valS n) (valS d)).den : Int) = rd at *
  generalize canS (rat (valS n) (valS d)).num = rn at *
  by_cases h1d : (rat (valS n) (valS d)).den = 1
  ·rw [if_pos h1d] at eD
   rw [decide_eq_true h1d] at q5
   rw [eD]
   clear eD h1d h
   go_enter Tryz.func99, Tryz.ntmps99
   go_wp2_with fail
   refine K1.step hs ?_
   intro w1 hs hb
   replace B := B.on hb
   go_wp2_with fail
   refine K2.step hs ?_
   intro w2 hs hb
   replace B := B.on hb
   go_wp2_with fail
   refine K3.step hs ?_
   intro w3 hs hb
   replace B := B.on hb
   go_wp2_with fail
   refine K4.step hs ?_
   intro w4 hs hb
   have hlt : w.heap.size < w4.heap.size := (B.on hb).lt
   replace B := (B.on hb).alloc (.cells #[.string rn, .string rd] 34)
   have C := Bx.new w4 #[.string rn, .string rd] 34
   replace hs := hs.alloc (.cells #[.string rn, .string rd] 34)
   have z1 := C.keeps (i := 1) (v := .string rd) rfl
   go_wp2_with fail
   refine wp_region_kept (by kernel_rfl) (by kernel_rfl) ?_
   repeat (go_big_quiet_step (first | (with_reducible exact KO.kept hs) | (with_reducible exact K5.kept hs)))
   refine wpQuiet_nil ?_
   rintro _ ⟨u, rfl⟩
   have hs3 := hs.kept u
   replace B := B.kept u
   replace C := C.kept u
   have c1 := C.cell (i := 1) (v := .string rd) rfl
   have g1 := C.frozen 1
   have x0 := B.cell (i := 0) (v := .string ⟨#[]⟩) rfl
   have x1 := B.cell (i := 1) (v := .string ⟨#[]⟩) rfl
   have f0 := B.frozen 0
   have f1 := B.frozen 1
   have C2 := C.set 1 (.string ⟨#[]⟩)
   have c2 := C2.cell (i := 0) (v := .string rn) rfl
   have c3 := C2.cell (i := 1) (v := .string ⟨#[]⟩) rfl
   have B2 := B.other (c := w4.heap.size) (by omega) 1 (.string ⟨#[]⟩)
   have x2 := B2.cell (i := 0) (v := .string ⟨#[]⟩) rfl
   have x3 := B2.cell (i := 1) (v := .string ⟨#[]⟩) rfl
   have f2 := B2.frozen 0
   have f3 := B2.frozen 1
   replace B := B2
   have hs5 := hs3.set (b := w4.heap.size) (by omega) 1 (.string ⟨#[]⟩)
   go_wp2_with fail
   have B6 := (B.set 0 (.string rn)).set 1 (.string ⟨#[]⟩)
   have y0 := B6.cell (i := 0) (v := .string rn) rfl
   have y1 := B6.cell (i := 1) (v := .string ⟨#[]⟩) rfl
   have hs4 := (hs5.set (b := w.heap.size) (Nat.le_refl _) 0 (.string rn)).set (b := w.heap.size) (Nat.le_refl _) 1 (.string ⟨#[]⟩)
   exact bodyPost_ret (v := .agg #[.string rn, .string ⟨#[]⟩]) (by simp [results, Tryz.results99, go_sem, y0, y1]) rfl ⟨rfl, hs4.2⟩
  ·rw [if_neg h1d] at eD
   rw [decide_eq_false h1d] at q5
   rw [eD]
   clear eD h1d h
   go_enter Tryz.func99, Tryz.ntmps99
   go_wp2_with fail
   refine K1.step hs ?_
   intro w1 hs hb
   replace B := B.on hb
   go_wp2_with fail
   refine K2.step hs ?_
   intro w2 hs hb
   replace B := B.on hb
   go_wp2_with fail
   refine K3.step hs ?_
   intro w3 hs hb
   replace B := B.on hb
   go_wp2_with fail
   refine K4.step hs ?_
   intro w4 hs hb
   have hlt : w.heap.size < w4.heap.size := (B.on hb).lt
   replace B := (B.on hb).alloc (.cells #[.string rn, .string rd] 34)
   have C := Bx.new w4 #[.string rn, .string rd] 34
   replace hs := hs.alloc (.cells #[.string rn, .string rd] 34)
   have z1 := C.keeps (i := 1) (v := .string rd) rfl
   go_wp2_with fail
   refine wp_region_kept (by kernel_rfl) (by kernel_rfl) ?_
   repeat (go_big_quiet_step (first | (with_reducible exact KO.kept hs) | (with_reducible exact K5.kept hs)))
   refine wpQuiet_nil ?_
   rintro _ ⟨u, rfl⟩
   have hs3 := hs.kept u
   replace B := B.kept u
   replace C := C.kept u
   have c0 := C.cell (i := 0) (v := .string rn) rfl
   have c1 := C.cell (i := 1) (v := .string rd) rfl
   have x0 := B.cell (i := 0) (v := .string ⟨#[]⟩) rfl
   have x1 := B.cell (i := 1) (v := .string ⟨#[]⟩) rfl
   have f0 := B.frozen 0
   have f1 := B.frozen 1
   go_wp2_with fail
   have B6 := (B.set 0 (.string rn)).set 1 (.string rd)
   have y0 := B6.cell (i := 0) (v := .string rn) rfl
   have y1 := B6.cell (i := 1) (v := .string rd) rfl
   have hs4 := (hs3.set (b := w.heap.size) (Nat.le_refl _) 0 (.string rn)).set (b := w.heap.size) (Nat.le_refl _) 1 (.string rd)
   exact bodyPost_ret (v := .agg #[.string rn, .string rd]) (by simp [results, Tryz.results99, go_sem, y0, y1]) rfl ⟨rfl, hs4.2⟩
theorem canonical_r {n d : ByteArray} (h1 : n.size ≤ 80000) (h2 : d.size ≤ 80000) : Ret 162 #[.agg #[.string n, .string d]] (FR (ratV n d)) := by
 intro w hg
 have hs := ((St.refl hg).alloc (.cells #[.string n, .string d] 34)).alloc (.cells #[.string ⟨#[]⟩, .string ⟨#[]⟩] 34)
 have B := Bx.new1 w (.cells #[.string n, .string d] 34) #[.string ⟨#[]⟩, .string ⟨#[]⟩] 34
 have K1 := raw_r h1 h2
 obtain ⟨e1, e2⟩ := raw_rat n d
 obtain ⟨s1, s2⟩ := raw_size (k := 80000) h1 h2 (by omega)
 have K2 := reduced_r s1 s2 e2
 rw [e1] at K2
 unfold FR at K2 ⊢
 clear e1 e2 s1 s2
 generalize (rawR n d).1 = a at *
 generalize (rawR n d).2 = b at *
 generalize frN (ratV n d) = rn at *
 generalize frD (ratV n d) = rd at *
 go_enter Tryz.func162, Tryz.ntmps162
 go_wp2_with fail
 refine K1.step hs ?_
 intro w1 hs hb
 replace B := B.on hb
 go_wp2_with fail
 refine K2.step hs ?_
 intro w2 hs hb
 replace B := B.on hb
 have x0 := B.cell (i := 0) (v := .string ⟨#[]⟩) rfl
 have x1 := B.cell (i := 1) (v := .string ⟨#[]⟩) rfl
 have f0 := B.frozen 0
 have f1 := B.frozen 1
 go_wp2_with fail
 have B6 := (B.set 0 (.string rn)).set 1 (.string rd)
 have y0 := B6.cell (i := 0) (v := .string rn) rfl
 have y1 := B6.cell (i := 1) (v := .string rd) rfl
 have hs4 := (hs.set (b := w.heap.size + 1) (by omega) 0 (.string rn)).set (b := w.heap.size + 1) (by omega) 1 (.string rd)
 exact bodyPost_ret (v := .agg #[.string rn, .string rd]) (by simp [results, Tryz.results162, go_sem, y0, y1]) rfl ⟨rfl, hs4.2⟩
theorem new_r {n d : ByteArray} (h1 : n.size ≤ 80000) (h2 : d.size ≤ 80000) : Ret 127 #[.string n, .string d] (.tuple #[FR (if valS d = 0 then 0 else rat (valS n) (valS d)), .int .i64 (if valS d = 0 then 10 else 0)]) := by
 intro w hg
 have hs := (St.refl hg).alloc (.cells #[.string ⟨#[]⟩, .string ⟨#[]⟩] 34)
 have B := Bx.new w #[.string ⟨#[]⟩, .string ⟨#[]⟩] 34
 have K1 := zero_r (a := d) (by omega)
 have K2 := canonical_r h1 h2
 by_cases h : valS d = 0
 ·rw [if_pos h, if_pos h]
  rw [decide_eq_true h] at K1
  unfold FR
  rw [frN_zero, frD_zero]
  clear K2 h
  go_enter Tryz.func127, Tryz.ntmps127
  go_wp2_with fail
  refine K1.step hs ?_
  intro w1 hs hb
  replace B := B.on hb
  have x0 := B.cell (i := 0) (v := .string ⟨#[]⟩) rfl
  have x1 := B.cell (i := 1) (v := .string ⟨#[]⟩) rfl
  have f0 := B.frozen 0
  have f1 := B.frozen 1
  go_wp2_with fail
  have B6 := (B.set 0 (.string ⟨#[]⟩)).set 1 (.string ⟨#[]⟩)
  have y0 := B6.cell (i := 0) (v := .string ⟨#[]⟩) rfl
  have y1 := B6.cell (i := 1) (v := .string ⟨#[]⟩) rfl
  have hs4 := (hs.set (b := w.heap.size) (Nat.le_refl _) 0 (.string ⟨#[]⟩)).set (b := w.heap.size) (Nat.le_refl _) 1 (.string ⟨#[]⟩)
  exact bodyPost_ret (v := .tuple #[.agg #[.string ⟨#[]⟩, .string ⟨#[]⟩], .int .i64 10]) (by simp [results, Tryz.results127, go_sem, y0, y1]) rfl ⟨rfl, hs4.2⟩
 ·rw [if_neg h, if_neg h]
  rw [decide_eq_false h] at K1
  change Ret _ _ (FR (rat (valS n) (valS d))) at K2
  unfold FR at K2 ⊢
  generalize frN (rat (valS n) (valS d)) = rn at *
  generalize frD (rat (valS n) (valS d)) = rd at *
  clear h
  go_enter Tryz.func127, Tryz.ntmps127
  go_wp2_with fail
  refine K1.step hs ?_
  intro w1 hs hb
  replace B := B.on hb
  go_wp2_with fail
  refine K2.step hs ?_
  intro w2 hs hb
  replace B := B.on hb
  have x0 := B.cell (i := 0) (v := .string ⟨#[]⟩) rfl
  have x1 := B.cell (i := 1) (v := .string ⟨#[]⟩) rfl
  have f0 := B.frozen 0
  have f1 := B.frozen 1
  go_wp2_with fail
  have B6 := (B.set 0 (.string rn)).set 1 (.string rd)
  have y0 := B6.cell (i := 0) (v := .string rn) rfl
  have y1 := B6.cell (i := 1) (v := .string rd) rfl
  have hs4 := (hs.set (b := w.heap.size) (Nat.le_refl _) 0 (.string rn)).set (b := w.heap.size) (Nat.le_refl _) 1 (.string rd)
  exact bodyPost_ret (v := .tuple #[.agg #[.string rn, .string rd], .int .i64 0]) (by simp [results, Tryz.results127, go_sem, y0, y1]) rfl ⟨rfl, hs4.2⟩
end Go.Proofs.YticfdeaphiifeaaGreatDoor
