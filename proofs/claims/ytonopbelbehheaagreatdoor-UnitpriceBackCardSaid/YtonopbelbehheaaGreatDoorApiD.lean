/- Integer: the contract of Div. Conditions: sizes below 2^36; the table of powers lies as the program's text lays it. -/
import Derived.Test.YtonopbelbehheaaGreatDoorApiC
import Derived.Test.YtonopbelbehheaaGreatDoorDivB
import Derived.Deep.DeepCutAuto
namespace Go.Proofs.YtonopbelbehheaaGreatDoor
open Go.RowKit Go.Shelf Dec
attribute [local go_sem ↓] Go.wp_at_zero Go.wp_at_succ

theorem divide' (A A' : Option Addr) (c c' n m : Nat) (a b : Nat) (w : World) (hn : (mag a).length = n) (hn' : (mag b).length = m) (hc : MagS w A c a) (hc' : MagS w A' c' b) (hm : n ≤ 274877906944) (hm' : m ≤ 274877906944) (hb : b ≠ 0) :
    Calls Tryz.prog 71 #[.slice A n c, .slice A' m c'] w fun e w' => ∃ A k c A' k' c', e = .returned (.tuple #[.slice A k c, .slice A' k' c']) ∧ (mag (a / b)).length = k ∧ (mag (a % b)).length = k' ∧ MagS w' A c (a / b) ∧ MagS w' A' c' (a % b) ∧ k ≤ n ∧ k' ≤ m ∧ Below w.heap.size w w' := by
  subst hn hn'
  refine (divide_any A A' c c' a b w hc hc' hm hm' hb).mono ?_
  rintro e w' ⟨A, c, A', c', he, h1, h2, h3⟩
  refine ⟨A, _, c, A', _, c', he, rfl, rfl, h1, h2, ?_, ?_, h3⟩
  · rw [mag_len_lt]
    exact Nat.lt_of_le_of_lt (Nat.div_le_self _ _) (mag_len_lt.1 (Nat.le_refl _))
  · rw [mag_len_lt]
    exact Nat.lt_trans (Nat.mod_lt _ (by omega)) (mag_len_lt.1 (Nat.le_refl _))
/-- the quotient, rounded down, by signs and sizes -/
theorem div_same (x y : Int) (hy : y ≠ 0) (h : decide (x < 0) = decide (y < 0)) : sgn false (x.natAbs / y.natAbs) = x.fdiv y ∧ sgn (decide (y < 0)) (x.natAbs % y.natAbs) = x.fmod y := by
  have e := Nat.mod_add_div x.natAbs y.natAbs
  have hl := Nat.mod_lt x.natAbs (show y.natAbs > 0 by omega)
  generalize hq : x.natAbs / y.natAbs = q at *
  generalize hr : x.natAbs % y.natAbs = r at *
  have e' : (r : Int) + (y.natAbs : Int) * q = x.natAbs := by rw [← Int.natCast_mul]; omega
  unfold sgn
  by_cases hx : x < 0
  · have hy' : y < 0 := by simpa [hx] using h
    have := (Int.fdiv_fmod_unique' (a := x) (b := y) (r := -(r : Int)) (q := q) hy').2 ⟨by rw [show (y.natAbs : Int) = -y by omega, Int.neg_mul] at e'; omega, by omega, by omega⟩
    simp [hy', this.1, this.2]
  · have hy' : ¬ y < 0 := by simpa [hx] using h
    have := (Int.fdiv_fmod_unique (a := x) (b := y) (r := (r : Int)) (q := q) (by omega)).2 ⟨by rw [show (y.natAbs : Int) = y by omega] at e'; omega, by omega, by omega⟩
    simp [hy', this.1, this.2]
theorem div_zero_rest (x y : Int) (hy : y ≠ 0) (h : decide (x < 0) ≠ decide (y < 0)) (hr0 : x.natAbs % y.natAbs = 0) : sgn true (x.natAbs / y.natAbs) = x.fdiv y ∧ sgn (decide (y < 0)) (x.natAbs % y.natAbs) = x.fmod y := by
  have e := Nat.mod_add_div x.natAbs y.natAbs
  rw [hr0] at e ⊢
  generalize hq : x.natAbs / y.natAbs = q at *
  have e' : (y.natAbs : Int) * q = x.natAbs := by rw [← Int.natCast_mul]; omega
  unfold sgn
  by_cases hx : x < 0
  · have hy' : ¬ y < 0 := by simpa [hx] using h
    have := (Int.fdiv_fmod_unique (a := x) (b := y) (r := 0) (q := -(q : Int)) (by omega)).2 ⟨by rw [show (y.natAbs : Int) = y by omega] at e'; rw [Int.mul_neg]; omega, by omega, by omega⟩
    simp [hy', this.1, this.2]
  · have hy' : y < 0 := by simpa [hx] using h
    have := (Int.fdiv_fmod_unique' (a := x) (b := y) (r := 0) (q := -(q : Int)) hy').2 ⟨by rw [show (y.natAbs : Int) = -y by omega, Int.neg_mul] at e'; rw [Int.mul_neg]; omega, by omega, by omega⟩
    simp [hy', this.1, this.2]
theorem div_diff (x y : Int) (hy : y ≠ 0) (h : decide (x < 0) ≠ decide (y < 0)) (hr0 : x.natAbs % y.natAbs ≠ 0) : sgn true (x.natAbs / y.natAbs + 1) = x.fdiv y ∧ sgn (decide (y < 0)) (y.natAbs - x.natAbs % y.natAbs) = x.fmod y := by
  have e := Nat.mod_add_div x.natAbs y.natAbs
  have hl := Nat.mod_lt x.natAbs (show y.natAbs > 0 by omega)
  generalize hq : x.natAbs / y.natAbs = q at *
  generalize hr : x.natAbs % y.natAbs = r at *
  have e' : (r : Int) + (y.natAbs : Int) * q = x.natAbs := by rw [← Int.natCast_mul]; omega
  have e2 : ((y.natAbs - r : Nat) : Int) = y.natAbs - r := by omega
  unfold sgn
  rw [e2]
  by_cases hx : x < 0
  · have hy' : ¬ y < 0 := by simpa [hx] using h
    have := (Int.fdiv_fmod_unique (a := x) (b := y) (r := (y.natAbs : Int) - r) (q := -((q + 1 : Nat) : Int)) (by omega)).2 ⟨by rw [show (y.natAbs : Int) = y by omega] at e' ⊢; rw [Int.mul_neg, Int.natCast_add, Int.mul_add]; omega, by omega, by omega⟩
    simp only [hy', decide_false, if_true, Bool.false_eq_true, if_false]
    exact ⟨this.1.symm, this.2.symm⟩
  · have hy' : y < 0 := by simpa [hx] using h
    have := (Int.fdiv_fmod_unique' (a := x) (b := y) (r := -((y.natAbs : Int) - r)) (q := -((q + 1 : Nat) : Int)) hy').2 ⟨by rw [show (y.natAbs : Int) = -y by omega] at e' ⊢; rw [Int.neg_mul] at e'; rw [Int.mul_neg, Int.natCast_add, Int.mul_add]; omega, by omega, by omega⟩
    simp only [hy', decide_true, if_true]
    exact ⟨this.1.symm, this.2.symm⟩

theorem mg_one (w : World) : Mg .u64 (w.alloc (.cells #[.int .u64 1] 94)) (w.alloc (.cells #[.int .u64 1] 94)).heap.size (some ⟨w.heap.size, 0, none⟩) [1] := by
  rw [World.size_alloc]; exact mg_new w [1]
theorem plus1 (A A' : Option Addr) (c c' n : Nat) (a : Nat) (w : World) (hn : (mag a).length = n) (hc : Mg .u64 w w.heap.size A (mag a)) (hc' : Mg .u64 w w.heap.size A' [1]) (hm : n ≤ 274877906944) :
    Calls Tryz.prog 72 #[.slice A n c, .slice A' 1 c'] w fun e w' => ∃ A k c, e = .returned (.slice A k c) ∧ (mag (a + 1)).length = k ∧ MagS w' A c (a + 1) ∧ k ≤ n + 1 ∧ Below w.heap.size w w' := by
  have h1 : mag 1 = [1] := mag_one (by decide) (by decide)
  refine (plus' A A' c c' n 1 a 1 w hn (by rw [h1]; rfl) hc (by rw [h1]; exact hc') (by omega) (by omega)).mono ?_
  rintro e w' ⟨A, c, he, ho, hb⟩
  refine ⟨A, _, c, he, rfl, ho.mg, ?_, hb⟩
  rw [mag_len_lt, Nat.pow_succ]
  have h2 : a < BB ^ n := mag_len_lt.1 (by omega)
  have h3 : BB ^ n * 2 ≤ BB ^ n * BB := Nat.mul_le_mul_left _ (by decide)
  have h4 : 0 < BB ^ n := Nat.pow_pos BB_pos
  omega
theorem minus2 (A A' : Option Addr) (c c' n m : Nat) (a b : Nat) (w : World) (hn : (mag a).length = n) (hn' : (mag b).length = m) (hc : Mg .u64 w w.heap.size A (mag a)) (hc' : Mg .u64 w w.heap.size A' (mag b)) (hm : n ≤ 274877906944) (hle : b ≤ a) :
    Calls Tryz.prog 73 #[.slice A n c, .slice A' m c'] w fun e w' => ∃ A k c, e = .returned (.slice A k c) ∧ (mag (a - b)).length = k ∧ MagS w' A c (a - b) ∧ k ≤ n ∧ Below w.heap.size w w' := by
  refine (minus' A A' c c' n m a b w hn hn' hc hc' (by omega) hle).mono ?_
  rintro e w' ⟨A, c, he, ho, hb⟩
  refine ⟨A, _, c, he, rfl, ho.mg, ?_, hb⟩
  rw [mag_len_lt]
  exact Nat.lt_of_le_of_lt (Nat.sub_le _ _) (mag_len_lt.1 (by omega))

/-- what Div hands back -/
def divR (x y : Int) : ByteArray × ByteArray × Int := if y = 0 then (⟨#[]⟩, ⟨#[]⟩, 10) else (canS (x.fdiv y), canS (x.fmod y), 0)
def DivS (x y : Int) (w : World) (e : Ending) (w' : World) : Prop := e = .returned (.tuple #[.string (divR x y).1, .string (divR x y).2.1, .int .i64 (divR x y).2.2]) ∧ Below w.heap.size w w'
theorem ret_three {v v' u u' t t' : Value} (h : v = v') (h2 : u = u') (h3 : t = t') : Ending.returned (.tuple #[v, u, t]) = .returned (.tuple #[v', u', t']) := by rw [h, h2, h3]

set_option maxRecDepth 100000 in
set_option maxHeartbeats 8000000 in
theorem Div_any (a b : ByteArray) (w : World) (ha : a.size ≤ 68719476736) (hb : b.size ≤ 68719476736) (hg : Gl w) :
    Calls Tryz.prog 17 #[.string a, .string b] w (DivS (valS a) (valS b) w) := by
  have Hg := Lib.hid hg
  clear hg
  obtain ⟨na, hda⟩ : ∃ na, decide (valS a < 0) = na := ⟨_, rfl⟩
  obtain ⟨nb, hdb⟩ : ∃ nb, decide (valS b < 0) = nb := ⟨_, rfl⟩
  have HR1 : Hid (∀ w, Calls Tryz.prog 70 #[.string a] w fun e w' => ∃ A n c, e = .returned (.agg #[.bool na, .slice A n c]) ∧ (mag (valS a).natAbs).length = n ∧ MagS w' A c (valS a).natAbs ∧ n ≤ a.size ∧ Below w.heap.size w w') := by
    intro w; rw [← hda]; exact read' a w ha
  have HR2 : Hid (∀ w, Calls Tryz.prog 70 #[.string b] w fun e w' => ∃ A n c, e = .returned (.agg #[.bool nb, .slice A n c]) ∧ (mag (valS b).natAbs).length = n ∧ MagS w' A c (valS b).natAbs ∧ n ≤ b.size ∧ Below w.heap.size w w') := by
    intro w; rw [← hdb]; exact read' b w hb
  have HD1 := Lib.hid hda
  have HD2 := Lib.hid hdb
  clear hda hdb
  obtain ⟨x, hx⟩ : ∃ x, valS a = x := ⟨_, rfl⟩
  obtain ⟨y, hy⟩ : ∃ y, valS b = y := ⟨_, rfl⟩
  rw [hx] at HR1 HD1 ⊢
  rw [hy] at HR2 HD2 ⊢
  clear hx hy
  go_enter Tryz.func17, Tryz.ntmps17
  go_wp2_with fail
  refine (HR1.out _).mono ?_
  rintro e w1 ⟨A1, n1, c1, rfl, hn1, hm1, hl1, hb1⟩
  have Hn1 := Lib.hid hn1
  have Hm1 := Lib.hid hm1
  have Hb1 := Lib.hid hb1
  clear hn1 hm1 hb1
  go_wp2_with fail
  refine (HR2.out _).mono ?_
  rintro e w2 ⟨A2, n2, c2, rfl, hn2, hm2, hl2, hb2⟩
  have Hn2 := Lib.hid hn2
  obtain ⟨W, hW, c00, c01, c10, c11, hsz, hbw⟩ := two_boxes w2 89 (.bool na) (.slice A1 n1 c1) (.bool nb) (.slice A2 n2 c2)
  have HW := Lib.hid hW
  have Hsz := Lib.hid hsz
  have Hm1' := Lib.hid ((Hm1.out.up hb2).up hbw)
  have Hm2' := Lib.hid (hm2.up hbw)
  have Hb2 : Hid (Below w.heap.size w W) := (Hb1.out.trans (hb2.mono Hb1.out.size)).trans (hbw.mono (Nat.le_trans Hb1.out.size hb2.size))
  clear hn2 hm2 hb2 hW hsz hbw
  by_cases hy : y = 0
  · subst hy
    have h0 : n2 = 0 := by rw [← Hn2.out]; rfl
    subst h0
    go_wp2_with fail
    go_ret3
    exact ⟨rfl, by rw [HW.out]; exact Hb2.out⟩
  · have hn0 : n2 ≠ 0 := by
      intro e
      have h1 := Hn2.out
      rw [e] at h1
      have := mag_nil.1 (List.eq_nil_of_length_eq_zero h1)
      omega
    have q0 : ((n2 : Int) == 0) = false := by simp; omega
    have hy2 : y.natAbs ≠ 0 := by omega
    have HY2 := Lib.hid hy2
    have HY := Lib.hid hy
    have HE : Hid (divR x y = (canS (x.fdiv y), canS (x.fmod y), 0)) := by show _ = _; unfold divR; rw [if_neg hy]
    clear hn0 hy hy2
    go_wp2_with fail
    rw [HW.out]
    clear HW
    obtain ⟨B, hB⟩ : ∃ B, w2.heap.size = B := ⟨_, rfl⟩
    rw [hB] at c00 c01 c10 c11 Hsz ⊢
    clear hB
    refine (divide' A1 A2 c1 c2 n1 n2 _ _ _ Hn1.out Hn2.out Hm1'.out Hm2'.out (by omega) (by omega) HY2.out).mono ?_
    rintro e w3 ⟨A3, k3, c3, A4, k4, c4, rfl, hk3, hk4, hm3, hm4, hl3, hl4, hb3⟩
    have Hk3 := Lib.hid hk3
    have Hk4 := Lib.hid hk4
    have Hm3 := Lib.hid hm3
    have Hm4 := Lib.hid hm4
    have Hm2'' := Lib.hid (Hm2'.out.up hb3)
    have l0 : B < W.heap.size := by have := Hsz.out; omega
    have l1 : B + 1 < W.heap.size := by have := Hsz.out; omega
    have d00 := (hb3.cell (p := ⟨B, 0, none⟩) l0).trans c00
    have d10 := (hb3.cell (p := ⟨B + 1, 0, none⟩) l1).trans c10
    have d11 := (hb3.cell (p := ⟨B + 1, 1, none⟩) l1).trans c11
    have Hs3 : Hid (B + 1 < w3.heap.size) := Nat.lt_of_lt_of_le l1 hb3.size
    have Hb3 : Hid (Below w.heap.size w w3) := Hb2.out.trans (hb3.mono Hb2.out.size)
    clear hk3 hk4 hm3 hm4 hb3 l0 l1 c00 c01 c10 c11
    by_cases hs : na = nb
    · subst hs
      have q1 : (na != na) = false := by simp
      have HF := Lib.hid (div_same x y HY.out (HD1.out.trans HD2.out.symm))
      go_wp2_with fail
      have lt0 : B < w3.heap.size := by have := Hs3.out; omega
      have lt1 : B + 1 < w3.heap.size := Hs3.out
      go_region_held3 (fun w' => w'.cell? ⟨B, 0, none⟩ = some (.bool na) ∧ w'.cell? ⟨B + 1, 0, none⟩ = some (.bool na))
        (first
          | (go_keep; done)
          | exact ⟨xq0, xq1⟩
          | exact ⟨xr0, xr1⟩)
        (first
          | (go_at_call 74; (with_reducible refine (text' false A3 c3 k3 _ _ Hk3.out ?_ ?_ ?_).mono ?_); (first | exact Hm3.out | exact Hm3.out.up hR3); omega; (first | exact Hg.out.below Hb3.out.drew | exact Hg.out.below HbR.out); rintro e wq ⟨rfl, hkq⟩; have hQ3 : Below w3.heap.size w3 wq := (by first | exact ((Below.refl _ _).drew).trans hkq | exact hR3.trans (hkq.mono hR3.size)); have HbQ := Lib.hid (Hb3.out.trans (hQ3.mono Hb3.out.size)); have xq0 := (hQ3.cell (p := ⟨B, 0, none⟩) lt0).trans d00; have xq1 := (hQ3.cell (p := ⟨B + 1, 0, none⟩) lt1).trans d10)
          | (go_at_call 74; (with_reducible refine (text' na A4 c4 k4 _ _ Hk4.out ?_ ?_ ?_).mono ?_); (first | exact Hm4.out | exact Hm4.out.up hQ3); omega; (first | exact Hg.out.below Hb3.out.drew | exact Hg.out.below HbQ.out); rintro e wz ⟨rfl, hkr⟩; have hR3 : Below w3.heap.size w3 wz := (by first | exact ((Below.refl _ _).drew).trans hkr | exact hQ3.trans (hkr.mono hQ3.size)); have HbR := Lib.hid (Hb3.out.trans (hR3.mono Hb3.out.size)); have xr0 := (hR3.cell (p := ⟨B, 0, none⟩) lt0).trans d00; have xr1 := (hR3.cell (p := ⟨B + 1, 0, none⟩) lt1).trans d10))
      all_goals
        go_wp2_with fail
        go_ret3
        refine ⟨?_, by first | exact HbR.out | exact HbQ.out⟩
        rw [HE.out]
        exact ret_three (by rw [← HF.out.1]; rfl) (by rw [← HF.out.2, HD2.out]; rfl) rfl
    · obtain rfl : nb = !na := by cases na <;> cases nb <;> simp_all
      have q1 : (na != !na) = true := by cases na <;> rfl
      by_cases hr : x.natAbs % y.natAbs = 0
      · have h0 : k4 = 0 := by rw [← Hk4.out, hr]; rfl
        subst h0
        have HF := Lib.hid (div_zero_rest x y HY.out (by rw [HD1.out, HD2.out]; exact hs) hr)
        clear hs hr
        go_wp2_with fail
        have lt0 : B < w3.heap.size := by have := Hs3.out; omega
        have lt1 : B + 1 < w3.heap.size := Hs3.out
        go_region_held3 (fun w' => w'.cell? ⟨B, 0, none⟩ = some (.bool na) ∧ w'.cell? ⟨B + 1, 0, none⟩ = some (.bool (!na)))
          (first
            | (go_keep; done)
            | exact ⟨xq0, xq1⟩
            | exact ⟨xr0, xr1⟩)
          (first
            | (go_at_call 74; (with_reducible refine (text' true A3 c3 k3 _ _ Hk3.out ?_ ?_ ?_).mono ?_); (first | exact Hm3.out | exact Hm3.out.up hR3); omega; (first | exact Hg.out.below Hb3.out.drew | exact Hg.out.below HbR.out); rintro e wq ⟨rfl, hkq⟩; have hQ3 : Below w3.heap.size w3 wq := (by first | exact ((Below.refl _ _).drew).trans hkq | exact hR3.trans (hkq.mono hR3.size)); have HbQ := Lib.hid (Hb3.out.trans (hQ3.mono Hb3.out.size)); have xq0 := (hQ3.cell (p := ⟨B, 0, none⟩) lt0).trans d00; have xq1 := (hQ3.cell (p := ⟨B + 1, 0, none⟩) lt1).trans d10)
            | (go_at_call 74; (with_reducible refine (text' (!na) A4 c4 0 _ _ Hk4.out ?_ ?_ ?_).mono ?_); (first | exact Hm4.out | exact Hm4.out.up hQ3); omega; (first | exact Hg.out.below Hb3.out.drew | exact Hg.out.below HbQ.out); rintro e wz ⟨rfl, hkr⟩; have hR3 : Below w3.heap.size w3 wz := (by first | exact ((Below.refl _ _).drew).trans hkr | exact hQ3.trans (hkr.mono hQ3.size)); have HbR := Lib.hid (Hb3.out.trans (hR3.mono Hb3.out.size)); have xr0 := (hR3.cell (p := ⟨B, 0, none⟩) lt0).trans d00; have xr1 := (hR3.cell (p := ⟨B + 1, 0, none⟩) lt1).trans d10))
        all_goals
          go_wp2_with fail
          go_ret3
          refine ⟨?_, by first | exact HbR.out | exact HbQ.out⟩
          rw [HE.out]
          exact ret_three (by rw [← HF.out.1]; rfl) (by rw [← HF.out.2, HD2.out]; rfl) rfl
      · have HF := Lib.hid (div_diff x y HY.out (by rw [HD1.out, HD2.out]; exact hs) hr)
        have hk4p : 0 < k4 := by
          rcases Nat.eq_zero_or_pos k4 with e | e
          · rw [e] at Hk4; exact absurd (mag_nil.1 (List.eq_nil_of_length_eq_zero Hk4.out)) hr
          · exact e
        have q2 : decide ((0 : Int) < (k4 : Int)) = true := decide_eq_true (by omega)
        clear hs hr
        go_wp2_with fail
        have lt0 : B < w3.heap.size := by have := Hs3.out; omega
        have lt1 : B + 1 < w3.heap.size := Hs3.out
        have Hlt : Hid (x.natAbs % y.natAbs ≤ y.natAbs) := Nat.le_of_lt (Nat.mod_lt _ (by have := HY2.out; omega))
        go_upto_region 6 with (fail)
        go_cut [9, 10] (fun s u wx => ∃ A5 k5 c5 A6 k6 c6, s = .slice A5 k5 c5 ∧ u = .slice A6 k6 c6 ∧ k5 ≤ 68719476737 ∧ k6 ≤ 68719476737 ∧ Hid ((mag (x.natAbs / y.natAbs + 1)).length = k5 ∧ (mag (y.natAbs - x.natAbs % y.natAbs)).length = k6 ∧ MagS wx A5 c5 (x.natAbs / y.natAbs + 1) ∧ MagS wx A6 c6 (y.natAbs - x.natAbs % y.natAbs) ∧ Below w3.heap.size w3 wx))
        case first =>
          go_region_held3 (fun w' => w'.cell? ⟨B + 1, 1, none⟩ = some (.slice A2 n2 c2))
            (first
              | (go_keep; done)
              | exact xm1
              | exact xp1
              | (rw [World.cell?_alloc_lt _ _ _ (by exact lt1)]; exact d11)
              | (rw [World.cell?_alloc_lt _ _ _ (by exact Nat.lt_of_lt_of_le lt1 hM3.size)]; exact xm1))
            (first
              | (go_at_call 72; (with_reducible refine (plus1 A3 _ c3 1 k3 _ _ Hk3.out ?_ ?_ ?_).mono ?_); (first | exact Hm3.out.1.up (((Below.refl _ w3).alloc (Nat.le_refl _) _).drew) | exact Hm3.out.1.up hM3 | exact Hm3.out.1.up (hM3.alloc hM3.size _)); (first | exact mg_one _ | exact (mg_one w3).up hkm); omega; rintro e wp ⟨A5, k5, c5, rfl, hk5, hm5, hl5, hkp⟩; have hP3 : Below w3.heap.size w3 wp := (by first | exact (((Below.refl _ w3).alloc (Nat.le_refl _) _).drew).trans (hkp.mono (by show _ ≤ (w3.alloc _).heap.size; rw [World.size_alloc]; exact Nat.le_succ _)) | exact hM3.trans (hkp.mono hM3.size) | exact (hM3.alloc hM3.size _).trans (hkp.mono (Nat.le_trans hM3.size (by rw [World.size_alloc]; exact Nat.le_succ _)))); have Hk5 := Lib.hid hk5; have Hm5 := Lib.hid hm5; have xp1 := (hP3.cell (p := ⟨B + 1, 1, none⟩) lt1).trans d11; clear hk5 hm5)
              | (go_at_call 73; (with_reducible refine (minus2 A2 A4 c2 c4 n2 k4 _ _ _ Hn2.out Hk4.out ?_ ?_ ?_ Hlt.out).mono ?_); (first | exact Hm2''.out.1 | exact Hm2''.out.1.up (((Below.refl _ w3).alloc (Nat.le_refl _) _).drew) | exact Hm2''.out.1.up hP3); (first | exact Hm4.out.1 | exact Hm4.out.1.up (((Below.refl _ w3).alloc (Nat.le_refl _) _).drew) | exact Hm4.out.1.up hP3); omega; rintro e wm ⟨A6, k6, c6, rfl, hk6, hm6, hl6, hkm⟩; have hM3 : Below w3.heap.size w3 wm := (by first | exact ((Below.refl _ w3).drew).trans hkm | exact (((Below.refl _ w3).alloc (Nat.le_refl _) _).drew).trans (hkm.mono (by show _ ≤ (w3.alloc _).heap.size; rw [World.size_alloc]; exact Nat.le_succ _)) | exact hP3.trans (hkm.mono hP3.size)); have Hk6 := Lib.hid hk6; have Hm6 := Lib.hid hm6; have xm1 := (hM3.cell (p := ⟨B + 1, 1, none⟩) lt1).trans d11; clear hk6 hm6))
          all_goals
            go_wp2_with fail
            go_meet
            refine ⟨A5, k5, c5, A6, k6, c6, rfl, rfl, by omega, by omega, Hk5.out, Hk6.out, ?_, ?_, ?_⟩
            · first | exact Hm5.out | exact Hm5.out.up hkm
            · first | exact Hm6.out | exact Hm6.out.up hkp | exact Hm6.out.up (((Below.refl _ _).alloc (Nat.le_refl _) _).trans (hkp.mono (by rw [World.size_alloc]; exact Nat.le_succ _)))
            · first | exact hP3 | exact hM3
        case rest =>
        obtain ⟨A5, k5, c5, A6, k6, c6, rfl, rfl, hk5, hk6, R⟩ := hcut
        have Hk5 := Lib.hid R.out.1
        have Hk6 := Lib.hid R.out.2.1
        have Hm5 := Lib.hid R.out.2.2.1
        have Hm6 := Lib.hid R.out.2.2.2.1
        have Hb6 : Hid (Below w.heap.size w wc) := Hb3.out.trans (R.out.2.2.2.2.mono Hb3.out.size)
        have d00' := (R.out.2.2.2.2.cell (p := ⟨B, 0, none⟩) lt0).trans d00
        have d10' := (R.out.2.2.2.2.cell (p := ⟨B + 1, 0, none⟩) lt1).trans d10
        have lt1' : B + 1 < wc.heap.size := Nat.lt_of_lt_of_le lt1 R.out.2.2.2.2.size
        have lt0' : B < wc.heap.size := by omega
        clear d00 d10 d11 R lt0 lt1
        go_wp2_with fail
        go_region_held3 (fun w' => w'.cell? ⟨B, 0, none⟩ = some (.bool na) ∧ w'.cell? ⟨B + 1, 0, none⟩ = some (.bool (!na)))
          (first
            | (go_keep; done)
            | exact ⟨xq0, xq1⟩
            | exact ⟨xr0, xr1⟩)
          (first
            | (go_at_call 74; (with_reducible refine (text' true A5 c5 k5 _ _ Hk5.out ?_ ?_ ?_).mono ?_); (first | exact Hm5.out | exact Hm5.out.up hR3); omega; (first | exact Hg.out.below Hb6.out.drew | exact Hg.out.below HbR.out); rintro e wq ⟨rfl, hkq⟩; have hQ3 : Below wc.heap.size wc wq := (by first | exact ((Below.refl _ _).drew).trans hkq | exact hR3.trans (hkq.mono hR3.size)); have HbQ := Lib.hid (Hb6.out.trans (hQ3.mono Hb6.out.size)); have xq0 := (hQ3.cell (p := ⟨B, 0, none⟩) lt0').trans d00'; have xq1 := (hQ3.cell (p := ⟨B + 1, 0, none⟩) lt1').trans d10')
            | (go_at_call 74; (with_reducible refine (text' (!na) A6 c6 k6 _ _ Hk6.out ?_ ?_ ?_).mono ?_); (first | exact Hm6.out | exact Hm6.out.up hQ3); omega; (first | exact Hg.out.below Hb6.out.drew | exact Hg.out.below HbQ.out); rintro e wz ⟨rfl, hkr⟩; have hR3 : Below wc.heap.size wc wz := (by first | exact ((Below.refl _ _).drew).trans hkr | exact hQ3.trans (hkr.mono hQ3.size)); have HbR := Lib.hid (Hb6.out.trans (hR3.mono Hb6.out.size)); have xr0 := (hR3.cell (p := ⟨B, 0, none⟩) lt0').trans d00'; have xr1 := (hR3.cell (p := ⟨B + 1, 0, none⟩) lt1').trans d10'))
        all_goals
          go_wp2_with fail
          go_ret3
          refine ⟨?_, by first | exact HbR.out | exact HbQ.out⟩
          rw [HE.out]
          exact ret_three (by rw [← HF.out.1]; rfl) (by rw [← HF.out.2, HD2.out]; rfl) rfl
end Go.Proofs.YtonopbelbehheaaGreatDoor
