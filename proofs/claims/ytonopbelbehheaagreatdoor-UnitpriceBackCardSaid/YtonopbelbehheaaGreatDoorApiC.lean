/- Integer: contracts of Mul and Compare. Conditions: sizes below 2^36; the table of powers lies as the program's text lays it. -/
import Derived.Test.YtonopbelbehheaaGreatDoorApiB
namespace Go.Proofs.YtonopbelbehheaaGreatDoor
open Go.RowKit Go.Shelf Dec
attribute [local go_sem ↓] Go.wp_at_zero Go.wp_at_succ

theorem sgn_mul (x y : Int) : sgn (decide (x < 0) != decide (y < 0)) (x.natAbs * y.natAbs) = x * y := by
  have e : ((x.natAbs * y.natAbs : Nat) : Int) = (x.natAbs : Int) * y.natAbs := Int.natCast_mul _ _
  unfold sgn
  rw [e]
  by_cases hx : x < 0 <;> by_cases hy : y < 0 <;> simp only [hx, hy, decide_true, decide_false, bne_self_eq_false, Bool.true_bne, Bool.false_bne, Bool.not_false, Bool.false_eq_true, if_true, if_false]
  · rw [show (x.natAbs : Int) = -x by omega, show (y.natAbs : Int) = -y by omega, Int.neg_mul_neg]
  · rw [show (x.natAbs : Int) = -x by omega, show (y.natAbs : Int) = y by omega, Int.neg_mul, Int.neg_neg]
  · rw [show (x.natAbs : Int) = x by omega, show (y.natAbs : Int) = -y by omega, Int.mul_neg, Int.neg_neg]
  · rw [show (x.natAbs : Int) = x by omega, show (y.natAbs : Int) = y by omega]
theorem len_mul {a b n m : Nat} (ha : (mag a).length ≤ n) (hb : (mag b).length ≤ m) : (mag (a * b)).length ≤ n + m := by
  rw [mag_len_lt] at ha hb ⊢
  rw [Nat.pow_add]
  exact Nat.mul_lt_mul_of_lt_of_le ha (Nat.le_of_lt hb) (Nat.pow_pos BB_pos)
theorem times' (A A' : Option Addr) (c c' n n' : Nat) (a b : Nat) (w : World) (hn : (mag a).length = n) (hn' : (mag b).length = n') (hc : Mg .u64 w w.heap.size A (mag a)) (hc' : Mg .u64 w w.heap.size A' (mag b)) (hm : n ≤ 549755813888) (hm' : n' ≤ 549755813888) :
    Calls Tryz.prog 83 #[.slice A n c, .slice A' n' c'] w fun e w' => ∃ A l c, e = .returned (.slice A l c) ∧ (mag (a * b)).length = l ∧ MagS w' A c (a * b) ∧ l ≤ n + n' ∧ Below w.heap.size w w' := by
  refine (times_own' A A' c c' n n' a b w hn hn' hc hc' hm hm').mono ?_
  rintro e w' ⟨A, c, he, ho, hb⟩
  exact ⟨A, _, c, he, rfl, ho.mg, len_mul (by omega) (by omega), hb⟩
/-- two boxes -/
theorem two_boxes (w2 : World) (T : TypeId) (v0 v1 u0 u1 : Value) : ∃ W, (w2.alloc (.cells #[v0, v1] T)).alloc (.cells #[u0, u1] T) = W ∧ W.cell? ⟨w2.heap.size, 0, none⟩ = some v0 ∧ W.cell? ⟨w2.heap.size, 1, none⟩ = some v1 ∧
    W.cell? ⟨w2.heap.size + 1, 0, none⟩ = some u0 ∧ W.cell? ⟨w2.heap.size + 1, 1, none⟩ = some u1 ∧ W.heap.size = w2.heap.size + 2 ∧ Below w2.heap.size w2 W := by
  refine ⟨_, rfl, ?_, ?_, ?_, ?_, by simp, ((Below.refl _ _).alloc (Nat.le_refl _) _).alloc (by simp) _⟩
  all_goals simp [go_sem]

set_option maxRecDepth 100000 in
set_option maxHeartbeats 4000000 in
theorem Mul_any (a b : ByteArray) (w : World) (ha : a.size ≤ 68719476736) (hb : b.size ≤ 68719476736) (hg : Gl w) :
    Calls Tryz.prog 27 #[.string a, .string b] w fun e w' => e = .returned (.string (canS (valS a * valS b))) ∧ Below w.heap.size w w' := by
  have Hg := Lib.hid hg
  clear hg
  have HZ := Lib.hid (sgn_mul (valS a) (valS b))
  generalize hda : decide (valS a < 0) = na at HZ
  generalize hdb : decide (valS b < 0) = nb at HZ
  have HR1 : Hid (∀ w, Calls Tryz.prog 70 #[.string a] w fun e w' => ∃ A n c, e = .returned (.agg #[.bool na, .slice A n c]) ∧ (mag (valS a).natAbs).length = n ∧ MagS w' A c (valS a).natAbs ∧ n ≤ a.size ∧ Below w.heap.size w w') := by
    intro w; rw [← hda]; exact read' a w ha
  have HR2 : Hid (∀ w, Calls Tryz.prog 70 #[.string b] w fun e w' => ∃ A n c, e = .returned (.agg #[.bool nb, .slice A n c]) ∧ (mag (valS b).natAbs).length = n ∧ MagS w' A c (valS b).natAbs ∧ n ≤ b.size ∧ Below w.heap.size w w') := by
    intro w; rw [← hdb]; exact read' b w hb
  clear hda hdb
  go_enter Tryz.func27, Tryz.ntmps27
  go_wp2_with fail
  refine (HR1.out _).mono ?_
  rintro e w1 ⟨A1, n1, c1, rfl, hn1, hm1, hl1, hb1⟩
  have Hn1 := Lib.hid hn1
  have Hm1 := Lib.hid hm1
  have Hb1 := Lib.hid hb1
  clear hn1 hm1 hb1
  go_wp2_with fail
  refine (HR2.out _).mono ?_
  rintro e w2 ⟨A2, n2, c2, rfl, hn2, hm2, hl2, hb2⟩
  have Hn2 := Lib.hid hn2
  obtain ⟨W, hW, c00, c01, c10, c11, hsz, hbw⟩ := two_boxes w2 89 (.bool na) (.slice A1 n1 c1) (.bool nb) (.slice A2 n2 c2)
  have HW := Lib.hid hW
  have Hsz := Lib.hid hsz
  have Hm1' := Lib.hid ((Hm1.out.up hb2).up hbw)
  have Hm2' := Lib.hid (hm2.up hbw)
  have Hb2 : Hid (Below w.heap.size w W) := (Hb1.out.trans (hb2.mono Hb1.out.size)).trans (hbw.mono (Nat.le_trans Hb1.out.size hb2.size))
  clear hn2 hm2 hb2 hW hsz hbw
  go_wp2_with fail
  rw [HW.out]
  clear HW
  obtain ⟨B, hB⟩ : ∃ B, w2.heap.size = B := ⟨_, rfl⟩
  rw [hB] at c00 c01 c10 c11 Hsz ⊢
  clear hB
  go_region_held3 (fun w' => w'.cell? ⟨B, 0, none⟩ = some (.bool na) ∧ w'.cell? ⟨B, 1, none⟩ = some (.slice A1 n1 c1) ∧ w'.cell? ⟨B + 1, 0, none⟩ = some (.bool nb) ∧ w'.cell? ⟨B + 1, 1, none⟩ = some (.slice A2 n2 c2))
    (first
      | (go_keep; done)
      | exact ⟨x40, x41, x42, x43⟩
      | exact ⟨x30, x31, x32, x33⟩)
    (first
      | (go_at_call 83; refine (times' A1 A2 c1 c2 n1 n2 _ _ _ Hn1.out Hn2.out (by exact Hm1'.out.1) (by exact Hm2'.out.1) (by omega) (by omega)).mono ?_; rintro e w3 ⟨A3, l, c3, rfl, hl3, hm3, hl4, hk3⟩; have Hl3 := Lib.hid hl3; have Hm3 := Lib.hid hm3; have Hb3 : Hid (Below w.heap.size w w3) := Hb2.out.drew.trans (hk3.mono Hb2.out.size); have l0 : B < W.heap.size := (by have := Hsz.out; omega); have l1 : B + 1 < W.heap.size := (by have := Hsz.out; omega); have x30 := (hk3.cell (p := ⟨B, 0, none⟩) l0).trans c00; have x31 := (hk3.cell (p := ⟨B, 1, none⟩) l0).trans c01; have x32 := (hk3.cell (p := ⟨B + 1, 0, none⟩) l1).trans c10; have x33 := (hk3.cell (p := ⟨B + 1, 1, none⟩) l1).trans c11; clear hl3 hm3)
      | (go_at_call 74; refine (text' (na != nb) A3 c3 l _ _ Hl3.out (by exact Hm3.out) (by omega) (by exact Hg.out.below Hb3.out)).mono ?_; rintro e w4 ⟨rfl, hk4⟩; have Hb4 : Hid (Below w.heap.size w w4) := Hb3.out.trans (hk4.mono Hb3.out.size); have m0 : B < w3.heap.size := Nat.lt_of_lt_of_le l0 hk3.size; have m1 : B + 1 < w3.heap.size := Nat.lt_of_lt_of_le l1 hk3.size; have x40 := (hk4.cell (p := ⟨B, 0, none⟩) m0).trans x30; have x41 := (hk4.cell (p := ⟨B, 1, none⟩) m0).trans x31; have x42 := (hk4.cell (p := ⟨B + 1, 0, none⟩) m1).trans x32; have x43 := (hk4.cell (p := ⟨B + 1, 1, none⟩) m1).trans x33))
  go_wp2_with fail
  go_ret
  exact ⟨by rw [← HZ.out]; rfl, Hb4.out⟩
/-- the sign of a comparison -/
def cmpI (x y : Int) : Int := if x < y then -1 else if x = y then 0 else 1

set_option maxRecDepth 100000 in
set_option maxHeartbeats 4000000 in
theorem Compare_any (a b : ByteArray) (w : World) (ha : a.size ≤ 68719476736) (hb : b.size ≤ 68719476736) :
    Calls Tryz.prog 29 #[.string a, .string b] w fun e w' => e = .returned (.int .i64 (cmpI (valS a) (valS b))) ∧ Below w.heap.size w w' := by
  generalize hda : decide (valS a < 0) = na
  generalize hdb : decide (valS b < 0) = nb
  have HR1 : Hid (∀ w, Calls Tryz.prog 70 #[.string a] w fun e w' => ∃ A n c, e = .returned (.agg #[.bool na, .slice A n c]) ∧ (mag (valS a).natAbs).length = n ∧ MagS w' A c (valS a).natAbs ∧ n ≤ a.size ∧ Below w.heap.size w w') := by
    intro w; rw [← hda]; exact read' a w ha
  have HR2 : Hid (∀ w, Calls Tryz.prog 70 #[.string b] w fun e w' => ∃ A n c, e = .returned (.agg #[.bool nb, .slice A n c]) ∧ (mag (valS b).natAbs).length = n ∧ MagS w' A c (valS b).natAbs ∧ n ≤ b.size ∧ Below w.heap.size w w') := by
    intro w; rw [← hdb]; exact read' b w hb
  have HD : Hid (decide (valS a < 0) = na ∧ decide (valS b < 0) = nb) := ⟨hda, hdb⟩
  clear hda hdb
  go_enter Tryz.func29, Tryz.ntmps29
  go_wp2_with fail
  refine (HR1.out _).mono ?_
  rintro e w1 ⟨A1, n1, c1, rfl, hn1, hm1, hl1, hb1⟩
  have Hn1 := Lib.hid hn1
  have Hm1 := Lib.hid hm1
  have Hb1 := Lib.hid hb1
  clear hn1 hm1 hb1
  go_wp2_with fail
  refine (HR2.out _).mono ?_
  rintro e w2 ⟨A2, n2, c2, rfl, hn2, hm2, hl2, hb2⟩
  have Hn2 := Lib.hid hn2
  obtain ⟨W, hW, c00, c01, c10, c11, hsz, hbw⟩ := two_boxes w2 89 (.bool na) (.slice A1 n1 c1) (.bool nb) (.slice A2 n2 c2)
  have HW := Lib.hid hW
  have Hm1' := Lib.hid ((Hm1.out.up hb2).up hbw)
  have Hm2' := Lib.hid (hm2.up hbw)
  have Hb2 : Hid (Below w.heap.size w W) := (Hb1.out.trans (hb2.mono Hb1.out.size)).trans (hbw.mono (Nat.le_trans Hb1.out.size hb2.size))
  clear hn2 hm2 hb2 hW hsz hbw
  go_wp2_with fail
  rw [HW.out]
  clear HW
  refine (compare' A1 A2 c1 c2 n1 n2 _ _ _ Hn1.out Hn2.out Hm1'.out.1 Hm2'.out.1 (by omega) (by omega)).mono ?_
  rintro e w3 ⟨r, rfl, hr, hr1, hr2, nn, hw3⟩
  have Hr := Lib.hid hr
  have d00 : w3.cell? ⟨w2.heap.size, 0, none⟩ = some (.bool na) := by rw [hw3]; exact c00
  have d10 : w3.cell? ⟨w2.heap.size + 1, 0, none⟩ = some (.bool nb) := by rw [hw3]; exact c10
  have Hb3 : Hid (Below w.heap.size w w3) := by show Below _ _ _; rw [hw3]; exact Hb2.out.trans (below_drewN _ _ _)
  clear hr hw3 c00 c01 c10 c11
  have key : Hid ((na = false → nb = true → cmpI (valS a) (valS b) = 1) ∧ (na = true → nb = false → cmpI (valS a) (valS b) = -1) ∧ (na = false → nb = false → cmpI (valS a) (valS b) = if r < 0 then -1 else if r = 0 then 0 else 1) ∧ (na = true → nb = true → cmpI (valS a) (valS b) = if r < 0 then 1 else if r = 0 then 0 else -1)) := by
    have h := HD.out
    have hc := Hr.out
    unfold CmpIs at hc
    unfold cmpI
    rw [← h.1, ← h.2]
    simp only [decide_eq_true_eq, decide_eq_false_iff_not]
    refine ⟨?_, ?_, ?_, ?_⟩ <;> intro h1 h2 <;> split <;> (try split) <;> (try split) <;> (try split) <;> first | rfl | omega
  clear HD Hr
  rcases Int.lt_trichotomy r 0 with h | h | h
  all_goals
    (try subst h)
    cases na <;> cases nb
    all_goals
      obtain ⟨v, hv, K⟩ : ∃ v, v = cmpI (valS a) (valS b) ∧ Hid (cmpI (valS a) (valS b) = v) := ⟨_, rfl, rfl⟩
      first
        | rw [key.out.1 rfl rfl] at hv
        | rw [key.out.2.1 rfl rfl] at hv
        | rw [key.out.2.2.1 rfl rfl] at hv
        | rw [key.out.2.2.2 rfl rfl] at hv
      (try rw [if_pos h] at hv)
      (try rw [if_neg (show ¬ r < 0 by omega), if_neg (show ¬ r = 0 by omega)] at hv)
      have HV := Lib.hid hv
      clear key hv
      go_wp2_with fail
      go_ret
      refine ⟨ret_int ?_, Hb3.out⟩
      rw [K.out, HV.out]
      first | rfl | omega
end Go.Proofs.YtonopbelbehheaaGreatDoor
