/- Integer: contracts of Add, Neg, Sub and Mul. Conditions: sizes below 2^36; the table of powers lies as the program's text lays it. -/
import Derived.Test.YtonopbelbehheaaGreatDoorApiA
import Derived.Test.YtonopbelbehheaaGreatDoorAdd
import Derived.Test.YtonopbelbehheaaGreatDoorRead
namespace Go.Proofs.YtonopbelbehheaaGreatDoor
open Go.RowKit Go.Shelf Dec
attribute [local go_sem ↓] Go.wp_at_zero Go.wp_at_succ

theorem len_val (a : ByteArray) : (mag (valS a).natAbs).length ≤ a.size := by
  unfold valS
  rw [mag_len_lt, val_abs]
  have h1 := natOf_lt (digs (bytes a)) (digs_dig _)
  have h2 := digs_len (bytes a)
  rw [← size_bytes] at h2
  have h3 : 10 ^ (digs (bytes a)).length ≤ 10 ^ (9 * a.size) := Nat.pow_le_pow_right (by omega) (by omega)
  rw [← BB_pow] at h3
  omega
theorem sgn_val (z : Int) : sgn (decide (z < 0)) z.natAbs = z := by
  unfold sgn
  by_cases h : z < 0
  · simp [h]; omega
  · simp [h]; omega
theorem sgn_abs (neg : Bool) (n : Nat) : (sgn neg n).natAbs = n := by unfold sgn; cases neg <;> simp
theorem len_sum {x y : Int} {n k : Nat} (hx : (mag x.natAbs).length ≤ n) (hy : (mag y.natAbs).length ≤ n) (hk : k = (x + y).natAbs) : (mag k).length ≤ n + 1 := by
  subst hk
  rw [mag_len_lt] at hx hy ⊢
  rw [Nat.pow_succ]
  have : (x + y).natAbs ≤ x.natAbs + y.natAbs := Int.natAbs_add_le x y
  have h2 : BB ^ n * 2 ≤ BB ^ n * BB := Nat.mul_le_mul_left _ (by decide)
  omega
/-- the lengths as free letters -/
theorem read' (a : ByteArray) (w : World) (ha : a.size ≤ 68719476736) : Calls Tryz.prog 70 #[.string a] w fun e w' =>
    ∃ A n c, e = .returned (.agg #[.bool (decide (valS a < 0)), .slice A n c]) ∧ (mag (valS a).natAbs).length = n ∧ MagS w' A c (valS a).natAbs ∧ n ≤ a.size ∧ Below w.heap.size w w' := by
  refine (read_any a w (by omega)).mono ?_
  rintro e w' ⟨A, c, he, hm, hb⟩
  exact ⟨A, _, c, he, rfl, hm, len_val a, hb⟩
theorem text' (neg : Bool) (A : Option Addr) (c k n : Nat) (w : World) (hk : (mag n).length = k) (hc : MagS w A c n) (hm : k ≤ 274877906944) (hg : Gl w) :
    Calls Tryz.prog 74 #[.agg #[.bool neg, .slice A k c]] w fun e w' => e = .returned (.string (canS (sgn neg n))) ∧ Below w.heap.size w w' := by
  subst hk
  exact text_any neg A c n w hc hm hg
theorem add' (na nb : Bool) (A A' : Option Addr) (c c' k m a b : Nat) (w : World) (hk : (mag a).length = k) (hk' : (mag b).length = m) (hc : MagS w A c a) (hc' : MagS w A' c' b) (hm : k ≤ 274877906944) (hm' : m ≤ 274877906944) :
    Calls Tryz.prog 85 #[.agg #[.bool na, .slice A k c], .agg #[.bool nb, .slice A' m c']] w fun e w' => ∃ neg n l A c, e = .returned (.agg #[.bool neg, .slice A l c]) ∧ (mag n).length = l ∧ sgn neg n = sgn na a + sgn nb b ∧ MagS w' A c n ∧ Below w.heap.size w w' := by
  subst hk hk'
  refine (add_any na nb A A' c c' a b w hc hc' hm hm').mono ?_
  rintro e w' ⟨neg, n, A, c, hz, he, hm, hb⟩
  exact ⟨neg, n, _, A, c, he, rfl, hz, hm, hb⟩

set_option maxRecDepth 100000 in
set_option maxHeartbeats 2000000 in
theorem Add_any (a b : ByteArray) (w : World) (ha : a.size ≤ 68719476736) (hb : b.size ≤ 68719476736) (hg : Gl w) :
    Calls Tryz.prog 23 #[.string a, .string b] w fun e w' => e = .returned (.string (canS (valS a + valS b))) ∧ Below w.heap.size w w' := by
  have Hg := Lib.hid hg
  clear hg
  have HA := Lib.hid (sgn_val (valS a))
  have HB := Lib.hid (sgn_val (valS b))
  generalize hda : decide (valS a < 0) = na at HA
  generalize hdb : decide (valS b < 0) = nb at HB
  have HR1 : Hid (∀ w, Calls Tryz.prog 70 #[.string a] w fun e w' => ∃ A n c, e = .returned (.agg #[.bool na, .slice A n c]) ∧ (mag (valS a).natAbs).length = n ∧ MagS w' A c (valS a).natAbs ∧ n ≤ a.size ∧ Below w.heap.size w w') := by
    intro w; rw [← hda]; exact read' a w ha
  have HR2 : Hid (∀ w, Calls Tryz.prog 70 #[.string b] w fun e w' => ∃ A n c, e = .returned (.agg #[.bool nb, .slice A n c]) ∧ (mag (valS b).natAbs).length = n ∧ MagS w' A c (valS b).natAbs ∧ n ≤ b.size ∧ Below w.heap.size w w') := by
    intro w; rw [← hdb]; exact read' b w hb
  clear hda hdb
  go_enter Tryz.func23, Tryz.ntmps23
  go_wp2_with fail
  refine (HR1.out _).mono ?_
  rintro e w1 ⟨A1, n1, c1, rfl, hn1, hm1, hl1, hb1⟩
  have Hn1 := Lib.hid hn1
  have Hm1 := Lib.hid hm1
  have Hb1 := Lib.hid hb1
  clear hn1 hm1 hb1
  go_wp2_with fail
  refine (HR2.out _).mono ?_
  rintro e w2 ⟨A2, n2, c2, rfl, hn2, hm2, hl2, hb2⟩
  have Hn2 := Lib.hid hn2
  have Hm2 := Lib.hid hm2
  have Hm1' := Lib.hid (Hm1.out.up hb2)
  have Hb2 : Hid (Below w.heap.size w w2) := Hb1.out.trans (hb2.mono Hb1.out.size)
  clear hn2 hm2 hb2
  go_wp2_with fail
  refine (add' na nb A1 A2 c1 c2 n1 n2 _ _ w2 Hn1.out Hn2.out Hm1'.out Hm2.out (by omega) (by omega)).mono ?_
  rintro e w3 ⟨neg, n, l, A3, c3, rfl, hl3, hz, hm3, hb3⟩
  have Hz : Hid (sgn neg n = valS a + valS b) := by show _ = _; rw [hz, HA.out, HB.out]
  have hl : l ≤ 68719476737 := by
    rw [← hl3]
    exact len_sum (x := valS a) (y := valS b) (n := 68719476736) (by rw [Hn1.out]; omega) (by rw [Hn2.out]; omega) (by rw [← Hz.out, sgn_abs])
  have Hl3 := Lib.hid hl3
  have Hm3 := Lib.hid hm3
  have Hb3 : Hid (Below w.heap.size w w3) := Hb2.out.trans (hb3.mono Hb2.out.size)
  clear hl3 hz hm3 hb3
  go_wp2_with fail
  refine (text' neg A3 c3 l n w3 Hl3.out Hm3.out (by omega) (Hg.out.below Hb3.out)).mono ?_
  rintro e w4 ⟨rfl, hb4⟩
  go_wp2_with fail
  go_ret
  exact ⟨by rw [Hz.out]; rfl, Hb3.out.trans (hb4.mono Hb3.out.size)⟩
theorem sgn_not (z : Int) : sgn (!decide (z < 0)) z.natAbs = -z := by
  unfold sgn
  by_cases h : z < 0
  · simp [h]; omega
  · simp [h]; omega
set_option maxRecDepth 100000 in
set_option maxHeartbeats 2000000 in
theorem Neg_any (a : ByteArray) (w : World) (ha : a.size ≤ 68719476736) (hg : Gl w) :
    Calls Tryz.prog 187 #[.string a] w fun e w' => e = .returned (.string (canS (-valS a))) ∧ Below w.heap.size w w' := by
  have Hg := Lib.hid hg
  clear hg
  have HA := Lib.hid (sgn_not (valS a))
  generalize hda : decide (valS a < 0) = na at HA
  have HR1 : Hid (∀ w, Calls Tryz.prog 70 #[.string a] w fun e w' => ∃ A n c, e = .returned (.agg #[.bool na, .slice A n c]) ∧ (mag (valS a).natAbs).length = n ∧ MagS w' A c (valS a).natAbs ∧ n ≤ a.size ∧ Below w.heap.size w w') := by
    intro w; rw [← hda]; exact read' a w ha
  clear hda
  go_enter Tryz.func187, Tryz.ntmps187
  go_wp2_with fail
  refine (HR1.out _).mono ?_
  rintro e w1 ⟨A1, n1, c1, rfl, hn1, hm1, hl1, hb1⟩
  have Hn1 := Lib.hid hn1
  have Hm1 := Lib.hid hm1
  have Hb1 := Lib.hid hb1
  clear hn1 hm1 hb1
  go_wp2_with fail
  have hbw : Below w1.heap.size w1 (w1.alloc (.cells #[.bool !na, .slice A1 n1 c1] 89)) := (Below.refl _ _).alloc (Nat.le_refl _) _
  have Hbw : Hid (Below w.heap.size w (w1.alloc (.cells #[.bool !na, .slice A1 n1 c1] 89))) := Hb1.out.trans (hbw.mono Hb1.out.size)
  refine (text' (!na) A1 c1 n1 _ _ Hn1.out (Hm1.out.up hbw) (by omega) (Hg.out.below Hbw.out)).mono ?_
  rintro e w4 ⟨rfl, hb4⟩
  go_wp2_with fail
  go_ret
  exact ⟨by rw [HA.out]; rfl, Hbw.out.trans (hb4.mono Hbw.out.size)⟩

set_option maxRecDepth 100000 in
set_option maxHeartbeats 4000000 in
theorem Sub_any (a b : ByteArray) (w : World) (ha : a.size ≤ 68719476736) (hb : b.size ≤ 68719476736) (hg : Gl w) :
    Calls Tryz.prog 25 #[.string a, .string b] w fun e w' => e = .returned (.string (canS (valS a - valS b))) ∧ Below w.heap.size w w' := by
  have Hg := Lib.hid hg
  clear hg
  have HA := Lib.hid (sgn_val (valS a))
  have HB := Lib.hid (sgn_not (valS b))
  generalize hda : decide (valS a < 0) = na at HA
  generalize hdb : decide (valS b < 0) = nb at HB
  have HR1 : Hid (∀ w, Calls Tryz.prog 70 #[.string a] w fun e w' => ∃ A n c, e = .returned (.agg #[.bool na, .slice A n c]) ∧ (mag (valS a).natAbs).length = n ∧ MagS w' A c (valS a).natAbs ∧ n ≤ a.size ∧ Below w.heap.size w w') := by
    intro w; rw [← hda]; exact read' a w ha
  have HR2 : Hid (∀ w, Calls Tryz.prog 70 #[.string b] w fun e w' => ∃ A n c, e = .returned (.agg #[.bool nb, .slice A n c]) ∧ (mag (valS b).natAbs).length = n ∧ MagS w' A c (valS b).natAbs ∧ n ≤ b.size ∧ Below w.heap.size w w') := by
    intro w; rw [← hdb]; exact read' b w hb
  clear hda hdb
  go_enter Tryz.func25, Tryz.ntmps25
  go_wp2_with fail
  refine (HR2.out _).mono ?_
  rintro e w1 ⟨A1, n1, c1, rfl, hn1, hm1, hl1, hb1⟩
  have Hn1 := Lib.hid hn1
  have hbw : Below w1.heap.size w1 (w1.alloc (.cells #[.bool !nb, .slice A1 n1 c1] 89)) := (Below.refl _ _).alloc (Nat.le_refl _) _
  obtain ⟨W, hW⟩ : ∃ W, w1.alloc (.cells #[.bool !nb, .slice A1 n1 c1] 89) = W := ⟨_, rfl⟩
  have c0 : W.cell? ⟨w1.heap.size, 0, none⟩ = some (.bool !nb) := by rw [← hW]; unfold World.cell?; rw [heap_new]; rfl
  have c1' : W.cell? ⟨w1.heap.size, 1, none⟩ = some (.slice A1 n1 c1) := by rw [← hW]; unfold World.cell?; rw [heap_new]; rfl
  have Hsz : Hid (w1.heap.size < W.heap.size) := by show _ < _; rw [← hW, World.size_alloc]; omega
  rw [hW] at hbw
  have Hm1 := Lib.hid (hm1.up hbw)
  have Hb1 : Hid (Below w.heap.size w W) := hb1.trans (hbw.mono hb1.size)
  have HW := Lib.hid hW
  clear hn1 hm1 hb1 hbw hW
  go_wp2_with fail
  rw [HW.out]
  clear HW
  obtain ⟨B, hB⟩ : ∃ B, w1.heap.size = B := ⟨_, rfl⟩
  rw [hB] at c0 c1' Hsz ⊢
  clear hB
  go_region_held3 (fun w' => w'.cell? ⟨B, 0, none⟩ = some (.bool !nb) ∧ w'.cell? ⟨B, 1, none⟩ = some (.slice A1 n1 c1))
    (first
      | (go_keep; done)
      | exact ⟨x40, x41⟩
      | exact ⟨x30, x31⟩
      | exact ⟨x20, x21⟩)
    (first
      | (go_at_call 70; refine (HR1.out _).mono ?_; rintro e w2 ⟨A2, n2, c2, rfl, hn2, hm2, hl2, hk2⟩; have Hn2 := Lib.hid hn2; have Hm2 := Lib.hid hm2; have Hb2 : Hid (Below w.heap.size w w2) := Hb1.out.drew.trans (hk2.mono Hb1.out.size); have Hm1' := Lib.hid (Hm1.out.up (((Below.refl _ W).drew).trans hk2)); have hlt3 : B < w2.heap.size := Nat.lt_of_lt_of_le Hsz.out hk2.size; have x20 := (hk2.cell (p := ⟨B, 0, none⟩) Hsz.out).trans c0; have x21 := (hk2.cell (p := ⟨B, 1, none⟩) Hsz.out).trans c1'; clear hn2 hm2)
      | (go_at_call 85; refine (add' na (!nb) A2 A1 c2 c1 n2 n1 _ _ _ Hn2.out Hn1.out (by exact Hm2.out) (by exact Hm1'.out) (by omega) (by omega)).mono ?_; rintro e w3 ⟨neg, n, l, A3, c3, rfl, hl3, hz, hm3, hk3⟩; have Hl3 := Lib.hid hl3; have Hm3 := Lib.hid hm3; have Hz := Lib.hid hz; have Hb3 : Hid (Below w.heap.size w w3) := Hb2.out.trans (hk3.mono Hb2.out.size); have hlt4 : B < w3.heap.size := Nat.lt_of_lt_of_le hlt3 hk3.size; have x30 := (hk3.cell (p := ⟨B, 0, none⟩) hlt3).trans x20; have x31 := (hk3.cell (p := ⟨B, 1, none⟩) hlt3).trans x21; clear hl3 hm3 hz)
      | (go_at_call 74; refine (text' neg A3 c3 l n _ Hl3.out (by exact Hm3.out) ?_ (by exact Hg.out.below Hb3.out)).mono ?_; (rw [← Hl3.out]; exact Nat.le_trans (len_sum (x := valS a) (y := -valS b) (n := 68719476736) (by rw [Hn2.out]; omega) (by rw [Int.natAbs_neg, Hn1.out]; omega) (by have := Hz.out; rw [HA.out, HB.out] at this; rw [← this, sgn_abs])) (by omega)); rintro e w4 ⟨rfl, hk4⟩; have Hb4 : Hid (Below w.heap.size w w4) := Hb3.out.trans (hk4.mono Hb3.out.size); have x40 := (hk4.cell (p := ⟨B, 0, none⟩) hlt4).trans x30; have x41 := (hk4.cell (p := ⟨B, 1, none⟩) hlt4).trans x31))
  go_wp2_with fail
  go_ret
  have hz := Hz.out
  rw [HA.out, HB.out, ← Int.sub_eq_add_neg] at hz
  exact ⟨by rw [hz]; rfl, Hb4.out⟩
end Go.Proofs.YtonopbelbehheaaGreatDoor
