/- Integer, the reference: the contract of Div. Conditions: strings of up to a hundred thousand bytes. Integer, the reference: Div, the long way that needs no putting right. Conditions: strings of up to a hundred thousand bytes. Integer, the reference: Div, the long way that is put right. Conditions: strings of up to a hundred thousand bytes. Integer, the reference: the contract of Div. Conditions: strings of up to a hundred thousand bytes. -/
import Derived.Test.YtpipkeplhkccoaaGreatDoorRh
import Derived.Test.YtpipkeplhkccoaaGreatDoorFd
namespace Go.Proofs.YtpipkeplhkccoaaGreatDoor
open Go.RowKit Go.Shelf Dec

theorem divide_r' (A A' : Option Addr) (c c' n m : Nat) (a b : Nat) (w : World) (hn : (mag a).length = n) (hn' : (mag b).length = m) (hc : Mg .i64 w w.heap.size A (mag a)) (hc' : Mg .i64 w w.heap.size A' (mag b)) (hm : n ≤ 1000000) (hm' : m ≤ 1000000) (hb : 0 < b) :
    Calls Tryz.prog 167 #[.slice A n c, .slice A' m c'] w fun e w' => ∃ A1 l1 c1 A2 l2 c2, e = .returned (.tuple #[.slice A1 l1 c1, .slice A2 l2 c2]) ∧ (mag (a / b)).length = l1 ∧ (mag (a % b)).length = l2 ∧ Mg .i64 w' w'.heap.size A1 (mag (a / b)) ∧ Mg .i64 w' w'.heap.size A2 (mag (a % b)) ∧ Below w.heap.size w w' := by
  subst hn hn'
  refine (divide_r A A' c c' a b w hc hc' (by omega) (by omega) hb).mono ?_
  rintro e w' ⟨A1, c1, A2, c2, he, h1, h2, h3⟩
  exact ⟨A1, _, c1, A2, _, c2, he, rfl, rfl, h1, h2, h3⟩
theorem mag_len_mono {a b : Nat} (h : a ≤ b) : (mag a).length ≤ (mag b).length := by
  rw [mag_len_lt]
  exact Nat.lt_of_le_of_lt h (mag_len_lt.1 (Nat.le_refl _))
theorem mag_len_zero {n : Nat} : (mag n).length = 0 ↔ n = 0 := by
  constructor
  · intro h
    have := mag_len_lt (n := n) (k := 0)
    have h2 := this.1 (by omega)
    simp at h2
    exact h2
  · intro h; subst h; rw [mag_zero]; rfl
theorem mg_one_r (w : World) : Mg .i64 (w.alloc (.cells #[.int .i64 1] 3)) (w.alloc (.cells #[.int .i64 1] 3)).heap.size (some ⟨w.heap.size, 0, none⟩) (mag 1) := by
  have := mg_new1 w 1
  rw [mag_single (by omega) (by decide)]
  exact this
theorem mg_set {w : World} {A : Option Addr} {l : List Nat} {b i : Nat} {v v' : Value} (h : Mg .i64 w w.heap.size A l) (hc : w.cell? ⟨b, i, none⟩ = some v) (hv : ∀ n, v ≠ .int .i64 n) : Mg .i64 (w.setCell ⟨b, i, none⟩ v') (w.setCell ⟨b, i, none⟩ v').heap.size A l := by
  intro j g hg
  obtain ⟨b', o, hA, hB, hcell⟩ := h j g hg
  refine ⟨b', o, hA, by simpa [World.setCell] using hB, ?_⟩
  rw [World.cell?_setCell_other]
  · exact hcell
  · intro e
    injection e with e1 e2
    subst e1 e2
    rw [hc] at hcell
    exact hv _ (Option.some.inj hcell)
/-- the quotient and the rest, where nothing is put right -/
theorem rdiv_plain {x y : Int} {nx ny : Bool} (hx : decide (x < 0) = nx) (hy' : decide (y < 0) = ny) (hy : y ≠ 0) (h : (nx != ny) = false ∨ x.natAbs % y.natAbs = 0) :
    sgn (nx != ny) (x.natAbs / y.natAbs) = x.fdiv y ∧ sgn nx (x.natAbs % y.natAbs) = x.fmod y := by
  by_cases e : nx = ny
  · have e1 : decide (x < 0) = decide (y < 0) := by rw [hx, hy', e]
    have := div_same x y hy e1
    rw [hy'] at this
    subst e
    simpa using this
  · have hb : (nx != ny) = true := by simpa using e
    have hr : x.natAbs % y.natAbs = 0 := by
      rcases h with h | h
      · rw [hb] at h; cases h
      · exact h
    have := div_zero_rest x y hy (by rw [hx, hy']; exact e) hr
    rw [hr] at this ⊢
    rw [hb]
    refine ⟨this.1, ?_⟩
    rw [← this.2]
    unfold sgn
    split <;> split <;> rfl
theorem rdiv_right {x y : Int} {nx ny : Bool} (hx : decide (x < 0) = nx) (hy' : decide (y < 0) = ny) (hy : y ≠ 0) (h : (nx != ny) = true) (hr : x.natAbs % y.natAbs ≠ 0) :
    sgn true (x.natAbs / y.natAbs) + sgn true 1 = x.fdiv y ∧ sgn nx (x.natAbs % y.natAbs) + sgn ny y.natAbs = x.fmod y := by
  have e : nx ≠ ny := by simpa using h
  have := div_diff x y hy (by rw [hx, hy']; exact e) hr
  rw [← this.1, ← this.2, hy']
  have hlt : x.natAbs % y.natAbs < y.natAbs := Nat.mod_lt _ (by omega)
  constructor
  · unfold sgn; simp; omega
  · unfold sgn
    cases nx <;> cases ny <;> simp at e ⊢ <;> omega
end Go.Proofs.YtpipkeplhkccoaaGreatDoor
namespace Go.Proofs.YtpipkeplhkccoaaGreatDoor
open Go.RowKit Go.Shelf Dec

set_option maxRecDepth 100000 in
set_option maxHeartbeats 8000000 in
theorem rdiv_long1 (a b : ByteArray) (m1 m2 : Int) (t1 t2 : Bool) (x y : Int) (nx ny tb : Bool) (r1 r2 : ByteArray) (w : World) (ha : a.size ≤ 100000) (hb : b.size ≤ 100000)
    (K1 : Hid (∀ w, Calls Tryz.prog 131 #[.string a] w fun e w' => e = .returned (.tuple #[.int .i64 m1, .bool t1]) ∧ Below w.heap.size w w'))
    (K2 : Hid (∀ w, Calls Tryz.prog 131 #[.string b] w fun e w' => e = .returned (.tuple #[.int .i64 m2, .bool t2]) ∧ Below w.heap.size w w'))
    (Q1 : Hid (∀ w, Calls Tryz.prog 135 #[.string a] w fun e w' => ∃ A n c, e = .returned (.agg #[.bool nx, .slice A n c]) ∧ (mag x.natAbs).length = n ∧ Mg .i64 w' w'.heap.size A (mag x.natAbs) ∧ n ≤ a.size ∧ Below w.heap.size w w'))
    (Q2 : Hid (∀ w, Calls Tryz.prog 135 #[.string b] w fun e w' => ∃ A n c, e = .returned (.agg #[.bool ny, .slice A n c]) ∧ (mag y.natAbs).length = n ∧ Mg .i64 w' w'.heap.size A (mag y.natAbs) ∧ n ≤ b.size ∧ Below w.heap.size w w'))
    (HY : Hid (y ≠ 0)) (ht : (t2 = false ∧ t1 = false) ∨ (t2 = false ∧ t1 = true) ∨ (t2 = true ∧ t1 = false ∧ (m2 == 0) = false)) (qt : (nx != ny) = tb)
    (hr : Hid (tb = false ∨ x.natAbs % y.natAbs = 0)) (R1 : Hid (canS (sgn tb (x.natAbs / y.natAbs)) = r1)) (R2 : Hid (canS (sgn nx (x.natAbs % y.natAbs)) = r2)) :
    Calls Tryz.prog 127 #[.string a, .string b] w fun e w' => e = .returned (.tuple #[.string r1, .string r2, .int .i64 0]) ∧ Below w.heap.size w w' := by
  rcases ht with ⟨rfl, rfl⟩ | ⟨rfl, rfl⟩ | ⟨rfl, rfl, hq⟩
  all_goals
    go_enter Tryz.func127, Tryz.ntmps127
    go_wp2_with fail
    refine (K1.out _).mono ?_
    rintro e w1 ⟨rfl, hb1⟩
    have H1 := Lib.hid hb1
    clear hb1
    go_wp2_with fail
    refine (K2.out _).mono ?_
    rintro e w2 ⟨rfl, hb2⟩
    have H2 := Lib.hid (H1.out.trans (hb2.mono H1.out.size))
    clear hb2
    go_wp2_with fail
    refine (Q1.out _).mono ?_
    rintro e w3 ⟨A1, n, c1, rfl, hla, hm1, hla2, hb3⟩
    have HLa := Lib.hid hla
    have H3 := Lib.hid (H2.out.trans (hb3.mono H2.out.size))
    have M1 := Lib.hid hm1
    clear hb3 hm1 hla
    go_wp2_with fail
    refine (Q2.out _).mono ?_
    rintro e w4 ⟨A2, m, c2, rfl, hlb, hm2, hlb2, hb4⟩
    have HLb := Lib.hid hlb
    have H4 := Lib.hid (H3.out.trans (hb4.mono H3.out.size))
    have M1' := Lib.hid (M1.out.up hb4)
    have M2 := Lib.hid hm2
    clear hb4 hm2 M1 hlb
    obtain ⟨W, hW, B0, B1, hbw⟩ : ∃ W, (w4.alloc (.cells #[.bool nx, .slice A1 n c1] 136)).alloc (.cells #[.bool ny, .slice A2 m c2] 136) = W ∧ Bx W w4.heap.size #[.bool nx, .slice A1 n c1] ∧ Bx W (w4.heap.size + 1) #[.bool ny, .slice A2 m c2] ∧ Below w4.heap.size w4 W := ⟨_, rfl, (Bx.new w4 _ _).alloc _, Bx.new1 w4 _ _ _, ((Below.refl _ w4).alloc (Nat.le_refl _) _).alloc (by simp) _⟩
    have HW := Lib.hid hW
    have H5 := Lib.hid (H4.out.trans (hbw.mono H4.out.size))
    have M1u := Lib.hid (M1'.out.up hbw)
    have M2u := Lib.hid (M2.out.up hbw)
    clear hbw M1' M2 hW
    go_wp2_with fail
    rw [HW.out]
    clear HW
    refine (divide_r' A1 A2 c1 c2 n m x.natAbs y.natAbs _ HLa.out HLb.out M1u.out M2u.out (by omega) (by omega) (by have := HY.out; omega)).mono ?_
    rintro e w5 ⟨A3, l3, c3, A4, l4, c4, rfl, hl3, hl4, hm3, hm4, hb5⟩
    have b3 : l3 ≤ 200000 := by rw [← hl3]; exact Nat.le_trans (mag_len_mono (Nat.div_le_self _ _)) (by rw [HLa.out]; omega)
    have b4 : l4 ≤ 200000 := by rw [← hl4]; exact Nat.le_trans (mag_len_mono (Nat.mod_le _ _)) (by rw [HLa.out]; omega)
    have HL3 := Lib.hid hl3
    have HL4 := Lib.hid hl4
    have H5' := Lib.hid (H5.out.trans (hb5.mono H5.out.size))
    have E0 := B0.on hb5
    have E1 := B1.on hb5
    have M2' := Lib.hid (M2u.out.up hb5)
    have M3' := Lib.hid hm3
    have M4' := Lib.hid hm4
    clear hl3 hl4 hb5 hm3 hm4 B0 B1 M1u M2u
    obtain ⟨B, hB⟩ : ∃ B, w4.heap.size = B := ⟨_, rfl⟩
    go_wp2_with fail
    rw [hB] at E0 E1
    clear hB
    have kk0 := E0.cell (i := 0) (v := .bool nx) rfl
    have kk1 := E1.cell (i := 0) (v := .bool ny) rfl
    have qt2 : (!(nx == ny)) = tb := qt
    have hE := E1.lt
    have hE0 := E0.lt
    go_region
    clear kk0 kk1
    · have P1 := ((Bx.new w5 #[.bool tb, .slice A3 l3 c3] 136).alloc (.cells #[.bool nx, .slice A4 l4 c4] 136)).drew
      have P2 := (Bx.new1 w5 (.cells #[.bool tb, .slice A3 l3 c3] 136) #[.bool nx, .slice A4 l4 c4] 136).drew
      have hbv : Below w5.heap.size w5 (((w5.alloc (.cells #[.bool tb, .slice A3 l3 c3] 136)).alloc (.cells #[.bool nx, .slice A4 l4 c4] 136)).drew) := (((Below.refl _ w5).alloc (Nat.le_refl _) _).alloc (by simp) _).drew
      obtain ⟨b1, hb1⟩ : ∃ b, w5.heap.size = b := ⟨_, rfl⟩
      obtain ⟨b2, hb2⟩ : ∃ b, w5.heap.size + 1 = b := ⟨_, rfl⟩
      have HBB : Hid (B + 1 < b1 ∧ B + 1 < b2 ∧ b1 ≠ b2 ∧ w.heap.size ≤ b1 ∧ w.heap.size ≤ b2) := by have := H5'.out.size; exact ⟨by omega, by omega, by omega, by omega, by omega⟩
      generalize ((w5.alloc (.cells #[.bool tb, .slice A3 l3 c3] 136)).alloc (.cells #[.bool nx, .slice A4 l4 c4] 136)).drew = W6 at *
      rw [hb1] at P1
      rw [hb2] at P2
      try rw [hb2, hb1]
      clear hb1 hb2
      replace E0 := E0.on hbv
      replace E1 := E1.on hbv
      have H6 := Lib.hid (H5'.out.trans (hbv.mono H5'.out.size))
      have M2 := Lib.hid (M2'.out.up hbv)
      have M3 := Lib.hid (M3'.out.up hbv)
      have M4 := Lib.hid (M4'.out.up hbv)
      clear hbv M2' M3' M4' hE hE0
      have c0 := E0.cell (i := 0) (v := .bool nx) rfl
      have c1' := E1.cell (i := 0) (v := .bool ny) rfl
      have hd : decide ((0 : Int) < (l4 : Int)) = false ∨ (decide ((0 : Int) < (l4 : Int)) = true ∧ tb = false) := by
        by_cases h : l4 = 0
        · left; exact decide_eq_false (by omega)
        · right
          refine ⟨decide_eq_true (by omega), ?_⟩
          rcases hr.out with h2 | h2
          · exact h2
          · exact absurd (by rw [← HL4.out]; exact mag_len_zero.2 h2) h
      rcases hd with hd | ⟨hd, rfl⟩
      · have hdn : decide (0 < l4) = decide ((0 : Int) < (l4 : Int)) := by rw [decide_eq_decide]; omega
        rw [hd] at hdn
        have KW1 : Hid (∀ u : Kept W6, Calls Tryz.prog 133 #[.agg #[.bool tb, .slice A3 l3 c3]] u.W fun e w'' => e = .returned (.string r1) ∧ ∃ u' : Kept W6, w'' = u'.W) := by
          intro u
          refine (rwrite' tb A3 c3 l3 (x.natAbs / y.natAbs) u.W HL3.out (M3.out.up u.low) (by omega)).mono ?_
          rintro e w'' ⟨he, hb⟩
          exact ⟨by rw [he, R1.out], ⟨⟨w'', u.low.trans (hb.mono u.low.size)⟩, rfl⟩⟩
        have KW2 : Hid (∀ u : Kept W6, Calls Tryz.prog 133 #[.agg #[.bool nx, .slice A4 l4 c4]] u.W fun e w'' => e = .returned (.string r2) ∧ ∃ u' : Kept W6, w'' = u'.W) := by
          intro u
          refine (rwrite' nx A4 c4 l4 (x.natAbs % y.natAbs) u.W HL4.out (M4.out.up u.low) (by omega)).mono ?_
          rintro e w'' ⟨he, hb⟩
          exact ⟨by rw [he, R2.out], ⟨⟨w'', u.low.trans (hb.mono u.low.size)⟩, rfl⟩⟩
        have k0 := P1.keeps (i := 0) (v := .bool tb) rfl
        have k1 := P1.keeps (i := 1) (v := .slice A3 l3 c3) rfl
        have k2 := P2.keeps (i := 0) (v := .bool nx) rfl
        have k3 := P2.keeps (i := 1) (v := .slice A4 l4 c4) rfl
        go_wp2_with fail
        refine wp_region_kept (by kernel_rfl) (by kernel_rfl) ?_
        repeat (go_big_quiet_step (first | (with_reducible exact KW1.out _) | (with_reducible exact KW2.out _)))
        refine wpQuiet_nil ?_
        rintro _ ⟨u9, rfl⟩
        go_wp2_with fail
        go_ret3
        exact ⟨rfl, H6.out.trans (u9.low.mono H6.out.size)⟩
      · have hdn : decide (0 < l4) = decide ((0 : Int) < (l4 : Int)) := by rw [decide_eq_decide]; omega
        rw [hd] at hdn
        have KW1 : Hid (∀ u : Kept W6, Calls Tryz.prog 133 #[.agg #[.bool false, .slice A3 l3 c3]] u.W fun e w'' => e = .returned (.string r1) ∧ ∃ u' : Kept W6, w'' = u'.W) := by
          intro u
          refine (rwrite' false A3 c3 l3 (x.natAbs / y.natAbs) u.W HL3.out (M3.out.up u.low) (by omega)).mono ?_
          rintro e w'' ⟨he, hb⟩
          exact ⟨by rw [he, R1.out], ⟨⟨w'', u.low.trans (hb.mono u.low.size)⟩, rfl⟩⟩
        have KW2 : Hid (∀ u : Kept W6, Calls Tryz.prog 133 #[.agg #[.bool nx, .slice A4 l4 c4]] u.W fun e w'' => e = .returned (.string r2) ∧ ∃ u' : Kept W6, w'' = u'.W) := by
          intro u
          refine (rwrite' nx A4 c4 l4 (x.natAbs % y.natAbs) u.W HL4.out (M4.out.up u.low) (by omega)).mono ?_
          rintro e w'' ⟨he, hb⟩
          exact ⟨by rw [he, R2.out], ⟨⟨w'', u.low.trans (hb.mono u.low.size)⟩, rfl⟩⟩
        have k0 := P1.keeps (i := 0) (v := .bool false) rfl
        have k1 := P1.keeps (i := 1) (v := .slice A3 l3 c3) rfl
        have k2 := P2.keeps (i := 0) (v := .bool nx) rfl
        have k3 := P2.keeps (i := 1) (v := .slice A4 l4 c4) rfl
        go_wp2_with fail
        refine wp_region_kept (by kernel_rfl) (by kernel_rfl) ?_
        repeat (go_big_quiet_step (first | (with_reducible exact KW1.out _) | (with_reducible exact KW2.out _)))
        refine wpQuiet_nil ?_
        rintro _ ⟨u9, rfl⟩
        go_wp2_with fail
        go_ret3
        exact ⟨rfl, H6.out.trans (u9.low.mono H6.out.size)⟩
    · have P1 := (Bx.new1 w5 (.cells #[.bool nx, .slice A4 l4 c4] 136) #[.bool tb, .slice A3 l3 c3] 136).drew
      have P2 := ((Bx.new w5 #[.bool nx, .slice A4 l4 c4] 136).alloc (.cells #[.bool tb, .slice A3 l3 c3] 136)).drew
      have hbv : Below w5.heap.size w5 (((w5.alloc (.cells #[.bool nx, .slice A4 l4 c4] 136)).alloc (.cells #[.bool tb, .slice A3 l3 c3] 136)).drew) := (((Below.refl _ w5).alloc (Nat.le_refl _) _).alloc (by simp) _).drew
      obtain ⟨b1, hb1⟩ : ∃ b, w5.heap.size + 1 = b := ⟨_, rfl⟩
      obtain ⟨b2, hb2⟩ : ∃ b, w5.heap.size = b := ⟨_, rfl⟩
      have HBB : Hid (B + 1 < b1 ∧ B + 1 < b2 ∧ b1 ≠ b2 ∧ w.heap.size ≤ b1 ∧ w.heap.size ≤ b2) := by have := H5'.out.size; exact ⟨by omega, by omega, by omega, by omega, by omega⟩
      generalize ((w5.alloc (.cells #[.bool nx, .slice A4 l4 c4] 136)).alloc (.cells #[.bool tb, .slice A3 l3 c3] 136)).drew = W6 at *
      rw [hb1] at P1
      rw [hb2] at P2
      try rw [hb1, hb2]
      clear hb1 hb2
      replace E0 := E0.on hbv
      replace E1 := E1.on hbv
      have H6 := Lib.hid (H5'.out.trans (hbv.mono H5'.out.size))
      have M2 := Lib.hid (M2'.out.up hbv)
      have M3 := Lib.hid (M3'.out.up hbv)
      have M4 := Lib.hid (M4'.out.up hbv)
      clear hbv M2' M3' M4' hE hE0
      have c0 := E0.cell (i := 0) (v := .bool nx) rfl
      have c1' := E1.cell (i := 0) (v := .bool ny) rfl
      have hd : decide ((0 : Int) < (l4 : Int)) = false ∨ (decide ((0 : Int) < (l4 : Int)) = true ∧ tb = false) := by
        by_cases h : l4 = 0
        · left; exact decide_eq_false (by omega)
        · right
          refine ⟨decide_eq_true (by omega), ?_⟩
          rcases hr.out with h2 | h2
          · exact h2
          · exact absurd (by rw [← HL4.out]; exact mag_len_zero.2 h2) h
      rcases hd with hd | ⟨hd, rfl⟩
      · have hdn : decide (0 < l4) = decide ((0 : Int) < (l4 : Int)) := by rw [decide_eq_decide]; omega
        rw [hd] at hdn
        have KW1 : Hid (∀ u : Kept W6, Calls Tryz.prog 133 #[.agg #[.bool tb, .slice A3 l3 c3]] u.W fun e w'' => e = .returned (.string r1) ∧ ∃ u' : Kept W6, w'' = u'.W) := by
          intro u
          refine (rwrite' tb A3 c3 l3 (x.natAbs / y.natAbs) u.W HL3.out (M3.out.up u.low) (by omega)).mono ?_
          rintro e w'' ⟨he, hb⟩
          exact ⟨by rw [he, R1.out], ⟨⟨w'', u.low.trans (hb.mono u.low.size)⟩, rfl⟩⟩
        have KW2 : Hid (∀ u : Kept W6, Calls Tryz.prog 133 #[.agg #[.bool nx, .slice A4 l4 c4]] u.W fun e w'' => e = .returned (.string r2) ∧ ∃ u' : Kept W6, w'' = u'.W) := by
          intro u
          refine (rwrite' nx A4 c4 l4 (x.natAbs % y.natAbs) u.W HL4.out (M4.out.up u.low) (by omega)).mono ?_
          rintro e w'' ⟨he, hb⟩
          exact ⟨by rw [he, R2.out], ⟨⟨w'', u.low.trans (hb.mono u.low.size)⟩, rfl⟩⟩
        have k0 := P1.keeps (i := 0) (v := .bool tb) rfl
        have k1 := P1.keeps (i := 1) (v := .slice A3 l3 c3) rfl
        have k2 := P2.keeps (i := 0) (v := .bool nx) rfl
        have k3 := P2.keeps (i := 1) (v := .slice A4 l4 c4) rfl
        go_wp2_with fail
        refine wp_region_kept (by kernel_rfl) (by kernel_rfl) ?_
        repeat (go_big_quiet_step (first | (with_reducible exact KW1.out _) | (with_reducible exact KW2.out _)))
        refine wpQuiet_nil ?_
        rintro _ ⟨u9, rfl⟩
        go_wp2_with fail
        go_ret3
        exact ⟨rfl, H6.out.trans (u9.low.mono H6.out.size)⟩
      · have hdn : decide (0 < l4) = decide ((0 : Int) < (l4 : Int)) := by rw [decide_eq_decide]; omega
        rw [hd] at hdn
        have KW1 : Hid (∀ u : Kept W6, Calls Tryz.prog 133 #[.agg #[.bool false, .slice A3 l3 c3]] u.W fun e w'' => e = .returned (.string r1) ∧ ∃ u' : Kept W6, w'' = u'.W) := by
          intro u
          refine (rwrite' false A3 c3 l3 (x.natAbs / y.natAbs) u.W HL3.out (M3.out.up u.low) (by omega)).mono ?_
          rintro e w'' ⟨he, hb⟩
          exact ⟨by rw [he, R1.out], ⟨⟨w'', u.low.trans (hb.mono u.low.size)⟩, rfl⟩⟩
        have KW2 : Hid (∀ u : Kept W6, Calls Tryz.prog 133 #[.agg #[.bool nx, .slice A4 l4 c4]] u.W fun e w'' => e = .returned (.string r2) ∧ ∃ u' : Kept W6, w'' = u'.W) := by
          intro u
          refine (rwrite' nx A4 c4 l4 (x.natAbs % y.natAbs) u.W HL4.out (M4.out.up u.low) (by omega)).mono ?_
          rintro e w'' ⟨he, hb⟩
          exact ⟨by rw [he, R2.out], ⟨⟨w'', u.low.trans (hb.mono u.low.size)⟩, rfl⟩⟩
        have k0 := P1.keeps (i := 0) (v := .bool false) rfl
        have k1 := P1.keeps (i := 1) (v := .slice A3 l3 c3) rfl
        have k2 := P2.keeps (i := 0) (v := .bool nx) rfl
        have k3 := P2.keeps (i := 1) (v := .slice A4 l4 c4) rfl
        go_wp2_with fail
        refine wp_region_kept (by kernel_rfl) (by kernel_rfl) ?_
        repeat (go_big_quiet_step (first | (with_reducible exact KW1.out _) | (with_reducible exact KW2.out _)))
        refine wpQuiet_nil ?_
        rintro _ ⟨u9, rfl⟩
        go_wp2_with fail
        go_ret3
        exact ⟨rfl, H6.out.trans (u9.low.mono H6.out.size)⟩
end Go.Proofs.YtpipkeplhkccoaaGreatDoor
namespace Go.Proofs.YtpipkeplhkccoaaGreatDoor
open Go.RowKit Go.Shelf Dec

set_option maxRecDepth 100000 in
set_option maxHeartbeats 8000000 in
theorem rdiv_long2 (a b : ByteArray) (m1 m2 : Int) (t1 t2 : Bool) (x y : Int) (nx ny : Bool) (r1 r2 : ByteArray) (w : World) (ha : a.size ≤ 100000) (hb : b.size ≤ 100000)
    (K1 : Hid (∀ w, Calls Tryz.prog 131 #[.string a] w fun e w' => e = .returned (.tuple #[.int .i64 m1, .bool t1]) ∧ Below w.heap.size w w'))
    (K2 : Hid (∀ w, Calls Tryz.prog 131 #[.string b] w fun e w' => e = .returned (.tuple #[.int .i64 m2, .bool t2]) ∧ Below w.heap.size w w'))
    (Q1 : Hid (∀ w, Calls Tryz.prog 135 #[.string a] w fun e w' => ∃ A n c, e = .returned (.agg #[.bool nx, .slice A n c]) ∧ (mag x.natAbs).length = n ∧ Mg .i64 w' w'.heap.size A (mag x.natAbs) ∧ n ≤ a.size ∧ Below w.heap.size w w'))
    (Q2 : Hid (∀ w, Calls Tryz.prog 135 #[.string b] w fun e w' => ∃ A n c, e = .returned (.agg #[.bool ny, .slice A n c]) ∧ (mag y.natAbs).length = n ∧ Mg .i64 w' w'.heap.size A (mag y.natAbs) ∧ n ≤ b.size ∧ Below w.heap.size w w'))
    (HY : Hid (y ≠ 0)) (ht : (t2 = false ∧ t1 = false) ∨ (t2 = false ∧ t1 = true) ∨ (t2 = true ∧ t1 = false ∧ (m2 == 0) = false)) (qt : (nx != ny) = true)
    (hr : Hid (x.natAbs % y.natAbs ≠ 0)) (R1 : Hid (canS (sgn true (x.natAbs / y.natAbs) + sgn true 1) = r1)) (R2 : Hid (canS (sgn nx (x.natAbs % y.natAbs) + sgn ny y.natAbs) = r2)) :
    Calls Tryz.prog 127 #[.string a, .string b] w fun e w' => e = .returned (.tuple #[.string r1, .string r2, .int .i64 0]) ∧ Below w.heap.size w w' := by
  rcases ht with ⟨rfl, rfl⟩ | ⟨rfl, rfl⟩ | ⟨rfl, rfl, hq⟩
  all_goals
    go_enter Tryz.func127, Tryz.ntmps127
    go_wp2_with fail
    refine (K1.out _).mono ?_
    rintro e w1 ⟨rfl, hb1⟩
    have H1 := Lib.hid hb1
    clear hb1
    go_wp2_with fail
    refine (K2.out _).mono ?_
    rintro e w2 ⟨rfl, hb2⟩
    have H2 := Lib.hid (H1.out.trans (hb2.mono H1.out.size))
    clear hb2
    go_wp2_with fail
    refine (Q1.out _).mono ?_
    rintro e w3 ⟨A1, n, c1, rfl, hla, hm1, hla2, hb3⟩
    have HLa := Lib.hid hla
    have H3 := Lib.hid (H2.out.trans (hb3.mono H2.out.size))
    have M1 := Lib.hid hm1
    clear hb3 hm1 hla
    go_wp2_with fail
    refine (Q2.out _).mono ?_
    rintro e w4 ⟨A2, m, c2, rfl, hlb, hm2, hlb2, hb4⟩
    have HLb := Lib.hid hlb
    have H4 := Lib.hid (H3.out.trans (hb4.mono H3.out.size))
    have M1' := Lib.hid (M1.out.up hb4)
    have M2 := Lib.hid hm2
    clear hb4 hm2 M1 hlb
    obtain ⟨W, hW, B0, B1, hbw⟩ : ∃ W, (w4.alloc (.cells #[.bool nx, .slice A1 n c1] 136)).alloc (.cells #[.bool ny, .slice A2 m c2] 136) = W ∧ Bx W w4.heap.size #[.bool nx, .slice A1 n c1] ∧ Bx W (w4.heap.size + 1) #[.bool ny, .slice A2 m c2] ∧ Below w4.heap.size w4 W := ⟨_, rfl, (Bx.new w4 _ _).alloc _, Bx.new1 w4 _ _ _, ((Below.refl _ w4).alloc (Nat.le_refl _) _).alloc (by simp) _⟩
    have HW := Lib.hid hW
    have H5 := Lib.hid (H4.out.trans (hbw.mono H4.out.size))
    have M1u := Lib.hid (M1'.out.up hbw)
    have M2u := Lib.hid (M2.out.up hbw)
    clear hbw M1' M2 hW
    go_wp2_with fail
    rw [HW.out]
    clear HW
    refine (divide_r' A1 A2 c1 c2 n m x.natAbs y.natAbs _ HLa.out HLb.out M1u.out M2u.out (by omega) (by omega) (by have := HY.out; omega)).mono ?_
    rintro e w5 ⟨A3, l3, c3, A4, l4, c4, rfl, hl3, hl4, hm3, hm4, hb5⟩
    have b3 : l3 ≤ 200000 := by rw [← hl3]; exact Nat.le_trans (mag_len_mono (Nat.div_le_self _ _)) (by rw [HLa.out]; omega)
    have b4 : l4 ≤ 200000 := by rw [← hl4]; exact Nat.le_trans (mag_len_mono (Nat.mod_le _ _)) (by rw [HLa.out]; omega)
    have HL3 := Lib.hid hl3
    have HL4 := Lib.hid hl4
    have H5' := Lib.hid (H5.out.trans (hb5.mono H5.out.size))
    have E0 := B0.on hb5
    have E1 := B1.on hb5
    have M2' := Lib.hid (M2u.out.up hb5)
    have M3' := Lib.hid hm3
    have M4' := Lib.hid hm4
    clear hl3 hl4 hb5 hm3 hm4 B0 B1 M1u M2u
    obtain ⟨B, hB⟩ : ∃ B, w4.heap.size = B := ⟨_, rfl⟩
    go_wp2_with fail
    rw [hB] at E0 E1
    clear hB
    have kk0 := E0.cell (i := 0) (v := .bool nx) rfl
    have kk1 := E1.cell (i := 0) (v := .bool ny) rfl
    have qt2 : (!(nx == ny)) = true := qt
    have hE := E1.lt
    have hE0 := E0.lt
    go_region
    clear kk0 kk1
    · have P1 := ((Bx.new w5 #[.bool true, .slice A3 l3 c3] 136).alloc (.cells #[.bool nx, .slice A4 l4 c4] 136)).drew
      have P2 := (Bx.new1 w5 (.cells #[.bool true, .slice A3 l3 c3] 136) #[.bool nx, .slice A4 l4 c4] 136).drew
      have hbv : Below w5.heap.size w5 (((w5.alloc (.cells #[.bool true, .slice A3 l3 c3] 136)).alloc (.cells #[.bool nx, .slice A4 l4 c4] 136)).drew) := (((Below.refl _ w5).alloc (Nat.le_refl _) _).alloc (by simp) _).drew
      obtain ⟨b1, hb1⟩ : ∃ b, w5.heap.size = b := ⟨_, rfl⟩
      obtain ⟨b2, hb2⟩ : ∃ b, w5.heap.size + 1 = b := ⟨_, rfl⟩
      have HBB : Hid (B + 1 < b1 ∧ B + 1 < b2 ∧ b1 ≠ b2 ∧ w.heap.size ≤ b1 ∧ w.heap.size ≤ b2) := by have := H5'.out.size; exact ⟨by omega, by omega, by omega, by omega, by omega⟩
      generalize ((w5.alloc (.cells #[.bool true, .slice A3 l3 c3] 136)).alloc (.cells #[.bool nx, .slice A4 l4 c4] 136)).drew = W6 at *
      rw [hb1] at P1
      rw [hb2] at P2
      try rw [hb2, hb1]
      clear hb1 hb2
      replace E0 := E0.on hbv
      replace E1 := E1.on hbv
      have H6 := Lib.hid (H5'.out.trans (hbv.mono H5'.out.size))
      have M2 := Lib.hid (M2'.out.up hbv)
      have M3 := Lib.hid (M3'.out.up hbv)
      have M4 := Lib.hid (M4'.out.up hbv)
      clear hbv M2' M3' M4' hE hE0
      have c0 := E0.cell (i := 0) (v := .bool nx) rfl
      have c1' := E1.cell (i := 0) (v := .bool ny) rfl
      have hd : decide ((0 : Int) < (l4 : Int)) = true := decide_eq_true (by have := HL4.out; have h2 : (mag (x.natAbs % y.natAbs)).length ≠ 0 := fun h => hr.out (mag_len_zero.1 h); omega)
      have hdn : decide (0 < l4) = decide ((0 : Int) < (l4 : Int)) := by rw [decide_eq_decide]; omega
      rw [hd] at hdn
      have M1o := Lib.hid (mg_one_r W6)
      have hbo : Below W6.heap.size W6 (W6.alloc (.cells #[.int .i64 1] 3)) := (Below.refl _ _).alloc (Nat.le_refl _) _
      have HBO := Lib.hid hbo
      have x0 := P1.cell (i := 0) (v := .bool true) rfl
      have x1 := P1.cell (i := 1) (v := .slice A3 l3 c3) rfl
      clear hbo
      go_wp2_with fail
      refine (radd' true true A3 (some ⟨W6.heap.size, 0, none⟩) c3 1 l3 1 (x.natAbs / y.natAbs) 1 _ HL3.out (by rw [mag_single (by omega) (by decide)]; rfl) (M3.out.up HBO.out) M1o.out (by omega) (by omega)).mono ?_
      rintro e w7 ⟨ng5, k5, A5, c5, l5, hz5, rfl, hl5, hm5, hb7⟩
      have HZ5 : Hid (canS (sgn ng5 k5) = r1) := by show _ = _; rw [hz5]; exact R1.out
      have b5 : l5 ≤ 200001 := by rw [← hl5]; exact len_sum (x := sgn true (x.natAbs / y.natAbs)) (y := sgn true 1) (n := 200000) (by rw [sgn_abs, HL3.out]; exact b3) (by rw [sgn_abs, mag_single (by omega) (by decide)]; decide) (by rw [← hz5, sgn_abs])
      have hb67 := HBO.out.trans (hb7.mono HBO.out.size)
      have HL5 := Lib.hid hl5
      replace P1 := P1.on hb67
      replace P2 := P2.on hb67
      replace E1 := E1.on hb67
      have M2a := Lib.hid (M2.out.up hb67)
      have M4a := Lib.hid (M4.out.up hb67)
      have M5 := Lib.hid hm5
      have H7 := Lib.hid (H6.out.trans (hb67.mono H6.out.size))
      clear hz5 hl5 hm5 hb7 hb67 x0 x1 M1o HBO M2 M4 M3 c0 c1' E0
      have x0 := P1.cell (i := 0) (v := .bool true) rfl
      have x1 := P1.cell (i := 1) (v := .slice A3 l3 c3) rfl
      have f0 := P1.frozen 0
      have f1 := P1.frozen 1
      go_upto_region 16 with (fail)
      have M2b := Lib.hid (mg_set (v' := (.slice A5 l5 c5)) (mg_set (v' := (.bool ng5)) M2a.out (P1.cell (i := 0) (v := .bool true) rfl) (fun _ h => by cases h)) ((P1.set 0 (.bool ng5)).cell (i := 1) (v := .slice A3 l3 c3) rfl) (fun _ h => by cases h))
      have M4b := Lib.hid (mg_set (v' := (.slice A5 l5 c5)) (mg_set (v' := (.bool ng5)) M4a.out (P1.cell (i := 0) (v := .bool true) rfl) (fun _ h => by cases h)) ((P1.set 0 (.bool ng5)).cell (i := 1) (v := .slice A3 l3 c3) rfl) (fun _ h => by cases h))
      have M5b := Lib.hid (mg_set (v' := (.slice A5 l5 c5)) (mg_set (v' := (.bool ng5)) M5.out (P1.cell (i := 0) (v := .bool true) rfl) (fun _ h => by cases h)) ((P1.set 0 (.bool ng5)).cell (i := 1) (v := .slice A3 l3 c3) rfl) (fun _ h => by cases h))
      replace P2 := (P2.other (c := b1) (Ne.symm HBB.out.2.2.1) 0 (.bool ng5)).other (c := b1) (Ne.symm HBB.out.2.2.1) 1 (.slice A5 l5 c5)
      replace E1 := (E1.other (c := b1) (by have := HBB.out.1; omega) 0 (.bool ng5)).other (c := b1) (by have := HBB.out.1; omega) 1 (.slice A5 l5 c5)
      replace P1 := (P1.set 0 (.bool ng5)).set 1 (.slice A5 l5 c5)
      have H8 : Hid (Below w.heap.size w ((w7.setCell ⟨b1, 0, none⟩ (.bool ng5)).setCell ⟨b1, 1, none⟩ (.slice A5 l5 c5))) := (H7.out.setCell (p := ⟨b1, 0, none⟩) HBB.out.2.2.2.1 _).setCell (p := ⟨b1, 1, none⟩) HBB.out.2.2.2.1 _
      clear x0 x1 f0 f1 M2a M4a M5 H7 H6
      generalize (w7.setCell ⟨b1, 0, none⟩ (.bool ng5)).setCell ⟨b1, 1, none⟩ (.slice A5 l5 c5) = W8 at *
      have x0 := P2.cell (i := 0) (v := .bool nx) rfl
      have x1 := P2.cell (i := 1) (v := .slice A4 l4 c4) rfl
      have x2 := E1.cell (i := 0) (v := .bool ny) rfl
      have x3 := E1.cell (i := 1) (v := .slice A2 m c2) rfl
      go_wp2_with fail
      refine (radd' nx ny A4 A2 c4 c2 l4 m (x.natAbs % y.natAbs) y.natAbs _ HL4.out HLb.out M4b.out M2b.out (by omega) (by omega)).mono ?_
      rintro e w9 ⟨ng6, k6, A6, c6, l6, hz6, rfl, hl6, hm6, hb9⟩
      have HZ6 : Hid (canS (sgn ng6 k6) = r2) := by show _ = _; rw [hz6]; exact R2.out
      have b6 : l6 ≤ 200001 := by rw [← hl6]; exact len_sum (x := sgn nx (x.natAbs % y.natAbs)) (y := sgn ny y.natAbs) (n := 200000) (by rw [sgn_abs, HL4.out]; exact b4) (by rw [sgn_abs, HLb.out]; omega) (by rw [← hz6, sgn_abs])
      have HL6 := Lib.hid hl6
      replace P1 := P1.on hb9
      replace P2 := P2.on hb9
      have M5c := Lib.hid (M5b.out.up hb9)
      have M6 := Lib.hid hm6
      have H9 := Lib.hid (H8.out.trans (hb9.mono H8.out.size))
      clear hz6 hl6 hm6 hb9 x0 x1 x2 x3 M2b M4b M5b E1 H8
      have x0 := P2.cell (i := 0) (v := .bool nx) rfl
      have x1 := P2.cell (i := 1) (v := .slice A4 l4 c4) rfl
      have f0 := P2.frozen 0
      have f1 := P2.frozen 1
      go_upto_region 17 with (fail)
      have M5d := Lib.hid (mg_set (v' := (.slice A6 l6 c6)) (mg_set (v' := (.bool ng6)) M5c.out (P2.cell (i := 0) (v := .bool nx) rfl) (fun _ h => by cases h)) ((P2.set 0 (.bool ng6)).cell (i := 1) (v := .slice A4 l4 c4) rfl) (fun _ h => by cases h))
      have M6b := Lib.hid (mg_set (v' := (.slice A6 l6 c6)) (mg_set (v' := (.bool ng6)) M6.out (P2.cell (i := 0) (v := .bool nx) rfl) (fun _ h => by cases h)) ((P2.set 0 (.bool ng6)).cell (i := 1) (v := .slice A4 l4 c4) rfl) (fun _ h => by cases h))
      replace P1 := (P1.other (c := b2) HBB.out.2.2.1 0 (.bool ng6)).other (c := b2) HBB.out.2.2.1 1 (.slice A6 l6 c6)
      replace P2 := (P2.set 0 (.bool ng6)).set 1 (.slice A6 l6 c6)
      have H10 : Hid (Below w.heap.size w ((w9.setCell ⟨b2, 0, none⟩ (.bool ng6)).setCell ⟨b2, 1, none⟩ (.slice A6 l6 c6))) := (H9.out.setCell (p := ⟨b2, 0, none⟩) HBB.out.2.2.2.2 _).setCell (p := ⟨b2, 1, none⟩) HBB.out.2.2.2.2 _
      clear x0 x1 f0 f1 M5c M6 H9
      generalize (w9.setCell ⟨b2, 0, none⟩ (.bool ng6)).setCell ⟨b2, 1, none⟩ (.slice A6 l6 c6) = W10 at *
      have KW1 : Hid (∀ u : Kept W10, Calls Tryz.prog 133 #[.agg #[.bool ng5, .slice A5 l5 c5]] u.W fun e w'' => e = .returned (.string r1) ∧ ∃ u' : Kept W10, w'' = u'.W) := by
        intro u
        refine (rwrite' ng5 A5 c5 l5 k5 u.W HL5.out (M5d.out.up u.low) (by omega)).mono ?_
        rintro e w'' ⟨he, hb⟩
        exact ⟨by rw [he, HZ5.out], ⟨⟨w'', u.low.trans (hb.mono u.low.size)⟩, rfl⟩⟩
      have KW2 : Hid (∀ u : Kept W10, Calls Tryz.prog 133 #[.agg #[.bool ng6, .slice A6 l6 c6]] u.W fun e w'' => e = .returned (.string r2) ∧ ∃ u' : Kept W10, w'' = u'.W) := by
        intro u
        refine (rwrite' ng6 A6 c6 l6 k6 u.W HL6.out (M6b.out.up u.low) (by omega)).mono ?_
        rintro e w'' ⟨he, hb⟩
        exact ⟨by rw [he, HZ6.out], ⟨⟨w'', u.low.trans (hb.mono u.low.size)⟩, rfl⟩⟩
      have k0 := P1.keeps (i := 0) (v := .bool ng5) rfl
      have k1 := P1.keeps (i := 1) (v := .slice A5 l5 c5) rfl
      have k2 := P2.keeps (i := 0) (v := .bool ng6) rfl
      have k3 := P2.keeps (i := 1) (v := .slice A6 l6 c6) rfl
      refine wp_region_kept (by kernel_rfl) (by kernel_rfl) ?_
      repeat (go_big_quiet_step (first | (with_reducible exact KW1.out _) | (with_reducible exact KW2.out _)))
      refine wpQuiet_nil ?_
      rintro _ ⟨u9, rfl⟩
      go_wp2_with fail
      go_ret3
      exact ⟨rfl, H10.out.trans (u9.low.mono H10.out.size)⟩
    · have P1 := (Bx.new1 w5 (.cells #[.bool nx, .slice A4 l4 c4] 136) #[.bool true, .slice A3 l3 c3] 136).drew
      have P2 := ((Bx.new w5 #[.bool nx, .slice A4 l4 c4] 136).alloc (.cells #[.bool true, .slice A3 l3 c3] 136)).drew
      have hbv : Below w5.heap.size w5 (((w5.alloc (.cells #[.bool nx, .slice A4 l4 c4] 136)).alloc (.cells #[.bool true, .slice A3 l3 c3] 136)).drew) := (((Below.refl _ w5).alloc (Nat.le_refl _) _).alloc (by simp) _).drew
      obtain ⟨b1, hb1⟩ : ∃ b, w5.heap.size + 1 = b := ⟨_, rfl⟩
      obtain ⟨b2, hb2⟩ : ∃ b, w5.heap.size = b := ⟨_, rfl⟩
      have HBB : Hid (B + 1 < b1 ∧ B + 1 < b2 ∧ b1 ≠ b2 ∧ w.heap.size ≤ b1 ∧ w.heap.size ≤ b2) := by have := H5'.out.size; exact ⟨by omega, by omega, by omega, by omega, by omega⟩
      generalize ((w5.alloc (.cells #[.bool nx, .slice A4 l4 c4] 136)).alloc (.cells #[.bool true, .slice A3 l3 c3] 136)).drew = W6 at *
      rw [hb1] at P1
      rw [hb2] at P2
      try rw [hb1, hb2]
      clear hb1 hb2
      replace E0 := E0.on hbv
      replace E1 := E1.on hbv
      have H6 := Lib.hid (H5'.out.trans (hbv.mono H5'.out.size))
      have M2 := Lib.hid (M2'.out.up hbv)
      have M3 := Lib.hid (M3'.out.up hbv)
      have M4 := Lib.hid (M4'.out.up hbv)
      clear hbv M2' M3' M4' hE hE0
      have c0 := E0.cell (i := 0) (v := .bool nx) rfl
      have c1' := E1.cell (i := 0) (v := .bool ny) rfl
      have hd : decide ((0 : Int) < (l4 : Int)) = true := decide_eq_true (by have := HL4.out; have h2 : (mag (x.natAbs % y.natAbs)).length ≠ 0 := fun h => hr.out (mag_len_zero.1 h); omega)
      have hdn : decide (0 < l4) = decide ((0 : Int) < (l4 : Int)) := by rw [decide_eq_decide]; omega
      rw [hd] at hdn
      have M1o := Lib.hid (mg_one_r W6)
      have hbo : Below W6.heap.size W6 (W6.alloc (.cells #[.int .i64 1] 3)) := (Below.refl _ _).alloc (Nat.le_refl _) _
      have HBO := Lib.hid hbo
      have x0 := P1.cell (i := 0) (v := .bool true) rfl
      have x1 := P1.cell (i := 1) (v := .slice A3 l3 c3) rfl
      clear hbo
      go_wp2_with fail
      refine (radd' true true A3 (some ⟨W6.heap.size, 0, none⟩) c3 1 l3 1 (x.natAbs / y.natAbs) 1 _ HL3.out (by rw [mag_single (by omega) (by decide)]; rfl) (M3.out.up HBO.out) M1o.out (by omega) (by omega)).mono ?_
      rintro e w7 ⟨ng5, k5, A5, c5, l5, hz5, rfl, hl5, hm5, hb7⟩
      have HZ5 : Hid (canS (sgn ng5 k5) = r1) := by show _ = _; rw [hz5]; exact R1.out
      have b5 : l5 ≤ 200001 := by rw [← hl5]; exact len_sum (x := sgn true (x.natAbs / y.natAbs)) (y := sgn true 1) (n := 200000) (by rw [sgn_abs, HL3.out]; exact b3) (by rw [sgn_abs, mag_single (by omega) (by decide)]; decide) (by rw [← hz5, sgn_abs])
      have hb67 := HBO.out.trans (hb7.mono HBO.out.size)
      have HL5 := Lib.hid hl5
      replace P1 := P1.on hb67
      replace P2 := P2.on hb67
      replace E1 := E1.on hb67
      have M2a := Lib.hid (M2.out.up hb67)
      have M4a := Lib.hid (M4.out.up hb67)
      have M5 := Lib.hid hm5
      have H7 := Lib.hid (H6.out.trans (hb67.mono H6.out.size))
      clear hz5 hl5 hm5 hb7 hb67 x0 x1 M1o HBO M2 M4 M3 c0 c1' E0
      have x0 := P1.cell (i := 0) (v := .bool true) rfl
      have x1 := P1.cell (i := 1) (v := .slice A3 l3 c3) rfl
      have f0 := P1.frozen 0
      have f1 := P1.frozen 1
      go_upto_region 16 with (fail)
      have M2b := Lib.hid (mg_set (v' := (.slice A5 l5 c5)) (mg_set (v' := (.bool ng5)) M2a.out (P1.cell (i := 0) (v := .bool true) rfl) (fun _ h => by cases h)) ((P1.set 0 (.bool ng5)).cell (i := 1) (v := .slice A3 l3 c3) rfl) (fun _ h => by cases h))
      have M4b := Lib.hid (mg_set (v' := (.slice A5 l5 c5)) (mg_set (v' := (.bool ng5)) M4a.out (P1.cell (i := 0) (v := .bool true) rfl) (fun _ h => by cases h)) ((P1.set 0 (.bool ng5)).cell (i := 1) (v := .slice A3 l3 c3) rfl) (fun _ h => by cases h))
      have M5b := Lib.hid (mg_set (v' := (.slice A5 l5 c5)) (mg_set (v' := (.bool ng5)) M5.out (P1.cell (i := 0) (v := .bool true) rfl) (fun _ h => by cases h)) ((P1.set 0 (.bool ng5)).cell (i := 1) (v := .slice A3 l3 c3) rfl) (fun _ h => by cases h))
      replace P2 := (P2.other (c := b1) (Ne.symm HBB.out.2.2.1) 0 (.bool ng5)).other (c := b1) (Ne.symm HBB.out.2.2.1) 1 (.slice A5 l5 c5)
      replace E1 := (E1.other (c := b1) (by have := HBB.out.1; omega) 0 (.bool ng5)).other (c := b1) (by have := HBB.out.1; omega) 1 (.slice A5 l5 c5)
      replace P1 := (P1.set 0 (.bool ng5)).set 1 (.slice A5 l5 c5)
      have H8 : Hid (Below w.heap.size w ((w7.setCell ⟨b1, 0, none⟩ (.bool ng5)).setCell ⟨b1, 1, none⟩ (.slice A5 l5 c5))) := (H7.out.setCell (p := ⟨b1, 0, none⟩) HBB.out.2.2.2.1 _).setCell (p := ⟨b1, 1, none⟩) HBB.out.2.2.2.1 _
      clear x0 x1 f0 f1 M2a M4a M5 H7 H6
      generalize (w7.setCell ⟨b1, 0, none⟩ (.bool ng5)).setCell ⟨b1, 1, none⟩ (.slice A5 l5 c5) = W8 at *
      have x0 := P2.cell (i := 0) (v := .bool nx) rfl
      have x1 := P2.cell (i := 1) (v := .slice A4 l4 c4) rfl
      have x2 := E1.cell (i := 0) (v := .bool ny) rfl
      have x3 := E1.cell (i := 1) (v := .slice A2 m c2) rfl
      go_wp2_with fail
      refine (radd' nx ny A4 A2 c4 c2 l4 m (x.natAbs % y.natAbs) y.natAbs _ HL4.out HLb.out M4b.out M2b.out (by omega) (by omega)).mono ?_
      rintro e w9 ⟨ng6, k6, A6, c6, l6, hz6, rfl, hl6, hm6, hb9⟩
      have HZ6 : Hid (canS (sgn ng6 k6) = r2) := by show _ = _; rw [hz6]; exact R2.out
      have b6 : l6 ≤ 200001 := by rw [← hl6]; exact len_sum (x := sgn nx (x.natAbs % y.natAbs)) (y := sgn ny y.natAbs) (n := 200000) (by rw [sgn_abs, HL4.out]; exact b4) (by rw [sgn_abs, HLb.out]; omega) (by rw [← hz6, sgn_abs])
      have HL6 := Lib.hid hl6
      replace P1 := P1.on hb9
      replace P2 := P2.on hb9
      have M5c := Lib.hid (M5b.out.up hb9)
      have M6 := Lib.hid hm6
      have H9 := Lib.hid (H8.out.trans (hb9.mono H8.out.size))
      clear hz6 hl6 hm6 hb9 x0 x1 x2 x3 M2b M4b M5b E1 H8
      have x0 := P2.cell (i := 0) (v := .bool nx) rfl
      have x1 := P2.cell (i := 1) (v := .slice A4 l4 c4) rfl
      have f0 := P2.frozen 0
      have f1 := P2.frozen 1
      go_upto_region 17 with (fail)
      have M5d := Lib.hid (mg_set (v' := (.slice A6 l6 c6)) (mg_set (v' := (.bool ng6)) M5c.out (P2.cell (i := 0) (v := .bool nx) rfl) (fun _ h => by cases h)) ((P2.set 0 (.bool ng6)).cell (i := 1) (v := .slice A4 l4 c4) rfl) (fun _ h => by cases h))
      have M6b := Lib.hid (mg_set (v' := (.slice A6 l6 c6)) (mg_set (v' := (.bool ng6)) M6.out (P2.cell (i := 0) (v := .bool nx) rfl) (fun _ h => by cases h)) ((P2.set 0 (.bool ng6)).cell (i := 1) (v := .slice A4 l4 c4) rfl) (fun _ h => by cases h))
      replace P1 := (P1.other (c := b2) HBB.out.2.2.1 0 (.bool ng6)).other (c := b2) HBB.out.2.2.1 1 (.slice A6 l6 c6)
      replace P2 := (P2.set 0 (.bool ng6)).set 1 (.slice A6 l6 c6)
      have H10 : Hid (Below w.heap.size w ((w9.setCell ⟨b2, 0, none⟩ (.bool ng6)).setCell ⟨b2, 1, none⟩ (.slice A6 l6 c6))) := (H9.out.setCell (p := ⟨b2, 0, none⟩) HBB.out.2.2.2.2 _).setCell (p := ⟨b2, 1, none⟩) HBB.out.2.2.2.2 _
      clear x0 x1 f0 f1 M5c M6 H9
      generalize (w9.setCell ⟨b2, 0, none⟩ (.bool ng6)).setCell ⟨b2, 1, none⟩ (.slice A6 l6 c6) = W10 at *
      have KW1 : Hid (∀ u : Kept W10, Calls Tryz.prog 133 #[.agg #[.bool ng5, .slice A5 l5 c5]] u.W fun e w'' => e = .returned (.string r1) ∧ ∃ u' : Kept W10, w'' = u'.W) := by
        intro u
        refine (rwrite' ng5 A5 c5 l5 k5 u.W HL5.out (M5d.out.up u.low) (by omega)).mono ?_
        rintro e w'' ⟨he, hb⟩
        exact ⟨by rw [he, HZ5.out], ⟨⟨w'', u.low.trans (hb.mono u.low.size)⟩, rfl⟩⟩
      have KW2 : Hid (∀ u : Kept W10, Calls Tryz.prog 133 #[.agg #[.bool ng6, .slice A6 l6 c6]] u.W fun e w'' => e = .returned (.string r2) ∧ ∃ u' : Kept W10, w'' = u'.W) := by
        intro u
        refine (rwrite' ng6 A6 c6 l6 k6 u.W HL6.out (M6b.out.up u.low) (by omega)).mono ?_
        rintro e w'' ⟨he, hb⟩
        exact ⟨by rw [he, HZ6.out], ⟨⟨w'', u.low.trans (hb.mono u.low.size)⟩, rfl⟩⟩
      have k0 := P1.keeps (i := 0) (v := .bool ng5) rfl
      have k1 := P1.keeps (i := 1) (v := .slice A5 l5 c5) rfl
      have k2 := P2.keeps (i := 0) (v := .bool ng6) rfl
      have k3 := P2.keeps (i := 1) (v := .slice A6 l6 c6) rfl
      refine wp_region_kept (by kernel_rfl) (by kernel_rfl) ?_
      repeat (go_big_quiet_step (first | (with_reducible exact KW1.out _) | (with_reducible exact KW2.out _)))
      refine wpQuiet_nil ?_
      rintro _ ⟨u9, rfl⟩
      go_wp2_with fail
      go_ret3
      exact ⟨rfl, H10.out.trans (u9.low.mono H10.out.size)⟩
end Go.Proofs.YtpipkeplhkccoaaGreatDoor
namespace Go.Proofs.YtpipkeplhkccoaaGreatDoor
open Go.RowKit Go.Shelf Dec

theorem tdiv_sgn (x y : Int) : x.tdiv y = sgn (decide (x < 0) != decide (y < 0)) (x.natAbs / y.natAbs) ∧ x.tmod y = sgn (decide (x < 0)) (x.natAbs % y.natAbs) := by
  have pos : ∀ (n : Nat), decide ((n : Int) < 0) = false := fun n => decide_eq_false (by omega)
  have neg : ∀ (n : Nat), decide (-((n + 1 : Nat) : Int) < 0) = true := fun n => decide_eq_true (by omega)
  have cx : (∃ n : Nat, x = n) ∨ ∃ n : Nat, x = -((n + 1 : Nat) : Int) := by
    rcases Int.lt_or_le x 0 with h | h
    · exact .inr ⟨x.natAbs - 1, by omega⟩
    · exact .inl ⟨x.natAbs, by omega⟩
  have cy : (∃ n : Nat, y = n) ∨ ∃ n : Nat, y = -((n + 1 : Nat) : Int) := by
    rcases Int.lt_or_le y 0 with h | h
    · exact .inr ⟨y.natAbs - 1, by omega⟩
    · exact .inl ⟨y.natAbs, by omega⟩
  rcases cx with ⟨m, rfl⟩ | ⟨m, rfl⟩ <;> rcases cy with ⟨n, rfl⟩ | ⟨n, rfl⟩
  · rw [pos, pos]; exact ⟨rfl, rfl⟩
  · rw [pos, neg, Int.tdiv_neg, Int.tmod_neg, Int.natAbs_neg]; exact ⟨rfl, rfl⟩
  · rw [neg, pos, Int.neg_tdiv, Int.neg_tmod, Int.natAbs_neg]; exact ⟨rfl, rfl⟩
  · rw [neg, neg, Int.neg_tdiv, Int.tdiv_neg, Int.neg_neg, Int.neg_tmod, Int.tmod_neg, Int.natAbs_neg, Int.natAbs_neg]; exact ⟨rfl, rfl⟩
theorem tdiv_floor {x y : Int} (hy : y ≠ 0) :
    (((x.tmod y != 0) = false ∨ (decide (x.tmod y < 0) != decide (y < 0)) = false) → x.tdiv y = x.fdiv y ∧ x.tmod y = x.fmod y) ∧
    ((x.tmod y != 0) = true → (decide (x.tmod y < 0) != decide (y < 0)) = true → x.tdiv y - 1 = x.fdiv y ∧ x.tmod y + y = x.fmod y) := by
  obtain ⟨e1, e2⟩ := tdiv_sgn x y
  have hr : x.tmod y = 0 ↔ x.natAbs % y.natAbs = 0 := by
    rw [e2]
    unfold sgn
    split <;> omega
  have hs : x.tmod y ≠ 0 → decide (x.tmod y < 0) = decide (x < 0) := by
    intro h
    have h' : x.natAbs % y.natAbs ≠ 0 := fun e => h (hr.2 e)
    rw [e2]
    unfold sgn
    cases hx : decide (x < 0) with
    | true =>
      simp only [if_true]
      exact decide_eq_true (by omega)
    | false =>
      simp only [Bool.false_eq_true, if_false]
      exact decide_eq_false (by omega)
  constructor
  · intro h
    have hh : (decide (x < 0) != decide (y < 0)) = false ∨ x.natAbs % y.natAbs = 0 := by
      by_cases h0 : x.tmod y = 0
      · exact .inr (hr.1 h0)
      · rcases h with h | h
        · exact absurd (by simpa using h) h0
        · rw [hs h0] at h; exact .inl h
    have := rdiv_plain (x := x) (y := y) rfl rfl hy hh
    rw [e1, e2]
    exact this
  · intro h1 h2
    have h0 : x.tmod y ≠ 0 := by simpa using h1
    rw [hs h0] at h2
    have := rdiv_right (x := x) (y := y) rfl rfl hy h2 (fun e => h0 (hr.2 e))
    rw [← this.1, ← this.2, e1, e2, h2]
    refine ⟨rfl, ?_⟩
    rw [sgn_val]

set_option maxRecDepth 100000 in
set_option maxHeartbeats 4000000 in
theorem rdiv_short (a b : ByteArray) (m1 m2 : Int) (w : World) (l1 : -100000000000000000 < m1) (l2 : m1 < 100000000000000000) (l3 : -100000000000000000 < m2) (l4 : m2 < 100000000000000000) (h0 : m2 ≠ 0)
    (K1 : Hid (∀ w, Calls Tryz.prog 131 #[.string a] w fun e w' => e = .returned (.tuple #[.int .i64 m1, .bool true]) ∧ Below w.heap.size w w'))
    (K2 : Hid (∀ w, Calls Tryz.prog 131 #[.string b] w fun e w' => e = .returned (.tuple #[.int .i64 m2, .bool true]) ∧ Below w.heap.size w w')) :
    Calls Tryz.prog 127 #[.string a, .string b] w fun e w' => e = .returned (.tuple #[.string (canS (m1.fdiv m2)), .string (canS (m1.fmod m2)), .int .i64 0]) ∧ Below w.heap.size w w' := by
  have q0 : (m2 == 0) = false := by simpa using h0
  obtain ⟨f1, f2⟩ := tdiv_floor (x := m1) (y := m2) h0
  have bq : (m1.tdiv m2).natAbs ≤ m1.natAbs := by rw [Int.natAbs_tdiv]; exact Nat.div_le_self _ _
  have br : (m1.tmod m2).natAbs < m2.natAbs := by rw [Int.natAbs_tmod]; exact Nat.mod_lt _ (by omega)
  have hq0 : wrap64 (m1.tdiv m2) = m1.tdiv m2 := IntWalk.wrap64_in _ (by omega)
  obtain ⟨Q, hQ⟩ : ∃ Q, m1.tdiv m2 = Q := ⟨_, rfl⟩
  obtain ⟨R, hR⟩ : ∃ R, m1.tmod m2 = R := ⟨_, rfl⟩
  have hq : wrap64 (m1.tdiv m2) = Q := hq0.trans hQ
  rw [hQ] at bq f1 f2
  rw [hR] at br f1 f2
  clear hq0 hQ
  obtain ⟨t1, p1⟩ : ∃ t, (R != 0) = t := ⟨_, rfl⟩
  obtain ⟨t2, p2⟩ : ∃ t, (decide (R < 0) != decide (m2 < 0)) = t := ⟨_, rfl⟩
  rw [p1, p2] at f1 f2
  have p2n : (!(decide (R < 0) == decide (m2 < 0))) = t2 := p2
  by_cases hc : t1 = true ∧ t2 = true
  · obtain ⟨rfl, rfl⟩ := hc
    obtain ⟨g1, g2⟩ := f2 rfl rfl
    rw [← g1, ← g2]
    clear f1 f2 g1 g2
    have K3 := Lib.hid (fun w => rof_any (Q - 1) w (by omega) (by omega))
    have K4 := Lib.hid (fun w => rof_any (R + m2) w (by omega) (by omega))
    generalize canS (Q - 1) = r1 at *
    generalize canS (R + m2) = r2 at *
    go_enter Tryz.func127, Tryz.ntmps127
    go_wp2_with fail
    refine (K1.out _).mono ?_
    rintro e w1 ⟨rfl, hb1⟩
    have H1 := Lib.hid hb1
    clear hb1
    go_wp2_with fail
    refine (K2.out _).mono ?_
    rintro e w2 ⟨rfl, hb2⟩
    have H2 := Lib.hid (H1.out.trans (hb2.mono H1.out.size))
    clear hb2
    go_wp2_with fail
    go_quiet (fail)
    simp only [hq]
    clear hq hR
    go_wp2_with fail
    refine (K3.out _).mono ?_
    rintro e w3 ⟨rfl, hb3⟩
    have H3 := Lib.hid ((H2.out.trans (below_drewN _ _ _)).trans (hb3.mono (by have := H2.out.size; exact this)))
    clear hb3
    go_wp2_with fail
    refine (K4.out _).mono ?_
    rintro e w4 ⟨rfl, hb4⟩
    go_wp2_with fail
    go_ret3
    exact ⟨rfl, H3.out.trans (hb4.mono H3.out.size)⟩
  · obtain ⟨g1, g2⟩ := f1 (by cases t1 <;> cases t2 <;> simp at hc ⊢)
    rw [← g1, ← g2]
    clear f1 f2 g1 g2
    have K3 := Lib.hid (fun w => rof_any Q w (by omega) (by omega))
    have K4 := Lib.hid (fun w => rof_any R w (by omega) (by omega))
    generalize canS Q = r1 at *
    generalize canS R = r2 at *
    cases t1 with
    | false =>
      clear p2 p2n
      go_enter Tryz.func127, Tryz.ntmps127
      go_wp2_with fail
      refine (K1.out _).mono ?_
      rintro e w1 ⟨rfl, hb1⟩
      have H1 := Lib.hid hb1
      clear hb1
      go_wp2_with fail
      refine (K2.out _).mono ?_
      rintro e w2 ⟨rfl, hb2⟩
      have H2 := Lib.hid (H1.out.trans (hb2.mono H1.out.size))
      clear hb2
      go_wp2_with fail
      go_quiet (fail)
      simp only [hq]
      clear hq hR
      go_wp2_with fail
      refine (K3.out _).mono ?_
      rintro e w3 ⟨rfl, hb3⟩
      have H3 := Lib.hid ((H2.out.trans (below_drewN _ _ _)).trans (hb3.mono (by have := H2.out.size; exact this)))
      clear hb3
      go_wp2_with fail
      refine (K4.out _).mono ?_
      rintro e w4 ⟨rfl, hb4⟩
      go_wp2_with fail
      go_ret3
      exact ⟨rfl, H3.out.trans (hb4.mono H3.out.size)⟩
    | true =>
      obtain rfl : t2 = false := by cases t2 <;> simp at hc ⊢
      go_enter Tryz.func127, Tryz.ntmps127
      go_wp2_with fail
      refine (K1.out _).mono ?_
      rintro e w1 ⟨rfl, hb1⟩
      have H1 := Lib.hid hb1
      clear hb1
      go_wp2_with fail
      refine (K2.out _).mono ?_
      rintro e w2 ⟨rfl, hb2⟩
      have H2 := Lib.hid (H1.out.trans (hb2.mono H1.out.size))
      clear hb2
      go_wp2_with fail
      go_quiet (fail)
      simp only [hq]
      clear hq hR
      go_wp2_with fail
      refine (K3.out _).mono ?_
      rintro e w3 ⟨rfl, hb3⟩
      have H3 := Lib.hid ((H2.out.trans (below_drewN _ _ _)).trans (hb3.mono (by have := H2.out.size; exact this)))
      clear hb3
      go_wp2_with fail
      refine (K4.out _).mono ?_
      rintro e w4 ⟨rfl, hb4⟩
      go_wp2_with fail
      go_ret3
      exact ⟨rfl, H3.out.trans (hb4.mono H3.out.size)⟩
end Go.Proofs.YtpipkeplhkccoaaGreatDoor
