/- Integer: the contract of Power. Conditions: sizes below 2^26; the table of powers lies as the program's text lays it. -/
import Derived.Test.YtonopbelbehheaaGreatDoorApiC
namespace Go.Proofs.YtonopbelbehheaaGreatDoor
open Go.RowKit Go.Shelf Dec
attribute [local go_sem ↓] Go.wp_at_zero Go.wp_at_succ

/-- what Power hands back -/
def powR (x n : Int) : ByteArray × Int := if n < 0 ∨ 400 < n then (⟨#[]⟩, 2) else (canS (x ^ n.toNat), 0)
theorem len_pow {m L : Nat} (h : (mag m).length ≤ L) : ∀ p, (mag (m ^ p)).length ≤ L * p + 1 := by
  intro p
  rw [mag_len_lt] at h ⊢
  have h1 : m ^ p ≤ (BB ^ L) ^ p := Nat.pow_le_pow_left (Nat.le_of_lt h) p
  rw [← Nat.pow_mul] at h1
  have h2 : BB ^ (L * p) < BB ^ (L * p + 1) := Nat.pow_lt_pow_right (by decide) (by omega)
  omega
theorem sgn_pow (x : Int) (n : Nat) : sgn (decide (x < 0) && decide (n % 2 = 1)) (x.natAbs ^ n) = x ^ n := by
  have key : ∀ k : Nat, ((x.natAbs ^ k : Nat) : Int) = (x.natAbs : Int) ^ k := fun k => Int.natCast_pow _ _
  unfold sgn
  rw [key]
  by_cases hx : x < 0
  · rw [show (x.natAbs : Int) = -x by omega]
    by_cases hn : n % 2 = 1
    · obtain ⟨j, rfl⟩ : ∃ j, n = 2 * j + 1 := ⟨n / 2, by omega⟩
      simp only [hx, hn, decide_true, Bool.and_self, if_true]
      rw [Int.pow_succ, Int.pow_succ, Int.pow_mul, Int.pow_mul, show (-x) ^ 2 = x ^ 2 by rw [Int.pow_succ, Int.pow_succ, Int.pow_succ, Int.pow_succ, Int.pow_zero, Int.pow_zero, Int.one_mul, Int.one_mul, Int.neg_mul_neg], Int.mul_neg, Int.neg_neg]
    · obtain ⟨j, rfl⟩ : ∃ j, n = 2 * j := ⟨n / 2, by omega⟩
      simp only [hn, decide_false, Bool.and_false, Bool.false_eq_true, if_false]
      rw [Int.pow_mul, Int.pow_mul, show (-x) ^ 2 = x ^ 2 by rw [Int.pow_succ, Int.pow_succ, Int.pow_succ, Int.pow_succ, Int.pow_zero, Int.pow_zero, Int.one_mul, Int.one_mul, Int.neg_mul_neg]]
  · simp only [hx, decide_false, Bool.false_and, Bool.false_eq_true, if_false]
    rw [show (x.natAbs : Int) = x by omega]
theorem pow_len {m L p : Nat} (h : (mag m).length = L) (hL : L ≤ 67108864) (hp : p ≤ 400) : (mag (m ^ p)).length ≤ 30000000000 := by
  have h1 := len_pow (Nat.le_of_eq h) p
  have h2 : L * p ≤ L * 400 := Nat.mul_le_mul_left _ hp
  omega
/-- what the loop of Power keeps -/
def PowIs (W : World) (m n k p q : Nat) (A A' : Option Addr) (l l' c c' : Nat) (wr : World) : Prop :=
  q + p * k = n ∧ (1 ≤ k → p ≤ n) ∧ q ≤ n ∧ (mag (m ^ q)).length = l ∧ (mag (m ^ p)).length = l' ∧ MagS wr A c (m ^ q) ∧ MagS wr A' c' (m ^ p) ∧ Below W.heap.size W wr
theorem pow_odd {n k p q : Nat} (h : q + p * k = n) (ho : k % 2 = 1) : (q + p) + (p + p) * (k / 2) = n := by
  obtain ⟨j, rfl⟩ : ∃ j, k = 2 * j + 1 := ⟨k / 2, by omega⟩
  rw [show (2 * j + 1) / 2 = j by omega]
  subst h
  grind
theorem pow_even {n k p q : Nat} (h : q + p * k = n) (ho : ¬ k % 2 = 1) : q + (p + p) * (k / 2) = n := by
  obtain ⟨j, rfl⟩ : ∃ j, k = 2 * j := ⟨k / 2, by omega⟩
  rw [show (2 * j) / 2 = j by omega]
  subst h
  grind
theorem pow_le {n k p q : Nat} (h : q + p * k = n) (hk : 1 ≤ k) : p ≤ n := by
  have : p * 1 ≤ p * k := Nat.mul_le_mul_left _ hk
  omega

set_option maxRecDepth 100000 in
set_option maxHeartbeats 4000000 in
theorem Power_out (a : ByteArray) (n : Int) (w : World) (hn : n < 0 ∨ 400 < n) :
    Calls Tryz.prog 21 #[.string a, .int .i64 n] w fun e w' => e = .returned (.tuple #[.string (powR (valS a) n).1, .int .i64 (powR (valS a) n).2]) ∧ Below w.heap.size w w' := by
  have HE : Hid (powR (valS a) n = (⟨#[]⟩, 2)) := by show _ = _; unfold powR; rw [if_pos hn]
  by_cases h : n < 0
  · have q : decide (n < 0) = true := decide_eq_true h
    go_enter Tryz.func21, Tryz.ntmps21
    go_wp2_with fail
    go_ret2
    exact ⟨ret_pi (by rw [HE.out]), Below.refl _ _⟩
  · have q : decide (n < 0) = false := decide_eq_false h
    have q2 : decide ((400 : Int) < n) = true := decide_eq_true (by omega)
    go_enter Tryz.func21, Tryz.ntmps21
    go_wp2_with fail
    go_ret2
    exact ⟨ret_pi (by rw [HE.out]), Below.refl _ _⟩

set_option maxRecDepth 100000 in
set_option maxHeartbeats 8000000 in
theorem Power_in (a : ByteArray) (n : Nat) (w : World) (hn : n ≤ 400) (ha : a.size ≤ 67108864) (hg : Gl w) :
    Calls Tryz.prog 21 #[.string a, .int .i64 (n : Int)] w fun e w' => e = .returned (.tuple #[.string (canS (valS a ^ n)), .int .i64 0]) ∧ Below w.heap.size w w' := by
  have Hg := Lib.hid hg
  clear hg
  obtain ⟨na, hda⟩ : ∃ na, decide (valS a < 0) = na := ⟨_, rfl⟩
  have HR1 : Hid (∀ w, Calls Tryz.prog 70 #[.string a] w fun e w' => ∃ A n c, e = .returned (.agg #[.bool na, .slice A n c]) ∧ (mag (valS a).natAbs).length = n ∧ MagS w' A c (valS a).natAbs ∧ n ≤ a.size ∧ Below w.heap.size w w') := by
    intro w; rw [← hda]; exact read' a w (by omega)
  have HZ := Lib.hid (sgn_pow (valS a) n)
  rw [hda] at HZ
  clear hda
  generalize valS a = x at *
  have q0 : decide ((n : Int) < 0) = false := decide_eq_false (by omega)
  have q1 : decide ((400 : Int) < (n : Int)) = false := decide_eq_false (by omega)
  go_enter Tryz.func21, Tryz.ntmps21
  go_wp2_with fail
  refine (HR1.out _).mono ?_
  rintro e w1 ⟨A1, L, c1, rfl, hn1, hm1, hl1, hb1⟩
  have Hn1 := Lib.hid hn1
  obtain ⟨W, hW⟩ : ∃ W, w1.alloc (.cells #[.bool na, .slice A1 L c1] 89) = W := ⟨_, rfl⟩
  have hbw : Below w1.heap.size w1 W := by rw [← hW]; exact (Below.refl _ _).alloc (Nat.le_refl _) _
  have c0 : W.cell? ⟨w1.heap.size, 0, none⟩ = some (.bool na) := by rw [← hW]; unfold World.cell?; rw [heap_new]; rfl
  have c1' : W.cell? ⟨w1.heap.size, 1, none⟩ = some (.slice A1 L c1) := by rw [← hW]; unfold World.cell?; rw [heap_new]; rfl
  have Hsz : Hid (w1.heap.size < W.heap.size) := by show _ < _; rw [← hW, World.size_alloc]; omega
  have Hm1 := Lib.hid (hm1.up hbw)
  have Hb1 : Hid (Below w.heap.size w W) := hb1.trans (hbw.mono hb1.size)
  have HW := Lib.hid hW
  clear hn1 hm1 hb1 hbw hW q0 q1
  go_wp2_with fail
  rw [HW.out]
  clear HW
  obtain ⟨B, hB⟩ : ∃ B, w1.heap.size = B := ⟨_, rfl⟩
  rw [hB] at c0 c1' Hsz ⊢
  clear hB
  go_region_held3 (fun w' => w'.cell? ⟨B, 1, none⟩ = some (.slice A1 L c1)) (first | (go_keep; done) | (rw [World.cell?_alloc_lt _ _ _ (by exact Hsz.out)]; exact c1')) (fail)
  go_wp2_with fail
  have HS : Hid (PowIs W x.natAbs n n 1 0 (some ⟨W.heap.size, 0, none⟩) A1 1 L 1 c1 (W.alloc (.cells #[.int .u64 1] 94)).drew) := by
    have hone : mag 1 = [1] := mag_one (by decide) (by decide)
    have hbn : Below W.heap.size W (W.alloc (.cells #[.int .u64 1] 94)).drew := ((Below.refl _ _).alloc (Nat.le_refl _) _).drew
    refine ⟨by omega, fun h => h, by omega, by rw [Nat.pow_zero, hone]; rfl, by rw [Nat.pow_one]; exact Hn1.out, ?_, ?_, hbn⟩
    · rw [Nat.pow_zero]
      refine ⟨?_, by rw [hone]; exact Nat.le_refl _, by omega⟩
      rw [hone]
      have := mg_new W [1]
      rw [← World.size_alloc W (.cells #[.int .u64 1] 94)] at this
      exact this
    · rw [Nat.pow_one]
      exact Hm1.out.up hbn
  have hL : L ≤ 67108864 := by omega
  go_loopw [9, 7, 8] (fun s o r wr => ∃ (k p q : Nat) (A A' : Option Addr) (l l' c c' : Nat), k ≤ n ∧ s = .int .i64 (k : Int) ∧ o = .slice A l c ∧ r = .slice A' l' c' ∧ Hid (PowIs W x.natAbs n k p q A A' l l' c c' wr)) (fun s _ _ _ => (intOf s).toNat)
  case atStart => exact ⟨n, 1, 0, _, A1, 1, L, 1, c1, Nat.le_refl _, rfl, rfl, rfl, HS.out⟩
  case round =>
    obtain ⟨k, p, q, A, A', l, l', c, c', hk, rfl, rfl, rfl, H⟩ := hrel
    clear HS
    by_cases hk0 : k = 0
    · subst hk0
      have hqn : q = n := by have := H.out.1; omega
      have HQ : Hid ((mag (x.natAbs ^ n)).length = l ∧ MagS wr A c (x.natAbs ^ n)) := by
        have h := H.out
        rw [hqn] at h
        exact ⟨h.2.2.2.1, h.2.2.2.2.2.1⟩
      have d0 : wr.cell? ⟨B, 0, none⟩ = some (.bool na) := (H.out.2.2.2.2.2.2.2.cell (p := ⟨B, 0, none⟩) Hsz.out).trans c0
      have hll : l ≤ 30000000000 := by rw [← HQ.out.1]; exact pow_len Hn1.out hL hn
      have Hb3 : Hid (Below w.heap.size w wr) := Hb1.out.trans (H.out.2.2.2.2.2.2.2.mono Hb1.out.size)
      clear hqn
      obtain ⟨sg, hsg⟩ : ∃ sg, (na && decide (n % 2 = 1)) = sg := ⟨_, rfl⟩
      rw [hsg] at HZ
      cases na with
      | true =>
        by_cases ho : n % 2 = 1
        · have q2 : ((n : Int) % 2 == 1) = true := by simp; omega
          obtain rfl : sg = true := by rw [← hsg]; simp [ho]
          clear hsg ho
          go_wp2_with fail
          refine (text' true A c l _ _ HQ.out.1 HQ.out.2 (by omega) (Hg.out.below Hb3.out)).mono ?_
          rintro e w4 ⟨rfl, hb4⟩
          go_wp2_with fail
          go_ret2
          exact ⟨by rw [← HZ.out]; rfl, Hb3.out.trans (hb4.mono Hb3.out.size)⟩
        · have q2 : ((n : Int) % 2 == 1) = false := by simp; omega
          obtain rfl : sg = false := by rw [← hsg]; simp [ho]
          clear hsg ho
          go_wp2_with fail
          refine (text' false A c l _ _ HQ.out.1 HQ.out.2 (by omega) (Hg.out.below Hb3.out)).mono ?_
          rintro e w4 ⟨rfl, hb4⟩
          go_wp2_with fail
          go_ret2
          exact ⟨by rw [← HZ.out]; rfl, Hb3.out.trans (hb4.mono Hb3.out.size)⟩
      | false =>
        obtain rfl : sg = false := by rw [← hsg]; rfl
        clear hsg
        go_wp2_with fail
        refine (text' false A c l _ _ HQ.out.1 HQ.out.2 (by omega) (Hg.out.below Hb3.out)).mono ?_
        rintro e w4 ⟨rfl, hb4⟩
        go_wp2_with fail
        go_ret2
        exact ⟨by rw [← HZ.out]; rfl, Hb3.out.trans (hb4.mono Hb3.out.size)⟩
    · have hk1 : 1 ≤ k := by omega
      have hpn : p ≤ 400 := Nat.le_trans (H.out.2.1 hk1) hn
      have hqn : q ≤ 400 := Nat.le_trans H.out.2.2.1 hn
      have hl1 : l ≤ 30000000000 := by rw [← H.out.2.2.2.1]; exact pow_len Hn1.out hL hqn
      have hl2 : l' ≤ 30000000000 := by rw [← H.out.2.2.2.2.1]; exact pow_len Hn1.out hL hpn
      clear hk0 hpn hqn
      by_cases ho : k % 2 = 1
      · have q2 : ((k : Int) % 2 == 1) = true := by simp; omega
        have Hodd := Lib.hid (pow_odd H.out.1 ho)
        by_cases hk2 : 1 < k
        · clear ho
          go_wp2_with fail
          refine (times' A A' c c' l l' _ _ _ H.out.2.2.2.1 H.out.2.2.2.2.1 H.out.2.2.2.2.2.1.1 H.out.2.2.2.2.2.2.1.1 (by omega) (by omega)).mono ?_
          rintro e w3 ⟨A3, l3, c3, rfl, hl3, hm3, hl4, hb3⟩
          rw [← Nat.pow_add] at hl3 hm3
          have Hl3 := Lib.hid hl3
          have Hm3 := Lib.hid hm3
          have Hb3 := Lib.hid hb3
          have Hsq := Lib.hid (H.out.2.2.2.2.2.2.1.up hb3)
          clear hl3 hm3 hb3
          go_wp2_with fail
          refine (times' A' A' c' c' l' l' _ _ _ H.out.2.2.2.2.1 H.out.2.2.2.2.1 Hsq.out.1 Hsq.out.1 (by omega) (by omega)).mono ?_
          rintro e w4 ⟨A4, l4', c4, rfl, hl5, hm5, hl6, hb4⟩
          rw [← Nat.pow_add] at hl5 hm5
          have Hl5 := Lib.hid hl5
          have Hm5 := Lib.hid hm5
          have Hb4 := Lib.hid hb4
          clear hl5 hm5 hb4
          go_wp2_with fail
          go_roundw
          case rel =>
            refine ⟨k / 2, p + p, q + p, A3, A4, l3, l4', c3, c4, by omega, by go_num, rfl, rfl, Hodd.out, fun h => pow_le Hodd.out h, by have := Hodd.out; omega, Hl3.out, Hl5.out, Hm3.out.up Hb4.out, Hm5.out, ?_⟩
            exact (H.out.2.2.2.2.2.2.2.trans (Hb3.out.mono H.out.2.2.2.2.2.2.2.size)).trans (Hb4.out.mono (Nat.le_trans H.out.2.2.2.2.2.2.2.size Hb3.out.size))
          case measure => simp [intOf]; omega
        · obtain rfl : k = 1 := by omega
          clear ho
          go_wp2_with fail
          refine (times' A A' c c' l l' _ _ _ H.out.2.2.2.1 H.out.2.2.2.2.1 H.out.2.2.2.2.2.1.1 H.out.2.2.2.2.2.2.1.1 (by omega) (by omega)).mono ?_
          rintro e w3 ⟨A3, l3, c3, rfl, hl3, hm3, hl4, hb3⟩
          rw [← Nat.pow_add] at hl3 hm3
          have Hl3 := Lib.hid hl3
          have Hm3 := Lib.hid hm3
          have Hb3 := Lib.hid hb3
          clear hl3 hm3 hb3
          go_wp2_with fail
          go_roundw
          case rel =>
            refine ⟨0, p, q + p, A3, A', l3, l', c3, c', by omega, rfl, rfl, rfl, by have := H.out.1; omega, fun h => by omega, by have := H.out.1; omega, Hl3.out, H.out.2.2.2.2.1, Hm3.out, H.out.2.2.2.2.2.2.1.up Hb3.out, ?_⟩
            exact H.out.2.2.2.2.2.2.2.trans (Hb3.out.mono H.out.2.2.2.2.2.2.2.size)
          case measure => simp [intOf]
      · have q2 : ((k : Int) % 2 == 1) = false := by simp; omega
        have hk2 : 1 < k := by omega
        have Hev := Lib.hid (pow_even H.out.1 ho)
        clear ho
        go_wp2_with fail
        refine (times' A' A' c' c' l' l' _ _ _ H.out.2.2.2.2.1 H.out.2.2.2.2.1 H.out.2.2.2.2.2.2.1.1 H.out.2.2.2.2.2.2.1.1 (by omega) (by omega)).mono ?_
        rintro e w4 ⟨A4, l4', c4, rfl, hl5, hm5, hl6, hb4⟩
        rw [← Nat.pow_add] at hl5 hm5
        have Hl5 := Lib.hid hl5
        have Hm5 := Lib.hid hm5
        have Hb4 := Lib.hid hb4
        clear hl5 hm5 hb4
        go_wp2_with fail
        go_roundw
        case rel =>
          refine ⟨k / 2, p + p, q, A, A4, l, l4', c, c4, by omega, by go_num, rfl, rfl, Hev.out, fun h => pow_le Hev.out h, H.out.2.2.1, H.out.2.2.2.1, Hl5.out, H.out.2.2.2.2.2.1.up Hb4.out, Hm5.out, ?_⟩
          exact H.out.2.2.2.2.2.2.2.trans (Hb4.out.mono H.out.2.2.2.2.2.2.2.size)
        case measure => simp [intOf]; omega
theorem Power_any (a : ByteArray) (n : Int) (w : World) (ha : a.size ≤ 67108864) (hg : Gl w) :
    Calls Tryz.prog 21 #[.string a, .int .i64 n] w fun e w' => e = .returned (.tuple #[.string (powR (valS a) n).1, .int .i64 (powR (valS a) n).2]) ∧ Below w.heap.size w w' := by
  by_cases h : n < 0 ∨ 400 < n
  · exact Power_out a n w h
  · obtain ⟨k, rfl⟩ : ∃ k : Nat, n = k := ⟨n.toNat, by omega⟩
    have e : powR (valS a) (k : Int) = (canS (valS a ^ k), 0) := by unfold powR; rw [if_neg h]; rfl
    rw [e]
    exact Power_in a k w (by omega) ha hg
end Go.Proofs.YtonopbelbehheaaGreatDoor
