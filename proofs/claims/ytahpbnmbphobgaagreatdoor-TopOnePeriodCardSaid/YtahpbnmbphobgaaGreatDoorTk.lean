/- Contracts for the returns over one period: digits, powers 0 and 1 of a fraction, anchors. Conditions: sizes; the library's table and error lie as the program's text lays them. -/
import Derived.Test.YtahpbnmbphobgaaGreatDoorTg
import Derived.Test.YtahpbnmbphobgaaGreatDoorDh
import Derived.Test.YtahpbnmbphobgaaGreatDoorUa
import Derived.Test.YtahpbnmbphobgaaGreatDoorAw
import Derived.Test.YtahpbnmbphobgaaGreatDoorRdd
import Derived.Test.YtahpbnmbphobgaaGreatDoorRfg
namespace Go.Proofs.YtahpbnmbphobgaaGreatDoor
open Go.RowKit Go.Shelf Dec QQ

/-- the digits of a text -/
def dgN (a : ByteArray) : Nat := if h : 0 < a.size then (if a[0] = 45 then a.size - 1 else a.size) else 0
theorem dgN_le (a : ByteArray) : dgN a ≤ a.size := by
  unfold dgN
  split
  · split <;> omega
  · omega
set_option maxRecDepth 100000 in
set_option maxHeartbeats 4000000 in
theorem rdigN {a : ByteArray} (h : a.size ≤ 1000) : Ret 18 #[.string a] (.int .i64 (dgN a : Nat)) := by
  by_cases h0 : 0 < a.size
  · have q0 : decide ((0 : Int) < (a.size : Int)) = true := decide_eq_true (by omega)
    cases h1 : ((a[0].toNat : Int) == 45) with
    | true =>
      have e : dgN a = a.size - 1 := by
        unfold dgN
        rw [dif_pos h0, if_pos]
        have : a[0].toNat = 45 := by have := eq_of_beq h1; omega
        exact UInt8.toNat_inj.1 (by rw [this]; rfl)
      have e2 : ((dgN a : Nat) : Int) = (a.size : Int) - 1 := by omega
      rw [e2]
      clear e e2
      intro w hg
      have hs := St.refl hg
      go_enter Tryz.func18, Tryz.ntmps18
      go_wp2_with fail
      go_ret
      exact ⟨rfl, hs.2⟩
    | false =>
      have e : dgN a = a.size := by
        unfold dgN
        rw [dif_pos h0, if_neg]
        intro e
        rw [e] at h1
        simp at h1
      rw [e]
      clear e
      intro w hg
      have hs := St.refl hg
      go_enter Tryz.func18, Tryz.ntmps18
      go_wp2_with fail
      go_ret
      exact ⟨rfl, hs.2⟩
  · have hz : a.size = 0 := by omega
    have e : dgN a = 0 := by unfold dgN; rw [dif_neg h0]
    rw [e]
    clear e
    intro w hg
    have hs := St.refl hg
    go_enter Tryz.func18, Tryz.ntmps18
    go_wp2_with fail
    go_ret
    exact ⟨rfl, hs.2⟩
set_option maxRecDepth 100000 in
set_option maxHeartbeats 4000000 in
theorem longN {a : ByteArray} (h : a.size ≤ 1000) : Ret 61 #[.string a] (.bool (decide (40 < dgN a))) := by
  by_cases h0 : 0 < a.size
  · have q0 : decide ((0 : Int) < (a.size : Int)) = true := decide_eq_true (by omega)
    cases h1 : ((a[0].toNat : Int) == 45) with
    | true =>
      have e : dgN a = a.size - 1 := by
        unfold dgN
        rw [dif_pos h0, if_pos]
        have : a[0].toNat = 45 := by have := eq_of_beq h1; omega
        exact UInt8.toNat_inj.1 (by rw [this]; rfl)
      have e2 : decide ((40 : Int) < (a.size : Int) - 1) = decide (40 < dgN a) := by rw [decide_eq_decide]; omega
      generalize decide (40 < dgN a) = t at *
      clear e
      intro w hg
      have hs := St.refl hg
      go_enter Tryz.func61, Tryz.ntmps61
      go_wp2_with fail
      go_ret
      exact ⟨rfl, hs.2⟩
    | false =>
      have e : dgN a = a.size := by
        unfold dgN
        rw [dif_pos h0, if_neg]
        intro e
        rw [e] at h1
        simp at h1
      have e2 : decide ((40 : Int) < (a.size : Int)) = decide (40 < dgN a) := by rw [decide_eq_decide]; omega
      generalize decide (40 < dgN a) = t at *
      clear e
      intro w hg
      have hs := St.refl hg
      go_enter Tryz.func61, Tryz.ntmps61
      go_wp2_with fail
      go_ret
      exact ⟨rfl, hs.2⟩
  · have hz : a.size = 0 := by omega
    have e : dgN a = 0 := by unfold dgN; rw [dif_neg h0]
    rw [e]
    clear e
    intro w hg
    have hs := St.refl hg
    go_enter Tryz.func61, Tryz.ntmps61
    go_wp2_with fail
    go_ret
    exact ⟨rfl, hs.2⟩
theorem pow1 (z : Int) : z ^ 1 = z := by rw [show (1 : Nat) = 0 + 1 from rfl, Int.pow_succ, Int.pow_zero, Int.one_mul]
theorem PowR {a : ByteArray} {x : Int} (h1 : Vs a x) {n : Nat} (hn : n ≤ 400) : Ret 31 #[.string a, .int .i64 (n : Int)] (.tuple #[.string (canS (x ^ n)), .int .i64 0]) := fun w hg => by
  have := Power_any a n w (by have := h1.2; omega) hg
  have e : powR (valS a) (n : Int) = (canS (x ^ n), 0) := by
    unfold powR
    rw [if_neg (by omega), h1.1]
    rfl
  rw [e] at this
  exact this
set_option maxRecDepth 100000 in
set_option maxHeartbeats 4000000 in
theorem PowF {n d : ByteArray} {q r : Rat} {k m : Nat} (h : Vq n d q) (hq : FitQ m q) (hm : m ≤ 9000) (hk : k ≤ 1) (hr : rat (q.num ^ k) ((q.den : Int) ^ k) = r) : Ret 119 #[FV n d, .int .i64 (k : Int)] (.tuple #[FR r, .int .i64 0]) := by
  intro w hg
  have hs := ((St.refl hg).alloc (.cells #[.string n, .string d] 32)).alloc (.cells #[.string ⟨#[]⟩, .string ⟨#[]⟩] 32)
  have XF := Bx.new1 w (.cells #[.string n, .string d] 32) #[.string ⟨#[]⟩, .string ⟨#[]⟩] 32
  have XA := (Bx.new w #[.string n, .string d] 32).alloc (.cells #[.string ⟨#[]⟩, .string ⟨#[]⟩] 32)
  have K1 := PartsF h
  have hm1 := hq.pos
  have f1 : Vs (canS q.num) q.num := Vs.can (k := m) hq.1 (by omega)
  have f2 : Vs (canS (q.den : Int)) (q.den : Int) := Vs.can (k := m) (show (q.den : Int).natAbs < 10 ^ m from hq.2) (by omega)
  have K2 := PowR f1 (n := k) (by omega)
  have K3 := PowR f2 (n := k) (by omega)
  have g1 : Vs (canS (q.num ^ k)) (q.num ^ k) ∧ (canS (q.num ^ k)).size ≤ 999999 := by
    have h0 : (q.num ^ k).natAbs < 10 ^ m := by
      rcases Nat.le_one_iff_eq_zero_or_eq_one.1 hk with e | e <;> subst e
      · rw [show q.num ^ 0 = 1 by simp]; exact Nat.one_lt_pow (by omega) (by omega)
      · rw [pow1]; exact hq.1
    exact ⟨Vs.can h0 (by omega), by have := size_canS h0; omega⟩
  have g2 : Vs (canS ((q.den : Int) ^ k)) ((q.den : Int) ^ k) ∧ (canS ((q.den : Int) ^ k)).size ≤ 999999 := by
    have h0 : ((q.den : Int) ^ k).natAbs < 10 ^ m := by
      rcases Nat.le_one_iff_eq_zero_or_eq_one.1 hk with e | e <;> subst e
      · rw [show (q.den : Int) ^ 0 = 1 by simp]; exact Nat.one_lt_pow (by omega) (by omega)
      · rw [pow1]; exact hq.2
    exact ⟨Vs.can h0 (by omega), by have := size_canS h0; omega⟩
  have hd : ((q.den : Int) ^ k) ≠ 0 := by
    rcases Nat.le_one_iff_eq_zero_or_eq_one.1 hk with e | e <;> subst e
    · rw [show (q.den : Int) ^ 0 = 1 by simp]; omega
    · rw [pow1]; exact nz q
  have K4 := made_any g1.1 g2.1 g1.2 g2.2 hd
  rw [hr] at K4
  have q1 : decide ((k : Int) < -400) = false := decide_eq_false (by omega)
  have q2 : decide ((400 : Int) < (k : Int)) = false := decide_eq_false (by omega)
  have q3 : decide ((k : Int) < 0) = false := decide_eq_false (by omega)
  clear h hq hr hm hm1 f1 f2 g1 g2 hd
  generalize canS (q.num ^ k) = s1 at *
  generalize canS ((q.den : Int) ^ k) = s2 at *
  generalize canS q.num = s3 at *
  generalize canS (q.den : Int) = s4 at *
  unfold FV at *
  unfold FR at *
  generalize frN r = a1 at *
  generalize frD r = a2 at *
  go_enter Tryz.func119, Tryz.ntmps119
  go_wp2_with fail
  refine K1.step hs ?_
  intro w1 hs hb
  have XF := XF.on hb
  go_wp2_with fail
  refine K2.step hs ?_
  intro w2 hs hb
  have XF := XF.on hb
  go_wp2_with fail
  refine K3.step hs ?_
  intro w3 hs hb
  have XF := XF.on hb
  go_wp2_with fail
  refine K4.step hs ?_
  intro w4 hs hb
  have XF := XF.on hb
  have xB0 := XF.cell (i := 0) (v := .string ⟨#[]⟩) rfl
  have fB0 := XF.frozen 0
  have xB1 := XF.cell (i := 1) (v := .string ⟨#[]⟩) rfl
  have fB1 := XF.frozen 1
  go_wp2_with fail
  have B6 := (XF.set 0 (.string a1)).set 1 (.string a2)
  have y0 := B6.cell (i := 0) (v := .string a1) rfl
  have y1 := B6.cell (i := 1) (v := .string a2) rfl
  have hs5 := (hs.set (b := w.heap.size + 1) (by omega) 0 (.string a1)).set (b := w.heap.size + 1) (by omega) 1 (.string a2)
  exact bodyPost_ret (v := .tuple #[.agg #[.string a1, .string a2], .int .i64 0]) (by simp [results, Tryz.results119, go_sem, y0, y1]) rfl ⟨rfl, hs5.2⟩
set_option maxRecDepth 100000 in
set_option maxHeartbeats 4000000 in
theorem Aw44 : Ret 14 #[] (.bool true) := by
  intro w hg
  have hs := St.refl hg
  have K1 := awake44
  go_enter Tryz.func14, Tryz.ntmps14
  go_wp2_with fail
  refine K1.step hs ?_
  intro w1 hs hb
  go_wp2_with fail
  go_ret
  exact ⟨rfl, hs.2⟩
theorem Gt60 {a : ByteArray} (h : a.size ≤ 9223372036854775807) : Ret 15 #[.string a] (.bool (big a)) := fun w _ => (Great_any a w h).mono fun e w' ⟨h1, h2⟩ => ⟨h1, by subst h2; exact Below.refl _ _⟩
end Go.Proofs.YtahpbnmbphobgaaGreatDoor
