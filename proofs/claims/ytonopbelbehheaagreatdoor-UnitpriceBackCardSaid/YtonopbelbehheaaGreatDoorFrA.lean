/- Fraction: contracts of reduced, made, parts. Conditions: strings of up to a million bytes. -/
import Derived.Test.YtonopbelbehheaaGreatDoorIr
import Derived.Test.YtonopbelbehheaaGreatDoorRefF
import Derived.Handy
namespace Go.Proofs.YtonopbelbehheaaGreatDoor
open Go.RowKit Go.Shelf Dec QQ

theorem fit_of_Vs {a : ByteArray} {x : Int} (h : Vs a x) : Fit 1000000 x := by rw [← h.1]; exact Fit.val h.2
theorem cmpI_lt {x y : Int} : decide (cmpI x y < 0) = decide (x < y) := by
  unfold cmpI
  split
  · simp [*]
  · split <;> simp [*]
theorem cmpI_eq {x y : Int} : (cmpI x y == 0) = decide (x = y) := by
  unfold cmpI
  split
  · simp; omega
  · split <;> simp [*]
theorem gcd_ne {x y : Int} (h : y ≠ 0) : ((Nat.gcd x.natAbs y.natAbs : Nat) : Int) ≠ 0 := by
  have : 0 < Nat.gcd x.natAbs y.natAbs := Nat.gcd_pos_of_pos_right _ (by omega)
  omega
theorem Vs.can' {a : ByteArray} {x z : Int} (h : Vs a x) (hz : z.natAbs ≤ x.natAbs) (hs : a.size ≤ 999999) : Vs (canS z) z :=
  Vs.can (k := 999999) (Nat.lt_of_le_of_lt hz (by have := Fit.val (a := a) hs; rw [h.1] at this; exact this)) (Nat.le_refl _)
/-- the greatest common divisor of two strings of known values is again one -/
theorem Vs.gcd {b : ByteArray} {x y : Int} (h : Vs b y) (hb : b.size ≤ 999999) (hy : y ≠ 0) : Vs (canS (Nat.gcd x.natAbs y.natAbs : Nat)) (Nat.gcd x.natAbs y.natAbs : Nat) :=
  h.can' (by rw [Int.natAbs_natCast]; exact Nat.le_of_dvd (by omega) (Nat.gcd_dvd_right _ _)) hb

set_option maxHeartbeats 1000000 in
theorem reduced_any {n d : ByteArray} {x y : Int} (h1 : Vs n x) (h2 : Vs d y) (s1 : n.size ≤ 999999) (s2 : d.size ≤ 999999) (hy : y ≠ 0) :
    Ret 159 #[.string n, .string d] (.tuple #[.string (canS (rat x y).num), .string (canS (rat x y).den)]) := by
  intro w hg
  have hs := St.refl hg
  have K1 := CmpR h2 Vs.nil
  by_cases hneg : y < 0
  · have q : decide (cmpI y 0 < 0) = true := by rw [cmpI_lt]; simpa using hneg
    have v1 : Vs (canS (-x)) (-x) := h1.can' (by omega) s1
    have v2 : Vs (canS (-y)) (-y) := h2.can' (by omega) s2
    have K2 := NegR h1
    have K3 := NegR h2
    have K4 := GcdR v1 v2
    have v3 : Vs (canS (Nat.gcd (-x).natAbs (-y).natAbs : Nat)) (Nat.gcd (-x).natAbs (-y).natAbs : Nat) := h2.can' (by rw [Int.natAbs_natCast]; exact Nat.le_trans (Nat.le_of_dvd (by omega) (Nat.gcd_dvd_right _ _)) (by omega)) s2
    have K5 := DivR v1 v3 (gcd_ne (by omega))
    have K6 := DivR v2 v3 (gcd_ne (by omega))
    have e1 := Lib.hid (rat_num (n := -x) (d := -y) (by omega))
    have e2 := Lib.hid (rat_den (n := -x) (d := -y) (by omega))
    rw [rat_neg x y hy] at e1 e2
    rw [← e1.out] at K5
    rw [← e2.out] at K6
    generalize canS (rat x y).num = rn at *
    generalize canS (rat x y).den = rd at *
    clear e1 e2
    generalize canS (Nat.gcd (-x).natAbs (-y).natAbs : Nat) = g at *
    generalize cmpI y 0 = c at *
    generalize canS (-x) = m at *
    generalize canS (-y) = k at *
    go_enter Tryz.func159, Tryz.ntmps159
    go_wp2_with fail
    refine K1.step hs ?_
    intro w1 hs _
    go_wp2_with fail
    refine K2.step hs ?_
    intro w1 hs _
    go_wp2_with fail
    refine K3.step hs ?_
    intro w1 hs _
    go_wp2_with fail
    refine K4.step hs ?_
    intro w1 hs _
    go_wp2_with fail
    refine K5.step hs ?_
    intro w1 hs _
    go_wp2_with fail
    refine K6.step hs ?_
    intro w1 hs _
    go_wp2_with fail
    go_ret2
    exact ⟨rfl, hs.2⟩
  · have q : decide (cmpI y 0 < 0) = false := by rw [cmpI_lt]; simpa using hneg
    have K4 := GcdR h1 h2
    have v3 := h2.gcd (x := x) s2 hy
    have K5 := DivR h1 v3 (gcd_ne hy)
    have K6 := DivR h2 v3 (gcd_ne hy)
    have e1 := Lib.hid (rat_num (n := x) (d := y) (by omega))
    have e2 := Lib.hid (rat_den (n := x) (d := y) (by omega))
    rw [← e1.out] at K5
    rw [← e2.out] at K6
    generalize canS (rat x y).num = rn at *
    generalize canS (rat x y).den = rd at *
    clear e1 e2
    generalize canS (Nat.gcd x.natAbs y.natAbs : Nat) = g at *
    generalize cmpI y 0 = c at *
    go_enter Tryz.func159, Tryz.ntmps159
    go_wp2_with fail
    refine K1.step hs ?_
    intro w1 hs _
    go_wp2_with fail
    refine K4.step hs ?_
    intro w1 hs _
    go_wp2_with fail
    refine K5.step hs ?_
    intro w1 hs _
    go_wp2_with fail
    refine K6.step hs ?_
    intro w1 hs _
    go_wp2_with fail
    go_ret2
    exact ⟨rfl, hs.2⟩
/-- the denominator that is meant -/
def dn (d : ByteArray) : ByteArray := if valS d = 0 then ⟨#[49]⟩ else d
theorem dn_ne (d : ByteArray) : valS (dn d) ≠ 0 := by
  unfold dn
  split
  · decide
  · assumption
theorem dn_rat (n d : ByteArray) : rat (valS n) (valS (dn d)) = ratV n d := by
  unfold dn ratV
  split
  · rename_i h
    rw [h, rat_zero]
    exact rat_one _
  · rfl
theorem dn_size (d : ByteArray) : (dn d).size ≤ d.size + 1 := by
  unfold dn
  split
  · show 1 ≤ _; omega
  · omega
theorem can_eq (z : Int) (s : ByteArray) (x : Int) (hx : canS x = s) : ((canS z).toList == s.toList) = decide (z = x) := by
  by_cases h : z = x
  · subst h
    rw [hx, decide_eq_true rfl]
    simp
  · rw [decide_eq_false h, beq_eq_false_iff_ne]
    intro e
    rw [toList_bytes, toList_bytes] at e
    have e2 : valS (canS z) = valS s := by unfold valS; rw [e]
    rw [← hx, valS_canS, valS_canS] at e2
    exact h e2
theorem one_eq (z : Int) : ((canS z).toList == [49]) = decide (z = 1) := by have := can_eq z ⟨#[49]⟩ 1 (by decide +kernel); rwa [toList_bytes ⟨#[49]⟩] at this
theorem nil_eq (z : Int) : ((canS z).toList == []) = decide (z = 0) := by have := can_eq z ⟨#[]⟩ 0 (by decide +kernel); rwa [toList_bytes ⟨#[]⟩] at this

set_option maxHeartbeats 1000000 in
theorem parts_any {n d : ByteArray} (s2 : d.size ≤ 999999) :
    Ret 102 #[FV n d] (.tuple #[.string n, .string (dn d)]) := by
  intro w hg
  unfold FV
  have hs := St.refl hg
  have K1 := CmpR (Vs.arg (s := d) (by omega)) Vs.nil
  have q : (cmpI (valS d) 0 == 0) = decide (valS d = 0) := cmpI_eq
  have e : dn d = if valS d = 0 then ⟨#[49]⟩ else d := rfl
  by_cases h : valS d = 0
  · rw [if_pos h] at e
    rw [decide_eq_true h] at q
    rw [e]
    clear e h
    generalize cmpI (valS d) 0 = c at *
    go_enter Tryz.func102, Tryz.ntmps102
    go_wp2_with fail
    refine K1.step (hs.alloc _) ?_
    intro w1 hs hb
    have x0 := ((Bx.new w #[.string n, .string d] 43).on hb).cell (i := 0) rfl
    go_wp2_with fail
    go_ret2
    exact ⟨rfl, hs.2⟩
  · rw [if_neg h] at e
    rw [decide_eq_false h] at q
    rw [e]
    clear e h
    generalize cmpI (valS d) 0 = c at *
    go_enter Tryz.func102, Tryz.ntmps102
    go_wp2_with fail
    refine K1.step (hs.alloc _) ?_
    intro w1 hs hb
    have x0 := ((Bx.new w #[.string n, .string d] 43).on hb).cell (i := 0) rfl
    have x1 := ((Bx.new w #[.string n, .string d] 43).on hb).cell (i := 1) rfl
    go_wp2_with fail
    go_quiet (fail)
    go_wp2_with fail
    go_ret2
    exact ⟨rfl, (hs.drewN _).2⟩

set_option maxHeartbeats 1000000 in
theorem made_any {n d : ByteArray} {x y : Int} (h1 : Vs n x) (h2 : Vs d y) (s1 : n.size ≤ 999999) (s2 : d.size ≤ 999999) (hy : y ≠ 0) :
    Ret 101 #[.string n, .string d] (FR (rat x y)) := by
  intro w hg
  have hs := St.refl hg
  have K1 := reduced_any h1 h2 s1 s2 hy
  have e := one_eq ((rat x y).den : Int)
  have e2 : frD (rat x y) = if (rat x y).den = 1 then ⟨#[]⟩ else canS (rat x y).den := rfl
  unfold FR frN
  generalize canS (rat x y).num = rn at *
  generalize canS (rat x y).den = rd at *
  by_cases h : (rat x y).den = 1
  · rw [decide_eq_true (by omega : ((rat x y).den : Int) = 1)] at e
    rw [if_pos h] at e2
    rw [e2]
    clear e2 h
    go_enter Tryz.func101, Tryz.ntmps101
    go_wp2_with fail
    refine K1.step (hs.alloc _) ?_
    intro w1 hs hb
    have hx := (Bx.new w #[.string ⟨#[]⟩, .string ⟨#[]⟩] 43).on hb
    have x0 := hx.cell (i := 0) (v := .string ⟨#[]⟩) rfl
    have x1 := hx.cell (i := 1) (v := .string ⟨#[]⟩) rfl
    have f0 := hx.frozen 0
    have f1 := hx.frozen 1
    go_wp2_with fail
    have hx2 := (hx.set 0 (.string rn)).set 1 (.string ⟨#[]⟩)
    have y0 := hx2.cell (i := 0) (v := .string rn) rfl
    have y1 := hx2.cell (i := 1) (v := .string ⟨#[]⟩) rfl
    have hs2 := (hs.set (b := w.heap.size) (Nat.le_refl _) 0 (.string rn)).set (b := w.heap.size) (Nat.le_refl _) 1 (.string ⟨#[]⟩)
    exact bodyPost_ret (v := .agg #[.string rn, .string ⟨#[]⟩]) (by simp [results, Tryz.results101, go_sem, y0, y1]) rfl ⟨rfl, hs2.2⟩
  · rw [decide_eq_false (by omega : ¬ ((rat x y).den : Int) = 1)] at e
    rw [if_neg h] at e2
    rw [e2]
    clear e2 h
    go_enter Tryz.func101, Tryz.ntmps101
    go_wp2_with fail
    refine K1.step (hs.alloc _) ?_
    intro w1 hs hb
    have hx := (Bx.new w #[.string ⟨#[]⟩, .string ⟨#[]⟩] 43).on hb
    have x0 := hx.cell (i := 0) (v := .string ⟨#[]⟩) rfl
    have x1 := hx.cell (i := 1) (v := .string ⟨#[]⟩) rfl
    have f0 := hx.frozen 0
    have f1 := hx.frozen 1
    go_wp2_with fail
    have hx2 := (hx.set 0 (.string rn)).set 1 (.string rd)
    have y0 := hx2.cell (i := 0) (v := .string rn) rfl
    have y1 := hx2.cell (i := 1) (v := .string rd) rfl
    have hs2 := (hs.set (b := w.heap.size) (Nat.le_refl _) 0 (.string rn)).set (b := w.heap.size) (Nat.le_refl _) 1 (.string rd)
    exact bodyPost_ret (v := .agg #[.string rn, .string rd]) (by simp [results, Tryz.results101, go_sem, y0, y1]) rfl ⟨rfl, hs2.2⟩
end Go.Proofs.YtonopbelbehheaaGreatDoor
