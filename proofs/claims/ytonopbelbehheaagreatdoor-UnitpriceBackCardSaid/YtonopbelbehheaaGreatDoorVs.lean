/- Integer: the contracts over strings of known values. Conditions: strings of up to a million bytes; the library's table and error lie as the program's text lays them. -/
import Derived.Test.YtonopbelbehheaaGreatDoorFit
import Derived.Test.YtonopbelbehheaaGreatDoorApiD
import Derived.Test.YtonopbelbehheaaGreatDoorGcd
import Derived.Lib.ItoaLen
import Derived.Lib.ItoaMem
import Derived.Lib.AppendIntMem
namespace Go.Proofs.YtonopbelbehheaaGreatDoor
open Go.RowKit Go.Shelf Dec

theorem AddV {a b : ByteArray} {x y : Int} (h1 : Vs a x) (h2 : Vs b y) (w : World) (hg : Gl w) :
    Calls Tryz.prog 23 #[.string a, .string b] w fun e w' => e = .returned (.string (canS (x + y))) ∧ Below w.heap.size w w' := by
  have := Add_any a b w (by have := h1.2; omega) (by have := h2.2; omega) hg
  rw [h1.1, h2.1] at this
  exact this
theorem SubV {a b : ByteArray} {x y : Int} (h1 : Vs a x) (h2 : Vs b y) (w : World) (hg : Gl w) :
    Calls Tryz.prog 25 #[.string a, .string b] w fun e w' => e = .returned (.string (canS (x - y))) ∧ Below w.heap.size w w' := by
  have := Sub_any a b w (by have := h1.2; omega) (by have := h2.2; omega) hg
  rw [h1.1, h2.1] at this
  exact this
theorem MulV {a b : ByteArray} {x y : Int} (h1 : Vs a x) (h2 : Vs b y) (w : World) (hg : Gl w) :
    Calls Tryz.prog 27 #[.string a, .string b] w fun e w' => e = .returned (.string (canS (x * y))) ∧ Below w.heap.size w w' := by
  have := Mul_any a b w (by have := h1.2; omega) (by have := h2.2; omega) hg
  rw [h1.1, h2.1] at this
  exact this
theorem NegV {a : ByteArray} {x : Int} (h1 : Vs a x) (w : World) (hg : Gl w) :
    Calls Tryz.prog 187 #[.string a] w fun e w' => e = .returned (.string (canS (-x))) ∧ Below w.heap.size w w' := by
  have := Neg_any a w (by have := h1.2; omega) hg
  rw [h1.1] at this
  exact this
theorem CmpV {a b : ByteArray} {x y : Int} (h1 : Vs a x) (h2 : Vs b y) (w : World) :
    Calls Tryz.prog 29 #[.string a, .string b] w fun e w' => e = .returned (.int .i64 (cmpI x y)) ∧ Below w.heap.size w w' := by
  have := Compare_any a b w (by have := h1.2; omega) (by have := h2.2; omega)
  rw [h1.1, h2.1] at this
  exact this
theorem DivV {a b : ByteArray} {x y : Int} (h1 : Vs a x) (h2 : Vs b y) (w : World) (hg : Gl w) :
    Calls Tryz.prog 17 #[.string a, .string b] w fun e w' => e = .returned (.tuple #[.string (divR x y).1, .string (divR x y).2.1, .int .i64 (divR x y).2.2]) ∧ Below w.heap.size w w' := by
  have := Div_any a b w (by have := h1.2; omega) (by have := h2.2; omega) hg
  rw [h1.1, h2.1] at this
  exact this.mono fun _ _ h => h
theorem DivN {a b : ByteArray} {x y : Int} (h1 : Vs a x) (h2 : Vs b y) (hy : y ≠ 0) (w : World) (hg : Gl w) :
    Calls Tryz.prog 17 #[.string a, .string b] w fun e w' => e = .returned (.tuple #[.string (canS (x.fdiv y)), .string (canS (x.fmod y)), .int .i64 0]) ∧ Below w.heap.size w w' := by
  have := DivV h1 h2 w hg
  unfold divR at this
  rw [if_neg hy] at this
  exact this
theorem GcdV {a b : ByteArray} {x y : Int} (h1 : Vs a x) (h2 : Vs b y) (w : World) (hg : Gl w) :
    Calls Tryz.prog 19 #[.string a, .string b] w fun e w' => e = .returned (.string (canS (Nat.gcd x.natAbs y.natAbs : Nat))) ∧ Below w.heap.size w w' := by
  have := Gcd_any a b w (by have := h1.2; omega) (by have := h2.2; omega) hg
  rw [h1.1, h2.1] at this
  exact this
theorem CanV {a : ByteArray} {x : Int} (h1 : Vs a x) (w : World) :
    Calls Tryz.prog 68 #[.string a] w fun e w' => e = .returned (.string (canS x)) ∧ Below w.heap.size w w' := by
  have := canonical_any a w (by have := h1.2; omega)
  unfold valS at this
  have e := h1.1
  unfold valS at e
  rw [e] at this
  exact this
theorem chk_can (z : Int) : chk (canS z) = 0 := by unfold chk; rw [valS_canS, if_pos rfl]
theorem ChkV {z : Int} {k : Nat} (h : Fit k z) (hk : k ≤ 999999) (w : World) :
    Calls Tryz.prog 150 #[.string (canS z)] w fun e w' => e = .returned (.int .i64 0) ∧ Below w.heap.size w w' := by
  have := check_any (canS z) w (by have := h.size; omega)
  rw [chk_can] at this
  exact this
theorem SmlV {a : ByteArray} {x : Int} (h1 : Vs a x) (w : World) (hg : Gl w) :
    Calls Tryz.prog 67 #[.string a] w fun e w' => e = .returned (.tuple #[.int .i64 (sml x).1, .bool (sml x).2]) ∧ Below w.heap.size w w' := by
  have := Small_any a w (by have := h1.2; omega) hg
  rw [h1.1] at this
  exact this

/-- the library's numeral is ours -/
theorem decDigits_dec (n : Nat) (h : n ≠ 0) : Lib.decDigits n = dec n := by
  induction n using dec_ind with
  | h0 => exact absurd rfl h
  | hs n h0 ih =>
    rw [dec_pos h0]
    by_cases h10 : n / 10 = 0
    · rw [h10, dec_zero]
      have hl : n < 10 := by omega
      unfold Lib.decDigits
      rw [dif_pos hl]
      unfold digB
      rw [Nat.mod_eq_of_lt hl]
      rfl
    · rw [← ih h10]
      have hl : ¬ n < 10 := by omega
      conv => lhs; unfold Lib.decDigits
      rw [dif_neg hl]
      rfl
theorem val_itoa (n : Int) : val (Lib.itoa n) = n := by
  by_cases h0 : n = 0
  · subst h0
    have e : Lib.itoa 0 = [48] := by
      unfold Lib.itoa
      rw [if_neg (by omega)]
      unfold Lib.decDigits
      rw [dif_pos (by decide)]
      rfl
    rw [e]
    decide
  · have e : Lib.itoa n = canon n := by
      unfold Lib.itoa canon
      by_cases h : n < 0
      · rw [if_pos h, if_pos h, decDigits_dec _ (by omega)]
      · rw [if_neg h, if_neg h, show n.toNat = n.natAbs by omega, decDigits_dec _ (by omega)]
    rw [e, val_canon]
set_option maxHeartbeats 1000000 in
theorem Of_any (n : Int) (w : World) (h0 : -9223372036854775808 ≤ n) (h1 : n ≤ 9223372036854775807) (hg : Gl w) :
    Calls Tryz.prog 50 #[.int .i64 n] w fun e w' => e = .returned (.string (canS n)) ∧ Below w.heap.size w w' := by
  have HT := Lib.hid hg.1
  have hl := Lib.itoa_length_le n h0 h1
  have H2 : Hid (∀ w, Calls Tryz.prog 68 #[.string ⟨(Lib.itoa n).toArray⟩] w fun e w' => e = .returned (.string (canS n)) ∧ Below w.heap.size w w') := by
    intro w
    have := canonical_any ⟨(Lib.itoa n).toArray⟩ w (by show (Lib.itoa n).toArray.size ≤ _; simp; omega)
    have e : valS ⟨(Lib.itoa n).toArray⟩ = n := by unfold valS; exact val_itoa n
    rw [e] at this
    exact this
  have H1 := Lib.hid (fun w (h : Lib.TabIs Tryz.prog w "internal/strconv.uint64pow10" .u64 Lib.pow10Tab) => Any.strconv_Itoa Tryz.laysM171 n h0 h1 w h)
  clear hg hl
  generalize (⟨(Lib.itoa n).toArray⟩ : ByteArray) = t at *
  go_enter Tryz.func50, Tryz.ntmps50
  go_wp2_with fail
  refine (H1.out _ HT.out).mono ?_
  rintro e w1 ⟨rfl, k, os, hw1⟩
  have HB1 : Hid (Below w.heap.size w w1) := by
    show Below _ _ _
    rw [hw1]
    exact Lib.below_grow _ w (Nat.le_refl _) k os
  clear hw1
  go_wp2_with fail
  refine (H2.out _).mono ?_
  rintro e w2 ⟨rfl, hb2⟩
  go_wp2_with fail
  go_ret
  exact ⟨rfl, HB1.out.trans (hb2.mono HB1.out.size)⟩
end Go.Proofs.YtonopbelbehheaaGreatDoor
