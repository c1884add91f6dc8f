/- Integer, the reference: the contracts of Div, Gcd and Power. Conditions: strings of up to a hundred thousand bytes (up to 12 for Power, exponents of up to 60). -/
import Derived.Test.YtpipkeplhkccoaaGreatDoorRi
import Derived.Test.YtpipkeplhkccoaaGreatDoorIe
import Derived.Test.YtpipkeplhkccoaaGreatDoorFa
namespace Go.Proofs.YtpipkeplhkccoaaGreatDoor
open Go.RowKit Go.Shelf Dec

set_option maxRecDepth 100000 in
set_option maxHeartbeats 4000000 in
theorem rDiv_any (a b : ByteArray) (w : World) (ha : a.size ≤ 100000) (hb : b.size ≤ 100000) :
    Calls Tryz.prog 127 #[.string a, .string b] w fun e w' => e = .returned (.tuple #[.string (divR (valS a) (valS b)).1, .string (divR (valS a) (valS b)).2.1, .int .i64 (divR (valS a) (valS b)).2.2]) ∧ Below w.heap.size w w' := by
  have K1 := Lib.hid (fun w => rshort_any a w (by omega))
  have K2 := Lib.hid (fun w => rshort_any b w (by omega))
  have S1 := short_le (a := a)
  have S2 := short_le (a := b)
  have S3 : (shortR b).2 = false → valS b ≠ 0 := by
    intro h e
    unfold shortR at h
    by_cases hl : (digs (bytes b)).length ≤ 17
    · rw [if_pos hl] at h; cases h
    · have h1 : natOf (digs (bytes b)) = 0 := by
        have := val_abs (bytes b)
        unfold valS at e
        rw [e] at this
        exact this.symm
      by_cases h0 : digs (bytes b) = []
      · rw [h0] at hl; simp at hl
      · have := natOf_pos (digs_dig _) (digs_head _) h0
        omega
  generalize (shortR a).1 = m1 at *
  generalize (shortR a).2 = t1 at *
  generalize (shortR b).1 = m2 at *
  generalize (shortR b).2 = t2 at *
  by_cases hz : t2 = true ∧ m2 = 0
  · obtain ⟨rfl, rfl⟩ := hz
    have e2 := (S2 rfl).1
    have HE : divR (valS a) (valS b) = (⟨#[]⟩, ⟨#[]⟩, 10) := by unfold divR; rw [if_pos e2.symm]
    rw [HE]
    clear HE e2 S1 S2 S3
    go_enter Tryz.func127, Tryz.ntmps127
    go_wp2_with fail
    refine (K1.out _).mono ?_
    rintro e w1 ⟨rfl, hb1⟩
    have H1 := Lib.hid hb1
    clear hb1
    go_wp2_with fail
    refine (K2.out _).mono ?_
    rintro e w2 ⟨rfl, hb2⟩
    have H2 := Lib.hid (H1.out.trans (hb2.mono H1.out.size))
    clear hb2
    go_wp2_with fail
    go_ret3
    exact ⟨rfl, H2.out⟩
  · have HY : valS b ≠ 0 := by
      cases t2 with
      | true => rw [← (S2 rfl).1]; intro h; exact hz ⟨rfl, h⟩
      | false => exact S3 rfl
    have HE : divR (valS a) (valS b) = (canS ((valS a).fdiv (valS b)), canS ((valS a).fmod (valS b)), 0) := by unfold divR; rw [if_neg HY]
    rw [HE]
    clear HE S3
    by_cases hs : t1 = true ∧ t2 = true
    · obtain ⟨rfl, rfl⟩ := hs
      obtain ⟨e1, l1, l2⟩ := S1 rfl
      obtain ⟨e2, l3, l4⟩ := S2 rfl
      rw [← e1] at l1 l2 ⊢
      rw [← e2] at l3 l4 HY ⊢
      exact rdiv_short a b m1 m2 w l1 l2 l3 l4 HY K1 K2
    · have ht : (t2 = false ∧ t1 = false) ∨ (t2 = false ∧ t1 = true) ∨ (t2 = true ∧ t1 = false ∧ (m2 == 0) = false) := by
        cases t1 <;> cases t2 <;> simp at hs hz ⊢
        exact hz
      obtain ⟨nx, hx⟩ : ∃ nx, decide (valS a < 0) = nx := ⟨_, rfl⟩
      obtain ⟨ny, hy⟩ : ∃ ny, decide (valS b < 0) = ny := ⟨_, rfl⟩
      have Q1 := Lib.hid (fun w => rread' a nx (valS a) rfl hx w (by omega))
      have Q2 := Lib.hid (fun w => rread' b ny (valS b) rfl hy w (by omega))
      by_cases h : (nx != ny) = false ∨ (valS a).natAbs % (valS b).natAbs = 0
      · obtain ⟨g1, g2⟩ := rdiv_plain hx hy HY h
        exact rdiv_long1 a b m1 m2 t1 t2 (valS a) (valS b) nx ny (nx != ny) _ _ w ha hb K1 K2 Q1 Q2 HY ht rfl h (congrArg canS g1) (congrArg canS g2)
      · have hn : (nx != ny) = true := by cases hh : (nx != ny) <;> simp [hh] at h ⊢
        have hr : (valS a).natAbs % (valS b).natAbs ≠ 0 := fun e => h (.inr e)
        obtain ⟨g1, g2⟩ := rdiv_right hx hy HY hn hr
        exact rdiv_long2 a b m1 m2 t1 t2 (valS a) (valS b) nx ny _ _ w ha hb K1 K2 Q1 Q2 HY ht hn hr (congrArg canS g1) (congrArg canS g2)

/-- the number in a string's slot -/
def natStr : Value → Nat | .string s => (valS s).natAbs | _ => 0
theorem natStr_can (n : Nat) : natStr (.string (canS (n : Int))) = n := by show (valS (canS (n : Int))).natAbs = n; rw [valS_canS]; rfl
theorem digs_can (a : ByteArray) : str (digs (bytes a)) = canS ((valS a).natAbs : Int) := by
  unfold valS
  rw [val_abs]
  unfold canS canon
  rw [if_neg (by omega), Int.natAbs_natCast, digs_dec]
theorem fit_pow {k : Nat} {z : Int} (h : Fit k z) (m : Nat) : Fit (k * m + 1) (z ^ m) := by
  unfold Fit at *
  rw [Int.natAbs_pow, Nat.pow_succ, Nat.pow_mul]
  have h1 : z.natAbs ^ m ≤ (10 ^ k) ^ m := Nat.pow_le_pow_left (Nat.le_of_lt h) m
  have h2 : 0 < (10 ^ k) ^ m := Nat.pow_pos (Nat.pow_pos (by omega))
  omega
theorem fit_lt {k x y : Nat} (h : Fit k (y : Int)) (hl : x < y) : Fit k (x : Int) := by
  unfold Fit at *
  rw [Int.natAbs_natCast] at *
  omega
theorem fit_abs {k : Nat} {z : Int} (h : Fit k z) : Fit k ((z.natAbs : Nat) : Int) := by
  unfold Fit at *
  rw [Int.natAbs_natCast]
  exact h
theorem can_empty {z : Int} (h : z ≠ 0) : (canS z).toList.isEmpty = false := by
  cases hh : (canS z).toList with
  | nil =>
    exfalso
    apply h
    rw [toList_bytes] at hh
    have e : bytes (canS z) = [] := hh
    have := valS_canS z
    unfold valS at this
    rw [e] at this
    exact this.symm
  | cons _ _ => rfl

set_option maxRecDepth 100000 in
set_option maxHeartbeats 4000000 in
theorem rGcd_any (a b : ByteArray) (ha : a.size ≤ 90000) (hb : b.size ≤ 90000) :
    Ret 168 #[.string a, .string b] (.string (canS (Nat.gcd (valS a).natAbs (valS b).natAbs : Nat))) := by
  intro w hg
  have hs := St.refl hg
  have K1 : Ret 130 #[.string a] (.tuple #[.string (canS ((valS a).natAbs : Int)), .bool (negB (bytes a))]) := fun w _ => by rw [← digs_can]; exact rdigits_any a w (by omega)
  have K2 : Ret 130 #[.string b] (.tuple #[.string (canS ((valS b).natAbs : Int)), .bool (negB (bytes b))]) := fun w _ => by rw [← digs_can]; exact rdigits_any b w (by omega)
  have F1 : Fit 90000 (((valS a).natAbs : Nat) : Int) := fit_abs (Fit.val ha)
  have F2 : Fit 90000 (((valS b).natAbs : Nat) : Int) := fit_abs (Fit.val hb)
  have HF0 := Lib.hid (And.intro F1 F2)
  clear F1 F2
  generalize (valS a).natAbs = x at *
  generalize (valS b).natAbs = y at *
  generalize negB (bytes a) = na at *
  generalize negB (bytes b) = nb at *
  go_enter Tryz.func168, Tryz.ntmps168
  go_wp2_with fail
  refine K1.step hs ?_
  intro w1 hs _
  go_wp2_with fail
  refine K2.step hs ?_
  intro w2 hs _
  go_wp2_with fail
  go_loopw [9, 10] (fun s t wr => ∃ X Y : Nat, s = .string (canS (X : Int)) ∧ t = .string (canS (Y : Int)) ∧ St w wr ∧ Hid (Nat.gcd X Y = Nat.gcd x y) ∧ Hid (Fit 90000 (X : Int) ∧ Fit 90000 (Y : Int))) (fun _ t _ => natStr t)
  case atStart => exact ⟨x, y, rfl, rfl, hs, rfl, HF0.out.1, HF0.out.2⟩
  case round =>
    obtain ⟨X, Y, rfl, rfl, hs, HG, HF⟩ := hrel
    by_cases h0 : Y = 0
    · subst h0
      have HR : Hid (X = Nat.gcd x y) := by have := HG.out; rwa [Nat.gcd_zero_right] at this
      have q : (canS ((0 : Nat) : Int)).toList.isEmpty = true := by rw [show canS ((0 : Nat) : Int) = ⟨#[]⟩ from canS_zero, toList_bytes]; rfl
      have q2 : ((canS ((0 : Nat) : Int)).toList == []) = true := by rw [show canS ((0 : Nat) : Int) = ⟨#[]⟩ from canS_zero, toList_bytes]; rfl
      generalize canS ((0 : Nat) : Int) = t at *
      go_wp2_with fail
      go_ret
      exact ⟨by rw [← HR.out]; rfl, hs.2⟩
    · have q : (canS (Y : Int)).toList.isEmpty = false := can_empty (by omega)
      have q2 : ((canS (Y : Int)).toList == []) = false := by rw [nil_eq]; exact decide_eq_false (by omega)
      have K3 : Ret 127 #[.string (canS (X : Int)), .string (canS (Y : Int))] (.tuple #[.string (canS ((X : Int).fdiv Y)), .string (canS ((X % Y : Nat) : Int)), .int .i64 0]) := by
        intro w _
        have := rDiv_any (canS (X : Int)) (canS (Y : Int)) w (by have := HF.out.1.size; omega) (by have := HF.out.2.size; omega)
        rw [valS_canS, valS_canS] at this
        unfold divR at this
        rw [if_neg (by omega)] at this
        have e : (X : Int).fmod (Y : Int) = ((X % Y : Nat) : Int) := by rw [Int.fmod_eq_emod_of_nonneg _ (by omega)]; rfl
        rw [e] at this
        exact this
      have HF2 : Hid (Fit 90000 ((X % Y : Nat) : Int)) := fit_lt HF.out.2 (Nat.mod_lt _ (by omega))
      have HG2 : Hid (Nat.gcd Y (X % Y) = Nat.gcd x y) := by show _ = _; rw [← HG.out, Nat.gcd_comm Y (X % Y), ← Nat.gcd_rec, Nat.gcd_comm]
      have HM : X % Y < Y := Nat.mod_lt _ (by omega)
      generalize X % Y = Z at *
      go_wp2_with fail
      refine K3.step hs ?_
      intro w3 hs _
      go_wp2_with fail
      go_roundw
      case rel => exact ⟨Y, Z, rfl, rfl, hs, HG2.out, HF.out.2, HF2.out⟩
      case measure => rw [natStr_can, natStr_can]; exact HM

theorem rMulR {a b : ByteArray} (ha : a.size ≤ 400000) (hb : b.size ≤ 400000) : Ret 72 #[.string a, .string b] (.string (canS (valS a * valS b))) := fun w _ => rMul_any a b w ha hb
theorem rmul_pow {x : Int} {p q : Nat} (hx : Fit 12 x) (hp : p ≤ 60) (hq : q ≤ 60) : Ret 72 #[.string (canS (x ^ p)), .string (canS (x ^ q))] (.string (canS (x ^ (p + q)))) := by
  have h1 := (fit_pow hx p).size
  have h2 := (fit_pow hx q).size
  have := rMulR (a := canS (x ^ p)) (b := canS (x ^ q)) (by omega) (by omega)
  rw [valS_canS, valS_canS, ← Int.pow_add] at this
  exact this

end Go.Proofs.YtpipkeplhkccoaaGreatDoor
