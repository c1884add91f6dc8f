/- Integer: contracts of Canonical, Check, Print and Parse, for every string. Conditions: sizes below 2^62. Integer: contracts of Add, Neg, Sub and Mul. Conditions: sizes below 2^36; the table of powers lies as the program's text lays it. Integer: contracts of Mul and Compare. Conditions: sizes below 2^36; the table of powers lies as the program's text lays it. Integer: the contract of Div. Conditions: sizes below 2^36; the table of powers lies as the program's text lays it. Integer: contracts of Small and Of. Conditions: sizes below 2^46; the library's table and error lie as the program's text lays them. Integer: the contract of Power. Conditions: sizes below 2^26; the table of powers lies as the program's text lays it. Integer: the contract of Gcd: a range over an iterator that keeps its state in memory. Conditions: sizes below 2^36; the table of powers lies as the program's text lays it. Integer: values of bounded length; what comparisons know of each other. No condition. Integer: the contracts over strings of known values. Conditions: strings of up to a million bytes; the library's table and error lie as the program's text lays them. -/
import Derived.Test.YtahpbnmbphobgaaGreatDoorId
import Derived.Test.YtahpbnmbphobgaaGreatDoorIc
import Derived.Deep.DeepCutAuto
import Derived.RangeFuncNested
import Derived.RangeFuncBound
import Derived.RangeFuncCalls
import Derived.RangeFuncLeaves
import Derived.Shelf.Abstract
import Derived.Shelf.RegionOpen
import Derived.OwnWalkIn
import Derived.TacticsInMore
import Derived.LoopNIn
import Derived.LoopIn
import Derived.Sort.LoopGhostIn
import Derived.Lib.ItoaLen
import Derived.Lib.ItoaMem
import Derived.Lib.AppendIntMem
namespace Go.Proofs.YtahpbnmbphobgaaGreatDoor
open Go.RowKit Go.Shelf Dec

/-- the value of a string -/
def valS (a : ByteArray) : Int := val (bytes a)
/-- the canonical string of a value -/
def canS (z : Int) : ByteArray := str (canon z)
theorem valS_canS (z : Int) : valS (canS z) = z := by unfold valS canS; rw [bytes_str, val_canon]
theorem canS_inj {y z : Int} (h : canS y = canS z) : y = z := by rw [← valS_canS y, h, valS_canS]
theorem canS_zero : canS 0 = ⟨#[]⟩ := rfl
theorem valS_nil : valS ⟨#[]⟩ = 0 := rfl
theorem str_cons (c : UInt8) (l : Bytes) : (⟨#[c]⟩ : ByteArray) ++ str l = str (c :: l) := by apply bytes_inj; rw [bytes_str]; simp [bytes, str]
theorem size_canS_le (a : ByteArray) : (canS (valS a)).size ≤ a.size + 1 := by
  unfold canS valS
  rw [size_str, canon_val, size_bytes]
  have := digs_len (bytes a)
  split <;> simp <;> omega

set_option maxHeartbeats 1000000 in
theorem canonical_any (a : ByteArray) (w : World) (ha : a.size ≤ 4611686018427387904) :
    Calls Tryz.prog 105 #[.string a] w fun e w' => e = .returned (.string (canS (valS a))) ∧ Below w.heap.size w w' := by
  have HE : Hid (canS (valS a) = if negB (bytes a) then str (45 :: digs (bytes a)) else str (digs (bytes a))) := by
    show _ = _
    unfold canS valS
    rw [canon_val]
    split <;> rfl
  have hdl := digs_len (bytes a)
  rw [← size_bytes] at hdl
  have hsz : (str (digs (bytes a))).size ≤ 4611686018427387904 := by rw [size_str]; omega
  cases hn : negB (bytes a) with
  | true =>
    have HN := Lib.hid hn
    have HEt : Hid (canS (valS a) = str (45 :: digs (bytes a))) := by have := HE.out; rw [hn] at this; exact this
    have H1 : Hid (∀ w, Calls Tryz.prog 106 #[.string a] w fun e w' => e = .returned (.tuple #[.string (str (digs (bytes a))), .bool true]) ∧ Below w.heap.size w w') := by
      intro w; rw [← hn]; exact digits_any a w (by omega)
    clear hn HE
    generalize digs (bytes a) = l at *
    go_enter Tryz.func105, Tryz.ntmps105
    go_wp2_with fail
    refine (H1.out _).mono ?_
    rintro e w1 ⟨rfl, hb1⟩
    go_wp2_with fail
    go_ret
    refine ⟨?_, hb1⟩
    rw [HEt.out, ← str_cons]
    rfl
  | false =>
    have HEt : Hid (canS (valS a) = str (digs (bytes a))) := by have := HE.out; rw [hn] at this; exact this
    have H1 : Hid (∀ w, Calls Tryz.prog 106 #[.string a] w fun e w' => e = .returned (.tuple #[.string (str (digs (bytes a))), .bool false]) ∧ Below w.heap.size w w') := by
      intro w; rw [← hn]; exact digits_any a w (by omega)
    clear hn HE
    generalize digs (bytes a) = l at *
    go_enter Tryz.func105, Tryz.ntmps105
    go_wp2_with fail
    refine (H1.out _).mono ?_
    rintro e w1 ⟨rfl, hb1⟩
    go_wp2_with fail
    go_ret
    refine ⟨?_, hb1⟩
    rw [HEt.out]
    rfl

/-- what Check says -/
def chk (a : ByteArray) : Int := if a = canS (valS a) then 0 else 1
theorem toList_beq (s t : ByteArray) : (s.toList == t.toList) = decide (s = t) := by
  rw [beq_bytes]
  by_cases h : s = t
  · simp [h]
  · rw [decide_eq_false h, decide_eq_false (fun e => h (bytes_inj e))]
set_option maxHeartbeats 1000000 in
theorem check_any (a : ByteArray) (w : World) (ha : a.size ≤ 4611686018427387904) :
    Calls Tryz.prog 60 #[.string a] w fun e w' => e = .returned (.int .i64 (chk a)) ∧ Below w.heap.size w w' := by
  have H1 := Lib.hid (fun w => canonical_any a w ha)
  generalize hc : canS (valS a) = t at H1
  by_cases h : a = t
  · have HE : Hid (chk a = 0) := by show _ = _; unfold chk; rw [hc, if_pos h]
    have q : (a.toList == t.toList) = true := by rw [toList_beq, decide_eq_true h]
    clear hc h
    go_enter Tryz.func60, Tryz.ntmps60
    go_wp2_with fail
    refine (H1.out _).mono ?_
    rintro e w1 ⟨rfl, hb1⟩
    go_wp2_with fail
    go_ret
    exact ⟨by rw [HE.out]; rfl, hb1⟩
  · have HE : Hid (chk a = 1) := by show _ = _; unfold chk; rw [hc, if_neg h]
    have q : (a.toList == t.toList) = false := by rw [toList_beq, decide_eq_false h]
    clear hc h
    go_enter Tryz.func60, Tryz.ntmps60
    go_wp2_with fail
    refine (H1.out _).mono ?_
    rintro e w1 ⟨rfl, hb1⟩
    go_wp2_with fail
    go_ret
    exact ⟨by rw [HE.out]; rfl, hb1⟩

/-- the text of a value -/
def prt (z : Int) : Bytes := if z = 0 then [48] else canon z
set_option maxHeartbeats 1000000 in
theorem print_any (a : ByteArray) (w : World) (ha : a.size ≤ 4611686018427387904) :
    Calls Tryz.prog 254 #[.string a] w fun e w' => e = .returned (.string (str (prt (valS a)))) ∧ Below w.heap.size w w' := by
  have H1 := Lib.hid (fun w => canonical_any a w ha)
  by_cases h : valS a = 0
  · have HE : Hid (str (prt (valS a)) = ⟨#[48]⟩) := by show _ = _; unfold prt; rw [if_pos h]; rfl
    have H2 : Hid (∀ w, Calls Tryz.prog 105 #[.string a] w fun e w' => e = .returned (.string ⟨#[]⟩) ∧ Below w.heap.size w w') := by
      intro w; have := H1.out w; rw [h] at this; exact this
    clear H1 h
    go_enter Tryz.func254, Tryz.ntmps254
    go_wp2_with fail
    refine (H2.out _).mono ?_
    rintro e w1 ⟨rfl, hb1⟩
    go_wp2_with fail
    go_ret
    exact ⟨by rw [HE.out]; rfl, hb1⟩
  · have HE : Hid (str (prt (valS a)) = canS (valS a)) := by show _ = _; unfold prt; rw [if_neg h]; rfl
    have hne : bytes (canS (valS a)) ≠ [] := by unfold canS; rw [bytes_str]; exact fun e => h (canon_nil.1 e)
    generalize canS (valS a) = t at *
    have q : t.toList.isEmpty = false := by rw [isEmpty_bytes]; cases hh : bytes t with | nil => exact absurd hh hne | cons _ _ => rfl
    clear h hne
    go_enter Tryz.func254, Tryz.ntmps254
    go_wp2_with fail
    refine (H1.out _).mono ?_
    rintro e w1 ⟨rfl, hb1⟩
    go_wp2_with fail
    go_ret
    exact ⟨by rw [HE.out]; rfl, hb1⟩

/-- what Parse hands back -/
def prs (s : ByteArray) : ByteArray × Int := if 65536 < s.size then (⟨#[]⟩, 4) else if str (prt (valS s)) = s then (canS (valS s), 0) else (⟨#[]⟩, 3)
theorem ret_pi {a b : ByteArray} {m n : Int} (h : (a, m) = (b, n)) : Ending.returned (.tuple #[.string a, .int .i64 m]) = .returned (.tuple #[.string b, .int .i64 n]) := by injection h with h1 h2; rw [h1, h2]
end Go.Proofs.YtahpbnmbphobgaaGreatDoor
namespace Go.Proofs.YtahpbnmbphobgaaGreatDoor
open Go.RowKit Go.Shelf Dec
attribute [local go_sem ↓] Go.wp_at_zero Go.wp_at_succ

theorem len_val (a : ByteArray) : (mag (valS a).natAbs).length ≤ a.size := by
  unfold valS
  rw [mag_len_lt, val_abs]
  have h1 := natOf_lt (digs (bytes a)) (digs_dig _)
  have h2 := digs_len (bytes a)
  rw [← size_bytes] at h2
  have h3 : 10 ^ (digs (bytes a)).length ≤ 10 ^ (9 * a.size) := Nat.pow_le_pow_right (by omega) (by omega)
  rw [← BB_pow] at h3
  omega
theorem sgn_val (z : Int) : sgn (decide (z < 0)) z.natAbs = z := by
  unfold sgn
  by_cases h : z < 0
  · simp [h]; omega
  · simp [h]; omega
theorem sgn_abs (neg : Bool) (n : Nat) : (sgn neg n).natAbs = n := by unfold sgn; cases neg <;> simp
theorem len_sum {x y : Int} {n k : Nat} (hx : (mag x.natAbs).length ≤ n) (hy : (mag y.natAbs).length ≤ n) (hk : k = (x + y).natAbs) : (mag k).length ≤ n + 1 := by
  subst hk
  rw [mag_len_lt] at hx hy ⊢
  rw [Nat.pow_succ]
  have : (x + y).natAbs ≤ x.natAbs + y.natAbs := Int.natAbs_add_le x y
  have h2 : BB ^ n * 2 ≤ BB ^ n * BB := Nat.mul_le_mul_left _ (by decide)
  omega
/-- the lengths as free letters -/
theorem read' (a : ByteArray) (w : World) (ha : a.size ≤ 68719476736) : Calls Tryz.prog 66 #[.string a] w fun e w' =>
    ∃ A n c, e = .returned (.agg #[.bool (decide (valS a < 0)), .slice A n c]) ∧ (mag (valS a).natAbs).length = n ∧ MagS w' A c (valS a).natAbs ∧ n ≤ a.size ∧ Below w.heap.size w w' := by
  refine (read_any a w (by omega)).mono ?_
  rintro e w' ⟨A, c, he, hm, hb⟩
  exact ⟨A, _, c, he, rfl, hm, len_val a, hb⟩
theorem text' (neg : Bool) (A : Option Addr) (c k n : Nat) (w : World) (hk : (mag n).length = k) (hc : MagS w A c n) (hm : k ≤ 274877906944) (hg : Gl w) :
    Calls Tryz.prog 67 #[.agg #[.bool neg, .slice A k c]] w fun e w' => e = .returned (.string (canS (sgn neg n))) ∧ Below w.heap.size w w' := by
  subst hk
  exact text_any neg A c n w hc hm hg
theorem add' (na nb : Bool) (A A' : Option Addr) (c c' k m a b : Nat) (w : World) (hk : (mag a).length = k) (hk' : (mag b).length = m) (hc : MagS w A c a) (hc' : MagS w A' c' b) (hm : k ≤ 274877906944) (hm' : m ≤ 274877906944) :
    Calls Tryz.prog 68 #[.agg #[.bool na, .slice A k c], .agg #[.bool nb, .slice A' m c']] w fun e w' => ∃ neg n l A c, e = .returned (.agg #[.bool neg, .slice A l c]) ∧ (mag n).length = l ∧ sgn neg n = sgn na a + sgn nb b ∧ MagS w' A c n ∧ Below w.heap.size w w' := by
  subst hk hk'
  refine (add_any na nb A A' c c' a b w hc hc' hm hm').mono ?_
  rintro e w' ⟨neg, n, A, c, hz, he, hm, hb⟩
  exact ⟨neg, n, _, A, c, he, rfl, hz, hm, hb⟩

set_option maxRecDepth 100000 in
set_option maxHeartbeats 2000000 in
theorem Add_any (a b : ByteArray) (w : World) (ha : a.size ≤ 68719476736) (hb : b.size ≤ 68719476736) (hg : Gl w) :
    Calls Tryz.prog 28 #[.string a, .string b] w fun e w' => e = .returned (.string (canS (valS a + valS b))) ∧ Below w.heap.size w w' := by
  have Hg := Lib.hid hg
  clear hg
  have HA := Lib.hid (sgn_val (valS a))
  have HB := Lib.hid (sgn_val (valS b))
  generalize hda : decide (valS a < 0) = na at HA
  generalize hdb : decide (valS b < 0) = nb at HB
  have HR1 : Hid (∀ w, Calls Tryz.prog 66 #[.string a] w fun e w' => ∃ A n c, e = .returned (.agg #[.bool na, .slice A n c]) ∧ (mag (valS a).natAbs).length = n ∧ MagS w' A c (valS a).natAbs ∧ n ≤ a.size ∧ Below w.heap.size w w') := by
    intro w; rw [← hda]; exact read' a w ha
  have HR2 : Hid (∀ w, Calls Tryz.prog 66 #[.string b] w fun e w' => ∃ A n c, e = .returned (.agg #[.bool nb, .slice A n c]) ∧ (mag (valS b).natAbs).length = n ∧ MagS w' A c (valS b).natAbs ∧ n ≤ b.size ∧ Below w.heap.size w w') := by
    intro w; rw [← hdb]; exact read' b w hb
  clear hda hdb
  go_enter Tryz.func28, Tryz.ntmps28
  go_wp2_with fail
  refine (HR1.out _).mono ?_
  rintro e w1 ⟨A1, n1, c1, rfl, hn1, hm1, hl1, hb1⟩
  have Hn1 := Lib.hid hn1
  have Hm1 := Lib.hid hm1
  have Hb1 := Lib.hid hb1
  clear hn1 hm1 hb1
  go_wp2_with fail
  refine (HR2.out _).mono ?_
  rintro e w2 ⟨A2, n2, c2, rfl, hn2, hm2, hl2, hb2⟩
  have Hn2 := Lib.hid hn2
  have Hm2 := Lib.hid hm2
  have Hm1' := Lib.hid (Hm1.out.up hb2)
  have Hb2 : Hid (Below w.heap.size w w2) := Hb1.out.trans (hb2.mono Hb1.out.size)
  clear hn2 hm2 hb2
  go_wp2_with fail
  refine (add' na nb A1 A2 c1 c2 n1 n2 _ _ w2 Hn1.out Hn2.out Hm1'.out Hm2.out (by omega) (by omega)).mono ?_
  rintro e w3 ⟨neg, n, l, A3, c3, rfl, hl3, hz, hm3, hb3⟩
  have Hz : Hid (sgn neg n = valS a + valS b) := by show _ = _; rw [hz, HA.out, HB.out]
  have hl : l ≤ 68719476737 := by
    rw [← hl3]
    exact len_sum (x := valS a) (y := valS b) (n := 68719476736) (by rw [Hn1.out]; omega) (by rw [Hn2.out]; omega) (by rw [← Hz.out, sgn_abs])
  have Hl3 := Lib.hid hl3
  have Hm3 := Lib.hid hm3
  have Hb3 : Hid (Below w.heap.size w w3) := Hb2.out.trans (hb3.mono Hb2.out.size)
  clear hl3 hz hm3 hb3
  go_wp2_with fail
  refine (text' neg A3 c3 l n w3 Hl3.out Hm3.out (by omega) (Hg.out.below Hb3.out)).mono ?_
  rintro e w4 ⟨rfl, hb4⟩
  go_wp2_with fail
  go_ret
  exact ⟨by rw [Hz.out]; rfl, Hb3.out.trans (hb4.mono Hb3.out.size)⟩
theorem sgn_not (z : Int) : sgn (!decide (z < 0)) z.natAbs = -z := by
  unfold sgn
  by_cases h : z < 0
  · simp [h]; omega
  · simp [h]; omega
set_option maxRecDepth 100000 in
set_option maxHeartbeats 2000000 in
theorem Neg_any (a : ByteArray) (w : World) (ha : a.size ≤ 68719476736) (hg : Gl w) :
    Calls Tryz.prog 27 #[.string a] w fun e w' => e = .returned (.string (canS (-valS a))) ∧ Below w.heap.size w w' := by
  have Hg := Lib.hid hg
  clear hg
  have HA := Lib.hid (sgn_not (valS a))
  generalize hda : decide (valS a < 0) = na at HA
  have HR1 : Hid (∀ w, Calls Tryz.prog 66 #[.string a] w fun e w' => ∃ A n c, e = .returned (.agg #[.bool na, .slice A n c]) ∧ (mag (valS a).natAbs).length = n ∧ MagS w' A c (valS a).natAbs ∧ n ≤ a.size ∧ Below w.heap.size w w') := by
    intro w; rw [← hda]; exact read' a w ha
  clear hda
  go_enter Tryz.func27, Tryz.ntmps27
  go_wp2_with fail
  refine (HR1.out _).mono ?_
  rintro e w1 ⟨A1, n1, c1, rfl, hn1, hm1, hl1, hb1⟩
  have Hn1 := Lib.hid hn1
  have Hm1 := Lib.hid hm1
  have Hb1 := Lib.hid hb1
  clear hn1 hm1 hb1
  go_wp2_with fail
  have hbw : Below w1.heap.size w1 (w1.alloc (.cells #[.bool !na, .slice A1 n1 c1] 116)) := (Below.refl _ _).alloc (Nat.le_refl _) _
  have Hbw : Hid (Below w.heap.size w (w1.alloc (.cells #[.bool !na, .slice A1 n1 c1] 116))) := Hb1.out.trans (hbw.mono Hb1.out.size)
  refine (text' (!na) A1 c1 n1 _ _ Hn1.out (Hm1.out.up hbw) (by omega) (Hg.out.below Hbw.out)).mono ?_
  rintro e w4 ⟨rfl, hb4⟩
  go_wp2_with fail
  go_ret
  exact ⟨by rw [HA.out]; rfl, Hbw.out.trans (hb4.mono Hbw.out.size)⟩

set_option maxRecDepth 100000 in
set_option maxHeartbeats 4000000 in
theorem Sub_any (a b : ByteArray) (w : World) (ha : a.size ≤ 68719476736) (hb : b.size ≤ 68719476736) (hg : Gl w) :
    Calls Tryz.prog 58 #[.string a, .string b] w fun e w' => e = .returned (.string (canS (valS a - valS b))) ∧ Below w.heap.size w w' := by
  have Hg := Lib.hid hg
  clear hg
  have HA := Lib.hid (sgn_val (valS a))
  have HB := Lib.hid (sgn_not (valS b))
  generalize hda : decide (valS a < 0) = na at HA
  generalize hdb : decide (valS b < 0) = nb at HB
  have HR1 : Hid (∀ w, Calls Tryz.prog 66 #[.string a] w fun e w' => ∃ A n c, e = .returned (.agg #[.bool na, .slice A n c]) ∧ (mag (valS a).natAbs).length = n ∧ MagS w' A c (valS a).natAbs ∧ n ≤ a.size ∧ Below w.heap.size w w') := by
    intro w; rw [← hda]; exact read' a w ha
  have HR2 : Hid (∀ w, Calls Tryz.prog 66 #[.string b] w fun e w' => ∃ A n c, e = .returned (.agg #[.bool nb, .slice A n c]) ∧ (mag (valS b).natAbs).length = n ∧ MagS w' A c (valS b).natAbs ∧ n ≤ b.size ∧ Below w.heap.size w w') := by
    intro w; rw [← hdb]; exact read' b w hb
  clear hda hdb
  go_enter Tryz.func58, Tryz.ntmps58
  go_wp2_with fail
  refine (HR2.out _).mono ?_
  rintro e w1 ⟨A1, n1, c1, rfl, hn1, hm1, hl1, hb1⟩
  have Hn1 := Lib.hid hn1
  have hbw : Below w1.heap.size w1 (w1.alloc (.cells #[.bool !nb, .slice A1 n1 c1] 116)) := (Below.refl _ _).alloc (Nat.le_refl _) _
  obtain ⟨W, hW⟩ : ∃ W, w1.alloc (.cells #[.bool !nb, .slice A1 n1 c1] 116) = W := ⟨_, rfl⟩
  have c0 : W.cell? ⟨w1.heap.size, 0, none⟩ = some (.bool !nb) := by rw [← hW]; unfold World.cell?; rw [heap_new]; rfl
  have c1' : W.cell? ⟨w1.heap.size, 1, none⟩ = some (.slice A1 n1 c1) := by rw [← hW]; unfold World.cell?; rw [heap_new]; rfl
  have Hsz : Hid (w1.heap.size < W.heap.size) := by show _ < _; rw [← hW, World.size_alloc]; omega
  rw [hW] at hbw
  have Hm1 := Lib.hid (hm1.up hbw)
  have Hb1 : Hid (Below w.heap.size w W) := hb1.trans (hbw.mono hb1.size)
  have HW := Lib.hid hW
  clear hn1 hm1 hb1 hbw hW
  go_wp2_with fail
  rw [HW.out]
  clear HW
  obtain ⟨B, hB⟩ : ∃ B, w1.heap.size = B := ⟨_, rfl⟩
  rw [hB] at c0 c1' Hsz ⊢
  clear hB
  go_region_held3 (fun w' => w'.cell? ⟨B, 0, none⟩ = some (.bool !nb) ∧ w'.cell? ⟨B, 1, none⟩ = some (.slice A1 n1 c1))
    (first
      | (go_keep; done)
      | exact ⟨x40, x41⟩
      | exact ⟨x30, x31⟩
      | exact ⟨x20, x21⟩)
    (first
      | (go_at_call 66; refine (HR1.out _).mono ?_; rintro e w2 ⟨A2, n2, c2, rfl, hn2, hm2, hl2, hk2⟩; have Hn2 := Lib.hid hn2; have Hm2 := Lib.hid hm2; have Hb2 : Hid (Below w.heap.size w w2) := Hb1.out.drew.trans (hk2.mono Hb1.out.size); have Hm1' := Lib.hid (Hm1.out.up (((Below.refl _ W).drew).trans hk2)); have hlt3 : B < w2.heap.size := Nat.lt_of_lt_of_le Hsz.out hk2.size; have x20 := (hk2.cell (p := ⟨B, 0, none⟩) Hsz.out).trans c0; have x21 := (hk2.cell (p := ⟨B, 1, none⟩) Hsz.out).trans c1'; clear hn2 hm2)
      | (go_at_call 68; refine (add' na (!nb) A2 A1 c2 c1 n2 n1 _ _ _ Hn2.out Hn1.out (by exact Hm2.out) (by exact Hm1'.out) (by omega) (by omega)).mono ?_; rintro e w3 ⟨neg, n, l, A3, c3, rfl, hl3, hz, hm3, hk3⟩; have Hl3 := Lib.hid hl3; have Hm3 := Lib.hid hm3; have Hz := Lib.hid hz; have Hb3 : Hid (Below w.heap.size w w3) := Hb2.out.trans (hk3.mono Hb2.out.size); have hlt4 : B < w3.heap.size := Nat.lt_of_lt_of_le hlt3 hk3.size; have x30 := (hk3.cell (p := ⟨B, 0, none⟩) hlt3).trans x20; have x31 := (hk3.cell (p := ⟨B, 1, none⟩) hlt3).trans x21; clear hl3 hm3 hz)
      | (go_at_call 67; refine (text' neg A3 c3 l n _ Hl3.out (by exact Hm3.out) ?_ (by exact Hg.out.below Hb3.out)).mono ?_; (rw [← Hl3.out]; exact Nat.le_trans (len_sum (x := valS a) (y := -valS b) (n := 68719476736) (by rw [Hn2.out]; omega) (by rw [Int.natAbs_neg, Hn1.out]; omega) (by have := Hz.out; rw [HA.out, HB.out] at this; rw [← this, sgn_abs])) (by omega)); rintro e w4 ⟨rfl, hk4⟩; have Hb4 : Hid (Below w.heap.size w w4) := Hb3.out.trans (hk4.mono Hb3.out.size); have x40 := (hk4.cell (p := ⟨B, 0, none⟩) hlt4).trans x30; have x41 := (hk4.cell (p := ⟨B, 1, none⟩) hlt4).trans x31))
  go_wp2_with fail
  go_ret
  have hz := Hz.out
  rw [HA.out, HB.out, ← Int.sub_eq_add_neg] at hz
  exact ⟨by rw [hz]; rfl, Hb4.out⟩
end Go.Proofs.YtahpbnmbphobgaaGreatDoor
namespace Go.Proofs.YtahpbnmbphobgaaGreatDoor
open Go.RowKit Go.Shelf Dec
attribute [local go_sem ↓] Go.wp_at_zero Go.wp_at_succ

theorem sgn_mul (x y : Int) : sgn (decide (x < 0) != decide (y < 0)) (x.natAbs * y.natAbs) = x * y := by
  have e : ((x.natAbs * y.natAbs : Nat) : Int) = (x.natAbs : Int) * y.natAbs := Int.natCast_mul _ _
  unfold sgn
  rw [e]
  by_cases hx : x < 0 <;> by_cases hy : y < 0 <;> simp only [hx, hy, decide_true, decide_false, bne_self_eq_false, Bool.true_bne, Bool.false_bne, Bool.not_false, Bool.false_eq_true, if_true, if_false]
  · rw [show (x.natAbs : Int) = -x by omega, show (y.natAbs : Int) = -y by omega, Int.neg_mul_neg]
  · rw [show (x.natAbs : Int) = -x by omega, show (y.natAbs : Int) = y by omega, Int.neg_mul, Int.neg_neg]
  · rw [show (x.natAbs : Int) = x by omega, show (y.natAbs : Int) = -y by omega, Int.mul_neg, Int.neg_neg]
  · rw [show (x.natAbs : Int) = x by omega, show (y.natAbs : Int) = y by omega]
theorem len_mul {a b n m : Nat} (ha : (mag a).length ≤ n) (hb : (mag b).length ≤ m) : (mag (a * b)).length ≤ n + m := by
  rw [mag_len_lt] at ha hb ⊢
  rw [Nat.pow_add]
  exact Nat.mul_lt_mul_of_lt_of_le ha (Nat.le_of_lt hb) (Nat.pow_pos BB_pos)
theorem times' (A A' : Option Addr) (c c' n n' : Nat) (a b : Nat) (w : World) (hn : (mag a).length = n) (hn' : (mag b).length = n') (hc : Mg .u64 w w.heap.size A (mag a)) (hc' : Mg .u64 w w.heap.size A' (mag b)) (hm : n ≤ 549755813888) (hm' : n' ≤ 549755813888) :
    Calls Tryz.prog 70 #[.slice A n c, .slice A' n' c'] w fun e w' => ∃ A l c, e = .returned (.slice A l c) ∧ (mag (a * b)).length = l ∧ MagS w' A c (a * b) ∧ l ≤ n + n' ∧ Below w.heap.size w w' := by
  refine (times_own' A A' c c' n n' a b w hn hn' hc hc' hm hm').mono ?_
  rintro e w' ⟨A, c, he, ho, hb⟩
  exact ⟨A, _, c, he, rfl, ho.mg, len_mul (by omega) (by omega), hb⟩
/-- two boxes -/
theorem two_boxes (w2 : World) (T : TypeId) (v0 v1 u0 u1 : Value) : ∃ W, (w2.alloc (.cells #[v0, v1] T)).alloc (.cells #[u0, u1] T) = W ∧ W.cell? ⟨w2.heap.size, 0, none⟩ = some v0 ∧ W.cell? ⟨w2.heap.size, 1, none⟩ = some v1 ∧
    W.cell? ⟨w2.heap.size + 1, 0, none⟩ = some u0 ∧ W.cell? ⟨w2.heap.size + 1, 1, none⟩ = some u1 ∧ W.heap.size = w2.heap.size + 2 ∧ Below w2.heap.size w2 W := by
  refine ⟨_, rfl, ?_, ?_, ?_, ?_, by simp, ((Below.refl _ _).alloc (Nat.le_refl _) _).alloc (by simp) _⟩
  all_goals simp [go_sem]

set_option maxRecDepth 100000 in
set_option maxHeartbeats 4000000 in
theorem Mul_any (a b : ByteArray) (w : World) (ha : a.size ≤ 68719476736) (hb : b.size ≤ 68719476736) (hg : Gl w) :
    Calls Tryz.prog 74 #[.string a, .string b] w fun e w' => e = .returned (.string (canS (valS a * valS b))) ∧ Below w.heap.size w w' := by
  have Hg := Lib.hid hg
  clear hg
  have HZ := Lib.hid (sgn_mul (valS a) (valS b))
  generalize hda : decide (valS a < 0) = na at HZ
  generalize hdb : decide (valS b < 0) = nb at HZ
  have HR1 : Hid (∀ w, Calls Tryz.prog 66 #[.string a] w fun e w' => ∃ A n c, e = .returned (.agg #[.bool na, .slice A n c]) ∧ (mag (valS a).natAbs).length = n ∧ MagS w' A c (valS a).natAbs ∧ n ≤ a.size ∧ Below w.heap.size w w') := by
    intro w; rw [← hda]; exact read' a w ha
  have HR2 : Hid (∀ w, Calls Tryz.prog 66 #[.string b] w fun e w' => ∃ A n c, e = .returned (.agg #[.bool nb, .slice A n c]) ∧ (mag (valS b).natAbs).length = n ∧ MagS w' A c (valS b).natAbs ∧ n ≤ b.size ∧ Below w.heap.size w w') := by
    intro w; rw [← hdb]; exact read' b w hb
  clear hda hdb
  go_enter Tryz.func74, Tryz.ntmps74
  go_wp2_with fail
  refine (HR1.out _).mono ?_
  rintro e w1 ⟨A1, n1, c1, rfl, hn1, hm1, hl1, hb1⟩
  have Hn1 := Lib.hid hn1
  have Hm1 := Lib.hid hm1
  have Hb1 := Lib.hid hb1
  clear hn1 hm1 hb1
  go_wp2_with fail
  refine (HR2.out _).mono ?_
  rintro e w2 ⟨A2, n2, c2, rfl, hn2, hm2, hl2, hb2⟩
  have Hn2 := Lib.hid hn2
  obtain ⟨W, hW, c00, c01, c10, c11, hsz, hbw⟩ := two_boxes w2 116 (.bool na) (.slice A1 n1 c1) (.bool nb) (.slice A2 n2 c2)
  have HW := Lib.hid hW
  have Hsz := Lib.hid hsz
  have Hm1' := Lib.hid ((Hm1.out.up hb2).up hbw)
  have Hm2' := Lib.hid (hm2.up hbw)
  have Hb2 : Hid (Below w.heap.size w W) := (Hb1.out.trans (hb2.mono Hb1.out.size)).trans (hbw.mono (Nat.le_trans Hb1.out.size hb2.size))
  clear hn2 hm2 hb2 hW hsz hbw
  go_wp2_with fail
  rw [HW.out]
  clear HW
  obtain ⟨B, hB⟩ : ∃ B, w2.heap.size = B := ⟨_, rfl⟩
  rw [hB] at c00 c01 c10 c11 Hsz ⊢
  clear hB
  go_region_held3 (fun w' => w'.cell? ⟨B, 0, none⟩ = some (.bool na) ∧ w'.cell? ⟨B, 1, none⟩ = some (.slice A1 n1 c1) ∧ w'.cell? ⟨B + 1, 0, none⟩ = some (.bool nb) ∧ w'.cell? ⟨B + 1, 1, none⟩ = some (.slice A2 n2 c2))
    (first
      | (go_keep; done)
      | exact ⟨x40, x41, x42, x43⟩
      | exact ⟨x30, x31, x32, x33⟩)
    (first
      | (go_at_call 70; refine (times' A1 A2 c1 c2 n1 n2 _ _ _ Hn1.out Hn2.out (by exact Hm1'.out.1) (by exact Hm2'.out.1) (by omega) (by omega)).mono ?_; rintro e w3 ⟨A3, l, c3, rfl, hl3, hm3, hl4, hk3⟩; have Hl3 := Lib.hid hl3; have Hm3 := Lib.hid hm3; have Hb3 : Hid (Below w.heap.size w w3) := Hb2.out.drew.trans (hk3.mono Hb2.out.size); have l0 : B < W.heap.size := (by have := Hsz.out; omega); have l1 : B + 1 < W.heap.size := (by have := Hsz.out; omega); have x30 := (hk3.cell (p := ⟨B, 0, none⟩) l0).trans c00; have x31 := (hk3.cell (p := ⟨B, 1, none⟩) l0).trans c01; have x32 := (hk3.cell (p := ⟨B + 1, 0, none⟩) l1).trans c10; have x33 := (hk3.cell (p := ⟨B + 1, 1, none⟩) l1).trans c11; clear hl3 hm3)
      | (go_at_call 67; refine (text' (na != nb) A3 c3 l _ _ Hl3.out (by exact Hm3.out) (by omega) (by exact Hg.out.below Hb3.out)).mono ?_; rintro e w4 ⟨rfl, hk4⟩; have Hb4 : Hid (Below w.heap.size w w4) := Hb3.out.trans (hk4.mono Hb3.out.size); have m0 : B < w3.heap.size := Nat.lt_of_lt_of_le l0 hk3.size; have m1 : B + 1 < w3.heap.size := Nat.lt_of_lt_of_le l1 hk3.size; have x40 := (hk4.cell (p := ⟨B, 0, none⟩) m0).trans x30; have x41 := (hk4.cell (p := ⟨B, 1, none⟩) m0).trans x31; have x42 := (hk4.cell (p := ⟨B + 1, 0, none⟩) m1).trans x32; have x43 := (hk4.cell (p := ⟨B + 1, 1, none⟩) m1).trans x33))
  go_wp2_with fail
  go_ret
  exact ⟨by rw [← HZ.out]; rfl, Hb4.out⟩
/-- the sign of a comparison -/
def cmpI (x y : Int) : Int := if x < y then -1 else if x = y then 0 else 1

set_option maxRecDepth 100000 in
set_option maxHeartbeats 4000000 in
theorem Compare_any (a b : ByteArray) (w : World) (ha : a.size ≤ 68719476736) (hb : b.size ≤ 68719476736) :
    Calls Tryz.prog 41 #[.string a, .string b] w fun e w' => e = .returned (.int .i64 (cmpI (valS a) (valS b))) ∧ Below w.heap.size w w' := by
  generalize hda : decide (valS a < 0) = na
  generalize hdb : decide (valS b < 0) = nb
  have HR1 : Hid (∀ w, Calls Tryz.prog 66 #[.string a] w fun e w' => ∃ A n c, e = .returned (.agg #[.bool na, .slice A n c]) ∧ (mag (valS a).natAbs).length = n ∧ MagS w' A c (valS a).natAbs ∧ n ≤ a.size ∧ Below w.heap.size w w') := by
    intro w; rw [← hda]; exact read' a w ha
  have HR2 : Hid (∀ w, Calls Tryz.prog 66 #[.string b] w fun e w' => ∃ A n c, e = .returned (.agg #[.bool nb, .slice A n c]) ∧ (mag (valS b).natAbs).length = n ∧ MagS w' A c (valS b).natAbs ∧ n ≤ b.size ∧ Below w.heap.size w w') := by
    intro w; rw [← hdb]; exact read' b w hb
  have HD : Hid (decide (valS a < 0) = na ∧ decide (valS b < 0) = nb) := ⟨hda, hdb⟩
  clear hda hdb
  go_enter Tryz.func41, Tryz.ntmps41
  go_wp2_with fail
  refine (HR1.out _).mono ?_
  rintro e w1 ⟨A1, n1, c1, rfl, hn1, hm1, hl1, hb1⟩
  have Hn1 := Lib.hid hn1
  have Hm1 := Lib.hid hm1
  have Hb1 := Lib.hid hb1
  clear hn1 hm1 hb1
  go_wp2_with fail
  refine (HR2.out _).mono ?_
  rintro e w2 ⟨A2, n2, c2, rfl, hn2, hm2, hl2, hb2⟩
  have Hn2 := Lib.hid hn2
  obtain ⟨W, hW, c00, c01, c10, c11, hsz, hbw⟩ := two_boxes w2 116 (.bool na) (.slice A1 n1 c1) (.bool nb) (.slice A2 n2 c2)
  have HW := Lib.hid hW
  have Hm1' := Lib.hid ((Hm1.out.up hb2).up hbw)
  have Hm2' := Lib.hid (hm2.up hbw)
  have Hb2 : Hid (Below w.heap.size w W) := (Hb1.out.trans (hb2.mono Hb1.out.size)).trans (hbw.mono (Nat.le_trans Hb1.out.size hb2.size))
  clear hn2 hm2 hb2 hW hsz hbw
  go_wp2_with fail
  rw [HW.out]
  clear HW
  refine (compare' A1 A2 c1 c2 n1 n2 _ _ _ Hn1.out Hn2.out Hm1'.out.1 Hm2'.out.1 (by omega) (by omega)).mono ?_
  rintro e w3 ⟨r, rfl, hr, hr1, hr2, nn, hw3⟩
  have Hr := Lib.hid hr
  have d00 : w3.cell? ⟨w2.heap.size, 0, none⟩ = some (.bool na) := by rw [hw3]; exact c00
  have d10 : w3.cell? ⟨w2.heap.size + 1, 0, none⟩ = some (.bool nb) := by rw [hw3]; exact c10
  have Hb3 : Hid (Below w.heap.size w w3) := by show Below _ _ _; rw [hw3]; exact Hb2.out.trans (below_drewN _ _ _)
  clear hr hw3 c00 c01 c10 c11
  have key : Hid ((na = false → nb = true → cmpI (valS a) (valS b) = 1) ∧ (na = true → nb = false → cmpI (valS a) (valS b) = -1) ∧ (na = false → nb = false → cmpI (valS a) (valS b) = if r < 0 then -1 else if r = 0 then 0 else 1) ∧ (na = true → nb = true → cmpI (valS a) (valS b) = if r < 0 then 1 else if r = 0 then 0 else -1)) := by
    have h := HD.out
    have hc := Hr.out
    unfold CmpIs at hc
    unfold cmpI
    rw [← h.1, ← h.2]
    simp only [decide_eq_true_eq, decide_eq_false_iff_not]
    refine ⟨?_, ?_, ?_, ?_⟩ <;> intro h1 h2 <;> split <;> (try split) <;> (try split) <;> (try split) <;> first | rfl | omega
  clear HD Hr
  rcases Int.lt_trichotomy r 0 with h | h | h
  all_goals
    (try subst h)
    cases na <;> cases nb
    all_goals
      obtain ⟨v, hv, K⟩ : ∃ v, v = cmpI (valS a) (valS b) ∧ Hid (cmpI (valS a) (valS b) = v) := ⟨_, rfl, rfl⟩
      first
        | rw [key.out.1 rfl rfl] at hv
        | rw [key.out.2.1 rfl rfl] at hv
        | rw [key.out.2.2.1 rfl rfl] at hv
        | rw [key.out.2.2.2 rfl rfl] at hv
      (try rw [if_pos h] at hv)
      (try rw [if_neg (show ¬ r < 0 by omega), if_neg (show ¬ r = 0 by omega)] at hv)
      have HV := Lib.hid hv
      clear key hv
      go_wp2_with fail
      go_ret
      refine ⟨ret_int ?_, Hb3.out⟩
      rw [K.out, HV.out]
      first | rfl | omega
end Go.Proofs.YtahpbnmbphobgaaGreatDoor
namespace Go.Proofs.YtahpbnmbphobgaaGreatDoor
open Go.RowKit Go.Shelf Dec
attribute [local go_sem ↓] Go.wp_at_zero Go.wp_at_succ

theorem divide' (A A' : Option Addr) (c c' n m : Nat) (a b : Nat) (w : World) (hn : (mag a).length = n) (hn' : (mag b).length = m) (hc : MagS w A c a) (hc' : MagS w A' c' b) (hm : n ≤ 274877906944) (hm' : m ≤ 274877906944) (hb : b ≠ 0) :
    Calls Tryz.prog 157 #[.slice A n c, .slice A' m c'] w fun e w' => ∃ A k c A' k' c', e = .returned (.tuple #[.slice A k c, .slice A' k' c']) ∧ (mag (a / b)).length = k ∧ (mag (a % b)).length = k' ∧ MagS w' A c (a / b) ∧ MagS w' A' c' (a % b) ∧ k ≤ n ∧ k' ≤ m ∧ Below w.heap.size w w' := by
  subst hn hn'
  refine (divide_any A A' c c' a b w hc hc' hm hm' hb).mono ?_
  rintro e w' ⟨A, c, A', c', he, h1, h2, h3⟩
  refine ⟨A, _, c, A', _, c', he, rfl, rfl, h1, h2, ?_, ?_, h3⟩
  · rw [mag_len_lt]
    exact Nat.lt_of_le_of_lt (Nat.div_le_self _ _) (mag_len_lt.1 (Nat.le_refl _))
  · rw [mag_len_lt]
    exact Nat.lt_trans (Nat.mod_lt _ (by omega)) (mag_len_lt.1 (Nat.le_refl _))
/-- the quotient, rounded down, by signs and sizes -/
theorem div_same (x y : Int) (hy : y ≠ 0) (h : decide (x < 0) = decide (y < 0)) : sgn false (x.natAbs / y.natAbs) = x.fdiv y ∧ sgn (decide (y < 0)) (x.natAbs % y.natAbs) = x.fmod y := by
  have e := Nat.mod_add_div x.natAbs y.natAbs
  have hl := Nat.mod_lt x.natAbs (show y.natAbs > 0 by omega)
  generalize hq : x.natAbs / y.natAbs = q at *
  generalize hr : x.natAbs % y.natAbs = r at *
  have e' : (r : Int) + (y.natAbs : Int) * q = x.natAbs := by rw [← Int.natCast_mul]; omega
  unfold sgn
  by_cases hx : x < 0
  · have hy' : y < 0 := by simpa [hx] using h
    have := (Int.fdiv_fmod_unique' (a := x) (b := y) (r := -(r : Int)) (q := q) hy').2 ⟨by rw [show (y.natAbs : Int) = -y by omega, Int.neg_mul] at e'; omega, by omega, by omega⟩
    simp [hy', this.1, this.2]
  · have hy' : ¬ y < 0 := by simpa [hx] using h
    have := (Int.fdiv_fmod_unique (a := x) (b := y) (r := (r : Int)) (q := q) (by omega)).2 ⟨by rw [show (y.natAbs : Int) = y by omega] at e'; omega, by omega, by omega⟩
    simp [hy', this.1, this.2]
theorem div_zero_rest (x y : Int) (hy : y ≠ 0) (h : decide (x < 0) ≠ decide (y < 0)) (hr0 : x.natAbs % y.natAbs = 0) : sgn true (x.natAbs / y.natAbs) = x.fdiv y ∧ sgn (decide (y < 0)) (x.natAbs % y.natAbs) = x.fmod y := by
  have e := Nat.mod_add_div x.natAbs y.natAbs
  rw [hr0] at e ⊢
  generalize hq : x.natAbs / y.natAbs = q at *
  have e' : (y.natAbs : Int) * q = x.natAbs := by rw [← Int.natCast_mul]; omega
  unfold sgn
  by_cases hx : x < 0
  · have hy' : ¬ y < 0 := by simpa [hx] using h
    have := (Int.fdiv_fmod_unique (a := x) (b := y) (r := 0) (q := -(q : Int)) (by omega)).2 ⟨by rw [show (y.natAbs : Int) = y by omega] at e'; rw [Int.mul_neg]; omega, by omega, by omega⟩
    simp [hy', this.1, this.2]
  · have hy' : y < 0 := by simpa [hx] using h
    have := (Int.fdiv_fmod_unique' (a := x) (b := y) (r := 0) (q := -(q : Int)) hy').2 ⟨by rw [show (y.natAbs : Int) = -y by omega, Int.neg_mul] at e'; rw [Int.mul_neg]; omega, by omega, by omega⟩
    simp [hy', this.1, this.2]
theorem div_diff (x y : Int) (hy : y ≠ 0) (h : decide (x < 0) ≠ decide (y < 0)) (hr0 : x.natAbs % y.natAbs ≠ 0) : sgn true (x.natAbs / y.natAbs + 1) = x.fdiv y ∧ sgn (decide (y < 0)) (y.natAbs - x.natAbs % y.natAbs) = x.fmod y := by
  have e := Nat.mod_add_div x.natAbs y.natAbs
  have hl := Nat.mod_lt x.natAbs (show y.natAbs > 0 by omega)
  generalize hq : x.natAbs / y.natAbs = q at *
  generalize hr : x.natAbs % y.natAbs = r at *
  have e' : (r : Int) + (y.natAbs : Int) * q = x.natAbs := by rw [← Int.natCast_mul]; omega
  have e2 : ((y.natAbs - r : Nat) : Int) = y.natAbs - r := by omega
  unfold sgn
  rw [e2]
  by_cases hx : x < 0
  · have hy' : ¬ y < 0 := by simpa [hx] using h
    have := (Int.fdiv_fmod_unique (a := x) (b := y) (r := (y.natAbs : Int) - r) (q := -((q + 1 : Nat) : Int)) (by omega)).2 ⟨by rw [show (y.natAbs : Int) = y by omega] at e' ⊢; rw [Int.mul_neg, Int.natCast_add, Int.mul_add]; omega, by omega, by omega⟩
    simp only [hy', decide_false, if_true, Bool.false_eq_true, if_false]
    exact ⟨this.1.symm, this.2.symm⟩
  · have hy' : y < 0 := by simpa [hx] using h
    have := (Int.fdiv_fmod_unique' (a := x) (b := y) (r := -((y.natAbs : Int) - r)) (q := -((q + 1 : Nat) : Int)) hy').2 ⟨by rw [show (y.natAbs : Int) = -y by omega] at e' ⊢; rw [Int.neg_mul] at e'; rw [Int.mul_neg, Int.natCast_add, Int.mul_add]; omega, by omega, by omega⟩
    simp only [hy', decide_true, if_true]
    exact ⟨this.1.symm, this.2.symm⟩

theorem mg_one (w : World) : Mg .u64 (w.alloc (.cells #[.int .u64 1] 123)) (w.alloc (.cells #[.int .u64 1] 123)).heap.size (some ⟨w.heap.size, 0, none⟩) [1] := by
  rw [World.size_alloc]; exact mg_new w [1]
theorem plus1 (A A' : Option Addr) (c c' n : Nat) (a : Nat) (w : World) (hn : (mag a).length = n) (hc : Mg .u64 w w.heap.size A (mag a)) (hc' : Mg .u64 w w.heap.size A' [1]) (hm : n ≤ 274877906944) :
    Calls Tryz.prog 114 #[.slice A n c, .slice A' 1 c'] w fun e w' => ∃ A k c, e = .returned (.slice A k c) ∧ (mag (a + 1)).length = k ∧ MagS w' A c (a + 1) ∧ k ≤ n + 1 ∧ Below w.heap.size w w' := by
  have h1 : mag 1 = [1] := mag_one (by decide) (by decide)
  refine (plus' A A' c c' n 1 a 1 w hn (by rw [h1]; rfl) hc (by rw [h1]; exact hc') (by omega) (by omega)).mono ?_
  rintro e w' ⟨A, c, he, ho, hb⟩
  refine ⟨A, _, c, he, rfl, ho.mg, ?_, hb⟩
  rw [mag_len_lt, Nat.pow_succ]
  have h2 : a < BB ^ n := mag_len_lt.1 (by omega)
  have h3 : BB ^ n * 2 ≤ BB ^ n * BB := Nat.mul_le_mul_left _ (by decide)
  have h4 : 0 < BB ^ n := Nat.pow_pos BB_pos
  omega
theorem minus2 (A A' : Option Addr) (c c' n m : Nat) (a b : Nat) (w : World) (hn : (mag a).length = n) (hn' : (mag b).length = m) (hc : Mg .u64 w w.heap.size A (mag a)) (hc' : Mg .u64 w w.heap.size A' (mag b)) (hm : n ≤ 274877906944) (hle : b ≤ a) :
    Calls Tryz.prog 115 #[.slice A n c, .slice A' m c'] w fun e w' => ∃ A k c, e = .returned (.slice A k c) ∧ (mag (a - b)).length = k ∧ MagS w' A c (a - b) ∧ k ≤ n ∧ Below w.heap.size w w' := by
  refine (minus' A A' c c' n m a b w hn hn' hc hc' (by omega) hle).mono ?_
  rintro e w' ⟨A, c, he, ho, hb⟩
  refine ⟨A, _, c, he, rfl, ho.mg, ?_, hb⟩
  rw [mag_len_lt]
  exact Nat.lt_of_le_of_lt (Nat.sub_le _ _) (mag_len_lt.1 (by omega))

/-- what Div hands back -/
def divR (x y : Int) : ByteArray × ByteArray × Int := if y = 0 then (⟨#[]⟩, ⟨#[]⟩, 10) else (canS (x.fdiv y), canS (x.fmod y), 0)
def DivS (x y : Int) (w : World) (e : Ending) (w' : World) : Prop := e = .returned (.tuple #[.string (divR x y).1, .string (divR x y).2.1, .int .i64 (divR x y).2.2]) ∧ Below w.heap.size w w'
theorem ret_three {v v' u u' t t' : Value} (h : v = v') (h2 : u = u') (h3 : t = t') : Ending.returned (.tuple #[v, u, t]) = .returned (.tuple #[v', u', t']) := by rw [h, h2, h3]

set_option maxRecDepth 100000 in
set_option maxHeartbeats 8000000 in
theorem Div_any (a b : ByteArray) (w : World) (ha : a.size ≤ 68719476736) (hb : b.size ≤ 68719476736) (hg : Gl w) :
    Calls Tryz.prog 118 #[.string a, .string b] w (DivS (valS a) (valS b) w) := by
  have Hg := Lib.hid hg
  clear hg
  obtain ⟨na, hda⟩ : ∃ na, decide (valS a < 0) = na := ⟨_, rfl⟩
  obtain ⟨nb, hdb⟩ : ∃ nb, decide (valS b < 0) = nb := ⟨_, rfl⟩
  have HR1 : Hid (∀ w, Calls Tryz.prog 66 #[.string a] w fun e w' => ∃ A n c, e = .returned (.agg #[.bool na, .slice A n c]) ∧ (mag (valS a).natAbs).length = n ∧ MagS w' A c (valS a).natAbs ∧ n ≤ a.size ∧ Below w.heap.size w w') := by
    intro w; rw [← hda]; exact read' a w ha
  have HR2 : Hid (∀ w, Calls Tryz.prog 66 #[.string b] w fun e w' => ∃ A n c, e = .returned (.agg #[.bool nb, .slice A n c]) ∧ (mag (valS b).natAbs).length = n ∧ MagS w' A c (valS b).natAbs ∧ n ≤ b.size ∧ Below w.heap.size w w') := by
    intro w; rw [← hdb]; exact read' b w hb
  have HD1 := Lib.hid hda
  have HD2 := Lib.hid hdb
  clear hda hdb
  obtain ⟨x, hx⟩ : ∃ x, valS a = x := ⟨_, rfl⟩
  obtain ⟨y, hy⟩ : ∃ y, valS b = y := ⟨_, rfl⟩
  rw [hx] at HR1 HD1 ⊢
  rw [hy] at HR2 HD2 ⊢
  clear hx hy
  go_enter Tryz.func118, Tryz.ntmps118
  go_wp2_with fail
  refine (HR1.out _).mono ?_
  rintro e w1 ⟨A1, n1, c1, rfl, hn1, hm1, hl1, hb1⟩
  have Hn1 := Lib.hid hn1
  have Hm1 := Lib.hid hm1
  have Hb1 := Lib.hid hb1
  clear hn1 hm1 hb1
  go_wp2_with fail
  refine (HR2.out _).mono ?_
  rintro e w2 ⟨A2, n2, c2, rfl, hn2, hm2, hl2, hb2⟩
  have Hn2 := Lib.hid hn2
  obtain ⟨W, hW, c00, c01, c10, c11, hsz, hbw⟩ := two_boxes w2 116 (.bool na) (.slice A1 n1 c1) (.bool nb) (.slice A2 n2 c2)
  have HW := Lib.hid hW
  have Hsz := Lib.hid hsz
  have Hm1' := Lib.hid ((Hm1.out.up hb2).up hbw)
  have Hm2' := Lib.hid (hm2.up hbw)
  have Hb2 : Hid (Below w.heap.size w W) := (Hb1.out.trans (hb2.mono Hb1.out.size)).trans (hbw.mono (Nat.le_trans Hb1.out.size hb2.size))
  clear hn2 hm2 hb2 hW hsz hbw
  by_cases hy : y = 0
  · subst hy
    have h0 : n2 = 0 := by rw [← Hn2.out]; rfl
    subst h0
    go_wp2_with fail
    go_ret3
    exact ⟨rfl, by rw [HW.out]; exact Hb2.out⟩
  · have hn0 : n2 ≠ 0 := by
      intro e
      have h1 := Hn2.out
      rw [e] at h1
      have := mag_nil.1 (List.eq_nil_of_length_eq_zero h1)
      omega
    have q0 : ((n2 : Int) == 0) = false := by simp; omega
    have hy2 : y.natAbs ≠ 0 := by omega
    have HY2 := Lib.hid hy2
    have HY := Lib.hid hy
    have HE : Hid (divR x y = (canS (x.fdiv y), canS (x.fmod y), 0)) := by show _ = _; unfold divR; rw [if_neg hy]
    clear hn0 hy hy2
    go_wp2_with fail
    rw [HW.out]
    clear HW
    obtain ⟨B, hB⟩ : ∃ B, w2.heap.size = B := ⟨_, rfl⟩
    rw [hB] at c00 c01 c10 c11 Hsz ⊢
    clear hB
    refine (divide' A1 A2 c1 c2 n1 n2 _ _ _ Hn1.out Hn2.out Hm1'.out Hm2'.out (by omega) (by omega) HY2.out).mono ?_
    rintro e w3 ⟨A3, k3, c3, A4, k4, c4, rfl, hk3, hk4, hm3, hm4, hl3, hl4, hb3⟩
    have Hk3 := Lib.hid hk3
    have Hk4 := Lib.hid hk4
    have Hm3 := Lib.hid hm3
    have Hm4 := Lib.hid hm4
    have Hm2'' := Lib.hid (Hm2'.out.up hb3)
    have l0 : B < W.heap.size := by have := Hsz.out; omega
    have l1 : B + 1 < W.heap.size := by have := Hsz.out; omega
    have d00 := (hb3.cell (p := ⟨B, 0, none⟩) l0).trans c00
    have d10 := (hb3.cell (p := ⟨B + 1, 0, none⟩) l1).trans c10
    have d11 := (hb3.cell (p := ⟨B + 1, 1, none⟩) l1).trans c11
    have Hs3 : Hid (B + 1 < w3.heap.size) := Nat.lt_of_lt_of_le l1 hb3.size
    have Hb3 : Hid (Below w.heap.size w w3) := Hb2.out.trans (hb3.mono Hb2.out.size)
    clear hk3 hk4 hm3 hm4 hb3 l0 l1 c00 c01 c10 c11
    by_cases hs : na = nb
    · subst hs
      have q1 : (na != na) = false := by simp
      have HF := Lib.hid (div_same x y HY.out (HD1.out.trans HD2.out.symm))
      go_wp2_with fail
      have lt0 : B < w3.heap.size := by have := Hs3.out; omega
      have lt1 : B + 1 < w3.heap.size := Hs3.out
      go_region_held3 (fun w' => w'.cell? ⟨B, 0, none⟩ = some (.bool na) ∧ w'.cell? ⟨B + 1, 0, none⟩ = some (.bool na))
        (first
          | (go_keep; done)
          | exact ⟨xq0, xq1⟩
          | exact ⟨xr0, xr1⟩)
        (first
          | (go_at_call 67; (with_reducible refine (text' false A3 c3 k3 _ _ Hk3.out ?_ ?_ ?_).mono ?_); (first | exact Hm3.out | exact Hm3.out.up hR3); omega; (first | exact Hg.out.below Hb3.out.drew | exact Hg.out.below HbR.out); rintro e wq ⟨rfl, hkq⟩; have hQ3 : Below w3.heap.size w3 wq := (by first | exact ((Below.refl _ _).drew).trans hkq | exact hR3.trans (hkq.mono hR3.size)); have HbQ := Lib.hid (Hb3.out.trans (hQ3.mono Hb3.out.size)); have xq0 := (hQ3.cell (p := ⟨B, 0, none⟩) lt0).trans d00; have xq1 := (hQ3.cell (p := ⟨B + 1, 0, none⟩) lt1).trans d10)
          | (go_at_call 67; (with_reducible refine (text' na A4 c4 k4 _ _ Hk4.out ?_ ?_ ?_).mono ?_); (first | exact Hm4.out | exact Hm4.out.up hQ3); omega; (first | exact Hg.out.below Hb3.out.drew | exact Hg.out.below HbQ.out); rintro e wz ⟨rfl, hkr⟩; have hR3 : Below w3.heap.size w3 wz := (by first | exact ((Below.refl _ _).drew).trans hkr | exact hQ3.trans (hkr.mono hQ3.size)); have HbR := Lib.hid (Hb3.out.trans (hR3.mono Hb3.out.size)); have xr0 := (hR3.cell (p := ⟨B, 0, none⟩) lt0).trans d00; have xr1 := (hR3.cell (p := ⟨B + 1, 0, none⟩) lt1).trans d10))
      all_goals
        go_wp2_with fail
        go_ret3
        refine ⟨?_, by first | exact HbR.out | exact HbQ.out⟩
        rw [HE.out]
        exact ret_three (by rw [← HF.out.1]; rfl) (by rw [← HF.out.2, HD2.out]; rfl) rfl
    · obtain rfl : nb = !na := by cases na <;> cases nb <;> simp_all
      have q1 : (na != !na) = true := by cases na <;> rfl
      by_cases hr : x.natAbs % y.natAbs = 0
      · have h0 : k4 = 0 := by rw [← Hk4.out, hr]; rfl
        subst h0
        have HF := Lib.hid (div_zero_rest x y HY.out (by rw [HD1.out, HD2.out]; exact hs) hr)
        clear hs hr
        go_wp2_with fail
        have lt0 : B < w3.heap.size := by have := Hs3.out; omega
        have lt1 : B + 1 < w3.heap.size := Hs3.out
        go_region_held3 (fun w' => w'.cell? ⟨B, 0, none⟩ = some (.bool na) ∧ w'.cell? ⟨B + 1, 0, none⟩ = some (.bool (!na)))
          (first
            | (go_keep; done)
            | exact ⟨xq0, xq1⟩
            | exact ⟨xr0, xr1⟩)
          (first
            | (go_at_call 67; (with_reducible refine (text' true A3 c3 k3 _ _ Hk3.out ?_ ?_ ?_).mono ?_); (first | exact Hm3.out | exact Hm3.out.up hR3); omega; (first | exact Hg.out.below Hb3.out.drew | exact Hg.out.below HbR.out); rintro e wq ⟨rfl, hkq⟩; have hQ3 : Below w3.heap.size w3 wq := (by first | exact ((Below.refl _ _).drew).trans hkq | exact hR3.trans (hkq.mono hR3.size)); have HbQ := Lib.hid (Hb3.out.trans (hQ3.mono Hb3.out.size)); have xq0 := (hQ3.cell (p := ⟨B, 0, none⟩) lt0).trans d00; have xq1 := (hQ3.cell (p := ⟨B + 1, 0, none⟩) lt1).trans d10)
            | (go_at_call 67; (with_reducible refine (text' (!na) A4 c4 0 _ _ Hk4.out ?_ ?_ ?_).mono ?_); (first | exact Hm4.out | exact Hm4.out.up hQ3); omega; (first | exact Hg.out.below Hb3.out.drew | exact Hg.out.below HbQ.out); rintro e wz ⟨rfl, hkr⟩; have hR3 : Below w3.heap.size w3 wz := (by first | exact ((Below.refl _ _).drew).trans hkr | exact hQ3.trans (hkr.mono hQ3.size)); have HbR := Lib.hid (Hb3.out.trans (hR3.mono Hb3.out.size)); have xr0 := (hR3.cell (p := ⟨B, 0, none⟩) lt0).trans d00; have xr1 := (hR3.cell (p := ⟨B + 1, 0, none⟩) lt1).trans d10))
        all_goals
          go_wp2_with fail
          go_ret3
          refine ⟨?_, by first | exact HbR.out | exact HbQ.out⟩
          rw [HE.out]
          exact ret_three (by rw [← HF.out.1]; rfl) (by rw [← HF.out.2, HD2.out]; rfl) rfl
      · have HF := Lib.hid (div_diff x y HY.out (by rw [HD1.out, HD2.out]; exact hs) hr)
        have hk4p : 0 < k4 := by
          rcases Nat.eq_zero_or_pos k4 with e | e
          · rw [e] at Hk4; exact absurd (mag_nil.1 (List.eq_nil_of_length_eq_zero Hk4.out)) hr
          · exact e
        have q2 : decide ((0 : Int) < (k4 : Int)) = true := decide_eq_true (by omega)
        clear hs hr
        go_wp2_with fail
        have lt0 : B < w3.heap.size := by have := Hs3.out; omega
        have lt1 : B + 1 < w3.heap.size := Hs3.out
        have Hlt : Hid (x.natAbs % y.natAbs ≤ y.natAbs) := Nat.le_of_lt (Nat.mod_lt _ (by have := HY2.out; omega))
        go_upto_region 6 with (fail)
        go_cut [9, 10] (fun s u wx => ∃ A5 k5 c5 A6 k6 c6, s = .slice A5 k5 c5 ∧ u = .slice A6 k6 c6 ∧ k5 ≤ 68719476737 ∧ k6 ≤ 68719476737 ∧ Hid ((mag (x.natAbs / y.natAbs + 1)).length = k5 ∧ (mag (y.natAbs - x.natAbs % y.natAbs)).length = k6 ∧ MagS wx A5 c5 (x.natAbs / y.natAbs + 1) ∧ MagS wx A6 c6 (y.natAbs - x.natAbs % y.natAbs) ∧ Below w3.heap.size w3 wx))
        case first =>
          go_region_held3 (fun w' => w'.cell? ⟨B + 1, 1, none⟩ = some (.slice A2 n2 c2))
            (first
              | (go_keep; done)
              | exact xm1
              | exact xp1
              | (rw [World.cell?_alloc_lt _ _ _ (by exact lt1)]; exact d11)
              | (rw [World.cell?_alloc_lt _ _ _ (by exact Nat.lt_of_lt_of_le lt1 hM3.size)]; exact xm1))
            (first
              | (go_at_call 114; (with_reducible refine (plus1 A3 _ c3 1 k3 _ _ Hk3.out ?_ ?_ ?_).mono ?_); (first | exact Hm3.out.1.up (((Below.refl _ w3).alloc (Nat.le_refl _) _).drew) | exact Hm3.out.1.up hM3 | exact Hm3.out.1.up (hM3.alloc hM3.size _)); (first | exact mg_one _ | exact (mg_one w3).up hkm); omega; rintro e wp ⟨A5, k5, c5, rfl, hk5, hm5, hl5, hkp⟩; have hP3 : Below w3.heap.size w3 wp := (by first | exact (((Below.refl _ w3).alloc (Nat.le_refl _) _).drew).trans (hkp.mono (by show _ ≤ (w3.alloc _).heap.size; rw [World.size_alloc]; exact Nat.le_succ _)) | exact hM3.trans (hkp.mono hM3.size) | exact (hM3.alloc hM3.size _).trans (hkp.mono (Nat.le_trans hM3.size (by rw [World.size_alloc]; exact Nat.le_succ _)))); have Hk5 := Lib.hid hk5; have Hm5 := Lib.hid hm5; have xp1 := (hP3.cell (p := ⟨B + 1, 1, none⟩) lt1).trans d11; clear hk5 hm5)
              | (go_at_call 115; (with_reducible refine (minus2 A2 A4 c2 c4 n2 k4 _ _ _ Hn2.out Hk4.out ?_ ?_ ?_ Hlt.out).mono ?_); (first | exact Hm2''.out.1 | exact Hm2''.out.1.up (((Below.refl _ w3).alloc (Nat.le_refl _) _).drew) | exact Hm2''.out.1.up hP3); (first | exact Hm4.out.1 | exact Hm4.out.1.up (((Below.refl _ w3).alloc (Nat.le_refl _) _).drew) | exact Hm4.out.1.up hP3); omega; rintro e wm ⟨A6, k6, c6, rfl, hk6, hm6, hl6, hkm⟩; have hM3 : Below w3.heap.size w3 wm := (by first | exact ((Below.refl _ w3).drew).trans hkm | exact (((Below.refl _ w3).alloc (Nat.le_refl _) _).drew).trans (hkm.mono (by show _ ≤ (w3.alloc _).heap.size; rw [World.size_alloc]; exact Nat.le_succ _)) | exact hP3.trans (hkm.mono hP3.size)); have Hk6 := Lib.hid hk6; have Hm6 := Lib.hid hm6; have xm1 := (hM3.cell (p := ⟨B + 1, 1, none⟩) lt1).trans d11; clear hk6 hm6))
          all_goals
            go_wp2_with fail
            go_meet
            refine ⟨A5, k5, c5, A6, k6, c6, rfl, rfl, by omega, by omega, Hk5.out, Hk6.out, ?_, ?_, ?_⟩
            · first | exact Hm5.out | exact Hm5.out.up hkm
            · first | exact Hm6.out | exact Hm6.out.up hkp | exact Hm6.out.up (((Below.refl _ _).alloc (Nat.le_refl _) _).trans (hkp.mono (by rw [World.size_alloc]; exact Nat.le_succ _)))
            · first | exact hP3 | exact hM3
        case rest =>
        obtain ⟨A5, k5, c5, A6, k6, c6, rfl, rfl, hk5, hk6, R⟩ := hcut
        have Hk5 := Lib.hid R.out.1
        have Hk6 := Lib.hid R.out.2.1
        have Hm5 := Lib.hid R.out.2.2.1
        have Hm6 := Lib.hid R.out.2.2.2.1
        have Hb6 : Hid (Below w.heap.size w wc) := Hb3.out.trans (R.out.2.2.2.2.mono Hb3.out.size)
        have d00' := (R.out.2.2.2.2.cell (p := ⟨B, 0, none⟩) lt0).trans d00
        have d10' := (R.out.2.2.2.2.cell (p := ⟨B + 1, 0, none⟩) lt1).trans d10
        have lt1' : B + 1 < wc.heap.size := Nat.lt_of_lt_of_le lt1 R.out.2.2.2.2.size
        have lt0' : B < wc.heap.size := by omega
        clear d00 d10 d11 R lt0 lt1
        go_wp2_with fail
        go_region_held3 (fun w' => w'.cell? ⟨B, 0, none⟩ = some (.bool na) ∧ w'.cell? ⟨B + 1, 0, none⟩ = some (.bool (!na)))
          (first
            | (go_keep; done)
            | exact ⟨xq0, xq1⟩
            | exact ⟨xr0, xr1⟩)
          (first
            | (go_at_call 67; (with_reducible refine (text' true A5 c5 k5 _ _ Hk5.out ?_ ?_ ?_).mono ?_); (first | exact Hm5.out | exact Hm5.out.up hR3); omega; (first | exact Hg.out.below Hb6.out.drew | exact Hg.out.below HbR.out); rintro e wq ⟨rfl, hkq⟩; have hQ3 : Below wc.heap.size wc wq := (by first | exact ((Below.refl _ _).drew).trans hkq | exact hR3.trans (hkq.mono hR3.size)); have HbQ := Lib.hid (Hb6.out.trans (hQ3.mono Hb6.out.size)); have xq0 := (hQ3.cell (p := ⟨B, 0, none⟩) lt0').trans d00'; have xq1 := (hQ3.cell (p := ⟨B + 1, 0, none⟩) lt1').trans d10')
            | (go_at_call 67; (with_reducible refine (text' (!na) A6 c6 k6 _ _ Hk6.out ?_ ?_ ?_).mono ?_); (first | exact Hm6.out | exact Hm6.out.up hQ3); omega; (first | exact Hg.out.below Hb6.out.drew | exact Hg.out.below HbQ.out); rintro e wz ⟨rfl, hkr⟩; have hR3 : Below wc.heap.size wc wz := (by first | exact ((Below.refl _ _).drew).trans hkr | exact hQ3.trans (hkr.mono hQ3.size)); have HbR := Lib.hid (Hb6.out.trans (hR3.mono Hb6.out.size)); have xr0 := (hR3.cell (p := ⟨B, 0, none⟩) lt0').trans d00'; have xr1 := (hR3.cell (p := ⟨B + 1, 0, none⟩) lt1').trans d10'))
        all_goals
          go_wp2_with fail
          go_ret3
          refine ⟨?_, by first | exact HbR.out | exact HbQ.out⟩
          rw [HE.out]
          exact ret_three (by rw [← HF.out.1]; rfl) (by rw [← HF.out.2, HD2.out]; rfl) rfl
end Go.Proofs.YtahpbnmbphobgaaGreatDoor
namespace Go.Proofs.YtahpbnmbphobgaaGreatDoor
open Go.RowKit Go.Shelf Dec

/-- digits without an overflow, or one -/
theorem parseM_or (m : Nat) : ∀ (l : Bytes) (n : Nat), (∀ d ∈ l, isDig d = true) → n ≤ m → m ≤ 18446744073709551615 →
    (n * 10 ^ l.length + natOf l ≤ m ∧ Lib.parseUintM m n l = .ok (n * 10 ^ l.length + natOf l)) ∨ (m < n * 10 ^ l.length + natOf l ∧ (m = 18446744073709551615 → Lib.parseUintM m n l = .range)) := by
  intro l
  induction l with
  | nil => intro n _ h _; left; simp [Lib.parseUintM, natOf]; exact h
  | cons d l ih =>
    intro n h hn hM
    have hd := h d List.mem_cons_self
    unfold isDig at hd
    simp at hd
    have hp : 1 ≤ 10 ^ l.length := Nat.pow_pos (by omega)
    have e : n * 10 ^ (d :: l).length + natOf (d :: l) = (n * 10 + (d.toNat - 48)) * 10 ^ l.length + natOf l := by
      rw [natOf_cons, List.length_cons, Nat.pow_succ, Nat.add_mul]; grind
    rw [e]
    have hlow : n * 10 + (d.toNat - 48) ≤ (n * 10 + (d.toNat - 48)) * 10 ^ l.length := Nat.le_mul_of_pos_right _ hp
    by_cases h1 : 1844674407370955162 ≤ n
    · right
      refine ⟨by omega, fun _ => ?_⟩
      rw [Lib.parseUintM, if_pos hd, if_pos h1]
    · by_cases h2 : m < n * 10 + (d.toNat - 48)
      · right
        refine ⟨by omega, fun _ => ?_⟩
        rw [Lib.parseUintM, if_pos hd, if_neg h1, if_pos h2]
      · rw [Lib.parseUintM, if_pos hd, if_neg h1, if_neg h2]
        exact ih _ (fun x hx => h x (List.mem_cons_of_mem _ hx)) (by omega) hM
/-- what ParseInt makes of the text of a value -/
theorem parse_prt (z : Int) : Lib.parseIntB 64 (prt z) = if -9223372036854775808 ≤ z ∧ z ≤ 9223372036854775807 then .ok z else .range := by
  have key : ∀ (l : Bytes), l ≠ [] → (∀ d ∈ l, isDig d = true) → (natOf l ≤ 18446744073709551615 ∧ Lib.parseUintB 64 l = .ok (natOf l)) ∨ (18446744073709551615 < natOf l ∧ Lib.parseUintB 64 l = .range) := by
    intro l h0 h
    unfold Lib.parseUintB
    rw [if_neg h0]
    have := parseM_or (2 ^ 64 - 1) l 0 h (by omega) (by omega)
    simp only [Nat.zero_mul, Nat.zero_add] at this
    rcases this with h | h
    · exact .inl h
    · exact .inr ⟨h.1, by first | exact h.2 rfl | exact h.2 trivial⟩
  unfold prt
  by_cases hz : z = 0
  · subst hz; rfl
  · rw [if_neg hz]
    unfold canon
    by_cases hneg : z < 0
    · rw [if_pos hneg]
      have hne : dec z.natAbs ≠ [] := fun e => by rw [dec_nil] at e; omega
      have hk := key (dec z.natAbs) hne (dec_dig _)
      rw [natOf_dec] at hk
      unfold Lib.parseIntB
      simp only [show (45 : UInt8).toNat = 45 from rfl]
      rw [if_pos (Or.inr trivial)]
      rcases hk with ⟨h1, h2⟩ | ⟨h1, h2⟩
      · rw [h2]
        simp only [not_true_eq_false, false_and, if_false, true_and, if_true]
        by_cases h3 : 2 ^ (64 - 1) < z.natAbs
        · rw [if_pos h3, if_neg (by omega)]
        · rw [if_neg h3, if_pos (by omega), show -(z.natAbs : Int) = z by omega]
      · rw [h2]
        rw [if_neg (by omega)]
    · rw [if_neg hneg]
      have hne : dec z.natAbs ≠ [] := fun e => by rw [dec_nil] at e; omega
      have hk := key (dec z.natAbs) hne (dec_dig _)
      rw [natOf_dec] at hk
      have hdg := dec_dig z.natAbs
      cases hd : dec z.natAbs with
      | nil => exact absurd hd hne
      | cons c r =>
        have hc := hdg c (by rw [hd]; exact List.mem_cons_self)
        unfold isDig at hc
        simp at hc
        rw [hd] at hk
        unfold Lib.parseIntB
        simp only [if_neg (show ¬ (c.toNat = 43 ∨ c.toNat = 45) by omega)]
        have hc45 : ¬ c.toNat = 45 := by omega
        rcases hk with ⟨h1, h2⟩ | ⟨h1, h2⟩
        · rw [h2]
          simp only [hc45, not_false_eq_true, true_and, false_and, if_false]
          by_cases h3 : 2 ^ (64 - 1) ≤ z.natAbs
          · rw [if_pos h3, if_neg (by omega)]
          · rw [if_neg h3, if_pos (by omega), show (z.natAbs : Int) = z by omega]
        · rw [h2]
          rw [if_neg (by omega)]

/-- what Small hands back -/
def sml (z : Int) : Int × Bool := if -9223372036854775808 ≤ z ∧ z ≤ 9223372036854775807 then (z, true) else (0, false)
theorem size_prt (a : ByteArray) : (str (prt (valS a))).size ≤ a.size + 1 := by
  unfold prt
  split
  · rw [size_str]; simp
  · exact size_canS_le a

set_option maxRecDepth 100000 in
set_option maxHeartbeats 2000000 in
theorem Small_any (a : ByteArray) (w : World) (ha : a.size ≤ 68719476736) (hg : Gl w) :
    Calls Tryz.prog 231 #[.string a] w fun e w' => e = .returned (.tuple #[.int .i64 (sml (valS a)).1, .bool (sml (valS a)).2]) ∧ Below w.heap.size w w' := by
  have Hg := Lib.hid hg
  clear hg
  have H1 := Lib.hid (fun w => print_any a w (by omega))
  have hsz := size_prt a
  by_cases h : -9223372036854775808 ≤ valS a ∧ valS a ≤ 9223372036854775807
  · have HE : Hid (sml (valS a) = (valS a, true)) := by show _ = _; unfold sml; rw [if_pos h]
    have HP : Hid (Lib.parseIntB 64 (str (prt (valS a))).data.toList = .ok (valS a)) := by show _ = _; have := parse_prt (valS a); rw [if_pos h] at this; exact this
    have h1 := h.1
    have h2 := h.2
    clear h
    generalize str (prt (valS a)) = t at *
    generalize valS a = z at *
    go_enter Tryz.func231, Tryz.ntmps231
    go_wp2_with fail
    refine (H1.out _).mono ?_
    rintro e w1 ⟨rfl, hb1⟩
    go_wp2_with fail
    refine (Any.strconv_ParseInt_10_at64_ok Tryz.laysC174 t (by omega) z HP.out _).mono ?_
    rintro e w2 ⟨rfl, hw2⟩
    have HB2 : Hid (Below w1.heap.size w1 w2) := by
      rcases hw2 with rfl | ⟨u, rfl⟩
      · exact Below.refl _ _
      · exact Lib.bytesWorld_below _ _ _
    clear hw2
    go_wp2_with fail
    go_ret2
    exact ⟨by rw [HE.out]; rfl, hb1.trans (HB2.out.mono hb1.size)⟩
  · have HE : Hid (sml (valS a) = (0, false)) := by show _ = _; unfold sml; rw [if_neg h]
    have HP : Hid (Lib.parseIntB 64 (str (prt (valS a))).data.toList = .range) := by show _ = _; have := parse_prt (valS a); rw [if_neg h] at this; exact this
    clear h
    generalize str (prt (valS a)) = t at *
    obtain ⟨tp, p, hv⟩ := Hg.out.2
    have HVr := Lib.hid hv
    clear hv
    go_enter Tryz.func231, Tryz.ntmps231
    go_wp2_with fail
    refine (H1.out _).mono ?_
    rintro e w1 ⟨rfl, hb1⟩
    have Hb1 := Lib.hid hb1
    clear hb1
    go_wp2_with fail
    refine (Any.strconv_ParseInt_10_at64_range_var Tryz.laysC174 t (by omega) HP.out tp p _ (var_below HVr.out Hb1.out)).mono ?_
    rintro e w2 ⟨N, rfl, hN, hN2, hb2⟩
    have Hb2 := Lib.hid hb2
    clear hN hN2 hb2
    go_wp2_with fail
    go_ret2
    exact ⟨by rw [HE.out]; rfl, Hb1.out.trans (Hb2.out.mono Hb1.out.size)⟩
end Go.Proofs.YtahpbnmbphobgaaGreatDoor
namespace Go.Proofs.YtahpbnmbphobgaaGreatDoor
open Go.RowKit Go.Shelf Dec
attribute [local go_sem ↓] Go.wp_at_zero Go.wp_at_succ

/-- what Power hands back -/
def powR (x n : Int) : ByteArray × Int := if n < 0 ∨ 400 < n then (⟨#[]⟩, 2) else (canS (x ^ n.toNat), 0)
theorem len_pow {m L : Nat} (h : (mag m).length ≤ L) : ∀ p, (mag (m ^ p)).length ≤ L * p + 1 := by
  intro p
  rw [mag_len_lt] at h ⊢
  have h1 : m ^ p ≤ (BB ^ L) ^ p := Nat.pow_le_pow_left (Nat.le_of_lt h) p
  rw [← Nat.pow_mul] at h1
  have h2 : BB ^ (L * p) < BB ^ (L * p + 1) := Nat.pow_lt_pow_right (by decide) (by omega)
  omega
theorem sgn_pow (x : Int) (n : Nat) : sgn (decide (x < 0) && decide (n % 2 = 1)) (x.natAbs ^ n) = x ^ n := by
  have key : ∀ k : Nat, ((x.natAbs ^ k : Nat) : Int) = (x.natAbs : Int) ^ k := fun k => Int.natCast_pow _ _
  unfold sgn
  rw [key]
  by_cases hx : x < 0
  · rw [show (x.natAbs : Int) = -x by omega]
    by_cases hn : n % 2 = 1
    · obtain ⟨j, rfl⟩ : ∃ j, n = 2 * j + 1 := ⟨n / 2, by omega⟩
      simp only [hx, hn, decide_true, Bool.and_self, if_true]
      rw [Int.pow_succ, Int.pow_succ, Int.pow_mul, Int.pow_mul, show (-x) ^ 2 = x ^ 2 by rw [Int.pow_succ, Int.pow_succ, Int.pow_succ, Int.pow_succ, Int.pow_zero, Int.pow_zero, Int.one_mul, Int.one_mul, Int.neg_mul_neg], Int.mul_neg, Int.neg_neg]
    · obtain ⟨j, rfl⟩ : ∃ j, n = 2 * j := ⟨n / 2, by omega⟩
      simp only [hn, decide_false, Bool.and_false, Bool.false_eq_true, if_false]
      rw [Int.pow_mul, Int.pow_mul, show (-x) ^ 2 = x ^ 2 by rw [Int.pow_succ, Int.pow_succ, Int.pow_succ, Int.pow_succ, Int.pow_zero, Int.pow_zero, Int.one_mul, Int.one_mul, Int.neg_mul_neg]]
  · simp only [hx, decide_false, Bool.false_and, Bool.false_eq_true, if_false]
    rw [show (x.natAbs : Int) = x by omega]
theorem pow_len {m L p : Nat} (h : (mag m).length = L) (hL : L ≤ 67108864) (hp : p ≤ 400) : (mag (m ^ p)).length ≤ 30000000000 := by
  have h1 := len_pow (Nat.le_of_eq h) p
  have h2 : L * p ≤ L * 400 := Nat.mul_le_mul_left _ hp
  omega
/-- what the loop of Power keeps -/
def PowIs (W : World) (m n k p q : Nat) (A A' : Option Addr) (l l' c c' : Nat) (wr : World) : Prop :=
  q + p * k = n ∧ (1 ≤ k → p ≤ n) ∧ q ≤ n ∧ (mag (m ^ q)).length = l ∧ (mag (m ^ p)).length = l' ∧ MagS wr A c (m ^ q) ∧ MagS wr A' c' (m ^ p) ∧ Below W.heap.size W wr
theorem pow_odd {n k p q : Nat} (h : q + p * k = n) (ho : k % 2 = 1) : (q + p) + (p + p) * (k / 2) = n := by
  obtain ⟨j, rfl⟩ : ∃ j, k = 2 * j + 1 := ⟨k / 2, by omega⟩
  rw [show (2 * j + 1) / 2 = j by omega]
  subst h
  grind
theorem pow_even {n k p q : Nat} (h : q + p * k = n) (ho : ¬ k % 2 = 1) : q + (p + p) * (k / 2) = n := by
  obtain ⟨j, rfl⟩ : ∃ j, k = 2 * j := ⟨k / 2, by omega⟩
  rw [show (2 * j) / 2 = j by omega]
  subst h
  grind
theorem pow_le {n k p q : Nat} (h : q + p * k = n) (hk : 1 ≤ k) : p ≤ n := by
  have : p * 1 ≤ p * k := Nat.mul_le_mul_left _ hk
  omega

set_option maxRecDepth 100000 in
set_option maxHeartbeats 4000000 in
theorem Power_out (a : ByteArray) (n : Int) (w : World) (hn : n < 0 ∨ 400 < n) :
    Calls Tryz.prog 31 #[.string a, .int .i64 n] w fun e w' => e = .returned (.tuple #[.string (powR (valS a) n).1, .int .i64 (powR (valS a) n).2]) ∧ Below w.heap.size w w' := by
  have HE : Hid (powR (valS a) n = (⟨#[]⟩, 2)) := by show _ = _; unfold powR; rw [if_pos hn]
  by_cases h : n < 0
  · have q : decide (n < 0) = true := decide_eq_true h
    go_enter Tryz.func31, Tryz.ntmps31
    go_wp2_with fail
    go_ret2
    exact ⟨ret_pi (by rw [HE.out]), Below.refl _ _⟩
  · have q : decide (n < 0) = false := decide_eq_false h
    have q2 : decide ((400 : Int) < n) = true := decide_eq_true (by omega)
    go_enter Tryz.func31, Tryz.ntmps31
    go_wp2_with fail
    go_ret2
    exact ⟨ret_pi (by rw [HE.out]), Below.refl _ _⟩

set_option maxRecDepth 100000 in
set_option maxHeartbeats 8000000 in
theorem Power_in (a : ByteArray) (n : Nat) (w : World) (hn : n ≤ 400) (ha : a.size ≤ 67108864) (hg : Gl w) :
    Calls Tryz.prog 31 #[.string a, .int .i64 (n : Int)] w fun e w' => e = .returned (.tuple #[.string (canS (valS a ^ n)), .int .i64 0]) ∧ Below w.heap.size w w' := by
  have Hg := Lib.hid hg
  clear hg
  obtain ⟨na, hda⟩ : ∃ na, decide (valS a < 0) = na := ⟨_, rfl⟩
  have HR1 : Hid (∀ w, Calls Tryz.prog 66 #[.string a] w fun e w' => ∃ A n c, e = .returned (.agg #[.bool na, .slice A n c]) ∧ (mag (valS a).natAbs).length = n ∧ MagS w' A c (valS a).natAbs ∧ n ≤ a.size ∧ Below w.heap.size w w') := by
    intro w; rw [← hda]; exact read' a w (by omega)
  have HZ := Lib.hid (sgn_pow (valS a) n)
  rw [hda] at HZ
  clear hda
  generalize valS a = x at *
  have q0 : decide ((n : Int) < 0) = false := decide_eq_false (by omega)
  have q1 : decide ((400 : Int) < (n : Int)) = false := decide_eq_false (by omega)
  go_enter Tryz.func31, Tryz.ntmps31
  go_wp2_with fail
  refine (HR1.out _).mono ?_
  rintro e w1 ⟨A1, L, c1, rfl, hn1, hm1, hl1, hb1⟩
  have Hn1 := Lib.hid hn1
  obtain ⟨W, hW⟩ : ∃ W, w1.alloc (.cells #[.bool na, .slice A1 L c1] 116) = W := ⟨_, rfl⟩
  have hbw : Below w1.heap.size w1 W := by rw [← hW]; exact (Below.refl _ _).alloc (Nat.le_refl _) _
  have c0 : W.cell? ⟨w1.heap.size, 0, none⟩ = some (.bool na) := by rw [← hW]; unfold World.cell?; rw [heap_new]; rfl
  have c1' : W.cell? ⟨w1.heap.size, 1, none⟩ = some (.slice A1 L c1) := by rw [← hW]; unfold World.cell?; rw [heap_new]; rfl
  have Hsz : Hid (w1.heap.size < W.heap.size) := by show _ < _; rw [← hW, World.size_alloc]; omega
  have Hm1 := Lib.hid (hm1.up hbw)
  have Hb1 : Hid (Below w.heap.size w W) := hb1.trans (hbw.mono hb1.size)
  have HW := Lib.hid hW
  clear hn1 hm1 hb1 hbw hW q0 q1
  go_wp2_with fail
  rw [HW.out]
  clear HW
  obtain ⟨B, hB⟩ : ∃ B, w1.heap.size = B := ⟨_, rfl⟩
  rw [hB] at c0 c1' Hsz ⊢
  clear hB
  go_region_held3 (fun w' => w'.cell? ⟨B, 1, none⟩ = some (.slice A1 L c1)) (first | (go_keep; done) | (rw [World.cell?_alloc_lt _ _ _ (by exact Hsz.out)]; exact c1')) (fail)
  go_wp2_with fail
  have HS : Hid (PowIs W x.natAbs n n 1 0 (some ⟨W.heap.size, 0, none⟩) A1 1 L 1 c1 (W.alloc (.cells #[.int .u64 1] 123)).drew) := by
    have hone : mag 1 = [1] := mag_one (by decide) (by decide)
    have hbn : Below W.heap.size W (W.alloc (.cells #[.int .u64 1] 123)).drew := ((Below.refl _ _).alloc (Nat.le_refl _) _).drew
    refine ⟨by omega, fun h => h, by omega, by rw [Nat.pow_zero, hone]; rfl, by rw [Nat.pow_one]; exact Hn1.out, ?_, ?_, hbn⟩
    · rw [Nat.pow_zero]
      refine ⟨?_, by rw [hone]; exact Nat.le_refl _, by omega⟩
      rw [hone]
      have := mg_new W [1]
      rw [← World.size_alloc W (.cells #[.int .u64 1] 123)] at this
      exact this
    · rw [Nat.pow_one]
      exact Hm1.out.up hbn
  have hL : L ≤ 67108864 := by omega
  go_loopw [9, 7, 8] (fun s o r wr => ∃ (k p q : Nat) (A A' : Option Addr) (l l' c c' : Nat), k ≤ n ∧ s = .int .i64 (k : Int) ∧ o = .slice A l c ∧ r = .slice A' l' c' ∧ Hid (PowIs W x.natAbs n k p q A A' l l' c c' wr)) (fun s _ _ _ => (intOf s).toNat)
  case atStart => exact ⟨n, 1, 0, _, A1, 1, L, 1, c1, Nat.le_refl _, rfl, rfl, rfl, HS.out⟩
  case round =>
    obtain ⟨k, p, q, A, A', l, l', c, c', hk, rfl, rfl, rfl, H⟩ := hrel
    clear HS
    by_cases hk0 : k = 0
    · subst hk0
      have hqn : q = n := by have := H.out.1; omega
      have HQ : Hid ((mag (x.natAbs ^ n)).length = l ∧ MagS wr A c (x.natAbs ^ n)) := by
        have h := H.out
        rw [hqn] at h
        exact ⟨h.2.2.2.1, h.2.2.2.2.2.1⟩
      have d0 : wr.cell? ⟨B, 0, none⟩ = some (.bool na) := (H.out.2.2.2.2.2.2.2.cell (p := ⟨B, 0, none⟩) Hsz.out).trans c0
      have hll : l ≤ 30000000000 := by rw [← HQ.out.1]; exact pow_len Hn1.out hL hn
      have Hb3 : Hid (Below w.heap.size w wr) := Hb1.out.trans (H.out.2.2.2.2.2.2.2.mono Hb1.out.size)
      clear hqn
      obtain ⟨sg, hsg⟩ : ∃ sg, (na && decide (n % 2 = 1)) = sg := ⟨_, rfl⟩
      rw [hsg] at HZ
      cases na with
      | true =>
        by_cases ho : n % 2 = 1
        · have q2 : ((n : Int) % 2 == 1) = true := by simp; omega
          obtain rfl : sg = true := by rw [← hsg]; simp [ho]
          clear hsg ho
          go_wp2_with fail
          refine (text' true A c l _ _ HQ.out.1 HQ.out.2 (by omega) (Hg.out.below Hb3.out)).mono ?_
          rintro e w4 ⟨rfl, hb4⟩
          go_wp2_with fail
          go_ret2
          exact ⟨by rw [← HZ.out]; rfl, Hb3.out.trans (hb4.mono Hb3.out.size)⟩
        · have q2 : ((n : Int) % 2 == 1) = false := by simp; omega
          obtain rfl : sg = false := by rw [← hsg]; simp [ho]
          clear hsg ho
          go_wp2_with fail
          refine (text' false A c l _ _ HQ.out.1 HQ.out.2 (by omega) (Hg.out.below Hb3.out)).mono ?_
          rintro e w4 ⟨rfl, hb4⟩
          go_wp2_with fail
          go_ret2
          exact ⟨by rw [← HZ.out]; rfl, Hb3.out.trans (hb4.mono Hb3.out.size)⟩
      | false =>
        obtain rfl : sg = false := by rw [← hsg]; rfl
        clear hsg
        go_wp2_with fail
        refine (text' false A c l _ _ HQ.out.1 HQ.out.2 (by omega) (Hg.out.below Hb3.out)).mono ?_
        rintro e w4 ⟨rfl, hb4⟩
        go_wp2_with fail
        go_ret2
        exact ⟨by rw [← HZ.out]; rfl, Hb3.out.trans (hb4.mono Hb3.out.size)⟩
    · have hk1 : 1 ≤ k := by omega
      have hpn : p ≤ 400 := Nat.le_trans (H.out.2.1 hk1) hn
      have hqn : q ≤ 400 := Nat.le_trans H.out.2.2.1 hn
      have hl1 : l ≤ 30000000000 := by rw [← H.out.2.2.2.1]; exact pow_len Hn1.out hL hqn
      have hl2 : l' ≤ 30000000000 := by rw [← H.out.2.2.2.2.1]; exact pow_len Hn1.out hL hpn
      clear hk0 hpn hqn
      by_cases ho : k % 2 = 1
      · have q2 : ((k : Int) % 2 == 1) = true := by simp; omega
        have Hodd := Lib.hid (pow_odd H.out.1 ho)
        by_cases hk2 : 1 < k
        · clear ho
          go_wp2_with fail
          refine (times' A A' c c' l l' _ _ _ H.out.2.2.2.1 H.out.2.2.2.2.1 H.out.2.2.2.2.2.1.1 H.out.2.2.2.2.2.2.1.1 (by omega) (by omega)).mono ?_
          rintro e w3 ⟨A3, l3, c3, rfl, hl3, hm3, hl4, hb3⟩
          rw [← Nat.pow_add] at hl3 hm3
          have Hl3 := Lib.hid hl3
          have Hm3 := Lib.hid hm3
          have Hb3 := Lib.hid hb3
          have Hsq := Lib.hid (H.out.2.2.2.2.2.2.1.up hb3)
          clear hl3 hm3 hb3
          go_wp2_with fail
          refine (times' A' A' c' c' l' l' _ _ _ H.out.2.2.2.2.1 H.out.2.2.2.2.1 Hsq.out.1 Hsq.out.1 (by omega) (by omega)).mono ?_
          rintro e w4 ⟨A4, l4', c4, rfl, hl5, hm5, hl6, hb4⟩
          rw [← Nat.pow_add] at hl5 hm5
          have Hl5 := Lib.hid hl5
          have Hm5 := Lib.hid hm5
          have Hb4 := Lib.hid hb4
          clear hl5 hm5 hb4
          go_wp2_with fail
          go_roundw
          case rel =>
            refine ⟨k / 2, p + p, q + p, A3, A4, l3, l4', c3, c4, by omega, by go_num, rfl, rfl, Hodd.out, fun h => pow_le Hodd.out h, by have := Hodd.out; omega, Hl3.out, Hl5.out, Hm3.out.up Hb4.out, Hm5.out, ?_⟩
            exact (H.out.2.2.2.2.2.2.2.trans (Hb3.out.mono H.out.2.2.2.2.2.2.2.size)).trans (Hb4.out.mono (Nat.le_trans H.out.2.2.2.2.2.2.2.size Hb3.out.size))
          case measure => simp [intOf]; omega
        · obtain rfl : k = 1 := by omega
          clear ho
          go_wp2_with fail
          refine (times' A A' c c' l l' _ _ _ H.out.2.2.2.1 H.out.2.2.2.2.1 H.out.2.2.2.2.2.1.1 H.out.2.2.2.2.2.2.1.1 (by omega) (by omega)).mono ?_
          rintro e w3 ⟨A3, l3, c3, rfl, hl3, hm3, hl4, hb3⟩
          rw [← Nat.pow_add] at hl3 hm3
          have Hl3 := Lib.hid hl3
          have Hm3 := Lib.hid hm3
          have Hb3 := Lib.hid hb3
          clear hl3 hm3 hb3
          go_wp2_with fail
          go_roundw
          case rel =>
            refine ⟨0, p, q + p, A3, A', l3, l', c3, c', by omega, rfl, rfl, rfl, by have := H.out.1; omega, fun h => by omega, by have := H.out.1; omega, Hl3.out, H.out.2.2.2.2.1, Hm3.out, H.out.2.2.2.2.2.2.1.up Hb3.out, ?_⟩
            exact H.out.2.2.2.2.2.2.2.trans (Hb3.out.mono H.out.2.2.2.2.2.2.2.size)
          case measure => simp [intOf]
      · have q2 : ((k : Int) % 2 == 1) = false := by simp; omega
        have hk2 : 1 < k := by omega
        have Hev := Lib.hid (pow_even H.out.1 ho)
        clear ho
        go_wp2_with fail
        refine (times' A' A' c' c' l' l' _ _ _ H.out.2.2.2.2.1 H.out.2.2.2.2.1 H.out.2.2.2.2.2.2.1.1 H.out.2.2.2.2.2.2.1.1 (by omega) (by omega)).mono ?_
        rintro e w4 ⟨A4, l4', c4, rfl, hl5, hm5, hl6, hb4⟩
        rw [← Nat.pow_add] at hl5 hm5
        have Hl5 := Lib.hid hl5
        have Hm5 := Lib.hid hm5
        have Hb4 := Lib.hid hb4
        clear hl5 hm5 hb4
        go_wp2_with fail
        go_roundw
        case rel =>
          refine ⟨k / 2, p + p, q, A, A4, l, l4', c, c4, by omega, by go_num, rfl, rfl, Hev.out, fun h => pow_le Hev.out h, H.out.2.2.1, H.out.2.2.2.1, Hl5.out, H.out.2.2.2.2.2.1.up Hb4.out, Hm5.out, ?_⟩
          exact H.out.2.2.2.2.2.2.2.trans (Hb4.out.mono H.out.2.2.2.2.2.2.2.size)
        case measure => simp [intOf]; omega
theorem Power_any (a : ByteArray) (n : Int) (w : World) (ha : a.size ≤ 67108864) (hg : Gl w) :
    Calls Tryz.prog 31 #[.string a, .int .i64 n] w fun e w' => e = .returned (.tuple #[.string (powR (valS a) n).1, .int .i64 (powR (valS a) n).2]) ∧ Below w.heap.size w w' := by
  by_cases h : n < 0 ∨ 400 < n
  · exact Power_out a n w h
  · obtain ⟨k, rfl⟩ : ∃ k : Nat, n = k := ⟨n.toNat, by omega⟩
    have e : powR (valS a) (k : Int) = (canS (valS a ^ k), 0) := by unfold powR; rw [if_neg h]; rfl
    rw [e]
    exact Power_in a k w (by omega) ha hg
end Go.Proofs.YtahpbnmbphobgaaGreatDoor
namespace Go.Proofs.YtahpbnmbphobgaaGreatDoor
open Go.RowKit Go.Shelf Dec
attribute [local go_sem] Oper.semAt_some

set_option maxHeartbeats 1000000 in
theorem steps_any (A A' : Option Addr) (n n' c c' : Nat) (w : World) :
    Calls Tryz.prog 159 #[.slice A n c, .slice A' n' c'] w fun e w' => e = .returned (.func (.func 218) #[] #[.pointer (some ⟨w.heap.size, 0, none⟩), .pointer (some ⟨w.heap.size + 1, 0, none⟩)]) ∧
      w' = (w.alloc (.cells #[.slice A n c] 114)).alloc (.cells #[.slice A' n' c'] 114) := by
  go_enter Tryz.func159, Tryz.ntmps159
  go_wp2
  go_ret
  exact ⟨rfl, rfl⟩

/-- no cell of block B holds a group -/
def NoInt (W : World) (B : Nat) : Prop := ∀ o g, W.cell? ⟨B, o, none⟩ ≠ some (.int .u64 g)
theorem NoInt.box {W : World} {B : Nat} {t : TypeId} {A : Option Addr} {n c : Nat} (h : Boxed W B t (.slice A n c)) : NoInt W B := by
  intro o g e
  have hh : W.heap[B]? = some (.cells #[.slice A n c] t (0, 0)) := h
  unfold World.cell? at e
  rw [hh] at e
  cases o with
  | zero => simp at e
  | succ o => simp at e
theorem NoInt.loop {W : World} {B : Nat} {r : Loop} (h : W.heap[B]? = some (.loop r)) : NoInt W B := by
  intro o g e
  unfold World.cell? at e
  rw [h] at e
  simp at e
theorem MagS.grown {W W' : World} {A : Option Addr} {c n : Nat} {row : Nat} (h : MagS W A c n) (hg : W.grownBy W' (some row)) (hr : NoInt W row) : MagS W' A c n := by
  refine ⟨fun i g hi => ?_, h.2⟩
  obtain ⟨b, o, hA, hB, hcell⟩ := h.1 i g hi
  refine ⟨b, o, hA, Nat.lt_of_lt_of_le hB hg.size, ?_⟩
  have hne : b ≠ row := by rintro rfl; exact hr _ _ hcell
  exact (World.cell?_of_block (w := W) (w' := W') (a := ⟨b, o + i, none⟩) (hg.block b hB (fun e => hne (by injection e)))).trans hcell
/-- the state of the loop: the two boxes of the iterator, the box of the result, the loop's record and its block for deferred calls -/
structure GS (w : World) (Bo Bm Bn l D : Nat) (rec : Loop) (x y : Nat) (A : Option Addr) (n c : Nat) (A' : Option Addr) (n' c' : Nat) (A0 : Option Addr) (n0 c0 : Nat) (W : World) : Prop where
  bm : Boxed W Bm 114 (.slice A n c)
  bn : Boxed W Bn 114 (.slice A' n' c')
  bo : Boxed W Bo 114 (.slice A0 n0 c0)
  hn : (mag x).length = n
  hn' : (mag y).length = n'
  mx : MagS W A c x
  my : MagS W A' c' y
  lp : W.heap[l]? = some (.loop rec)
  df : W.heap[D]? = some (.deferred (some []))
  below : Below w.heap.size w W
theorem boxed_below {W W' : World} {B : Nat} {t : TypeId} {v : Value} (h : Boxed W B t v) (hb : Below W.heap.size W W') : Boxed W' B t v := (hb.block B h.lt).trans h
theorem GS.up {w : World} {Bo Bm Bn l D : Nat} {rec : Loop} {x y : Nat} {A A' A0 : Option Addr} {n c n' c' n0 c0 : Nat} {W W' : World} (h : GS w Bo Bm Bn l D rec x y A n c A' n' c' A0 n0 c0 W) (hb : Below W.heap.size W W') : GS w Bo Bm Bn l D rec x y A n c A' n' c' A0 n0 c0 W' :=
  ⟨boxed_below h.bm hb, boxed_below h.bn hb, boxed_below h.bo hb, h.hn, h.hn', h.mx.up hb, h.my.up hb, (hb.block l (Array.getElem?_eq_some_iff.1 h.lp).1).trans h.lp, (hb.block D (Array.getElem?_eq_some_iff.1 h.df).1).trans h.df, h.below.trans (hb.mono h.below.size)⟩

set_option maxRecDepth 100000 in
set_option maxHeartbeats 4000000 in
theorem steps1_in (w : World) (Bo Bm Bn l D L G : Nat) (rec : Loop) (hne : Bm ≠ Bn ∧ Bm ≠ Bo ∧ Bn ≠ Bo ∧ Bm ≠ l ∧ Bn ≠ l ∧ Bm ≠ D ∧ Bn ≠ D) (hlo : w.heap.size ≤ Bm ∧ w.heap.size ≤ Bn) (hL : L ≤ 274877906944)
    (hY : ∀ x y A n c A' n' c' A0 n0 c0 W1, GS w Bo Bm Bn l D rec x y A n c A' n' c' A0 n0 c0 W1 → YieldAt Fence.wide 4 Tryz.prog l #[.slice A n c, .slice A' n' c'] W1 fun e W' => e = .returned (.bool true) ∧ GS w Bo Bm Bn l D rec x y A n c A' n' c' A n c W')
    (x y : Nat) (A : Option Addr) (n c : Nat) (A' : Option Addr) (n' c' : Nat) (A0 : Option Addr) (n0 c0 : Nat) (W : World) (hg : Nat.gcd x y = G) (hnL : n ≤ L) (hnL' : n' ≤ L) (h0 : GS w Bo Bm Bn l D rec x y A n c A' n' c' A0 n0 c0 W) :
    CallsIn Fence.wide 5 Tryz.prog 218 #[.func (.yield l) #[] #[], .pointer (some ⟨Bm, 0, none⟩), .pointer (some ⟨Bn, 0, none⟩)] W fun en W' => (∃ v, en = .returned v) ∧
      ∃ A n c A' n' c', n ≤ L ∧ GS w Bo Bm Bn l D rec G 0 A n c A' n' c' A n c W' := by
  have HY := Lib.hid hY
  have Hne := Lib.hid hne
  have Hlo := Lib.hid hlo
  have Hg := Lib.hid hg
  have H0 := Lib.hid h0
  clear hY hne hlo hg h0
  refine callsIn_of_wp Tryz.func218 rfl trivial ?_ rfl
  simp only [Tryz.ntmps218, List.size_toArray, List.length_cons, List.length_nil, Nat.reduceAdd, Nat.reduceSub, Array.replicate_succ, Array.replicate_zero, List.push_toArray, List.append_toArray, List.nil_append, List.cons_append]
  gi_wp2_with fail
  gi_loopg [4] y (fun gk s wr => ∃ (x : Nat) (A : Option Addr) (n c : Nat) (A' : Option Addr) (n' c' : Nat) (A0 : Option Addr) (n0 c0 : Nat), n ≤ L ∧ n' ≤ L ∧ Hid (Nat.gcd x gk = G ∧ GS w Bo Bm Bn l D rec x gk A n c A' n' c' A0 n0 c0 wr))
  case atStart => exact ⟨x, A, n, c, A', n', c', A0, n0, c0, hnL, hnL', Hg.out, H0.out⟩
  case round =>
    obtain ⟨x, A, n, c, A', n', c', A0, n0, c0, hnL, hnL', H⟩ := hrel
    have cm := H.out.2.bm.cell
    have cn := H.out.2.bn.cell
    obtain ⟨fn, tmps, assign, body, hy, hR⟩ := HY.out _ _ _ _ _ _ _ _ _ _ _ _ H.out.2
    have HRR := Lib.hid hR
    clear hR
    by_cases hk0 : gk = 0
    · subst hk0
      have hn0 : n' = 0 := by rw [← H.out.2.hn']; rfl
      subst hn0
      obtain rfl : x = G := by have := H.out.1; rwa [Nat.gcd_zero_right] at this
      gi_wp2_with fail
      refine HRR.out.mono ?_
      rintro e W3 ⟨rfl, hG⟩
      have HG := Lib.hid hG
      have cn3 := hG.bn.cell
      clear hG
      gi_wp2_with fail
      go_end0
      exact ⟨⟨_, rfl⟩, A, n, c, A', 0, c', hnL, HG.out⟩
    · have hn0 : n' ≠ 0 := fun e => hk0 (mag_nil.1 (List.eq_nil_of_length_eq_zero (by rw [H.out.2.hn', e])))
      have hpos : 0 < n' := by omega
      have q : decide (0 < n') = true := decide_eq_true hpos
      have Hk0 := Lib.hid hk0
      clear hk0 hn0
      gi_wp2_with fail
      refine HRR.out.mono ?_
      rintro e W3 ⟨rfl, hG⟩
      have HG := Lib.hid hG
      have cn3 := hG.bn.cell
      have cm3 := hG.bm.cell
      clear hG
      gi_wp2_with fail
      refine ⟨trivial, (callsIn_wide.2 (divide' A A' c c' n n' _ _ _ HG.out.hn HG.out.hn' HG.out.mx HG.out.my (by omega) (by omega) Hk0.out)).mono ?_⟩
      rintro e w4 ⟨A3, k3, c3, A4, k4, c4, rfl, hk3, hk4, hm3, hm4, hl3, hl4, hb4⟩
      have HG4 := Lib.hid (HG.out.up hb4)
      have Hk4 := Lib.hid hk4
      have Hm4 := Lib.hid hm4
      have cn4 := HG4.out.bn.cell
      have cm4 := HG4.out.bm.cell
      have fn4 := HG4.out.bn.frozen
      have fm4 := HG4.out.bm.frozen
      clear hk3 hk4 hm3 hm4 hb4 cn3 cm3
      have cnx : ∀ v, (w4.setCell ⟨Bm, 0, none⟩ v).cell? ⟨Bn, 0, none⟩ = some (.slice A' n' c') := fun v => (HG4.out.bn.other (fun e => Hne.out.1 e.symm) v).cell
      have fnx : ∀ v, (w4.setCell ⟨Bm, 0, none⟩ v).frozen? ⟨Bn, 0, none⟩ = false := fun v => (HG4.out.bn.other (fun e => Hne.out.1 e.symm) v).frozen
      gi_wp2_with fail
      gi_roundg (x % gk)
      case rel =>
        refine ⟨gk, A', n', c', A4, k4, c4, A, n, c, hnL', by omega, ?_, ?_⟩
        · rw [← H.out.1, Nat.gcd_comm gk, ← Nat.gcd_rec, Nat.gcd_comm]
        · have h1 := NoInt.box HG4.out.bm
          have g1 := grownBy_setCell' w4 Bm (.slice A' n' c')
          have h2 := NoInt.box (HG4.out.bn.other (fun e => Hne.out.1 e.symm) (.slice A' n' c'))
          have g2 := grownBy_setCell' (w4.setCell ⟨Bm, 0, none⟩ (.slice A' n' c')) Bn (.slice A4 k4 c4)
          refine ⟨(HG4.out.bm.set _).other Hne.out.1 _, (HG4.out.bn.other (fun e => Hne.out.1 e.symm) _).set _, (HG4.out.bo.other (fun e => Hne.out.2.1 e.symm) _).other (fun e => Hne.out.2.2.1 e.symm) _, HG4.out.hn', Hk4.out, (HG4.out.my.grown g1 h1).grown g2 h2, (Hm4.out.grown g1 h1).grown g2 h2, ?_, ?_, (HG4.out.below.setCell Hlo.out.1 _).setCell Hlo.out.2 _⟩
          · rw [Below.heap_setCell _ _ _ _ (fun e => Hne.out.2.2.2.2.1 e.symm), Below.heap_setCell _ _ _ _ (fun e => Hne.out.2.2.2.1 e.symm)]
            exact HG4.out.lp
          · rw [Below.heap_setCell _ _ _ _ (fun e => Hne.out.2.2.2.2.2.2 e.symm), Below.heap_setCell _ _ _ _ (fun e => Hne.out.2.2.2.2.2.1 e.symm)]
            exact HG4.out.df
      case measure => exact Nat.mod_lt _ (Nat.pos_of_ne_zero Hk0.out)

/-- a range over a function, down to the one call of the iterator -/
theorem range_call {F : Fence} {n : Nat} {P : Program} {g : Operand} {ps : Array Tmp} {assign body : Code} {Q : Exit → Act → World → Prop} {a : Act} {w : World} (hro : F.round = none) (h1 : 1 ≤ n) {gf : Nat} {lb : Array Value}
    (hg : a.eval g = .func (.func gf) #[] lb) (hFg : F.fn gf) (eg : ∀ args w, (callFunc gf args).run P w = .ok (.enter gf args) w)
    (h : ∀ fn, F.fn fn → ∀ r : Loop, r = { state := .ready, pending := none, fn := fn, tmps := a.tmps, params := ps, assign := assign, body := body, defers := w.heap.size } →
      CallsIn F (n - 1) P gf (#[.func (.yield (w.heap.size + 1)) #[] #[]] ++ lb) ((w.alloc (.deferred (some []))).alloc (.loop r)) (rangePost F n P (w.heap.size + 1) Q { a with defers := [{ target := .collected w.heap.size, args := #[] }] ++ a.defers })) :
    (Code.rangeFunc g ps assign body).wpIn F n P Q a w := by
  refine wpIn_rangeFunc fun fn hfn => ?_
  rw [hro]
  obtain ⟨r, hr⟩ : ∃ r : Loop, r = { state := .ready, pending := none, fn := fn, tmps := a.tmps, params := ps, assign := assign, body := body, defers := w.heap.size } := ⟨_, rfl⟩
  have hc := h fn hfn r hr
  have he := run_enterLoop_outer (P := P) (w := w) fn a.tmps ps assign body
  rw [← hr] at he
  obtain ⟨W1, hW1⟩ : ∃ W1, (w.alloc (.deferred (some []))).alloc (.loop r) = W1 := ⟨_, rfl⟩
  rw [hW1] at hc he
  refine ⟨w.heap.size + 1, [{ target := .collected w.heap.size, args := #[] }], W1, { target := .fn (.func gf) lb, args := #[.func (.yield (w.heap.size + 1)) #[] #[]] }, W1, gf, #[.func (.yield (w.heap.size + 1)) #[] #[]] ++ lb, W1, ?_, ?_, ?_, ?_, fun _ => h1, ?_⟩
  · exact he
  · simp only [resolve, hg]
    simp [go_sem]
  · intro f' hf'; simp [Target.leads] at hf'; subst hf'; exact hFg
  · simp [invoke, go_sem, eg]
  · exact hc
theorem boxed_put {W : World} {B l : Nat} {t : TypeId} {v : Value} (h : Boxed W B t v) (hne : B ≠ l) (o : Obj) : Boxed (W.putObj l o) B t v := (World.putObj_heap_other hne).trans h
theorem below_put {w W : World} {l : Nat} (h : Below w.heap.size w W) (hl : w.heap.size ≤ l) (o : Obj) : Below w.heap.size w (W.putObj l o) :=
  h.trans ⟨rfl, rfl, rfl, by simp, fun k hk => World.putObj_heap_other (by omega)⟩
/-- a round of the loop, on the state -/
theorem GS.round {w : World} {Bo Bm Bn l D : Nat} {r : Loop} {x y : Nat} {A A' A0 : Option Addr} {n c n' c' n0 c0 : Nat} {W : World} (h : GS w Bo Bm Bn l D r x y A n c A' n' c' A0 n0 c0 W) (hs : r.state = .ready) (hp : r.pending = none)
    (hne : Bm ≠ l ∧ Bn ≠ l ∧ Bo ≠ l ∧ D ≠ l ∧ Bm ≠ Bo ∧ Bn ≠ Bo ∧ D ≠ Bo) (hlo : w.heap.size ≤ Bo ∧ w.heap.size ≤ l) :
    GS w Bo Bm Bn l D r x y A n c A' n' c' A n c (((W.putObj l (.loop { r with state := .busy })).setCell ⟨Bo, 0, none⟩ (.slice A n c)).putObj l (.loop { r with state := if (none : Option Code).isNone then .ready else .done, pending := none })) := by
  obtain ⟨n1, n2, n3, n4, n5, n6, n7⟩ := hne
  have hll : l < W.heap.size := (Array.getElem?_eq_some_iff.1 h.lp).1
  have hlp1 : (W.putObj l (.loop { r with state := .busy })).heap[l]? = some (.loop { r with state := .busy }) := World.putObj_heap_same hll
  have g1 := grownBy_putObj' W l (.loop { r with state := .busy })
  have k1 := NoInt.loop h.lp
  have b1 := boxed_put h.bo n3 (.loop { r with state := .busy })
  have g2 := grownBy_setCell' (W.putObj l (.loop { r with state := .busy })) Bo (.slice A n c)
  have k2 := NoInt.box b1
  have hlp2 : ((W.putObj l (.loop { r with state := .busy })).setCell ⟨Bo, 0, none⟩ (.slice A n c)).heap[l]? = some (.loop { r with state := .busy }) := (Below.heap_setCell _ _ _ _ n3.symm).trans hlp1
  have k3 := NoInt.loop hlp2
  have g3 := grownBy_putObj' ((W.putObj l (.loop { r with state := .busy })).setCell ⟨Bo, 0, none⟩ (.slice A n c)) l (.loop { r with state := if (none : Option Code).isNone then .ready else .done, pending := none })
  have hr : ({ r with state := if (none : Option Code).isNone then LoopState.ready else .done, pending := none } : Loop) = r := by cases r; simp_all
  refine ⟨boxed_put ((boxed_put h.bm n1 _).other n5 _) n1 _, boxed_put ((boxed_put h.bn n2 _).other n6 _) n2 _, boxed_put (b1.set _) n3 _, h.hn, h.hn', ((h.mx.grown g1 k1).grown g2 k2).grown g3 k3, ((h.my.grown g1 k1).grown g2 k2).grown g3 k3, ?_, ?_, ?_⟩
  · rw [World.putObj_heap_same (Array.getElem?_eq_some_iff.1 hlp2).1, hr]
  · rw [World.putObj_heap_other n4, Below.heap_setCell _ _ _ _ n7, World.putObj_heap_other n4]
    exact h.df
  · exact below_put ((below_put h.below hlo.2 _).setCell hlo.1 _) hlo.2 _

set_option maxRecDepth 100000 in
set_option maxHeartbeats 4000000 in
theorem Gcd_any (a b : ByteArray) (w : World) (ha : a.size ≤ 68719476736) (hb : b.size ≤ 68719476736) (hg : Gl w) :
    Calls Tryz.prog 120 #[.string a, .string b] w fun e w' => e = .returned (.string (canS (Nat.gcd (valS a).natAbs (valS b).natAbs : Nat))) ∧ Below w.heap.size w w' := by
  have Hg := Lib.hid hg
  clear hg
  have HR1 := Lib.hid (fun w => read' a w ha)
  have HR2 := Lib.hid (fun w => read' b w hb)
  generalize decide (valS a < 0) = na at *
  generalize decide (valS b < 0) = nb at *
  generalize (valS a).natAbs = x at *
  generalize (valS b).natAbs = y at *
  refine (callsIn_wide (n := 6)).1 ?_
  refine callsIn_of_wp_marks Tryz.func120 rfl trivial ?_ rfl
  simp only [Tryz.ntmps120, List.size_toArray, List.length_cons, List.length_nil, Nat.reduceAdd, Nat.reduceSub, Array.replicate_succ, Array.replicate_zero, List.push_toArray, List.append_toArray, List.nil_append, List.cons_append]
  have hfld : ∀ (v u : Value) (W : World), (Instr.field 116 (.agg #[v, u]) 1).run Tryz.prog W = .ok u W := fun _ _ _ => by kernel_rfl
  have Hb0 : Hid (Below w.heap.size w (w.alloc (.cells #[.slice none 0 0] 114))) := (Below.refl _ _).alloc (Nat.le_refl _) _
  have Hbox0 : Hid (Boxed (w.alloc (.cells #[.slice none 0 0] 114)) w.heap.size 114 (.slice none 0 0)) := Boxed.new _ _ _
  have hs0 : (w.alloc (.cells #[.slice none 0 0] 114)).heap.size = w.heap.size + 1 := World.size_alloc _ _
  have Hs0 := Lib.hid hs0
  clear hs0
  gi_wp2_with fail
  generalize w.alloc (.cells #[.slice none 0 0] 114) = w0 at *
  refine ⟨trivial, (callsIn_wide.2 (HR1.out _)).mono ?_⟩
  rintro e w1 ⟨A1, n1, c1, rfl, hn1, hm1, hl1, hb1⟩
  have Hn1 := Lib.hid hn1
  have Hm1 := Lib.hid hm1
  have Hb1 := Lib.hid hb1
  clear hn1 hm1 hb1
  gi_wp2_with fail
  refine ⟨trivial, (callsIn_wide.2 (HR2.out _)).mono ?_⟩
  rintro e w2 ⟨A2, n2, c2, rfl, hn2, hm2, hl2, hb2⟩
  have Hn2 := Lib.hid hn2
  have Hm2 := Lib.hid hm2
  have Hb2 := Lib.hid hb2
  clear hn2 hm2 hb2
  gi_wp2_with fail
  refine ⟨trivial, (callsIn_wide.2 (steps_any _ _ _ _ _ _ _)).mono ?_⟩
  rintro e w3 ⟨rfl, hw3⟩
  gi_wp2_with fail
  have hs2 : w.heap.size + 1 ≤ w2.heap.size := by have h1 := Hb1.out.size; have h2 := Hb2.out.size; have h3 := Hs0.out; omega
  have Hb3 : Hid (Below w.heap.size w w3) := by
    show Below _ _ _
    rw [hw3]
    exact (((Hb0.out.trans (Hb1.out.mono Hb0.out.size)).trans (Hb2.out.mono (Nat.le_trans Hb0.out.size Hb1.out.size))).alloc (by omega) _).alloc (by simp; omega) _
  have hs3 : w3.heap.size = w2.heap.size + 2 := by rw [hw3]; simp
  have hb23 : Below w2.heap.size w2 w3 := by rw [hw3]; exact ((Below.refl _ _).alloc (Nat.le_refl _) _).alloc (by simp) _
  have Bm3 : Hid (Boxed w3 w2.heap.size 114 (.slice A1 n1 c1)) := by show Boxed _ _ _ _; rw [hw3]; exact (Boxed.new _ _ _).alloc _
  have Bn3 : Hid (Boxed w3 (w2.heap.size + 1) 114 (.slice A2 n2 c2)) := by
    show Boxed _ _ _ _; rw [hw3]
    have := Boxed.new (w2.alloc (.cells #[.slice A1 n1 c1] 114)) 114 (.slice A2 n2 c2)
    rwa [World.size_alloc] at this
  have Bo3 : Hid (Boxed w3 w.heap.size 114 (.slice none 0 0)) := boxed_below (boxed_below (boxed_below Hbox0.out Hb1.out) Hb2.out) hb23
  have Mx3 := Lib.hid ((Hm1.out.up Hb2.out).up hb23)
  have My3 := Lib.hid (Hm2.out.up hb23)
  have Hs3 := Lib.hid hs3
  rw [← hw3]
  clear hw3 hb23 hs3
  refine range_call rfl (by omega) rfl trivial (enters_of Tryz.func218 (by kernel_rfl) rfl) ?_
  intro fn hfn r hr
  have hst : r.state = .ready := by rw [hr]
  have hpe : r.pending = none := by rw [hr]
  have HS : Hid (GS w w.heap.size w2.heap.size (w2.heap.size + 1) (w3.heap.size + 1) w3.heap.size r x y A1 n1 c1 A2 n2 c2 none 0 0 ((w3.alloc (.deferred (some []))).alloc (.loop r))) := by
    have hbb : Below w3.heap.size w3 ((w3.alloc (.deferred (some []))).alloc (.loop r)) := ((Below.refl _ _).alloc (Nat.le_refl _) _).alloc (by simp) _
    refine ⟨boxed_below Bm3.out hbb, boxed_below Bn3.out hbb, boxed_below Bo3.out hbb, Hn1.out, Hn2.out, Mx3.out.up hbb, My3.out.up hbb, ?_, ?_, Hb3.out.trans (hbb.mono Hb3.out.size)⟩
    · have := World.alloc_heap_new (w3.alloc (.deferred (some []))) (.loop r)
      rwa [World.size_alloc] at this
    · exact (Below.heap_alloc _ _ _ (by simp)).trans (World.alloc_heap_new w3 _)
  refine (steps1_in w w.heap.size w2.heap.size (w2.heap.size + 1) (w3.heap.size + 1) w3.heap.size 68719476736 (Nat.gcd x y) r (by have := Hs3.out; omega) (by omega) (by omega) ?_ x y A1 n1 c1 A2 n2 c2 none 0 0 _ rfl (by omega) (by omega) HS.out).mono ?_
  · intro x y A n c A' n' c' A0 n0 c0 W1 hG
    have hne : w2.heap.size ≠ w3.heap.size + 1 ∧ w2.heap.size + 1 ≠ w3.heap.size + 1 ∧ w.heap.size ≠ w3.heap.size + 1 ∧ w3.heap.size ≠ w3.heap.size + 1 ∧ w2.heap.size ≠ w.heap.size ∧ w2.heap.size + 1 ≠ w.heap.size ∧ w3.heap.size ≠ w.heap.size := by have := Hs3.out; omega
    have hR := hG.round hst hpe hne ⟨Nat.le_refl _, by have := Hs3.out; omega⟩
    have hy := run_yield (P := Tryz.prog) (args := #[.slice A n c, .slice A' n' c']) hG.lp (by rw [hr]; rfl)
    refine ⟨_, _, _, _, hy, roundIn_of_wpIn (by rw [hr]; exact hfn) ?_⟩
    have e1 := congrArg Loop.assign hr
    have e2 := congrArg Loop.body hr
    have e3 := congrArg Loop.tmps hr
    have e4 := congrArg Loop.params hr
    dsimp only at e1 e2 e3 e4
    rw [e1, e2, e3, e4]
    have HG := Lib.hid hG
    have HRd := Lib.hid hR
    have Hst := Lib.hid hst
    have b1 := boxed_put hG.bo hne.2.2.1 (.loop { r with state := .busy })
    have cB := b1.cell
    have fB := b1.frozen
    have Hlp : Hid (((W1.putObj (w3.heap.size + 1) (.loop { r with state := .busy })).setCell ⟨w.heap.size, 0, none⟩ (.slice A n c)).heap[w3.heap.size + 1]? = some (.loop { r with state := .busy })) :=
      (Below.heap_setCell _ _ _ _ hne.2.2.1.symm).trans (World.putObj_heap_same (Array.getElem?_eq_some_iff.1 hG.lp).1)
    clear e1 e2 e3 e4 hr hy hG hR hst hpe hne b1 HS
    gi_wp2_with fail
    refine ⟨_, run_beginRound HG.out.lp Hst.out, ?_⟩
    gi_wp2_with fail
    refine ⟨_, _, run_endRound none Hlp.out, rfl, HRd.out⟩
  · rintro e W4 ⟨⟨v, rfl⟩, A, n, c, A', n', c', hnL, hG⟩
    obtain ⟨o5, ho5⟩ : ∃ o5 : Obj, o5 = .loop { r with state := .exhausted } := ⟨_, rfl⟩
    have hend := run_endLoop (P := Tryz.prog) hG.lp (by rw [hst]; decide)
    rw [← ho5] at hend
    clear ho5
    rw [hpe] at hend
    have hnl : w.heap.size ≠ w3.heap.size + 1 := by have := Hs3.out; omega
    have b1 := boxed_put hG.bo hnl o5
    have cB := b1.cell
    have HM : Hid (MagS (W4.putObj (w3.heap.size + 1) o5) A c (Nat.gcd x y)) := hG.mx.grown (grownBy_putObj' _ _ _) (NoInt.loop hG.lp)
    have Hn := Lib.hid hG.hn
    have HB5 : Hid (Below w.heap.size w (W4.putObj (w3.heap.size + 1) o5)) := below_put hG.below (by have := Hs3.out; omega) _
    have HD5 : Hid ((W4.putObj (w3.heap.size + 1) o5).heap[w3.heap.size]? = some (.deferred (some []))) := (World.putObj_heap_other (by omega)).trans hG.df
    obtain ⟨W5, hW5⟩ : ∃ W5, W4.putObj (w3.heap.size + 1) o5 = W5 := ⟨_, rfl⟩
    rw [hW5] at hend cB HM HB5 HD5
    have hs5 : w3.heap.size < W5.heap.size := (Array.getElem?_eq_some_iff.1 HD5.out).1
    refine ⟨none, W5, hend, ?_⟩
    clear hr hG hst hpe b1 HS hW5 hend
    gi_wp2_with fail
    refine ⟨trivial, (callsIn_wide.2 (text' false A c n _ _ Hn.out HM.out (by omega) (Hg.out.below HB5.out))).mono ?_⟩
    rintro e w6 ⟨rfl, hb6⟩
    have HB6 := Lib.hid hb6
    clear hb6
    gi_wp2_with fail
    have hd6 : w6.heap[w3.heap.size]? = some (.deferred (some [])) := (HB6.out.block _ hs5).trans HD5.out
    refine ⟨by simp, .inl ⟨_, _, rfl, run_takeDeferred hd6, ?_⟩⟩
    refine ⟨_, results_tmp rfl _ _ _, rfl, below_put (HB5.out.trans (HB6.out.mono HB5.out.size)) (by have := Hs3.out; omega) _⟩
end Go.Proofs.YtahpbnmbphobgaaGreatDoor
namespace Go.Proofs.YtahpbnmbphobgaaGreatDoor
open Go.RowKit Go.Shelf Dec

theorem abs_val (a : ByteArray) : (valS a).natAbs < 10 ^ a.size := by
  unfold valS
  rw [val_abs]
  have h1 := natOf_lt (digs (bytes a)) (digs_dig _)
  have h2 := digs_len (bytes a)
  rw [← size_bytes] at h2
  have h3 : 10 ^ (digs (bytes a)).length ≤ 10 ^ a.size := Nat.pow_le_pow_right (by omega) (by omega)
  omega
theorem size_canS {z : Int} {k : Nat} (h : z.natAbs < 10 ^ k) : (canS z).size ≤ k + 1 := by
  unfold canS
  rw [size_str]
  have := dec_len.2 h
  unfold canon
  split <;> simp <;> omega
/-- a value of at most k digits -/
def Fit (k : Nat) (z : Int) : Prop := z.natAbs < 10 ^ k
theorem Fit.val {a : ByteArray} {k : Nat} (h : a.size ≤ k) : Fit k (valS a) := Nat.lt_of_lt_of_le (abs_val a) (Nat.pow_le_pow_right (by omega) h)
theorem Fit.mono {k m : Nat} {z : Int} (h : Fit k z) (hk : k ≤ m) : Fit m z := Nat.lt_of_lt_of_le h (Nat.pow_le_pow_right (by omega) hk)
theorem Fit.add {k : Nat} {y z : Int} (h : Fit k y) (h2 : Fit k z) : Fit (k + 1) (y + z) := by
  unfold Fit at *
  rw [Nat.pow_succ]
  have : (y + z).natAbs ≤ y.natAbs + z.natAbs := Int.natAbs_add_le y z
  omega
theorem Fit.sub {k : Nat} {y z : Int} (h : Fit k y) (h2 : Fit k z) : Fit (k + 1) (y - z) := by
  unfold Fit at *
  rw [Nat.pow_succ]
  have : (y - z).natAbs ≤ y.natAbs + z.natAbs := Int.natAbs_sub_le y z
  omega
theorem Fit.neg {k : Nat} {z : Int} (h : Fit k z) : Fit k (-z) := by unfold Fit at *; rw [Int.natAbs_neg]; exact h
theorem Fit.mul {k m : Nat} {y z : Int} (h : Fit k y) (h2 : Fit m z) : Fit (k + m) (y * z) := by
  unfold Fit at *
  rw [Nat.pow_add, Int.natAbs_mul]
  exact Nat.mul_lt_mul_of_lt_of_le h (Nat.le_of_lt h2) (Nat.pow_pos (by omega))
theorem Fit.zero (k : Nat) : Fit k 0 := Nat.pow_pos (by omega)
theorem Fit.size {k : Nat} {z : Int} (h : Fit k z) : (canS z).size ≤ k + 1 := size_canS h

theorem cmp_can (u v : Int) (k : Nat) (hk : k ≤ 1000000) (hu : Fit k u) (hv : Fit k v) (w : World) :
    Calls Tryz.prog 41 #[.string (canS u), .string (canS v)] w fun e w' => e = .returned (.int .i64 (cmpI u v)) ∧ Below w.heap.size w w' := by
  have := Compare_any (canS u) (canS v) w (by have := hu.size; omega) (by have := hv.size; omega)
  rwa [valS_canS, valS_canS] at this
theorem cmp_nil (a : ByteArray) (ha : a.size ≤ 1000000) (w : World) :
    Calls Tryz.prog 41 #[.string a, .string ⟨#[]⟩] w fun e w' => e = .returned (.int .i64 (cmpI (valS a) 0)) ∧ Below w.heap.size w w' :=
  Compare_any a ⟨#[]⟩ w (by omega) (by decide)
theorem cmp_canil (u : Int) (k : Nat) (hk : k ≤ 1000000) (hu : Fit k u) (w : World) :
    Calls Tryz.prog 41 #[.string (canS u), .string ⟨#[]⟩] w fun e w' => e = .returned (.int .i64 (cmpI u 0)) ∧ Below w.heap.size w w' := by
  have := Compare_any (canS u) ⟨#[]⟩ w (by have := hu.size; omega) (by decide)
  rwa [valS_canS] at this
theorem cmpI_mul (x y z : Int) : cmpI (x * z) (y * z) = cmpI x y * cmpI z 0 := by
  unfold cmpI
  rcases Int.lt_trichotomy z 0 with h | h | h
  · have k1 : x * z < y * z ↔ y < x := Int.mul_lt_mul_right_of_neg h
    have k2 : x * z = y * z ↔ x = y := ⟨fun e => Int.eq_of_mul_eq_mul_right (by omega) e, fun e => by rw [e]⟩
    simp only [k1, k2]
    rw [if_pos h]
    split <;> split <;> (try split) <;> (try split) <;> omega
  · subst h; simp
  · have k1 : x * z < y * z ↔ x < y := Int.mul_lt_mul_right h
    have k2 : x * z = y * z ↔ x = y := ⟨fun e => Int.eq_of_mul_eq_mul_right (by omega) e, fun e => by rw [e]⟩
    simp only [k1, k2]
    rw [if_neg (by omega : ¬ z < 0), if_neg (by omega : ¬ z = 0)]
    split <;> (try split) <;> omega
/-- what Compare's results know of each other -/
theorem cmpI_facts (x y z : Int) : cmpI x y = -cmpI y x ∧ (cmpI x y = cmpI y z → cmpI x z = cmpI x y) ∧ -1 ≤ cmpI x y ∧ cmpI x y ≤ 1 ∧ (cmpI x y = 0 ↔ x = y) ∧ cmpI (x + z) (y + z) = cmpI x y ∧ cmpI (x - y) 0 = cmpI x y := by
  unfold cmpI
  refine ⟨?_, ?_, ?_, ?_, ?_, ?_, ?_⟩ <;> (repeat' split) <;> omega

theorem val_prt (z : Int) : valS (str (prt z)) = z := by
  unfold valS
  rw [bytes_str]
  unfold prt
  by_cases h : z = 0
  · rw [if_pos h, h]; decide
  · rw [if_neg h, val_canon]
theorem size_prtF {k : Nat} {z : Int} (h : Fit k z) : (str (prt z)).size ≤ k + 1 := by
  rw [size_str]
  have h1 := h.size
  unfold canS at h1
  rw [size_str] at h1
  unfold prt
  split
  · simp
  · exact h1
theorem prs_prt {k : Nat} (hk : k ≤ 65535) {z : Int} (h : Fit k z) : prs (str (prt z)) = (canS z, 0) := by
  have := size_prtF h
  unfold prs
  rw [if_neg (by omega), val_prt, if_pos rfl]
theorem cmpI_cases (r : Int) : (r < 0 ∧ cmpI r 0 = -1) ∨ (r = 0 ∧ cmpI r 0 = 0) ∨ (0 < r ∧ cmpI r 0 = 1) := by
  unfold cmpI
  rcases Int.lt_trichotomy r 0 with h | h | h
  · left; exact ⟨h, if_pos h⟩
  · right; left; exact ⟨h, by rw [if_neg (by omega), if_pos h]⟩
  · right; right; exact ⟨h, by rw [if_neg (by omega), if_neg (by omega)]⟩
/-- a string of a value, not too long -/
def Vs (s : ByteArray) (z : Int) : Prop := valS s = z ∧ s.size ≤ 1000000
theorem Vs.arg {s : ByteArray} (h : s.size ≤ 1000000) : Vs s (valS s) := ⟨rfl, h⟩
theorem Vs.can {z : Int} {k : Nat} (h : Fit k z) (hk : k ≤ 999999) : Vs (canS z) z := ⟨valS_canS z, by have := h.size; omega⟩
theorem Vs.nil : Vs ⟨#[]⟩ 0 := ⟨rfl, by decide⟩
theorem Fit.of {k : Nat} {z : Int} (h : z.natAbs < 10 ^ k) : Fit k z := h
theorem Fit.one {k : Nat} (h : 1 ≤ k) : Fit k 1 := Nat.lt_of_lt_of_le (by decide : (1 : Int).natAbs < 10 ^ 1) (Nat.pow_le_pow_right (by omega) h)
theorem Fit.fdiv {k : Nat} {x y : Int} (h : Fit k x) : Fit (k + 1) (x.fdiv y) := by
  unfold Fit at *
  rw [Nat.pow_succ]
  have h1 : (x.fdiv y).natAbs ≤ x.natAbs + 1 := by
    rcases Int.lt_trichotomy y 0 with hy | hy | hy
    · have e : x.fdiv y = (-x).fdiv (-y) := (Int.neg_fdiv_neg x y).symm
      rw [e]
      have h2 := Int.fdiv_eq_ediv_of_nonneg (-x) (b := -y) (by omega)
      rw [h2]
      have := Int.natAbs_ediv_le_natAbs (-x) (-y)
      omega
    · subst hy; simp
    · rw [Int.fdiv_eq_ediv_of_nonneg x (by omega)]
      have := Int.natAbs_ediv_le_natAbs x y
      omega
  have : 1 ≤ 10 ^ k := Nat.pow_pos (by omega)
  omega
theorem fmod_neg_of (x : Int) {y : Int} (hy : y < 0) : x.fmod y ≤ 0 ∧ y < x.fmod y := by
  have h := Int.neg_fmod_neg x y
  have h1 := Int.fmod_nonneg_of_pos (-x) (b := -y) (by omega)
  have h2 := Int.fmod_lt_of_pos (-x) (b := -y) (by omega)
  omega
theorem Fit.fmod {k : Nat} {x y : Int} (h : Fit k y) (hx : Fit k x) : Fit k (x.fmod y) := by
  unfold Fit at *
  rcases Int.lt_trichotomy y 0 with hy | hy | hy
  · have h1 := fmod_neg_of x hy
    omega
  · subst hy; simpa using hx
  · have h1 := Int.fmod_nonneg_of_pos x hy
    have h2 := Int.fmod_lt_of_pos x hy
    omega
end Go.Proofs.YtahpbnmbphobgaaGreatDoor
namespace Go.Proofs.YtahpbnmbphobgaaGreatDoor
open Go.RowKit Go.Shelf Dec

theorem AddV {a b : ByteArray} {x y : Int} (h1 : Vs a x) (h2 : Vs b y) (w : World) (hg : Gl w) :
    Calls Tryz.prog 28 #[.string a, .string b] w fun e w' => e = .returned (.string (canS (x + y))) ∧ Below w.heap.size w w' := by
  have := Add_any a b w (by have := h1.2; omega) (by have := h2.2; omega) hg
  rw [h1.1, h2.1] at this
  exact this
theorem SubV {a b : ByteArray} {x y : Int} (h1 : Vs a x) (h2 : Vs b y) (w : World) (hg : Gl w) :
    Calls Tryz.prog 58 #[.string a, .string b] w fun e w' => e = .returned (.string (canS (x - y))) ∧ Below w.heap.size w w' := by
  have := Sub_any a b w (by have := h1.2; omega) (by have := h2.2; omega) hg
  rw [h1.1, h2.1] at this
  exact this
theorem MulV {a b : ByteArray} {x y : Int} (h1 : Vs a x) (h2 : Vs b y) (w : World) (hg : Gl w) :
    Calls Tryz.prog 74 #[.string a, .string b] w fun e w' => e = .returned (.string (canS (x * y))) ∧ Below w.heap.size w w' := by
  have := Mul_any a b w (by have := h1.2; omega) (by have := h2.2; omega) hg
  rw [h1.1, h2.1] at this
  exact this
theorem NegV {a : ByteArray} {x : Int} (h1 : Vs a x) (w : World) (hg : Gl w) :
    Calls Tryz.prog 27 #[.string a] w fun e w' => e = .returned (.string (canS (-x))) ∧ Below w.heap.size w w' := by
  have := Neg_any a w (by have := h1.2; omega) hg
  rw [h1.1] at this
  exact this
theorem CmpV {a b : ByteArray} {x y : Int} (h1 : Vs a x) (h2 : Vs b y) (w : World) :
    Calls Tryz.prog 41 #[.string a, .string b] w fun e w' => e = .returned (.int .i64 (cmpI x y)) ∧ Below w.heap.size w w' := by
  have := Compare_any a b w (by have := h1.2; omega) (by have := h2.2; omega)
  rw [h1.1, h2.1] at this
  exact this
theorem DivV {a b : ByteArray} {x y : Int} (h1 : Vs a x) (h2 : Vs b y) (w : World) (hg : Gl w) :
    Calls Tryz.prog 118 #[.string a, .string b] w fun e w' => e = .returned (.tuple #[.string (divR x y).1, .string (divR x y).2.1, .int .i64 (divR x y).2.2]) ∧ Below w.heap.size w w' := by
  have := Div_any a b w (by have := h1.2; omega) (by have := h2.2; omega) hg
  rw [h1.1, h2.1] at this
  exact this.mono fun _ _ h => h
theorem DivN {a b : ByteArray} {x y : Int} (h1 : Vs a x) (h2 : Vs b y) (hy : y ≠ 0) (w : World) (hg : Gl w) :
    Calls Tryz.prog 118 #[.string a, .string b] w fun e w' => e = .returned (.tuple #[.string (canS (x.fdiv y)), .string (canS (x.fmod y)), .int .i64 0]) ∧ Below w.heap.size w w' := by
  have := DivV h1 h2 w hg
  unfold divR at this
  rw [if_neg hy] at this
  exact this
theorem GcdV {a b : ByteArray} {x y : Int} (h1 : Vs a x) (h2 : Vs b y) (w : World) (hg : Gl w) :
    Calls Tryz.prog 120 #[.string a, .string b] w fun e w' => e = .returned (.string (canS (Nat.gcd x.natAbs y.natAbs : Nat))) ∧ Below w.heap.size w w' := by
  have := Gcd_any a b w (by have := h1.2; omega) (by have := h2.2; omega) hg
  rw [h1.1, h2.1] at this
  exact this
theorem CanV {a : ByteArray} {x : Int} (h1 : Vs a x) (w : World) :
    Calls Tryz.prog 105 #[.string a] w fun e w' => e = .returned (.string (canS x)) ∧ Below w.heap.size w w' := by
  have := canonical_any a w (by have := h1.2; omega)
  unfold valS at this
  have e := h1.1
  unfold valS at e
  rw [e] at this
  exact this
theorem chk_can (z : Int) : chk (canS z) = 0 := by unfold chk; rw [valS_canS, if_pos rfl]
theorem ChkV {z : Int} {k : Nat} (h : Fit k z) (hk : k ≤ 999999) (w : World) :
    Calls Tryz.prog 60 #[.string (canS z)] w fun e w' => e = .returned (.int .i64 0) ∧ Below w.heap.size w w' := by
  have := check_any (canS z) w (by have := h.size; omega)
  rw [chk_can] at this
  exact this
theorem SmlV {a : ByteArray} {x : Int} (h1 : Vs a x) (w : World) (hg : Gl w) :
    Calls Tryz.prog 231 #[.string a] w fun e w' => e = .returned (.tuple #[.int .i64 (sml x).1, .bool (sml x).2]) ∧ Below w.heap.size w w' := by
  have := Small_any a w (by have := h1.2; omega) hg
  rw [h1.1] at this
  exact this

/-- the library's numeral is ours -/
theorem decDigits_dec (n : Nat) (h : n ≠ 0) : Lib.decDigits n = dec n := by
  induction n using dec_ind with
  | h0 => exact absurd rfl h
  | hs n h0 ih =>
    rw [dec_pos h0]
    by_cases h10 : n / 10 = 0
    · rw [h10, dec_zero]
      have hl : n < 10 := by omega
      unfold Lib.decDigits
      rw [dif_pos hl]
      unfold digB
      rw [Nat.mod_eq_of_lt hl]
      rfl
    · rw [← ih h10]
      have hl : ¬ n < 10 := by omega
      conv => lhs; unfold Lib.decDigits
      rw [dif_neg hl]
      rfl
theorem val_itoa (n : Int) : val (Lib.itoa n) = n := by
  by_cases h0 : n = 0
  · subst h0
    have e : Lib.itoa 0 = [48] := by
      unfold Lib.itoa
      rw [if_neg (by omega)]
      unfold Lib.decDigits
      rw [dif_pos (by decide)]
      rfl
    rw [e]
    decide
  · have e : Lib.itoa n = canon n := by
      unfold Lib.itoa canon
      by_cases h : n < 0
      · rw [if_pos h, if_pos h, decDigits_dec _ (by omega)]
      · rw [if_neg h, if_neg h, show n.toNat = n.natAbs by omega, decDigits_dec _ (by omega)]
    rw [e, val_canon]
set_option maxHeartbeats 1000000 in
theorem Of_any (n : Int) (w : World) (h0 : -9223372036854775808 ≤ n) (h1 : n ≤ 9223372036854775807) (hg : Gl w) :
    Calls Tryz.prog 71 #[.int .i64 n] w fun e w' => e = .returned (.string (canS n)) ∧ Below w.heap.size w w' := by
  have HT := Lib.hid hg.1
  have hl := Lib.itoa_length_le n h0 h1
  have H2 : Hid (∀ w, Calls Tryz.prog 105 #[.string ⟨(Lib.itoa n).toArray⟩] w fun e w' => e = .returned (.string (canS n)) ∧ Below w.heap.size w w') := by
    intro w
    have := canonical_any ⟨(Lib.itoa n).toArray⟩ w (by show (Lib.itoa n).toArray.size ≤ _; simp; omega)
    have e : valS ⟨(Lib.itoa n).toArray⟩ = n := by unfold valS; exact val_itoa n
    rw [e] at this
    exact this
  have H1 := Lib.hid (fun w (h : Lib.TabIs Tryz.prog w "internal/strconv.uint64pow10" .u64 Lib.pow10Tab) => Any.strconv_Itoa Tryz.laysM171 n h0 h1 w h)
  clear hg hl
  generalize (⟨(Lib.itoa n).toArray⟩ : ByteArray) = t at *
  go_enter Tryz.func71, Tryz.ntmps71
  go_wp2_with fail
  refine (H1.out _ HT.out).mono ?_
  rintro e w1 ⟨rfl, k, os, hw1⟩
  have HB1 : Hid (Below w.heap.size w w1) := by
    show Below _ _ _
    rw [hw1]
    exact Lib.below_grow _ w (Nat.le_refl _) k os
  clear hw1
  go_wp2_with fail
  refine (H2.out _).mono ?_
  rintro e w2 ⟨rfl, hb2⟩
  go_wp2_with fail
  go_ret
  exact ⟨rfl, HB1.out.trans (hb2.mono HB1.out.size)⟩
end Go.Proofs.YtahpbnmbphobgaaGreatDoor
