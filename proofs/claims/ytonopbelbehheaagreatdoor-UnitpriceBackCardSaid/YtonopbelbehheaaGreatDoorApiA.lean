/- Integer: contracts of Canonical, Check, Print and Parse, for every string. Conditions: sizes below 2^62. -/
import Derived.Test.YtonopbelbehheaaGreatDoorIntF
namespace Go.Proofs.YtonopbelbehheaaGreatDoor
open Go.RowKit Go.Shelf Dec

/-- the value of a string -/
def valS (a : ByteArray) : Int := val (bytes a)
/-- the canonical string of a value -/
def canS (z : Int) : ByteArray := str (canon z)
theorem valS_canS (z : Int) : valS (canS z) = z := by unfold valS canS; rw [bytes_str, val_canon]
theorem canS_inj {y z : Int} (h : canS y = canS z) : y = z := by rw [← valS_canS y, h, valS_canS]
theorem canS_zero : canS 0 = ⟨#[]⟩ := rfl
theorem valS_nil : valS ⟨#[]⟩ = 0 := rfl
theorem str_cons (c : UInt8) (l : Bytes) : (⟨#[c]⟩ : ByteArray) ++ str l = str (c :: l) := by apply bytes_inj; rw [bytes_str]; simp [bytes, str]
theorem size_canS_le (a : ByteArray) : (canS (valS a)).size ≤ a.size + 1 := by
  unfold canS valS
  rw [size_str, canon_val, size_bytes]
  have := digs_len (bytes a)
  split <;> simp <;> omega

set_option maxHeartbeats 1000000 in
theorem canonical_any (a : ByteArray) (w : World) (ha : a.size ≤ 4611686018427387904) :
    Calls Tryz.prog 68 #[.string a] w fun e w' => e = .returned (.string (canS (valS a))) ∧ Below w.heap.size w w' := by
  have HE : Hid (canS (valS a) = if negB (bytes a) then str (45 :: digs (bytes a)) else str (digs (bytes a))) := by
    show _ = _
    unfold canS valS
    rw [canon_val]
    split <;> rfl
  have hdl := digs_len (bytes a)
  rw [← size_bytes] at hdl
  have hsz : (str (digs (bytes a))).size ≤ 4611686018427387904 := by rw [size_str]; omega
  cases hn : negB (bytes a) with
  | true =>
    have HN := Lib.hid hn
    have HEt : Hid (canS (valS a) = str (45 :: digs (bytes a))) := by have := HE.out; rw [hn] at this; exact this
    have H1 : Hid (∀ w, Calls Tryz.prog 132 #[.string a] w fun e w' => e = .returned (.tuple #[.string (str (digs (bytes a))), .bool true]) ∧ Below w.heap.size w w') := by
      intro w; rw [← hn]; exact digits_any a w (by omega)
    clear hn HE
    generalize digs (bytes a) = l at *
    go_enter Tryz.func68, Tryz.ntmps68
    go_wp2_with fail
    refine (H1.out _).mono ?_
    rintro e w1 ⟨rfl, hb1⟩
    go_wp2_with fail
    go_ret
    refine ⟨?_, hb1⟩
    rw [HEt.out, ← str_cons]
    rfl
  | false =>
    have HEt : Hid (canS (valS a) = str (digs (bytes a))) := by have := HE.out; rw [hn] at this; exact this
    have H1 : Hid (∀ w, Calls Tryz.prog 132 #[.string a] w fun e w' => e = .returned (.tuple #[.string (str (digs (bytes a))), .bool false]) ∧ Below w.heap.size w w') := by
      intro w; rw [← hn]; exact digits_any a w (by omega)
    clear hn HE
    generalize digs (bytes a) = l at *
    go_enter Tryz.func68, Tryz.ntmps68
    go_wp2_with fail
    refine (H1.out _).mono ?_
    rintro e w1 ⟨rfl, hb1⟩
    go_wp2_with fail
    go_ret
    refine ⟨?_, hb1⟩
    rw [HEt.out]
    rfl

/-- what Check says -/
def chk (a : ByteArray) : Int := if a = canS (valS a) then 0 else 1
theorem toList_beq (s t : ByteArray) : (s.toList == t.toList) = decide (s = t) := by
  rw [beq_bytes]
  by_cases h : s = t
  · simp [h]
  · rw [decide_eq_false h, decide_eq_false (fun e => h (bytes_inj e))]
set_option maxHeartbeats 1000000 in
theorem check_any (a : ByteArray) (w : World) (ha : a.size ≤ 4611686018427387904) :
    Calls Tryz.prog 150 #[.string a] w fun e w' => e = .returned (.int .i64 (chk a)) ∧ Below w.heap.size w w' := by
  have H1 := Lib.hid (fun w => canonical_any a w ha)
  generalize hc : canS (valS a) = t at H1
  by_cases h : a = t
  · have HE : Hid (chk a = 0) := by show _ = _; unfold chk; rw [hc, if_pos h]
    have q : (a.toList == t.toList) = true := by rw [toList_beq, decide_eq_true h]
    clear hc h
    go_enter Tryz.func150, Tryz.ntmps150
    go_wp2_with fail
    refine (H1.out _).mono ?_
    rintro e w1 ⟨rfl, hb1⟩
    go_wp2_with fail
    go_ret
    exact ⟨by rw [HE.out]; rfl, hb1⟩
  · have HE : Hid (chk a = 1) := by show _ = _; unfold chk; rw [hc, if_neg h]
    have q : (a.toList == t.toList) = false := by rw [toList_beq, decide_eq_false h]
    clear hc h
    go_enter Tryz.func150, Tryz.ntmps150
    go_wp2_with fail
    refine (H1.out _).mono ?_
    rintro e w1 ⟨rfl, hb1⟩
    go_wp2_with fail
    go_ret
    exact ⟨by rw [HE.out]; rfl, hb1⟩

/-- the text of a value -/
def prt (z : Int) : Bytes := if z = 0 then [48] else canon z
set_option maxHeartbeats 1000000 in
theorem print_any (a : ByteArray) (w : World) (ha : a.size ≤ 4611686018427387904) :
    Calls Tryz.prog 69 #[.string a] w fun e w' => e = .returned (.string (str (prt (valS a)))) ∧ Below w.heap.size w w' := by
  have H1 := Lib.hid (fun w => canonical_any a w ha)
  by_cases h : valS a = 0
  · have HE : Hid (str (prt (valS a)) = ⟨#[48]⟩) := by show _ = _; unfold prt; rw [if_pos h]; rfl
    have H2 : Hid (∀ w, Calls Tryz.prog 68 #[.string a] w fun e w' => e = .returned (.string ⟨#[]⟩) ∧ Below w.heap.size w w') := by
      intro w; have := H1.out w; rw [h] at this; exact this
    clear H1 h
    go_enter Tryz.func69, Tryz.ntmps69
    go_wp2_with fail
    refine (H2.out _).mono ?_
    rintro e w1 ⟨rfl, hb1⟩
    go_wp2_with fail
    go_ret
    exact ⟨by rw [HE.out]; rfl, hb1⟩
  · have HE : Hid (str (prt (valS a)) = canS (valS a)) := by show _ = _; unfold prt; rw [if_neg h]; rfl
    have hne : bytes (canS (valS a)) ≠ [] := by unfold canS; rw [bytes_str]; exact fun e => h (canon_nil.1 e)
    generalize canS (valS a) = t at *
    have q : t.toList.isEmpty = false := by rw [isEmpty_bytes]; cases hh : bytes t with | nil => exact absurd hh hne | cons _ _ => rfl
    clear h hne
    go_enter Tryz.func69, Tryz.ntmps69
    go_wp2_with fail
    refine (H1.out _).mono ?_
    rintro e w1 ⟨rfl, hb1⟩
    go_wp2_with fail
    go_ret
    exact ⟨by rw [HE.out]; rfl, hb1⟩

/-- what Parse hands back -/
def prs (s : ByteArray) : ByteArray × Int := if 65536 < s.size then (⟨#[]⟩, 4) else if str (prt (valS s)) = s then (canS (valS s), 0) else (⟨#[]⟩, 3)
theorem ret_pi {a b : ByteArray} {m n : Int} (h : (a, m) = (b, n)) : Ending.returned (.tuple #[.string a, .int .i64 m]) = .returned (.tuple #[.string b, .int .i64 n]) := by injection h with h1 h2; rw [h1, h2]
end Go.Proofs.YtonopbelbehheaaGreatDoor
