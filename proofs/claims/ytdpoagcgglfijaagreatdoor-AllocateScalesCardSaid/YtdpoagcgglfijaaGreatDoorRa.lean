/- Integer: the reference's digits. Integer: the reference's digits, Canonical, Print, Parse: they answer as the implementation's do. Conditions: sizes. Integer: the reference's Print and Parse. Conditions: sizes; the library's table and error lie as the program's text lays them. Integer, the reference: contracts of short, Of, Small, Neg, Check and Compare. Conditions: sizes below 2^40. Integer, the reference: contracts of Of, Small, Neg, Check and Compare. Conditions: sizes below 2^40. Integer, the reference: contracts of Small, Neg, Check and Compare. Conditions: sizes below 2^40. Integer, the reference: contracts of Neg, Check and Compare. Conditions: sizes below 2^62. -/
import Derived.Test.YtdpoagcgglfijaaGreatDoorIe
namespace Go.Proofs.YtdpoagcgglfijaaGreatDoor
open Go.RowKit Go.Shelf Dec

theorem get_bytes (t : ByteArray) (k : Nat) (h : k < t.size) : (bytes t)[k]? = some t[k] := by
  unfold bytes
  rw [Array.getElem?_toList]
  exact Array.getElem?_eq_getElem h
theorem all_of_get {t : ByteArray} (H : ∀ (j : Nat) (h : j < t.size), j < t.size → isDig t[j] = true) : (bytes t).all isDig = true := by
  rw [List.all_eq_true]
  intro d hd
  obtain ⟨k, hk⟩ := List.getElem?_of_mem hd
  have hl : k < t.size := by rw [size_bytes]; exact (List.getElem?_eq_some_iff.1 hk).1
  rw [get_bytes t k hl] at hk
  rw [← Option.some.inj hk]
  exact H k hl hl

def RD (Q : ByteArray → Bool → Prop) (w : World) (e : Ending) (w' : World) : Prop := ∃ d n, e = .returned (.tuple #[.string d, .bool n]) ∧ Q d n ∧ Below w.heap.size w w'
theorem rd_mk {Q : ByteArray → Bool → Prop} {w : World} {d : ByteArray} {n : Bool} (h : Q d n) : RD Q w (.returned (.tuple #[.string d, .bool n])) w := ⟨d, n, rfl, h, Below.refl _ _⟩
theorem not_all {t : ByteArray} {k : Nat} (hk : k < t.size) (h : isDig t[k] = false) : (bytes t).all isDig = false := by
  rw [List.all_eq_false]
  exact ⟨t[k], List.mem_of_getElem? (get_bytes t k hk), by rw [h]; decide⟩
theorem bytes_ext (u : ByteArray) : bytes (u.extract 1 u.size) = (bytes u).drop 1 := by
  unfold bytes
  rw [ByteArray.data_extract, Array.toList_extract, List.extract_eq_take_drop]
  apply List.take_of_length_le
  rw [List.length_drop, Array.length_toList]
  exact Nat.le_refl _
theorem bytes_first (u : ByteArray) (h : 0 < u.size) : bytes u = u[0] :: bytes (u.extract 1 u.size) := by
  rw [bytes_ext]
  have := get_bytes u 0 h
  cases hb : bytes u with
  | nil => rw [hb] at this; cases this
  | cons x l => rw [hb] at this; simp at this; rw [this]; rfl
theorem size_ext (u : ByteArray) : (u.extract 1 u.size).size = u.size - 1 := by rw [size_bytes, bytes_ext, List.length_drop, ← size_bytes]


end Go.Proofs.YtdpoagcgglfijaaGreatDoor
namespace Go.Proofs.YtdpoagcgglfijaaGreatDoor
open Go.RowKit Go.Shelf Dec

theorem head_bytes (a : ByteArray) (h : 0 < a.size) : (bytes a).head? = some a[0] := by rw [bytes_first a h]; rfl

end Go.Proofs.YtdpoagcgglfijaaGreatDoor
namespace Go.Proofs.YtdpoagcgglfijaaGreatDoor
open Go.RowKit Go.Shelf Dec



end Go.Proofs.YtdpoagcgglfijaaGreatDoor
namespace Go.Proofs.YtdpoagcgglfijaaGreatDoor
open Go.RowKit Go.Shelf Dec

theorem natOf_take_succ (l : Bytes) (k : Nat) (d : UInt8) (h : l[k]? = some d) : natOf (l.take (k + 1)) = 10 * natOf (l.take k) + (d.toNat - 48) := by
  rw [List.take_add_one, h]
  simp only [Option.toList_some]
  rw [natOf_append, natOf_one]
  simp
  omega
theorem dig_at {t : ByteArray} (h : ∀ d ∈ bytes t, isDig d = true) (k : Nat) (hk : k < t.size) : 48 ≤ t[k].toNat ∧ t[k].toNat ≤ 57 := by
  have := h t[k] (List.mem_of_getElem? (get_bytes t k hk))
  unfold isDig at this
  exact of_decide_eq_true this
theorem natOf_take_lt {l : Bytes} (h : ∀ d ∈ l, isDig d = true) {k m : Nat} (hm : k ≤ m) : natOf (l.take k) < 10 ^ m := by
  have h1 := natOf_lt (l.take k) (fun d hd => h d (List.mem_of_mem_take hd))
  have h2 : 10 ^ (l.take k).length ≤ 10 ^ m := Nat.pow_le_pow_right (by omega) (by rw [List.length_take]; omega)
  omega
/-- what short hands back -/
def shortR (a : ByteArray) : Int × Bool := if (digs (bytes a)).length ≤ 17 then (valS a, true) else (0, false)
theorem ret_ib {m n : Int} {a b : Bool} (h : (m, a) = (n, b)) : Ending.returned (.tuple #[.int .i64 m, .bool a]) = .returned (.tuple #[.int .i64 n, .bool b]) := by injection h with h1 h2; rw [h1, h2]
theorem valS_eq (a : ByteArray) : valS a = if negB (bytes a) then -(natOf (digs (bytes a)) : Int) else natOf (digs (bytes a)) := rfl

end Go.Proofs.YtdpoagcgglfijaaGreatDoor
namespace Go.Proofs.YtdpoagcgglfijaaGreatDoor
open Go.RowKit Go.Shelf Dec

theorem enc_dig (q : Nat) : Utf8.encode (48 + ((q % 10 : Nat) : Int)) = str [digB q] := by
  have h : q % 10 < 10 := Nat.mod_lt _ (by omega)
  unfold digB
  generalize q % 10 = r at *
  match r, h with
  | 0, _ => decide +kernel
  | 1, _ => decide +kernel
  | 2, _ => decide +kernel
  | 3, _ => decide +kernel
  | 4, _ => decide +kernel
  | 5, _ => decide +kernel
  | 6, _ => decide +kernel
  | 7, _ => decide +kernel
  | 8, _ => decide +kernel
  | 9, _ => decide +kernel
theorem str_app2 (a b : Bytes) : str a ++ str b = str (a ++ b) := by apply bytes_inj; rw [bytes_str]; simp [bytes, str]
theorem dec_more {N q : Nat} {ds : Bytes} (hq : q ≠ 0) (h : dec N = dec q ++ ds) : dec N = dec (q / 10) ++ (digB q :: ds) := by
  rw [h, dec_pos hq]
  simp
theorem ds_len {N q : Nat} {ds : Bytes} (hN : N ≤ 9223372036854775808) (h : dec N = dec q ++ ds) : ds.length ≤ 19 := by
  have h1 : (dec N).length ≤ 19 := dec_len.2 (by omega)
  rw [h, List.length_append] at h1
  omega


theorem run_rune (n : Int) (u : World) : (convert 21 9 (.int .i32 n)).run Tryz.prog u = .ok (.string (Utf8.encode n)) u := run_convert_int_string u _ _ _ _ (by kernel_rfl) (by kernel_rfl)
end Go.Proofs.YtdpoagcgglfijaaGreatDoor
namespace Go.Proofs.YtdpoagcgglfijaaGreatDoor
open Go.RowKit Go.Shelf Dec

theorem toList_bytes (s : ByteArray) : s.toList = bytes s := by
  unfold bytes
  rw [ByteArray.toList_eq]
theorem natOf_take_le (l : Bytes) (k : Nat) : natOf (l.take k) ≤ natOf l := by
  conv => rhs; rw [← List.take_append_drop k l]
  rw [natOf_append]
  have : natOf (l.take k) * 1 ≤ natOf (l.take k) * 10 ^ (l.drop k).length := Nat.mul_le_mul_left _ (Nat.pow_pos (by omega))
  omega
theorem less_natOf : ∀ (s t : Bytes), s.length = t.length → (∀ d ∈ s, isDig d = true) → (∀ d ∈ t, isDig d = true) → Op.bytesLess s t = decide (natOf s < natOf t) := by
  intro s
  induction s with
  | nil => intro t hl _ _; cases t with
    | nil => rfl
    | cons _ _ => cases hl
  | cons a s ih =>
    intro t hl hs ht
    cases t with
    | nil => cases hl
    | cons b t =>
      have hl2 : s.length = t.length := by simpa using hl
      have h1 := natOf_lt s (fun d hd => hs d (List.mem_cons_of_mem _ hd))
      have h2 := natOf_lt t (fun d hd => ht d (List.mem_cons_of_mem _ hd))
      have h3 := ih t hl2 (fun d hd => hs d (List.mem_cons_of_mem _ hd)) (fun d hd => ht d (List.mem_cons_of_mem _ hd))
      have ha := hs a List.mem_cons_self
      have hb := ht b List.mem_cons_self
      unfold isDig at ha hb
      have ha := of_decide_eq_true ha
      have hb := of_decide_eq_true hb
      rw [natOf_cons, natOf_cons, hl2]
      rw [hl2] at h1
      show (a < b || (a == b && Op.bytesLess s t)) = _
      rw [h3]
      generalize 10 ^ t.length = P at *
      generalize natOf s = x at *
      generalize natOf t = y at *
      rcases Nat.lt_trichotomy a.toNat b.toNat with h | h | h
      · have e1 : decide (a < b) = true := decide_eq_true (UInt8.lt_iff_toNat_lt.2 h)
        rw [e1, Bool.true_or]
        symm
        apply decide_eq_true
        have h5 : (a.toNat - 48 + 1) * P ≤ (b.toNat - 48) * P := Nat.mul_le_mul_right _ (by omega)
        rw [Nat.add_mul] at h5
        omega
      · have e0 : a = b := UInt8.toNat_inj.1 h
        subst e0
        have e1 : decide (a < a) = false := decide_eq_false (fun hh => Nat.lt_irrefl _ (UInt8.lt_iff_toNat_lt.1 hh))
        rw [e1, Bool.false_or, beq_self_eq_true, Bool.true_and]
        exact decide_eq_decide.2 (by omega)
      · have e1 : decide (a < b) = false := decide_eq_false (fun hh => by have := UInt8.lt_iff_toNat_lt.1 hh; omega)
        have e2 : (a == b) = false := by rw [beq_eq_false_iff_ne]; intro e; rw [e] at h; omega
        rw [e1, e2, Bool.false_and, Bool.false_or]
        symm
        apply decide_eq_false
        have h5 : (b.toNat - 48 + 1) * P ≤ (a.toNat - 48) * P := Nat.mul_le_mul_right _ (by omega)
        rw [Nat.add_mul] at h5
        omega
theorem natOf_inj_len {s t : Bytes} (hl : s.length = t.length) (hs : ∀ d ∈ s, isDig d = true) (ht : ∀ d ∈ t, isDig d = true) (h : natOf s = natOf t) : s = t := by
  induction s generalizing t with
  | nil => cases t with
    | nil => rfl
    | cons _ _ => cases hl
  | cons a s ih =>
    cases t with
    | nil => cases hl
    | cons b t =>
      have hl2 : s.length = t.length := by simpa using hl
      have h1 := natOf_lt s (fun d hd => hs d (List.mem_cons_of_mem _ hd))
      have h2 := natOf_lt t (fun d hd => ht d (List.mem_cons_of_mem _ hd))
      have ha := hs a List.mem_cons_self
      have hb := ht b List.mem_cons_self
      unfold isDig at ha hb
      have ha := of_decide_eq_true ha
      have hb := of_decide_eq_true hb
      rw [natOf_cons, natOf_cons, hl2] at h
      rw [hl2] at h1
      have key : a.toNat = b.toNat := by
        generalize 10 ^ t.length = P at *
        rcases Nat.lt_trichotomy a.toNat b.toNat with h3 | h3 | h3
        · have h5 : (a.toNat - 48 + 1) * P ≤ (b.toNat - 48) * P := Nat.mul_le_mul_right _ (by omega)
          rw [Nat.add_mul] at h5
          omega
        · exact h3
        · have h5 : (b.toNat - 48 + 1) * P ≤ (a.toNat - 48) * P := Nat.mul_le_mul_right _ (by omega)
          rw [Nat.add_mul] at h5
          omega
      have e0 : a = b := UInt8.toNat_inj.1 key
      subst e0
      rw [ih hl2 (fun d hd => hs d (List.mem_cons_of_mem _ hd)) (fun d hd => ht d (List.mem_cons_of_mem _ hd)) (by omega)]
/-- comparing two strings of as many digits -/
theorem less_S {s t : ByteArray} (hl : s.size = t.size) (hs : ∀ d ∈ bytes s, isDig d = true) (ht : ∀ d ∈ bytes t, isDig d = true) : Op.bytesLess s.toList t.toList = decide (natOf (bytes s) < natOf (bytes t)) := by
  rw [toList_bytes, toList_bytes]
  exact less_natOf _ _ (by rw [← size_bytes, ← size_bytes]; exact hl) hs ht
theorem eq_S {s t : ByteArray} (hl : s.size = t.size) (hs : ∀ d ∈ bytes s, isDig d = true) (ht : ∀ d ∈ bytes t, isDig d = true) : (s.toList == t.toList) = decide (natOf (bytes s) = natOf (bytes t)) := by
  rw [toList_beq]
  apply decide_eq_decide.2
  constructor
  · intro h; rw [h]
  · intro h; exact bytes_inj (natOf_inj_len (by rw [← size_bytes, ← size_bytes]; exact hl) hs ht h)
theorem natOf_big {s : Bytes} (h0 : ∀ d, s.head? = some d → d ≠ 48) (h : ∀ d ∈ s, isDig d = true) {k : Nat} (hk : k < s.length) : 10 ^ k ≤ natOf s := by
  have h1 := dec_natOf s h h0
  rcases Nat.lt_or_ge (natOf s) (10 ^ k) with h2 | h2
  · have := dec_len.2 h2
    rw [h1] at this
    omega
  · exact h2
end Go.Proofs.YtdpoagcgglfijaaGreatDoor
namespace Go.Proofs.YtdpoagcgglfijaaGreatDoor
open Go.RowKit Go.Shelf Dec

theorem cmp_lt {x y : Int} (h : x < y) : cmpI x y = -1 := by unfold cmpI; rw [if_pos h]
theorem cmp_gt {x y : Int} (h : y < x) : cmpI x y = 1 := by unfold cmpI; rw [if_neg (by omega), if_neg (by omega)]
theorem cmp_eq {x y : Int} (h : x = y) : cmpI x y = 0 := by unfold cmpI; rw [if_neg (by omega), if_pos h]
theorem natOf_len_lt {s t : Bytes} (hs : ∀ d ∈ s, isDig d = true) (ht : ∀ d ∈ t, isDig d = true) (h0 : ∀ d, t.head? = some d → d ≠ 48) (h : s.length < t.length) : natOf s < natOf t := by
  have h1 := natOf_lt s hs
  have h2 := natOf_big h0 ht (k := t.length - 1) (by omega)
  have h3 : 10 ^ s.length ≤ 10 ^ (t.length - 1) := Nat.pow_le_pow_right (by omega) (by omega)
  omega
theorem natOf_pos {s : Bytes} (hs : ∀ d ∈ s, isDig d = true) (h0 : ∀ d, s.head? = some d → d ≠ 48) (h : s ≠ []) : 0 < natOf s := by
  cases s with
  | nil => exact absurd rfl h
  | cons d s =>
    have := natOf_big h0 hs (k := 0) (by simp)
    omega



end Go.Proofs.YtdpoagcgglfijaaGreatDoor
