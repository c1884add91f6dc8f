/- Integer: contracts of digits, Canonical, Check, Print, Parse of the program, for every string. Conditions: sizes below 2^63. -/
import Derived.Test.YtonopbelbehheaaGreatDoorIntD
import Derived.Test.YtonopbelbehheaaGreatDoorShelf
namespace Go.Proofs.YtonopbelbehheaaGreatDoor
open Go.RowKit Go.Shelf Dec

/-- the bytes of a string; a string of bytes -/
def bytes (s : ByteArray) : Bytes := s.data.toList
def str (l : Bytes) : ByteArray := ⟨l.toArray⟩
theorem bytes_str (l : Bytes) : bytes (str l) = l := by simp [bytes, str]
theorem str_bytes (s : ByteArray) : str (bytes s) = s := by simp [bytes, str]
theorem size_bytes (s : ByteArray) : s.size = (bytes s).length := by unfold bytes; rw [Array.length_toList]; rfl
theorem size_str (l : Bytes) : (str l).size = l.length := by rw [size_bytes, bytes_str]
theorem str_inj {a b : Bytes} (h : str a = str b) : a = b := by rw [← bytes_str a, h, bytes_str]

theorem trimPrefix_minus (s : Bytes) : Lib.trimPrefix s [45] = bare s := by
  unfold Lib.trimPrefix Lib.hasPrefix bare
  cases s with
  | nil => simp
  | cons a t =>
    by_cases h : a = 45
    · subst h; simp
    · simp [h, Ne.symm h]
theorem hasPrefix_minus (s : Bytes) : Lib.hasPrefix s [45] = decide (s.head? = some 45) := by
  unfold Lib.hasPrefix
  cases s with
  | nil => simp
  | cons a t =>
    by_cases h : a = 45
    · subst h; simp
    · have h' : ((45 : UInt8) == a) = false := by simp [Ne.symm h]
      simp [List.isPrefixOf, h, h']
def tens : Bytes := [48, 49, 50, 51, 52, 53, 54, 55, 56, 57]
theorem tens_isDig (b : UInt8) : tens.contains b = isDig b := by
  have key : ∀ n : Fin 256, tens.contains (UInt8.ofNat n.val) = isDig (UInt8.ofNat n.val) := by decide +kernel
  have := key ⟨b.toNat, b.toNat_lt⟩
  simpa using this
theorem dropWhile_nil (p : UInt8 → Bool) : ∀ l : Bytes, l.dropWhile p = [] ↔ l.all p = true := by
  intro l
  induction l with
  | nil => simp
  | cons a l ih => by_cases h : p a = true <;> simp [h, ih]
theorem trim_digits (s : Bytes) : Lib.trimS s tens = [] ↔ s.all isDig = true := by
  unfold Lib.trimS Lib.trimLeftS Lib.trimRightS
  simp only [tens_isDig]
  rw [dropWhile_nil]
  constructor
  · intro h
    rw [List.all_reverse] at h
    have h1 : (s.reverse.dropWhile isDig) = [] := by
      cases hd : s.reverse.dropWhile isDig with
      | nil => rfl
      | cons a t =>
        have h2 := dropWhile_head isDig s.reverse a (by rw [hd]; rfl)
        rw [hd] at h
        simp [h2] at h
    rw [dropWhile_nil, List.all_reverse] at h1
    exact h1
  · intro h
    have : s.reverse.dropWhile isDig = [] := by rw [dropWhile_nil, List.all_reverse]; exact h
    rw [this]; rfl
theorem trimLeft_zeros (s : Bytes) : Lib.trimLeftS s [48] = s.dropWhile (· == 48) := by
  unfold Lib.trimLeftS
  congr 1
  funext b
  simp only [List.contains_cons, List.contains_nil, Bool.or_false]
theorem isEmpty_bytes (s : ByteArray) : s.toList.isEmpty = (bytes s).isEmpty := by rw [ByteArray.toList_eq]; rfl
theorem beq_bytes (s t : ByteArray) : (s.toList == t.toList) = decide (bytes s = bytes t) := by
  rw [ByteArray.toList_eq, ByteArray.toList_eq, Bool.eq_iff_iff]; simp [bytes]
theorem bytes_inj {s t : ByteArray} (h : bytes s = bytes t) : s = t := by rw [← str_bytes s, h, str_bytes]
theorem dropWhile_len (p : UInt8 → Bool) (l : Bytes) : (l.dropWhile p).length ≤ l.length := (List.dropWhile_sublist p).length_le
theorem bare_len (s : Bytes) : (bare s).length ≤ s.length := by unfold bare; split <;> simp
theorem digs_len (s : Bytes) : (digs s).length ≤ s.length := by
  unfold digs; split
  · exact Nat.le_trans (dropWhile_len _ _) (bare_len s)
  · simp

set_option maxHeartbeats 1000000 in
theorem digits_any (a : ByteArray) (w : World) (ha : a.size ≤ 9223372036854775807) :
    Calls Tryz.prog 132 #[.string a] w fun e w' => e = .returned (.tuple #[.string (str (digs (bytes a))), .bool (negB (bytes a))]) ∧ Below w.heap.size w w' := by
  have h1 : ∀ w, Calls Tryz.prog 177 #[.string a, .string ⟨#[45]⟩] w fun e w' => e = .returned (.tuple #[.string (str (bare (bytes a))), .bool (decide ((bytes a).head? = some 45))]) ∧ w' = w := fun w => by
    have := Any.strings_CutPrefix Tryz.lays103 a ⟨#[45]⟩ w
    rw [show (⟨#[45]⟩ : ByteArray).data.toList = [45] from rfl, trimPrefix_minus, hasPrefix_minus] at this
    exact this
  obtain ⟨t, ht⟩ : ∃ t, str (bare (bytes a)) = t := ⟨_, rfl⟩
  have hbt : bytes t = bare (bytes a) := by rw [← ht, bytes_str]
  have hts : t.size ≤ 9223372036854775807 := by have := bare_len (bytes a); rw [size_bytes, hbt]; rw [size_bytes] at ha; omega
  have h2 : ∀ w, Calls Tryz.prog 178 #[.string t, .string ⟨#[48, 49, 50, 51, 52, 53, 54, 55, 56, 57]⟩] w fun e w' => e = .returned (.string (str (Lib.trimS (bytes t) tens))) ∧ Below w.heap.size w w' := fun w =>
    Any.strings_Trim_laid Tryz.lays160 (by kernel_rfl) t ⟨#[48, 49, 50, 51, 52, 53, 54, 55, 56, 57]⟩ w hts (by decide) (ascii_of_all (by decide))
  have h3 : ∀ w, Calls Tryz.prog 179 #[.string t, .string ⟨#[48]⟩] w fun e w' => e = .returned (.string (str ((bytes t).dropWhile (· == 48)))) ∧ Below w.heap.size w w' := fun w => by
    have := Any.strings_TrimLeft_laid Tryz.lays161 (by kernel_rfl) t ⟨#[48]⟩ w (by decide) (ascii_of_all (by decide))
    rw [show (⟨#[48]⟩ : ByteArray).data.toList = [48] from rfl, trimLeft_zeros] at this
    exact this
  rw [ht] at h1
  have H1 := Lib.hid h1
  have HB := Lib.hid hbt
  clear h1 ht hbt
  obtain ⟨m, hm⟩ : ∃ m, decide ((bytes a).head? = some 45) = m := ⟨_, rfl⟩
  obtain ⟨u, hu⟩ : ∃ u, str (Lib.trimS (bytes t) tens) = u := ⟨_, rfl⟩
  have HU : Hid (bytes u = Lib.trimS (bytes t) tens) := by show bytes u = _; rw [← hu, bytes_str]
  obtain ⟨v, hv⟩ : ∃ v, str ((bytes t).dropWhile (· == 48)) = v := ⟨_, rfl⟩
  have HV : Hid (bytes v = (bytes t).dropWhile (· == 48)) := by show bytes v = _; rw [← hv, bytes_str]
  rw [hu] at h2
  rw [hv] at h3
  have H2 := Lib.hid h2
  have H3 := Lib.hid h3
  have HM := Lib.hid hm
  clear h2 h3 hu hv hm
  have H1' := H1.out
  rw [HM.out] at H1'
  have H1b := Lib.hid H1'
  clear H1' H1
  by_cases hall : (bare (bytes a)).all isDig = true
  · have hue : bytes u = [] := by rw [HU.out, trim_digits, HB.out]; exact hall
    have q : u.toList.isEmpty = true := by rw [isEmpty_bytes, hue]; rfl
    have HD : Hid (digs (bytes a) = bytes v) := by show digs (bytes a) = bytes v; rw [HV.out, HB.out]; unfold digs; rw [if_pos hall]
    have HDv : Hid (str (digs (bytes a)) = v) := by show str (digs (bytes a)) = v; rw [HD.out, str_bytes]
    have HN : Hid (negB (bytes a) = (m && !v.toList.isEmpty)) := by show negB (bytes a) = _; rw [isEmpty_bytes, ← HD.out]; unfold negB; rw [HM.out]
    clear hue hall
    cases m with
    | true =>
      go_enter Tryz.func132, Tryz.ntmps132
      go_wp2_with fail
      refine (H1b.out _).mono ?_
      rintro e w1 ⟨rfl, rfl⟩
      go_wp2_with fail
      refine (H2.out _).mono ?_
      rintro e w2 ⟨rfl, hb2⟩
      go_wp2_with fail
      refine (H3.out _).mono ?_
      rintro e w3 ⟨rfl, hb3⟩
      go_wp2_with fail
      go_ret2
      refine ⟨ret_two (by rw [HDv.out]; rfl) ?_, hb2.trans (hb3.mono hb2.size)⟩
      rw [HN.out]; simp
    | false =>
      go_enter Tryz.func132, Tryz.ntmps132
      go_wp2_with fail
      refine (H1b.out _).mono ?_
      rintro e w1 ⟨rfl, rfl⟩
      go_wp2_with fail
      refine (H2.out _).mono ?_
      rintro e w2 ⟨rfl, hb2⟩
      go_wp2_with fail
      refine (H3.out _).mono ?_
      rintro e w3 ⟨rfl, hb3⟩
      go_wp2_with fail
      go_ret2
      refine ⟨ret_two (by rw [HDv.out]; rfl) ?_, hb2.trans (hb3.mono hb2.size)⟩
      rw [HN.out]; rfl
  · have hue : bytes u ≠ [] := by rw [HU.out]; intro e; rw [trim_digits, HB.out] at e; exact hall e
    have q : u.toList.isEmpty = false := by rw [isEmpty_bytes]; cases h : bytes u with | nil => exact absurd h hue | cons _ _ => rfl
    have HD : Hid (digs (bytes a) = []) := by show digs (bytes a) = []; unfold digs; rw [if_neg hall]
    clear hue hall
    go_enter Tryz.func132, Tryz.ntmps132
    go_wp2_with fail
    refine (H1b.out _).mono ?_
    rintro e w1 ⟨rfl, rfl⟩
    go_wp2_with fail
    refine (H2.out _).mono ?_
    rintro e w2 ⟨rfl, hb2⟩
    go_wp2_with fail
    go_ret2
    refine ⟨ret_two (by rw [HD.out]; rfl) ?_, hb2⟩
    unfold negB
    rw [HD.out]
    simp
end Go.Proofs.YtonopbelbehheaaGreatDoor
