/- Integer: the law's anchor and its look at sizes. Condition: the library's table and error lie as the program's text lays them. Integer: the look at sizes of the law's one, two or three strings. No condition. -/
import Derived.Test.YtkefcfbmnehocaaGreatDoorIe
namespace Go.Proofs.YtkefcfbmnehocaaGreatDoor
open Go.RowKit Go.Shelf Dec

theorem canS_of (t : Bytes) (h : t.all isDig = true) (h0 : t.head? ≠ some 48) : canS (natOf t : Int) = str t := by
  unfold canS canon
  rw [if_neg (by omega), Int.natAbs_natCast, dec_natOf t (fun d hd => List.all_eq_true.1 h d hd) (fun d hd e => h0 (by rw [hd, e]))]
theorem aw1 (w : World) (hg : Gl w) : Calls Tryz.prog 17 #[.string ⟨#[45, 55]⟩, .string ⟨#[50]⟩] w fun e w' => e = .returned (.tuple #[.string ⟨#[45, 52]⟩, .string ⟨#[49]⟩, .int .i64 0]) ∧ Below w.heap.size w w' :=
  (Div_any ⟨#[45, 55]⟩ ⟨#[50]⟩ w (by decide) (by decide) hg).mono fun _ _ h => h
theorem aw2 (w : World) (hg : Gl w) : Calls Tryz.prog 17 #[.string ⟨#[55]⟩, .string ⟨#[45, 50]⟩] w fun e w' => e = .returned (.tuple #[.string ⟨#[45, 52]⟩, .string ⟨#[45, 49]⟩, .int .i64 0]) ∧ Below w.heap.size w w' :=
  (Div_any ⟨#[55]⟩ ⟨#[45, 50]⟩ w (by decide) (by decide) hg).mono fun _ _ h => h
theorem aw3 (w : World) (hg : Gl w) : Calls Tryz.prog 21 #[.string ⟨#[50]⟩, .int .i64 64] w fun e w' => e = .returned (.tuple #[.string ⟨#[49, 56, 52, 52, 54, 55, 52, 52, 48, 55, 51, 55, 48, 57, 53, 53, 49, 54, 49, 54]⟩, .int .i64 0]) ∧ Below w.heap.size w w' := by
  refine (Power_any ⟨#[50]⟩ 64 w (by decide) hg).mono ?_
  rintro e w' ⟨he, hb⟩
  refine ⟨?_, hb⟩
  have h1 : powR (valS ⟨#[50]⟩) 64 = (canS (2 ^ 64), 0) := rfl
  have h2 : canS (2 ^ 64) = str [49, 56, 52, 52, 54, 55, 52, 52, 48, 55, 51, 55, 48, 57, 53, 53, 49, 54, 49, 54] := canS_of [49, 56, 52, 52, 54, 55, 52, 52, 48, 55, 51, 55, 48, 57, 53, 53, 49, 54, 49, 54] (by decide) (by decide)
  rw [he, h1, h2]
  rfl
theorem aw4 (w : World) (hg : Gl w) : Calls Tryz.prog 64 #[.string ⟨#[48, 48, 55]⟩] w fun e w' => e = .returned (.tuple #[.int .i64 7, .bool true]) ∧ Below w.heap.size w w' :=
  (Small_any ⟨#[48, 48, 55]⟩ w (by decide) hg).mono fun _ _ h => h
theorem aw5 (w : World) (hg : Gl w) : Calls Tryz.prog 19 #[.string ⟨#[45, 49, 50]⟩, .string ⟨#[49, 56]⟩] w fun e w' => e = .returned (.string ⟨#[54]⟩) ∧ Below w.heap.size w w' := by
  refine (Gcd_any ⟨#[45, 49, 50]⟩ ⟨#[49, 56]⟩ w (by decide) (by decide) hg).mono ?_
  rintro e w' ⟨he, hb⟩
  refine ⟨?_, hb⟩
  have h1 : Nat.gcd (valS ⟨#[45, 49, 50]⟩).natAbs (valS ⟨#[49, 56]⟩).natAbs = 6 := by decide
  rw [he, h1]
  rfl
theorem aw6 (w : World) : Calls Tryz.prog 65 #[.string ⟨#[49, 120]⟩] w fun e w' => e = .returned (.string ⟨#[]⟩) ∧ Below w.heap.size w w' :=
  (canonical_any ⟨#[49, 120]⟩ w (by decide)).mono fun _ _ h => h
theorem aw7 (w : World) : Calls Tryz.prog 66 #[.string ⟨#[45, 48]⟩] w fun e w' => e = .returned (.string ⟨#[48]⟩) ∧ Below w.heap.size w w' :=
  (print_any ⟨#[45, 48]⟩ w (by decide)).mono fun _ _ h => h

set_option maxRecDepth 100000 in
set_option maxHeartbeats 4000000 in
theorem awake_any (w : World) (hg : Gl w) : Calls Tryz.prog 16 #[] w fun e w' => e = .returned (.bool true) ∧ Below w.heap.size w w' := by
  have Hg := Lib.hid hg
  clear hg
  go_enter Tryz.func16, Tryz.ntmps16
  go_wp2_with fail
  refine (aw1 _ Hg.out).mono ?_
  rintro e w1 ⟨rfl, hb1⟩
  have H1 := Lib.hid hb1
  clear hb1
  go_wp2_with fail
  refine (aw2 _ (Hg.out.below H1.out)).mono ?_
  rintro e w2 ⟨rfl, hb2⟩
  have H2 : Hid (Below w.heap.size w w2) := H1.out.trans (hb2.mono H1.out.size)
  clear hb2
  go_wp2_with fail
  refine (aw3 _ (Hg.out.below H2.out)).mono ?_
  rintro e w3 ⟨rfl, hb3⟩
  have H3 : Hid (Below w.heap.size w w3) := H2.out.trans (hb3.mono H2.out.size)
  clear hb3
  go_wp2_with fail
  refine (aw4 _ (Hg.out.below H3.out)).mono ?_
  rintro e w4 ⟨rfl, hb4⟩
  have H4 : Hid (Below w.heap.size w w4) := H3.out.trans (hb4.mono H3.out.size)
  clear hb4
  go_wp2_with fail
  refine (aw5 _ (Hg.out.below H4.out)).mono ?_
  rintro e w5 ⟨rfl, hb5⟩
  have H5 : Hid (Below w.heap.size w w5) := H4.out.trans (hb5.mono H4.out.size)
  clear hb5
  go_wp2_with fail
  refine (aw6 _).mono ?_
  rintro e w6 ⟨rfl, hb6⟩
  have H6 : Hid (Below w.heap.size w w6) := H5.out.trans (hb6.mono H5.out.size)
  clear hb6
  go_wp2_with fail
  refine (aw7 _).mono ?_
  rintro e w7 ⟨rfl, hb7⟩
  have H7 : Hid (Below w.heap.size w w7) := H6.out.trans (hb7.mono H6.out.size)
  clear hb7
  go_wp2_with fail
  go_ret
  exact ⟨rfl, H7.out⟩

/-- one string is longer than 60 bytes -/
def big (s : ByteArray) : Bool := decide (60 < s.size)
theorem Great_any (a : ByteArray) (w : World) (ha : a.size ≤ 9223372036854775807) : Calls Tryz.prog 63 #[.string a] w fun e w' => e = .returned (.bool (big a)) ∧ w = w' := by
  unfold big
  go_enter Tryz.func63, Tryz.ntmps63
  go_wp2_with fail
  go_ret
  refine ⟨?_, rfl⟩
  have e : decide ((60 : Int) < (a.size : Int)) = decide (60 < a.size) := by rw [decide_eq_decide]; omega
  first | rfl | (rw [← e]; rfl)
set_option maxRecDepth 100000 in
set_option maxHeartbeats 2000000 in
theorem great_any (l : List ByteArray) (b : Nat) (w : World) (hl : ∀ (i : Nat) (s : ByteArray), l[i]? = some s → w.cell? ⟨b, i, none⟩ = some (.string s) ∧ s.size ≤ 9223372036854775807) (hm : l.length ≤ 1000) :
    Calls Tryz.prog 15 #[.slice (some ⟨b, 0, none⟩) l.length l.length] w fun e w' => e = .returned (.bool (l.any big)) ∧ w = w' := by
  have HL := Lib.hid hl
  clear hl
  go_enter Tryz.func15, Tryz.ntmps15
  go_wp2_with fail
  go_loop [7] (fun s => ∃ k : Nat, k ≤ l.length ∧ s = .int .i64 (k : Int) ∧ Hid ((l.take k).any big = false)) (fun s => (l.length - intOf s).toNat)
  case atStart => exact ⟨0, by omega, rfl, rfl⟩
  case round =>
    obtain ⟨k, hk, rfl, H⟩ := hrel
    by_cases hkl : k = l.length
    · subst hkl
      go_wp2_with fail
      go_ret
      exact ⟨by have := H.out; rw [List.take_of_length_le (Nat.le_refl _)] at this; rw [this]; rfl, rfl⟩
    · have hlt : k < l.length := by omega
      clear hkl
      obtain ⟨s, hs⟩ : ∃ s, l[k]? = some s := ⟨l[k], by simp⟩
      obtain ⟨hc, hsz⟩ := HL.out k s hs
      have Hs := Lib.hid hs
      clear hs
      cases hb : big s with
      | true =>
        have HB := Lib.hid hb
        have HG : Hid (∀ w, Calls Tryz.prog 63 #[.string s] w fun e w' => e = .returned (.bool true) ∧ w = w') := by intro w; rw [← hb]; exact Great_any s w hsz
        clear hb
        go_wp2_with fail
        refine (HG.out _).mono ?_
        rintro e w1 ⟨rfl, rfl⟩
        go_wp2_with fail
        go_ret
        refine ⟨?_, rfl⟩
        have : l.any big = true := List.any_eq_true.2 ⟨s, List.mem_of_getElem? Hs.out, HB.out⟩
        rw [this]; rfl
      | false =>
        have HB := Lib.hid hb
        have HG : Hid (∀ w, Calls Tryz.prog 63 #[.string s] w fun e w' => e = .returned (.bool false) ∧ w = w') := by intro w; rw [← hb]; exact Great_any s w hsz
        clear hb
        go_wp2_with fail
        refine (HG.out _).mono ?_
        rintro e w1 ⟨rfl, rfl⟩
        go_wp2_with fail
        go_round
        case rel =>
          refine ⟨k + 1, by omega, by go_num, ?_⟩
          show (l.take (k + 1)).any big = false
          rw [List.take_add_one, Hs.out, List.any_append, H.out]
          simp [HB.out]
        case measure => simp [intOf]; omega
end Go.Proofs.YtkefcfbmnehocaaGreatDoor
namespace Go.Proofs.YtkefcfbmnehocaaGreatDoor
open Go.RowKit Go.Shelf Dec

/-- the three strings' slice, as great gets it -/
theorem great3 (a b c : ByteArray) (w : World) (ha : a.size ≤ 9223372036854775807) (hb : b.size ≤ 9223372036854775807) (hc : c.size ≤ 9223372036854775807) :
    Calls Tryz.prog 15 #[.slice (some ⟨w.heap.size, 0, none⟩) 3 3] (w.alloc (.cells #[.string a, .string b, .string c] 22)) fun e w' => e = .returned (.bool (big a || big b || big c)) ∧ (w.alloc (.cells #[.string a, .string b, .string c] 22)) = w' := by
  have := great_any [a, b, c] w.heap.size (w.alloc (.cells #[.string a, .string b, .string c] 22)) ?_ (by simp)
  · have e : [a, b, c].any big = (big a || big b || big c) := by simp [Bool.or_assoc]
    rw [e] at this
    exact this
  · intro i s hi
    have h := heap_new w (.cells #[.string a, .string b, .string c] 22)
    unfold World.cell?
    rw [h]
    match i, hi with
    | 0, hi => simp at hi; subst hi; exact ⟨rfl, ha⟩
    | 1, hi => simp at hi; subst hi; exact ⟨rfl, hb⟩
    | 2, hi => simp at hi; subst hi; exact ⟨rfl, hc⟩
    | i + 3, hi => simp at hi
/-- two strings' slice, as great gets it -/
theorem great2 (a b : ByteArray) (w : World) (ha : a.size ≤ 9223372036854775807) (hb : b.size ≤ 9223372036854775807) :
    Calls Tryz.prog 15 #[.slice (some ⟨w.heap.size, 0, none⟩) 2 2] (w.alloc (.cells #[.string a, .string b] 22)) fun e w' => e = .returned (.bool (big a || big b)) ∧ (w.alloc (.cells #[.string a, .string b] 22)) = w' := by
  have := great_any [a, b] w.heap.size (w.alloc (.cells #[.string a, .string b] 22)) ?_ (by simp)
  · have e : [a, b].any big = (big a || big b) := by simp
    rw [e] at this
    exact this
  · intro i s hi
    have h := heap_new w (.cells #[.string a, .string b] 22)
    unfold World.cell?
    rw [h]
    match i, hi with
    | 0, hi => simp at hi; subst hi; exact ⟨rfl, ha⟩
    | 1, hi => simp at hi; subst hi; exact ⟨rfl, hb⟩
    | i + 2, hi => simp at hi
/-- one string's slice, as great gets it -/
theorem great1 (a : ByteArray) (w : World) (ha : a.size ≤ 9223372036854775807) :
    Calls Tryz.prog 15 #[.slice (some ⟨w.heap.size, 0, none⟩) 1 1] (w.alloc (.cells #[.string a] 22)) fun e w' => e = .returned (.bool (big a)) ∧ (w.alloc (.cells #[.string a] 22)) = w' := by
  have := great_any [a] w.heap.size (w.alloc (.cells #[.string a] 22)) ?_ (by simp)
  · have e : [a].any big = big a := by simp
    rw [e] at this
    exact this
  · intro i s hi
    have h := heap_new w (.cells #[.string a] 22)
    unfold World.cell?
    rw [h]
    match i, hi with
    | 0, hi => simp at hi; subst hi; exact ⟨rfl, ha⟩
    | i + 1, hi => simp at hi

theorem big_false {a : ByteArray} (h : big a = false) : a.size ≤ 60 := by unfold big at h; have := of_decide_eq_false h; omega

end Go.Proofs.YtkefcfbmnehocaaGreatDoor
