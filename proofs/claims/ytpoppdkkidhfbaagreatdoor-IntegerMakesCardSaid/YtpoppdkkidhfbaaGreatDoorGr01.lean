/- Integer: the look at sizes of the law's one, two or three strings. No condition. -/
import Derived.Test.YtpoppdkkidhfbaaGreatDoorAwake
import Derived.Test.YtpoppdkkidhfbaaGreatDoorFit
namespace Go.Proofs.YtpoppdkkidhfbaaGreatDoor
open Go.RowKit Go.Shelf Dec

/-- the three strings' slice, as great gets it -/
theorem great3 (a b c : ByteArray) (w : World) (ha : a.size ≤ 9223372036854775807) (hb : b.size ≤ 9223372036854775807) (hc : c.size ≤ 9223372036854775807) :
    Calls Tryz.prog 12 #[.slice (some ⟨w.heap.size, 0, none⟩) 3 3] (w.alloc (.cells #[.string a, .string b, .string c] 22)) fun e w' => e = .returned (.bool (big a || big b || big c)) ∧ (w.alloc (.cells #[.string a, .string b, .string c] 22)) = w' := by
  have := great_any [a, b, c] w.heap.size (w.alloc (.cells #[.string a, .string b, .string c] 22)) ?_ (by simp)
  · have e : [a, b, c].any big = (big a || big b || big c) := by simp [Bool.or_assoc]
    rw [e] at this
    exact this
  · intro i s hi
    have h := heap_new w (.cells #[.string a, .string b, .string c] 22)
    unfold World.cell?
    rw [h]
    match i, hi with
    | 0, hi => simp at hi; subst hi; exact ⟨rfl, ha⟩
    | 1, hi => simp at hi; subst hi; exact ⟨rfl, hb⟩
    | 2, hi => simp at hi; subst hi; exact ⟨rfl, hc⟩
    | i + 3, hi => simp at hi
/-- two strings' slice, as great gets it -/
theorem great2 (a b : ByteArray) (w : World) (ha : a.size ≤ 9223372036854775807) (hb : b.size ≤ 9223372036854775807) :
    Calls Tryz.prog 12 #[.slice (some ⟨w.heap.size, 0, none⟩) 2 2] (w.alloc (.cells #[.string a, .string b] 22)) fun e w' => e = .returned (.bool (big a || big b)) ∧ (w.alloc (.cells #[.string a, .string b] 22)) = w' := by
  have := great_any [a, b] w.heap.size (w.alloc (.cells #[.string a, .string b] 22)) ?_ (by simp)
  · have e : [a, b].any big = (big a || big b) := by simp
    rw [e] at this
    exact this
  · intro i s hi
    have h := heap_new w (.cells #[.string a, .string b] 22)
    unfold World.cell?
    rw [h]
    match i, hi with
    | 0, hi => simp at hi; subst hi; exact ⟨rfl, ha⟩
    | 1, hi => simp at hi; subst hi; exact ⟨rfl, hb⟩
    | i + 2, hi => simp at hi
/-- one string's slice, as great gets it -/
theorem great1 (a : ByteArray) (w : World) (ha : a.size ≤ 9223372036854775807) :
    Calls Tryz.prog 12 #[.slice (some ⟨w.heap.size, 0, none⟩) 1 1] (w.alloc (.cells #[.string a] 22)) fun e w' => e = .returned (.bool (big a)) ∧ (w.alloc (.cells #[.string a] 22)) = w' := by
  have := great_any [a] w.heap.size (w.alloc (.cells #[.string a] 22)) ?_ (by simp)
  · have e : [a].any big = big a := by simp
    rw [e] at this
    exact this
  · intro i s hi
    have h := heap_new w (.cells #[.string a] 22)
    unfold World.cell?
    rw [h]
    match i, hi with
    | 0, hi => simp at hi; subst hi; exact ⟨rfl, ha⟩
    | i + 1, hi => simp at hi

theorem big_false {a : ByteArray} (h : big a = false) : a.size ≤ 60 := by unfold big at h; have := of_decide_eq_false h; omega

end Go.Proofs.YtpoppdkkidhfbaaGreatDoor
