/- Attribution: slices.Clone of rows of sectors and of parts. Condition: short rows. -/
import Derived.Test.YticfdeaphiifeaaGreatDoorAt1
set_option maxHeartbeats 4000000
set_option maxRecDepth 100000
namespace Go.Proofs.YticfdeaphiifeaaGreatDoor
open Go.RowKit Go.Shelf Dec QQ
theorem row_reads {w : World} {A : Option Addr} {vs : List Value} {m n : Nat} (h : Row w A vs) (hl : vs.length = n * m) (h0 : 0 < m) : Reads w w.heap.size m A n vs := by
 refine ⟨hl, fun hn => ?_⟩
 have hp : 0 < vs.length := by rw [hl]; exact Nat.mul_pos hn h0
 obtain ⟨b, o, hA, hB, _⟩ := h 0 _ (List.getElem?_eq_getElem hp)
 refine ⟨_, hA, hB, fun j u hu => ?_⟩
 obtain ⟨b', o', hA', _, hc⟩ := h j u hu
 rw [hA] at hA'
 injection hA' with e
 injection e with e1 e2
 subst e1 e2
 rw [show (⟨b, o, none⟩ : Addr).add j = ⟨b, o + j, none⟩ by unfold Addr.add; by_cases h : j = 0 <;> simp [h]]
 exact hc
theorem row_none {w : World} {vs : List Value} {m n : Nat} (h : Row w none vs) (hl : vs.length = n * m) (h0 : 0 < m) : n = 0 := by
 rcases Nat.eq_zero_or_pos n with e | e
 ·exact e
 ·have hp : 0 < vs.length := by rw [hl]; exact Nat.mul_pos e h0
  obtain ⟨b, o, hA, _⟩ := h 0 _ (List.getElem?_eq_getElem hp)
  cases hA
theorem own_empty (w : World) (T : TypeId) (m : Nat) : World.ownsRow (w.alloc (.cells #[] T)) w.heap.size T m (.slice (some ⟨w.heap.size, 0, none⟩) 0 0) 0 [] := by
 refine ⟨by simp, .inr ⟨w.heap.size, 0, #[], rfl, Nat.le_refl _, heap_new w _, Nat.le_refl _, by unfold maxLen; omega, by simp, by simp⟩⟩
theorem own_bound {w : World} {base n m : Nat} {T : TypeId} {v : Value} {xs : List Value} (h : w.ownsRow base T m v n xs) : ∀ k, v.ownBlock = some k → base ≤ k := by
 intro k hk
 rcases h.2 with ⟨rfl, _⟩ | ⟨g, cap, cur, rfl, hb, _⟩
 ·cases hk
 ·injection hk with hk
  subst hk
  exact hb
theorem infoS48 : (Tryz.prog.info? 73).map (fun i => (i.zero, i.size, i.bytes)) = some (some (.agg #[.string ⟨#[]⟩, .string ⟨#[]⟩, .string ⟨#[]⟩, .string ⟨#[]⟩, .string ⟨#[]⟩, .string ⟨#[]⟩, .string ⟨#[]⟩, .string ⟨#[]⟩, .string ⟨#[]⟩]), 9, 144) := by kernel_rfl
theorem infoP48 : (Tryz.prog.info? 36).map (fun i => (i.zero, i.size, i.bytes)) = some (some (.agg #[.string ⟨#[]⟩, .string ⟨#[]⟩, .string ⟨#[]⟩, .string ⟨#[]⟩, .string ⟨#[]⟩, .string ⟨#[]⟩, .string ⟨#[]⟩]), 7, 112) := by kernel_rfl
theorem pcells_one7 (p : PrtS) : ∀ u ∈ pcells p, u.oneCell' = true := by
 intro u hu
 simp [pcells] at hu
 rcases hu with rfl | rfl | rfl | rfl | rfl | rfl | rfl <;> rfl
theorem scells_one (p : SecS) : ∀ u ∈ scells p, u.oneCell' = true := by
 intro u hu
 simp [scells] at hu
 rcases hu with rfl | rfl | rfl | rfl | rfl | rfl | rfl | rfl | rfl <;> rfl
theorem flat_one {α : Type} {cs : α → List Value} (h : ∀ a, ∀ u ∈ cs a, u.oneCell' = true) (l : List α) : ∀ u ∈ flatG cs l, u.oneCell' = true := by
 intro u hu
 obtain ⟨a, _, hu⟩ := List.mem_flatMap.1 hu
 exact h a u hu
end Go.Proofs.YticfdeaphiifeaaGreatDoor
