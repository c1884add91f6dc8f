/- Unit prices, the reference: contracts of check, down, Price, Issue, Cancel and Deal. Conditions: strings of up to twenty thousand bytes. -/
import Derived.Test.YtndkglmokhndnaaGreatDoorRf
import Derived.Test.YtndkglmokhndnaaGreatDoorUb
namespace Go.Proofs.YtndkglmokhndnaaGreatDoor
open Go.RowKit Go.Shelf Dec QQ

theorem rchkR {a : ByteArray} (h : a.size ≤ 1000000) : Ret 123 #[.string a] (.int .i64 (chk a)) := fun w _ => rcheck_any a w (by omega)
theorem any_none {α : Type} {l : List α} {p : α → Bool} (h : ∀ i, i < l.length → ∀ s, l[i]? = some s → p s = false) : l.any p = false := by
  rw [List.any_eq_false]
  intro s hs
  obtain ⟨i, hi, e⟩ := List.getElem_of_mem hs
  have := h i hi s (by rw [List.getElem?_eq_getElem hi, e])
  rw [this]
  decide
theorem any_at {α : Type} {l : List α} {p : α → Bool} {i : Nat} {s : α} (h : l[i]? = some s) (hp : p s = true) : l.any p = true := List.any_eq_true.2 ⟨s, List.mem_of_getElem? h, hp⟩
end Go.Proofs.YtndkglmokhndnaaGreatDoor
