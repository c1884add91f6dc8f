/- Own rows: what stays of them; the first place of a list; lists out of places. No condition. -/
import Derived.Test.YtpjgcdgdgljioaaGreatDoorFc
namespace Go.Proofs.YtpjgcdgdgljioaaGreatDoor
open Go.RowKit Go.Shelf Dec QQ
theorem own_below {w w' : World} {base n size : Nat} {T : TypeId} {v : Value} {xs : List Value} (h : w.ownsRow base T size v n xs) (hb : Below w.heap.size w w') : w'.ownsRow base T size v n xs := by
 refine ⟨h.1, ?_⟩
 rcases h.2 with h | ⟨g, cap, cur, e1, e2, e3, r⟩
 ·exact .inl h
 ·exact .inr ⟨g, cap, cur, e1, e2, (hb.block g (Array.getElem?_eq_some_iff.1 e3).1).trans e3, r⟩
theorem own_gen {w : World} {base n size : Nat} {T : TypeId} {v : Value} {xs : List Value} (h : w.ownsRow base T size v n xs) : ∀ k, v.ownBlock = some k → base ≤ k := by
 intro k hk
 rcases h.2 with ⟨rfl, _⟩ | ⟨g, cap, cur, rfl, hb, _⟩
 ·simp [Value.ownBlock] at hk
 ·simp [Value.ownBlock] at hk; omega
theorem reads_row (w : World) (T : TypeId) (cs : List Value) : Reads (w.alloc (.cells cs.toArray T)) (w.heap.size + 1) cs.length (some ⟨w.heap.size, 0, none⟩) 1 cs := by
 refine ⟨by simp, fun _ => ⟨_, rfl, by simp, ?_⟩⟩
 intro j u hu
 have h := heap_new w (.cells cs.toArray T)
 rw [show (⟨w.heap.size, 0, none⟩ : Addr).add j = ⟨w.heap.size, j, none⟩ by unfold Addr.add; by_cases h : j = 0 <;> simp [h]]
 unfold World.cell?
 rw [h]
 simp [hu]
theorem own_low {w : World} {base base' n size : Nat} {T : TypeId} {v : Value} {xs : List Value} (h : w.ownsRow base T size v n xs) (hb : base' ≤ base) : w.ownsRow base' T size v n xs := by
 refine ⟨h.1, ?_⟩
 rcases h.2 with h | ⟨g, cap, cur, e1, e2, e3, r⟩
 ·exact .inl h
 ·exact .inr ⟨g, cap, cur, e1, by omega, e3, r⟩
theorem Bx.grown {w w' : World} {b : Nat} {cs : Array Value} {row : Option Nat} (h : Bx w b cs) (hg : w.grownBy w' row) (hne : some b ≠ row) : Bx w' b cs := by
 obtain ⟨T, h⟩ := h
 exact ⟨T, (hg.block b (Array.getElem?_eq_some_iff.1 h).1 hne).trans h⟩
theorem list_of {α : Type} (Q : Nat → α → Prop) : ∀ n : Nat, (∀ i, i < n → ∃ x, Q i x) → ∃ l : List α, l.length = n ∧ ∀ i x, l[i]? = some x → Q i x := by
 intro n
 induction n with
 | zero => intro _; exact ⟨[], rfl, fun i x h => by simp at h⟩
 | succ n ih =>
  intro h
  obtain ⟨l, hl, hq⟩ := ih (fun i hi => h i (by omega))
  obtain ⟨x, hx⟩ := h n (by omega)
  refine ⟨l ++ [x], by simp [hl], fun i y hy => ?_⟩
  by_cases hi : i < n
  ·rw [List.getElem?_append_left (by omega)] at hy; exact hq i y hy
  ·rw [List.getElem?_append_right (by omega)] at hy
   have : i - l.length = 0 := by
    rcases Nat.eq_zero_or_pos (i - l.length) with h0 | h0
    ·exact h0
    ·have hlt := (List.getElem?_eq_some_iff.1 hy).1; simp at hlt; omega
   rw [this] at hy
   simp at hy
   subst hy
   obtain rfl : i = n := by omega
   exact hx
theorem DivA {a b : ByteArray} {x y : Int} (h1 : Vs a x) (h2 : Vs b y) : Ret 159 #[.string a, .string b] (.tuple #[.string (divR x y).1, .string (divR x y).2.1, .int .i64 (divR x y).2.2]) := fun w hg => DivV h1 h2 w hg
def nil : ByteArray := ⟨#[]⟩
end Go.Proofs.YtpjgcdgdgljioaaGreatDoor
