/- Own rows: what stays of them; the first place of a list; lists out of places. No condition. -/
import Derived.Test.YtahpbnmbphobgaaGreatDoorFc
namespace Go.Proofs.YtahpbnmbphobgaaGreatDoor
open Go.RowKit Go.Shelf Dec QQ

theorem own_below {w w' : World} {base n size : Nat} {T : TypeId} {v : Value} {xs : List Value} (h : w.ownsRow base T size v n xs) (hb : Below w.heap.size w w') : w'.ownsRow base T size v n xs := by
  refine ⟨h.1, ?_⟩
  rcases h.2 with h | ⟨g, cap, cur, e1, e2, e3, r⟩
  · exact .inl h
  · exact .inr ⟨g, cap, cur, e1, e2, (hb.block g (Array.getElem?_eq_some_iff.1 e3).1).trans e3, r⟩
theorem own_gen {w : World} {base n size : Nat} {T : TypeId} {v : Value} {xs : List Value} (h : w.ownsRow base T size v n xs) : ∀ k, v.ownBlock = some k → base ≤ k := by
  intro k hk
  rcases h.2 with ⟨rfl, _⟩ | ⟨g, cap, cur, rfl, hb, _⟩
  · simp [Value.ownBlock] at hk
  · simp [Value.ownBlock] at hk; omega
theorem reads_row (w : World) (T : TypeId) (cs : List Value) : Reads (w.alloc (.cells cs.toArray T)) (w.heap.size + 1) cs.length (some ⟨w.heap.size, 0, none⟩) 1 cs := by
  refine ⟨by simp, fun _ => ⟨_, rfl, by simp, ?_⟩⟩
  intro j u hu
  have h := heap_new w (.cells cs.toArray T)
  rw [show (⟨w.heap.size, 0, none⟩ : Addr).add j = ⟨w.heap.size, j, none⟩ by unfold Addr.add; by_cases h : j = 0 <;> simp [h]]
  unfold World.cell?
  rw [h]
  simp [hu]
theorem reads_row1 (w : World) (o : Obj) (T : TypeId) (cs : List Value) : Reads ((w.alloc o).alloc (.cells cs.toArray T)) (w.heap.size + 1 + 1) cs.length (some ⟨w.heap.size + 1, 0, none⟩) 1 cs := by
  have := reads_row (w.alloc o) T cs
  rwa [World.size_alloc] at this
theorem own_set {w : World} {base n size : Nat} {T : TypeId} {v : Value} {xs : List Value} (h : w.ownsRow base T size v n xs) {c : Nat} (hc : c < base) (i : Nat) (x : Value) : (w.setCell ⟨c, i, none⟩ x).ownsRow base T size v n xs := by
  refine ⟨h.1, ?_⟩
  rcases h.2 with h | ⟨g, cap, cur, e1, e2, e3, r⟩
  · exact .inl h
  · exact .inr ⟨g, cap, cur, e1, e2, (Below.heap_setCell w _ x g (by show g ≠ c; omega)).trans e3, r⟩
theorem own_low {w : World} {base base' n size : Nat} {T : TypeId} {v : Value} {xs : List Value} (h : w.ownsRow base T size v n xs) (hb : base' ≤ base) : w.ownsRow base' T size v n xs := by
  refine ⟨h.1, ?_⟩
  rcases h.2 with h | ⟨g, cap, cur, e1, e2, e3, r⟩
  · exact .inl h
  · exact .inr ⟨g, cap, cur, e1, by omega, e3, r⟩
theorem Bx.grown {w w' : World} {b : Nat} {cs : Array Value} {row : Option Nat} (h : Bx w b cs) (hg : w.grownBy w' row) (hne : some b ≠ row) : Bx w' b cs := by
  obtain ⟨T, h⟩ := h
  exact ⟨T, (hg.block b (Array.getElem?_eq_some_iff.1 h).1 hne).trans h⟩
/-- where the first one stands that p takes, or -1 -/
def idxG {α : Type} (p : α → Bool) (l : List α) : Int := match l.findIdx? p with | some i => i | none => -1
theorem idxG_any {α : Type} (p : α → Bool) (l : List α) : decide (0 ≤ idxG p l) = l.any p := by
  unfold idxG
  cases h : l.findIdx? p with
  | none =>
    have := List.findIdx?_eq_none_iff.1 h
    symm
    rw [List.any_eq_false.2 (fun x hx => by simp [this x hx])]
    rfl
  | some i =>
    obtain ⟨hi, h1, _⟩ := List.findIdx?_eq_some_iff_getElem.1 h
    rw [List.any_eq_true.2 ⟨l[i], List.getElem_mem hi, h1⟩]
    simp
theorem idxG_at {α : Type} {p : α → Bool} {l : List α} {k : Nat} {s : α} (hs : l[k]? = some s) (hp : p s = true) (hn : ∀ i, i < k → ∀ t, l[i]? = some t → p t = false) : idxG p l = k := by
  have hk : k < l.length := (List.getElem?_eq_some_iff.1 hs).1
  have : l.findIdx? p = some k := by
    rw [List.findIdx?_eq_some_iff_getElem]
    refine ⟨hk, ?_, fun j hj => ?_⟩
    · have := (List.getElem?_eq_some_iff.1 hs).2
      rw [this]; exact hp
    · have := hn j hj l[j] (List.getElem?_eq_getElem (by omega))
      simp [this]
  unfold idxG
  rw [this]
theorem idxG_none {α : Type} {p : α → Bool} {l : List α} (hn : ∀ i, i < l.length → ∀ t, l[i]? = some t → p t = false) : idxG p l = -1 := by
  have : l.findIdx? p = none := by
    rw [List.findIdx?_eq_none_iff]
    intro x hx
    obtain ⟨i, hi, rfl⟩ := List.mem_iff_getElem.1 hx
    exact hn i hi _ (List.getElem?_eq_getElem hi)
  unfold idxG
  rw [this]
theorem list_of {α : Type} (Q : Nat → α → Prop) : ∀ n : Nat, (∀ i, i < n → ∃ x, Q i x) → ∃ l : List α, l.length = n ∧ ∀ i x, l[i]? = some x → Q i x := by
  intro n
  induction n with
  | zero => intro _; exact ⟨[], rfl, fun i x h => by simp at h⟩
  | succ n ih =>
    intro h
    obtain ⟨l, hl, hq⟩ := ih (fun i hi => h i (by omega))
    obtain ⟨x, hx⟩ := h n (by omega)
    refine ⟨l ++ [x], by simp [hl], fun i y hy => ?_⟩
    by_cases hi : i < n
    · rw [List.getElem?_append_left (by omega)] at hy; exact hq i y hy
    · rw [List.getElem?_append_right (by omega)] at hy
      have : i - l.length = 0 := by
        rcases Nat.eq_zero_or_pos (i - l.length) with h0 | h0
        · exact h0
        · have hlt := (List.getElem?_eq_some_iff.1 hy).1; simp at hlt; omega
      rw [this] at hy
      simp at hy
      subst hy
      obtain rfl : i = n := by omega
      exact hx
theorem chk_zero {s : ByteArray} : chk s = 0 ↔ s = canS (valS s) := by
  unfold chk
  split
  · rename_i h; exact ⟨fun _ => h, fun _ => rfl⟩
  · rename_i h; exact ⟨fun e => by omega, fun e => absurd e h⟩
theorem DivA {a b : ByteArray} {x y : Int} (h1 : Vs a x) (h2 : Vs b y) : Ret 118 #[.string a, .string b] (.tuple #[.string (divR x y).1, .string (divR x y).2.1, .int .i64 (divR x y).2.2]) := fun w hg => DivV h1 h2 w hg
def nil : ByteArray := ⟨#[]⟩
def isNil (s : ByteArray) : Bool := s.toList == []
theorem isNil_iff {s : ByteArray} : isNil s = true ↔ s = nil := by
  unfold isNil nil
  rw [toList_bytes, beq_iff_eq]
  constructor
  · intro h
    have : bytes s = bytes ⟨#[]⟩ := h
    exact bytes_inj this
  · intro h; rw [h]; rfl
end Go.Proofs.YtahpbnmbphobgaaGreatDoor
