/- The state of a walk; contracts of calls that turn nothing old. Plain facts; condition: the library's table and error lie as the program's text lays them. -/
import Derived.Test.YtonopbelbehheaaGreatDoorReg
import Derived.Test.YtonopbelbehheaaGreatDoorQv
namespace Go.Proofs.YtonopbelbehheaaGreatDoor
open Go.RowKit Go.Shelf Dec

/-- the call returns V and turns nothing that lay before it -/
def Ret (f : FuncId) (args : Array Value) (V : Value) : Prop := ∀ w, Gl w → Calls Tryz.prog f args w fun e w' => e = .returned V ∧ Below w.heap.size w w'
/-- between the call's start and now -/
def St (w0 w : World) : Prop := Gl w0 ∧ Below w0.heap.size w0 w
section
variable {w0 w w' : World} {f : FuncId} {args : Array Value} {V : Value}
theorem St.refl (h : Gl w) : St w w := ⟨h, Below.refl _ _⟩
theorem St.gl (h : St w0 w) : Gl w := h.1.below h.2
theorem St.size (h : St w0 w) : w0.heap.size ≤ w.heap.size := h.2.size
theorem St.on (h : St w0 w) (hb : Below w.heap.size w w') : St w0 w' := ⟨h.1, h.2.trans (hb.mono h.2.size)⟩
theorem St.alloc (h : St w0 w) (o : Obj) : St w0 (w.alloc o) := h.on ((Below.refl _ _).alloc (Nat.le_refl _) o)
theorem St.drew (h : St w0 w) : St w0 w.drew := h.on (Below.refl _ w).drew
theorem St.drewN (h : St w0 w) (n : Nat) : St w0 (w.drewN n) := h.on (below_drewN _ _ _)
theorem St.kept (h : St w0 w) (u : Kept w) : St w0 u.W := h.on u.low
theorem St.set (h : St w0 w) {b : Nat} (hb : w0.heap.size ≤ b) (i : Nat) (v : Value) : St w0 (w.setCell ⟨b, i, none⟩ v) := ⟨h.1, h.2.setCell hb v⟩
theorem Ret.step {Q : Ending → World → Prop} (h : Ret f args V) (hs : St w0 w) (k : ∀ w', St w0 w' → Below w.heap.size w w' → Q (.returned V) w') : Calls Tryz.prog f args w Q :=
  (h w hs.gl).mono fun _ w' ⟨he, hb⟩ => he ▸ k w' (hs.on hb) hb
theorem Ret.kept (h : Ret f args V) (hs : St w0 w) {u : Kept w} : Calls Tryz.prog f args u.W fun e w'' => e = .returned V ∧ ∃ u' : Kept w, w'' = u'.W :=
  (h u.W (hs.gl.below u.low)).mono fun _ w' ⟨he, hb⟩ => ⟨he, ⟨⟨w', u.low.trans (hb.mono u.low.size)⟩, rfl⟩⟩
/-- a block of cells of the call's own -/
def Bx (w : World) (b : Nat) (cs : Array Value) : Prop := ∃ T, w.heap[b]? = some (.cells cs T (0, 0))
theorem Bx.lt {b : Nat} {cs : Array Value} (h : Bx w b cs) : b < w.heap.size := by obtain ⟨T, h⟩ := h; exact (Array.getElem?_eq_some_iff.1 h).1
theorem Bx.cell {b : Nat} {cs : Array Value} (h : Bx w b cs) {i : Nat} {v : Value} (hi : cs[i]? = some v) : w.cell? ⟨b, i, none⟩ = some v := by obtain ⟨T, h⟩ := h; simp [World.cell?, h, hi]
theorem Bx.frozen {b : Nat} {cs : Array Value} (h : Bx w b cs) (i : Nat) : w.frozen? ⟨b, i, none⟩ = false := by obtain ⟨T, h⟩ := h; simp [World.frozen?, h]
theorem Bx.on {b : Nat} {cs : Array Value} (h : Bx w b cs) (hb : Below w.heap.size w w') : Bx w' b cs := by obtain ⟨T, h'⟩ := h; exact ⟨T, (hb.block b (Array.getElem?_eq_some_iff.1 h').1).trans h'⟩
theorem Bx.new (w : World) (cs : Array Value) (T : TypeId) : Bx (w.alloc (.cells cs T)) w.heap.size cs := ⟨T, heap_new w _⟩
theorem Bx.new1 (w : World) (o : Obj) (cs : Array Value) (T : TypeId) : Bx ((w.alloc o).alloc (.cells cs T)) (w.heap.size + 1) cs := by have := Bx.new (w.alloc o) cs T; rwa [World.size_alloc] at this
theorem Bx.new2 (w : World) (o o' : Obj) (cs : Array Value) (T : TypeId) : Bx (((w.alloc o).alloc o').alloc (.cells cs T)) (w.heap.size + 2) cs := by have := Bx.new1 (w.alloc o) o' cs T; rwa [World.size_alloc] at this
theorem Bx.new3 (w : World) (o o' o'' : Obj) (cs : Array Value) (T : TypeId) : Bx ((((w.alloc o).alloc o').alloc o'').alloc (.cells cs T)) (w.heap.size + 3) cs := by have := Bx.new2 (w.alloc o) o' o'' cs T; rwa [World.size_alloc] at this
theorem Bx.new4 (w : World) (o o' o'' o3 : Obj) (cs : Array Value) (T : TypeId) : Bx (((((w.alloc o).alloc o').alloc o'').alloc o3).alloc (.cells cs T)) (w.heap.size + 4) cs := by have := Bx.new3 (w.alloc o) o' o'' o3 cs T; rwa [World.size_alloc] at this
theorem Bx.drew {b : Nat} {cs : Array Value} (h : Bx w b cs) : Bx w.drew b cs := h.on (Below.refl _ w).drew
theorem Bx.kept {b : Nat} {cs : Array Value} (h : Bx w b cs) (u : Kept w) : Bx u.W b cs := h.on u.low
theorem Bx.keeps {b : Nat} {cs : Array Value} (h : Bx w b cs) {i : Nat} {v : Value} (hi : cs[i]? = some v) (u : Kept w) : u.W.cell? ⟨b, i, none⟩ = some v := (h.kept u).cell hi
theorem Bx.alloc {b : Nat} {cs : Array Value} (h : Bx w b cs) (o : Obj) : Bx (w.alloc o) b cs := h.on ((Below.refl _ _).alloc (Nat.le_refl _) o)
theorem Bx.set {b : Nat} {cs : Array Value} (h : Bx w b cs) (i : Nat) (v : Value) : Bx (w.setCell ⟨b, i, none⟩ v) b (cs.setIfInBounds i v) := by
  obtain ⟨T, h⟩ := h
  refine ⟨T, ?_⟩
  simp [World.setCell, Array.getElem?_modify, h]
theorem Bx.other {b c : Nat} {cs : Array Value} (h : Bx w b cs) (hc : b ≠ c) (i : Nat) (v : Value) : Bx (w.setCell ⟨c, i, none⟩ v) b cs := by
  obtain ⟨T, h⟩ := h
  exact ⟨T, (Below.heap_setCell w _ v b hc).trans h⟩
end
end Go.Proofs.YtonopbelbehheaaGreatDoor
