/- Rows of structs: whole structs stored into an own row. No condition. -/
import Derived.Laws.IdiomCopy
import Derived.Deep.MidRow
import Derived.Test.YticfdeaphiifeaaGreatDoorAs
import Derived.Test.YticfdeaphiifeaaGreatDoorGr
namespace Go.Proofs.YticfdeaphiifeaaGreatDoor
open Go.RowKit Go.Shelf Dec QQ
def setFrom (xs : List Value) (p : Nat) : List Value → List Value
 | [] => xs
 | y :: ys => setFrom (xs.set p y) (p + 1) ys
theorem setFrom_right : ∀ (ys xs rest : List Value) (p : Nat), setFrom (xs ++ rest) (xs.length + p) ys = xs ++ setFrom rest p ys
 | [], _, _, _ => rfl
 | y :: ys, xs, rest, p => by
  show setFrom ((xs ++ rest).set (xs.length + p) y) (xs.length + p + 1) ys = xs ++ setFrom (rest.set p y) (p + 1) ys
  rw [List.set_append_right _ _ (by omega), show xs.length + p - xs.length = p by omega, Nat.add_assoc, setFrom_right ys]
theorem setFrom_head : ∀ (ys xs rest : List Value), xs.length = ys.length → setFrom (xs ++ rest) 0 ys = ys ++ rest
 | [], xs, rest, h => by rw [List.length_eq_zero_iff.1 h]; rfl
 | y :: ys, [], rest, h => by simp at h
 | y :: ys, x :: xs, rest, h => by
  show setFrom ([y] ++ (xs ++ rest)) (([y] : List Value).length + 0) ys = _
  rw [setFrom_right, setFrom_head ys xs rest (by simpa using h)]
  rfl
theorem flatG_set {α : Type} {cs : α → List Value} {m : Nat} (hm : ∀ a, (cs a).length = m) : ∀ (l : List α) (i : Nat) (y : α), i < l.length → flatG cs (l.set i y) = setFrom (flatG cs l) (i * m) (cs y)
 | [], i, y, h => by simp at h
 | d :: l, 0, y, h => by
  show cs y ++ flatG cs l = setFrom (cs d ++ flatG cs l) (0 * m) (cs y)
  rw [Nat.zero_mul, setFrom_head _ _ _ (by rw [hm, hm])]
 | d :: l, i + 1, y, h => by
  show cs d ++ flatG cs (l.set i y) = setFrom (cs d ++ flatG cs l) ((i + 1) * m) (cs y)
  rw [flatG_set hm l i y (by simpa using h), show (i + 1) * m = (cs d).length + i * m by rw [hm, Nat.add_mul, Nat.one_mul, Nat.add_comm], setFrom_right]
theorem own_cells {base size : Nat} {e : TypeId} {g n cap : Nat} : ∀ (vs : List Value) (w : World) (o : Nat) (xs : List Value), w.ownsRow base e size (.slice (some ⟨g, 0, none⟩) n cap) n xs →
  (w.setCells g o vs).ownsRow base e size (.slice (some ⟨g, 0, none⟩) n cap) n (setFrom xs o vs) ∧ w.grownBy (w.setCells g o vs) (some g)
 | [], w, o, xs, h => ⟨h, World.grownBy.refl w _⟩
 | v :: vs, w, o, xs, h => by
  have h1 := World.ownsRow.stored h o v
  have h2 := own_cells vs _ (o + 1) _ h1.1
  exact ⟨h2.1, h1.2.trans h2.2⟩
theorem own_there {w : World} {base m n cap g i : Nat} {T : TypeId} {xs : List Value} (h : w.ownsRow base T m (.slice (some ⟨g, 0, none⟩) n cap) n xs) (hi : i < n) : w.there g (i * m) m := by
 intro j hj
 rcases h.2 with ⟨h', _⟩ | ⟨g', cap', cur, h', hb, hg, hnc, hcm, hcs, _⟩
 ·simp at h'
 ·simp only [Value.slice.injEq, Option.some.injEq, Addr.mk.injEq, and_true, true_and] at h'
  obtain ⟨rfl, rfl⟩ := h'
  have h1 : (i + 1) * m ≤ cap * m := Nat.mul_le_mul_right _ (by omega)
  rw [Nat.add_mul, Nat.one_mul] at h1
  refine ⟨?_, by simp [World.frozen?, hg]⟩
  have h2 : i * m + j < cur.size := by omega
  simp [World.cell?, hg, h2]
theorem store_own {w : World} {base m n cap g i : Nat} {T : TypeId} {xs : List Value} (h : w.ownsRow base T m (.slice (some ⟨g, 0, none⟩) n cap) n xs) (hi : i < n) (ty : TypeId) (cells : Array Value) (hs : cells.size = m) (hf : (Tryz.prog.info? ty).map (·.size) = some m) (h1 : cells.all (·.oneCell') = true) :
  (Instr.storeAt ty (.pointer (some ⟨g, i * m, none⟩)) (.agg cells)).run Tryz.prog w = .ok () (w.setCells g (i * m) cells.toList) :=
 run_storeAt_mid w g (i * m) ty cells (by rw [hs]; exact own_there h hi) (by rw [hf, hs]) h1
end Go.Proofs.YticfdeaphiifeaaGreatDoor
