/- Attribution: the worlds that Link leads through. No condition. -/
import Derived.Test.YticfdeaphiifeaaGreatDoorLkP
import Derived.Test.YticfdeaphiifeaaGreatDoorSw
import Derived.Test.YticfdeaphiifeaaGreatDoorReg3
namespace Go.Proofs.YticfdeaphiifeaaGreatDoor
open Go.RowKit Go.Shelf Dec QQ
def midL {α : Type} (x y : List α) (k : Nat) : List α := y.take k ++ x.drop k
section
variable {α : Type} {x y : List α} {k : Nat} {a b : α}
theorem midL_zero : midL x y 0 = x := by simp [midL]
theorem midL_end (h : x.length = k) (h2 : y.length = k) : midL x y k = y := by
 unfold midL
 rw [List.take_of_length_le (by omega), List.drop_of_length_le (by omega), List.append_nil]
theorem midL_at (h : x.length = y.length) (ha : x[k]? = some a) : (midL x y k)[k]? = some a := by
 have hk := (List.getElem?_eq_some_iff.1 ha).1
 unfold midL
 rw [List.getElem?_append_right (by rw [List.length_take]; omega), List.length_take, Nat.min_eq_left (by omega), Nat.sub_self, List.getElem?_drop, Nat.add_zero]
 exact ha
theorem midL_succ (h : x.length = y.length) (ha : x[k]? = some a) (hb : y[k]? = some b) : midL x y (k + 1) = (midL x y k).set k b := by
 have hk := (List.getElem?_eq_some_iff.1 ha).1
 have hl : (y.take k).length = k := by rw [List.length_take]; omega
 have hd : x.drop k = a :: x.drop (k + 1) := by
  obtain ⟨_, rfl⟩ := List.getElem?_eq_some_iff.1 ha
  exact List.drop_eq_getElem_cons hk
 unfold midL
 rw [List.take_add_one, hb, hd, List.set_append_right _ _ (by rw [hl]; omega), hl, Nat.sub_self]
 simp
end
def markOf (D : Nat) : Deferred := { target := .collected D, args := #[] }
structure Marks (base : Nat) (Ds : List Nat) (W : World) : Prop where
 nd : Ds.Nodup
 there : ∀ D ∈ Ds, base ≤ D ∧ W.heap[D]? = some (.deferred (some []))
theorem Marks.nil (base : Nat) (W : World) : Marks base [] W := ⟨List.nodup_nil, fun D h => by cases h⟩
theorem Marks.far {base : Nat} {Ds : List Nat} {W W' : World} (h : Marks base Ds W) (hf : ∀ D : Nat, W.heap[D]? = some (Obj.deferred (some [])) → W'.heap[D]? = some (Obj.deferred (some []))) : Marks base Ds W' :=
 ⟨h.nd, fun D hD => ⟨(h.there D hD).1, hf D (h.there D hD).2⟩⟩
theorem Marks.on {base : Nat} {Ds : List Nat} {W W' : World} (h : Marks base Ds W) (hb : Below W.heap.size W W') : Marks base Ds W' :=
 h.far fun D hD => (hb.block D (Array.getElem?_eq_some_iff.1 hD).1).trans hD
theorem Marks.cons {base D : Nat} {Ds : List Nat} {W : World} (h : Marks base Ds W) (hD : base ≤ D) (hd : W.heap[D]? = some (.deferred (some []))) (hn : D ∉ Ds) : Marks base (D :: Ds) W :=
 ⟨List.nodup_cons.2 ⟨hn, h.nd⟩, fun E hE => by rcases List.mem_cons.1 hE with rfl | hE; exact ⟨hD, hd⟩; exact h.there E hE⟩
theorem leaves_marks {F : Fence} {n : Nat} {P : Program} {fn : Func} {tmps : Array Value} {R : Ending → World → Prop} {J : World → Prop} {base : Nat}
  (hJ : ∀ W D, base ≤ D → W.heap[D]? = some (.deferred (some [])) → J W → J (W.putObj D (.deferred none))) (hend : ∀ W, J W → LeavesInM F n P fn tmps R [] .returning W) :
  ∀ (Ds : List Nat) (W : World), Marks base Ds W → J W → LeavesInM F n P fn tmps R (Ds.map markOf) .returning W
 | [], W, _, h => hend W h
 | D :: Ds, W, m, h => by
  have hD := m.there D List.mem_cons_self
  have hn := List.nodup_cons.1 m.nd
  exact ⟨by simp, .inl ⟨D, _, rfl, run_takeDeferred hD.2, leaves_marks hJ hend Ds _ ⟨hn.2, fun E hE => ⟨(m.there E (List.mem_cons_of_mem _ hE)).1, (World.putObj_heap_other (fun e => hn.1 (by rw [← e]; exact hE))).trans (m.there E (List.mem_cons_of_mem _ hE)).2⟩⟩ (hJ W D hD.1 hD.2 h)⟩⟩
theorem out_set {v : World} {base p b0 k : Nat} {ys : List PrtS} {x : PrtS} (h : OutG pcells 36 7 base v (.slice (some ⟨b0, 0, none⟩) p p) p ys) (hk : k < p) :
  OutG pcells 36 7 base (v.setCells b0 (k * 7) (pcells x)) (.slice (some ⟨b0, 0, none⟩) p p) p (ys.set k x) ∧ v.grownBy (v.setCells b0 (k * 7) (pcells x)) (some b0) := by
 have h1 := own_cells (pcells x) _ (k * 7) _ h.2
 rw [← flatG_set pcells_len _ _ _ (by rw [h.1]; exact hk)] at h1
 exact ⟨⟨by rw [List.length_set]; exact h.1, h1.1⟩, h1.2⟩
theorem boxed_other2 {W : World} {b c : Nat} {t : TypeId} {v x y : Value} (h : Boxed W b t v) (hne : b ≠ c) : Boxed ((W.setCell ⟨c, 0, none⟩ x).setCell ⟨c, 1, none⟩ y) b t v :=
 (Below.heap_setCell _ _ _ _ hne).trans ((Below.heap_setCell _ _ _ _ hne).trans h)
theorem bf_two {W : World} {b : Nat} {s t x y : Value} (h : BF W b #[s, t]) : BF ((W.setCell ⟨b, 0, none⟩ x).setCell ⟨b, 1, none⟩ y) b #[x, y] := by
 unfold BF at *
 simp [World.setCell, Array.getElem?_modify, h]
theorem out_far {w : World} {base p g b i : Nat} {x : Value} {ys : List PrtS} (h : OutG pcells 36 7 base w (.slice (some ⟨g, 0, none⟩) p p) p ys) (hne : g ≠ b) : OutG pcells 36 7 base (w.setCell ⟨b, i, none⟩ x) (.slice (some ⟨g, 0, none⟩) p p) p ys := by
 refine ⟨h.1, h.2.1, ?_⟩
 rcases h.2.2 with ⟨h', _⟩ | ⟨g', cap, cur, e1, e2, e3, r⟩
 ·cases h'
 ·have e4 : g' = g := by
   have := e1
   simp at this
   omega
  subst e4
  exact .inr ⟨g', cap, cur, e1, e2, (Below.heap_setCell w _ x g' (by show g' ≠ b; exact hne)).trans e3, r⟩
theorem out_other2 {w : World} {base p g b c : Nat} {x y z : Value} {ys : List PrtS} (h : OutG pcells 36 7 base w (.slice (some ⟨g, 0, none⟩) p p) p ys) (h1 : g ≠ b) (h2 : g ≠ c) :
  OutG pcells 36 7 base (((w.setCell ⟨b, 0, none⟩ x).setCell ⟨c, 0, none⟩ y).setCell ⟨c, 1, none⟩ z) (.slice (some ⟨g, 0, none⟩) p p) p ys := out_far (out_far (out_far h h1) h2) h2
theorem out_gen {base p b0 : Nat} {v : World} {ys : List PrtS} (h : OutG pcells 36 7 base v (.slice (some ⟨b0, 0, none⟩) p p) p ys) : base ≤ b0 := own_gen h.2 b0 rfl
structure LS (w : World) (L : List (List SecS)) (d : List SecS) (Bt : Option Addr) (p ct b0 b7 b8 b11 b12 Bl l0 D : Nat) (Ds : List Nat) (rec : Loop) (t k : Nat) (W : World) : Prop where
 gl : Gl w
 low : Below w.heap.size w W
 row : Row w Bt (flatG scells d)
 bl : Boxed W Bl 24 (.slice Bt p ct)
 x7 : Boxed W b7 27 (.slice (some ⟨b0, 0, none⟩) p p)
 x8 : BF W b8 #[.string (frN (growTo L t)), .string (frD (growTo L t))]
 x11 : BF W b11 #[.string (frN (ownQ d)), .string (frD (ownQ d))]
 x12 : BF W b12 #[.string (frN (benQ d)), .string (frD (benQ d))]
 out : OutG pcells 36 7 w.heap.size W (.slice (some ⟨b0, 0, none⟩) p p) p (midL (linkTo L p t) (linkTo L p (t + 1)) k)
 lp : W.heap[l0]? = some (.loop rec)
 df : W.heap[D]? = some (.deferred (some []))
 ms : Marks w.heap.size Ds W
 lw : w.heap.size ≤ l0
 l8 : w.heap.size ≤ b8
section
variable {w : World} {L : List (List SecS)} {d : List SecS} {Bt : Option Addr} {p ct b0 b7 b8 b11 b12 Bl l0 D t k : Nat} {Ds : List Nat} {rec : Loop} {W W' : World}
theorem LS.up (h : LS w L d Bt p ct b0 b7 b8 b11 b12 Bl l0 D Ds rec t k W) (hb : Below W.heap.size W W') : LS w L d Bt p ct b0 b7 b8 b11 b12 Bl l0 D Ds rec t k W' :=
 ⟨h.gl, h.low.trans (hb.mono h.low.size), h.row, boxed_below h.bl hb, boxed_below h.x7 hb, h.x8.on hb, h.x11.on hb, h.x12.on hb, h.out.on hb, (hb.block l0 (Array.getElem?_eq_some_iff.1 h.lp).1).trans h.lp, (hb.block D (Array.getElem?_eq_some_iff.1 h.df).1).trans h.df, h.ms.on hb, h.lw, h.l8⟩
theorem LS.wp (h : LS w L d Bt p ct b0 b7 b8 b11 b12 Bl l0 D Ds rec t k W) (o : Loop) : LS w L d Bt p ct b0 b7 b8 b11 b12 Bl l0 D Ds o t k (W.putObj l0 (.loop o)) := by
 have f : ∀ {b : Nat} {u : Obj}, W.heap[b]? = some u → (∀ r, u ≠ .loop r) → (W.putObj l0 (.loop o)).heap[b]? = some u := by
  intro b u hb hu
  refine (World.putObj_heap_other ?_).trans hb
  rintro rfl
  have := hb.symm.trans h.lp
  injection this with this
  exact hu _ this
 exact ⟨h.gl, below_put h.low h.lw _, h.row, f h.bl (fun r e => by cases e), f h.x7 (fun r e => by cases e), f h.x8 (fun r e => by cases e), f h.x11 (fun r e => by cases e), f h.x12 (fun r e => by cases e), ⟨h.out.1, ownsRow_putObj h.out.2 _ h.lp rfl⟩,
  World.putObj_heap_same (Array.getElem?_eq_some_iff.1 h.lp).1, f h.df (fun r e => by cases e), h.ms.far (fun E hE => f hE (fun r e => by cases e)), h.lw, h.l8⟩
theorem LS.row0 (h : LS w L d Bt p ct b0 b7 b8 b11 b12 Bl l0 D Ds rec t k W) {o : PrtS} (ho : (midL (linkTo L p t) (linkTo L p (t + 1)) k)[k]? = some o) : ∀ j v, (pcells o)[j]? = some v → W.cell? ⟨b0, k * 7 + j, none⟩ = some v := by
 obtain ⟨A, c, e, hr⟩ := h.out.row
 injection e with e1 e2 e3
 subst e1
 obtain ⟨b, o', hA, _, hc⟩ := row_at pcells_len (by decide) hr ho
 injection hA with hA
 injection hA with h1 h2
 subst h1 h2
 intro j v hv
 have := hc j v hv
 rwa [Nat.zero_add] at this
theorem LS.put (h : LS w L d Bt p ct b0 b7 b8 b11 b12 Bl l0 D Ds rec t k W) {x : PrtS} (hk : k < p) (hx : midL (linkTo L p t) (linkTo L p (t + 1)) (k + 1) = (midL (linkTo L p t) (linkTo L p (t + 1)) k).set k x) :
  LS w L d Bt p ct b0 b7 b8 b11 b12 Bl l0 D Ds rec t (k + 1) (W.setCells b0 (k * 7) (pcells x)) ∧ ∀ b cs, BF W b cs → BF (W.setCells b0 (k * 7) (pcells x)) b cs := by
 have hs := out_set (x := x) h.out hk
 have f : ∀ {b : Nat} {u : Obj}, W.heap[b]? = some u → (∀ cur, u ≠ .cells cur 36 (0, 0)) → (W.setCells b0 (k * 7) (pcells x)).heap[b]? = some u := by
  intro b u hb hu
  refine (hs.2.block b (Array.getElem?_eq_some_iff.1 hb).1 ?_).trans hb
  have := own_ne h.out.2 hb hu
  exact this
 have g : ∀ b cs, BF W b cs → BF (W.setCells b0 (k * 7) (pcells x)) b cs := fun b cs hb => f hb (fun cur e => by injection e with _ e; exact absurd e (by decide))
 refine ⟨⟨h.gl, h.low.grown hs.2 h.low.size (fun i hi => by injection hi with hi; subst hi; exact out_gen h.out), h.row, f h.bl (fun cur e => by injection e with _ e; exact absurd e (by decide)), f h.x7 (fun cur e => by injection e with _ e; exact absurd e (by decide)), g _ _ h.x8, g _ _ h.x11, g _ _ h.x12, ?_, f h.lp (fun cur e => by cases e), f h.df (fun cur e => by cases e), h.ms.far (fun E hE => f hE (fun cur e => by cases e)), h.lw, h.l8⟩, g⟩
 rw [hx]
 exact hs.1
end
theorem out_frozen {w : World} {base p g : Nat} {ys : List PrtS} (h : OutG pcells 36 7 base w (.slice (some ⟨g, 0, none⟩) p p) p ys) : ∀ i, w.frozen? ⟨g, i, none⟩ = false := by
 intro i
 rcases h.2.2 with ⟨h', _⟩ | ⟨g', cap, cur, e1, e2, e3, r⟩
 ·cases h'
 ·have e4 : g' = g := by
   have := e1
   simp at this
   omega
  subst e4
  simp [World.frozen?, e3]
structure LO (w : World) (L : List (List SecS)) (p b0 b7 b8 : Nat) (Ds : List Nat) (t : Nat) (W : World) : Prop where
 gl : Gl w
 low : Below w.heap.size w W
 x7 : Boxed W b7 27 (.slice (some ⟨b0, 0, none⟩) p p)
 x8 : BF W b8 #[.string (frN (growTo L t)), .string (frD (growTo L t))]
 out : OutG pcells 36 7 w.heap.size W (.slice (some ⟨b0, 0, none⟩) p p) p (linkTo L p t)
 ms : Marks w.heap.size Ds W
 l8 : w.heap.size ≤ b8
theorem LO.up {w : World} {L : List (List SecS)} {p b0 b7 b8 t : Nat} {Ds : List Nat} {W W' : World} (h : LO w L p b0 b7 b8 Ds t W) (hb : Below W.heap.size W W') : LO w L p b0 b7 b8 Ds t W' :=
 ⟨h.gl, h.low.trans (hb.mono h.low.size), boxed_below h.x7 hb, h.x8.on hb, h.out.on hb, h.ms.on hb, h.l8⟩
theorem LS.next {w : World} {L : List (List SecS)} {d : List SecS} {Bt : Option Addr} {p ct b0 b7 b8 b11 b12 Bl l0 D t : Nat} {Ds : List Nat} {rec : Loop} {W : World} (h : LS w L d Bt p ct b0 b7 b8 b11 b12 Bl l0 D Ds rec t p W)
  (hl : (linkTo L p t).length = p ∧ (linkTo L p (t + 1)).length = p) (hD : w.heap.size ≤ D) (hn : D ∉ Ds) {gn gd : ByteArray} (hg : frN (growTo L (t + 1)) = gn ∧ frD (growTo L (t + 1)) = gd) :
  LO w L p b0 b7 b8 (D :: Ds) (t + 1) ((W.setCell ⟨b8, 0, none⟩ (.string gn)).setCell ⟨b8, 1, none⟩ (.string gd)) := by
 have hne : b0 ≠ b8 := by
  rintro rfl
  have := own_ne h.out.2 h.x8 (fun cur e => by injection e with _ e; exact absurd e (by decide))
  exact this rfl
 have hne7 : b7 ≠ b8 := by
  rintro rfl
  have := (show W.heap[b7]? = _ from h.x7).symm.trans h.x8
  injection this with this
  injection this with _ e
  exact absurd e (by decide)
 have hout := h.out
 rw [midL_end hl.1 hl.2] at hout
 refine ⟨h.gl, (h.low.setCell (p := ⟨b8, 0, none⟩) h.l8 _).setCell (p := ⟨b8, 1, none⟩) h.l8 _, boxed_other2 h.x7 hne7, ?_, out_far (out_far hout hne) hne, (h.ms.cons hD h.df hn).far ?_, h.l8⟩
 ·rw [hg.1, hg.2]
  exact bf_two h.x8
 ·intro E hE
  have h1 : E ≠ b8 := by
   rintro rfl
   have := hE.symm.trans h.x8
   cases this
  exact (Below.heap_setCell _ _ _ _ h1).trans ((Below.heap_setCell _ _ _ _ h1).trans hE)
end Go.Proofs.YticfdeaphiifeaaGreatDoor
