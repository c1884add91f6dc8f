/- Integer: the contract of Gcd: a range over an iterator that keeps its state in memory. Conditions: sizes below 2^36; the table of powers lies as the program's text lays it. -/
import Derived.Test.YtonopbelbehheaaGreatDoorApiD
import Derived.RangeFuncNested
import Derived.RangeFuncBound
import Derived.RangeFuncCalls
import Derived.RangeFuncLeaves
import Derived.Shelf.Abstract
import Derived.Shelf.RegionOpen
import Derived.OwnWalkIn
import Derived.TacticsInMore
import Derived.LoopNIn
import Derived.LoopIn
import Derived.Sort.LoopGhostIn
namespace Go.Proofs.YtonopbelbehheaaGreatDoor
open Go.RowKit Go.Shelf Dec
attribute [local go_sem] Oper.semAt_some

set_option maxHeartbeats 1000000 in
theorem steps_any (A A' : Option Addr) (n n' c c' : Nat) (w : World) :
    Calls Tryz.prog 81 #[.slice A n c, .slice A' n' c'] w fun e w' => e = .returned (.func (.func 146) #[] #[.pointer (some ⟨w.heap.size, 0, none⟩), .pointer (some ⟨w.heap.size + 1, 0, none⟩)]) ∧
      w' = (w.alloc (.cells #[.slice A n c] 87)).alloc (.cells #[.slice A' n' c'] 87) := by
  go_enter Tryz.func81, Tryz.ntmps81
  go_wp2
  go_ret
  exact ⟨rfl, rfl⟩

/-- no cell of block B holds a group -/
def NoInt (W : World) (B : Nat) : Prop := ∀ o g, W.cell? ⟨B, o, none⟩ ≠ some (.int .u64 g)
theorem NoInt.box {W : World} {B : Nat} {t : TypeId} {A : Option Addr} {n c : Nat} (h : Boxed W B t (.slice A n c)) : NoInt W B := by
  intro o g e
  have hh : W.heap[B]? = some (.cells #[.slice A n c] t (0, 0)) := h
  unfold World.cell? at e
  rw [hh] at e
  cases o with
  | zero => simp at e
  | succ o => simp at e
theorem NoInt.loop {W : World} {B : Nat} {r : Loop} (h : W.heap[B]? = some (.loop r)) : NoInt W B := by
  intro o g e
  unfold World.cell? at e
  rw [h] at e
  simp at e
theorem MagS.grown {W W' : World} {A : Option Addr} {c n : Nat} {row : Nat} (h : MagS W A c n) (hg : W.grownBy W' (some row)) (hr : NoInt W row) : MagS W' A c n := by
  refine ⟨fun i g hi => ?_, h.2⟩
  obtain ⟨b, o, hA, hB, hcell⟩ := h.1 i g hi
  refine ⟨b, o, hA, Nat.lt_of_lt_of_le hB hg.size, ?_⟩
  have hne : b ≠ row := by rintro rfl; exact hr _ _ hcell
  exact (World.cell?_of_block (w := W) (w' := W') (a := ⟨b, o + i, none⟩) (hg.block b hB (fun e => hne (by injection e)))).trans hcell
/-- the state of the loop: the two boxes of the iterator, the box of the result, the loop's record and its block for deferred calls -/
structure GS (w : World) (Bo Bm Bn l D : Nat) (rec : Loop) (x y : Nat) (A : Option Addr) (n c : Nat) (A' : Option Addr) (n' c' : Nat) (A0 : Option Addr) (n0 c0 : Nat) (W : World) : Prop where
  bm : Boxed W Bm 87 (.slice A n c)
  bn : Boxed W Bn 87 (.slice A' n' c')
  bo : Boxed W Bo 87 (.slice A0 n0 c0)
  hn : (mag x).length = n
  hn' : (mag y).length = n'
  mx : MagS W A c x
  my : MagS W A' c' y
  lp : W.heap[l]? = some (.loop rec)
  df : W.heap[D]? = some (.deferred (some []))
  below : Below w.heap.size w W
theorem boxed_below {W W' : World} {B : Nat} {t : TypeId} {v : Value} (h : Boxed W B t v) (hb : Below W.heap.size W W') : Boxed W' B t v := (hb.block B h.lt).trans h
theorem GS.up {w : World} {Bo Bm Bn l D : Nat} {rec : Loop} {x y : Nat} {A A' A0 : Option Addr} {n c n' c' n0 c0 : Nat} {W W' : World} (h : GS w Bo Bm Bn l D rec x y A n c A' n' c' A0 n0 c0 W) (hb : Below W.heap.size W W') : GS w Bo Bm Bn l D rec x y A n c A' n' c' A0 n0 c0 W' :=
  ⟨boxed_below h.bm hb, boxed_below h.bn hb, boxed_below h.bo hb, h.hn, h.hn', h.mx.up hb, h.my.up hb, (hb.block l (Array.getElem?_eq_some_iff.1 h.lp).1).trans h.lp, (hb.block D (Array.getElem?_eq_some_iff.1 h.df).1).trans h.df, h.below.trans (hb.mono h.below.size)⟩

set_option maxRecDepth 100000 in
set_option maxHeartbeats 4000000 in
theorem steps1_in (w : World) (Bo Bm Bn l D L G : Nat) (rec : Loop) (hne : Bm ≠ Bn ∧ Bm ≠ Bo ∧ Bn ≠ Bo ∧ Bm ≠ l ∧ Bn ≠ l ∧ Bm ≠ D ∧ Bn ≠ D) (hlo : w.heap.size ≤ Bm ∧ w.heap.size ≤ Bn) (hL : L ≤ 274877906944)
    (hY : ∀ x y A n c A' n' c' A0 n0 c0 W1, GS w Bo Bm Bn l D rec x y A n c A' n' c' A0 n0 c0 W1 → YieldAt Fence.wide 4 Tryz.prog l #[.slice A n c, .slice A' n' c'] W1 fun e W' => e = .returned (.bool true) ∧ GS w Bo Bm Bn l D rec x y A n c A' n' c' A n c W')
    (x y : Nat) (A : Option Addr) (n c : Nat) (A' : Option Addr) (n' c' : Nat) (A0 : Option Addr) (n0 c0 : Nat) (W : World) (hg : Nat.gcd x y = G) (hnL : n ≤ L) (hnL' : n' ≤ L) (h0 : GS w Bo Bm Bn l D rec x y A n c A' n' c' A0 n0 c0 W) :
    CallsIn Fence.wide 5 Tryz.prog 146 #[.func (.yield l) #[] #[], .pointer (some ⟨Bm, 0, none⟩), .pointer (some ⟨Bn, 0, none⟩)] W fun en W' => (∃ v, en = .returned v) ∧
      ∃ A n c A' n' c', n ≤ L ∧ GS w Bo Bm Bn l D rec G 0 A n c A' n' c' A n c W' := by
  have HY := Lib.hid hY
  have Hne := Lib.hid hne
  have Hlo := Lib.hid hlo
  have Hg := Lib.hid hg
  have H0 := Lib.hid h0
  clear hY hne hlo hg h0
  refine callsIn_of_wp Tryz.func146 rfl trivial ?_ rfl
  simp only [Tryz.ntmps146, List.size_toArray, List.length_cons, List.length_nil, Nat.reduceAdd, Nat.reduceSub, Array.replicate_succ, Array.replicate_zero, List.push_toArray, List.append_toArray, List.nil_append, List.cons_append]
  gi_wp2_with fail
  gi_loopg [4] y (fun gk s wr => ∃ (x : Nat) (A : Option Addr) (n c : Nat) (A' : Option Addr) (n' c' : Nat) (A0 : Option Addr) (n0 c0 : Nat), n ≤ L ∧ n' ≤ L ∧ Hid (Nat.gcd x gk = G ∧ GS w Bo Bm Bn l D rec x gk A n c A' n' c' A0 n0 c0 wr))
  case atStart => exact ⟨x, A, n, c, A', n', c', A0, n0, c0, hnL, hnL', Hg.out, H0.out⟩
  case round =>
    obtain ⟨x, A, n, c, A', n', c', A0, n0, c0, hnL, hnL', H⟩ := hrel
    have cm := H.out.2.bm.cell
    have cn := H.out.2.bn.cell
    obtain ⟨fn, tmps, assign, body, hy, hR⟩ := HY.out _ _ _ _ _ _ _ _ _ _ _ _ H.out.2
    have HRR := Lib.hid hR
    clear hR
    by_cases hk0 : gk = 0
    · subst hk0
      have hn0 : n' = 0 := by rw [← H.out.2.hn']; rfl
      subst hn0
      obtain rfl : x = G := by have := H.out.1; rwa [Nat.gcd_zero_right] at this
      gi_wp2_with fail
      refine HRR.out.mono ?_
      rintro e W3 ⟨rfl, hG⟩
      have HG := Lib.hid hG
      have cn3 := hG.bn.cell
      clear hG
      gi_wp2_with fail
      go_end0
      exact ⟨⟨_, rfl⟩, A, n, c, A', 0, c', hnL, HG.out⟩
    · have hn0 : n' ≠ 0 := fun e => hk0 (mag_nil.1 (List.eq_nil_of_length_eq_zero (by rw [H.out.2.hn', e])))
      have hpos : 0 < n' := by omega
      have q : decide (0 < n') = true := decide_eq_true hpos
      have Hk0 := Lib.hid hk0
      clear hk0 hn0
      gi_wp2_with fail
      refine HRR.out.mono ?_
      rintro e W3 ⟨rfl, hG⟩
      have HG := Lib.hid hG
      have cn3 := hG.bn.cell
      have cm3 := hG.bm.cell
      clear hG
      gi_wp2_with fail
      refine ⟨trivial, (callsIn_wide.2 (divide' A A' c c' n n' _ _ _ HG.out.hn HG.out.hn' HG.out.mx HG.out.my (by omega) (by omega) Hk0.out)).mono ?_⟩
      rintro e w4 ⟨A3, k3, c3, A4, k4, c4, rfl, hk3, hk4, hm3, hm4, hl3, hl4, hb4⟩
      have HG4 := Lib.hid (HG.out.up hb4)
      have Hk4 := Lib.hid hk4
      have Hm4 := Lib.hid hm4
      have cn4 := HG4.out.bn.cell
      have cm4 := HG4.out.bm.cell
      have fn4 := HG4.out.bn.frozen
      have fm4 := HG4.out.bm.frozen
      clear hk3 hk4 hm3 hm4 hb4 cn3 cm3
      have cnx : ∀ v, (w4.setCell ⟨Bm, 0, none⟩ v).cell? ⟨Bn, 0, none⟩ = some (.slice A' n' c') := fun v => (HG4.out.bn.other (fun e => Hne.out.1 e.symm) v).cell
      have fnx : ∀ v, (w4.setCell ⟨Bm, 0, none⟩ v).frozen? ⟨Bn, 0, none⟩ = false := fun v => (HG4.out.bn.other (fun e => Hne.out.1 e.symm) v).frozen
      gi_wp2_with fail
      gi_roundg (x % gk)
      case rel =>
        refine ⟨gk, A', n', c', A4, k4, c4, A, n, c, hnL', by omega, ?_, ?_⟩
        · rw [← H.out.1, Nat.gcd_comm gk, ← Nat.gcd_rec, Nat.gcd_comm]
        · have h1 := NoInt.box HG4.out.bm
          have g1 := grownBy_setCell' w4 Bm (.slice A' n' c')
          have h2 := NoInt.box (HG4.out.bn.other (fun e => Hne.out.1 e.symm) (.slice A' n' c'))
          have g2 := grownBy_setCell' (w4.setCell ⟨Bm, 0, none⟩ (.slice A' n' c')) Bn (.slice A4 k4 c4)
          refine ⟨(HG4.out.bm.set _).other Hne.out.1 _, (HG4.out.bn.other (fun e => Hne.out.1 e.symm) _).set _, (HG4.out.bo.other (fun e => Hne.out.2.1 e.symm) _).other (fun e => Hne.out.2.2.1 e.symm) _, HG4.out.hn', Hk4.out, (HG4.out.my.grown g1 h1).grown g2 h2, (Hm4.out.grown g1 h1).grown g2 h2, ?_, ?_, (HG4.out.below.setCell Hlo.out.1 _).setCell Hlo.out.2 _⟩
          · rw [Below.heap_setCell _ _ _ _ (fun e => Hne.out.2.2.2.2.1 e.symm), Below.heap_setCell _ _ _ _ (fun e => Hne.out.2.2.2.1 e.symm)]
            exact HG4.out.lp
          · rw [Below.heap_setCell _ _ _ _ (fun e => Hne.out.2.2.2.2.2.2 e.symm), Below.heap_setCell _ _ _ _ (fun e => Hne.out.2.2.2.2.2.1 e.symm)]
            exact HG4.out.df
      case measure => exact Nat.mod_lt _ (Nat.pos_of_ne_zero Hk0.out)

/-- a range over a function, down to the one call of the iterator -/
theorem range_call {F : Fence} {n : Nat} {P : Program} {g : Operand} {ps : Array Tmp} {assign body : Code} {Q : Exit → Act → World → Prop} {a : Act} {w : World} (hro : F.round = none) (h1 : 1 ≤ n) {gf : Nat} {lb : Array Value}
    (hg : a.eval g = .func (.func gf) #[] lb) (hFg : F.fn gf) (eg : ∀ args w, (callFunc gf args).run P w = .ok (.enter gf args) w)
    (h : ∀ fn, F.fn fn → ∀ r : Loop, r = { state := .ready, pending := none, fn := fn, tmps := a.tmps, params := ps, assign := assign, body := body, defers := w.heap.size } →
      CallsIn F (n - 1) P gf (#[.func (.yield (w.heap.size + 1)) #[] #[]] ++ lb) ((w.alloc (.deferred (some []))).alloc (.loop r)) (rangePost F n P (w.heap.size + 1) Q { a with defers := [{ target := .collected w.heap.size, args := #[] }] ++ a.defers })) :
    (Code.rangeFunc g ps assign body).wpIn F n P Q a w := by
  refine wpIn_rangeFunc fun fn hfn => ?_
  rw [hro]
  obtain ⟨r, hr⟩ : ∃ r : Loop, r = { state := .ready, pending := none, fn := fn, tmps := a.tmps, params := ps, assign := assign, body := body, defers := w.heap.size } := ⟨_, rfl⟩
  have hc := h fn hfn r hr
  have he := run_enterLoop_outer (P := P) (w := w) fn a.tmps ps assign body
  rw [← hr] at he
  obtain ⟨W1, hW1⟩ : ∃ W1, (w.alloc (.deferred (some []))).alloc (.loop r) = W1 := ⟨_, rfl⟩
  rw [hW1] at hc he
  refine ⟨w.heap.size + 1, [{ target := .collected w.heap.size, args := #[] }], W1, { target := .fn (.func gf) lb, args := #[.func (.yield (w.heap.size + 1)) #[] #[]] }, W1, gf, #[.func (.yield (w.heap.size + 1)) #[] #[]] ++ lb, W1, ?_, ?_, ?_, ?_, fun _ => h1, ?_⟩
  · exact he
  · simp only [resolve, hg]
    simp [go_sem]
  · intro f' hf'; simp [Target.leads] at hf'; subst hf'; exact hFg
  · simp [invoke, go_sem, eg]
  · exact hc
theorem boxed_put {W : World} {B l : Nat} {t : TypeId} {v : Value} (h : Boxed W B t v) (hne : B ≠ l) (o : Obj) : Boxed (W.putObj l o) B t v := (World.putObj_heap_other hne).trans h
theorem below_put {w W : World} {l : Nat} (h : Below w.heap.size w W) (hl : w.heap.size ≤ l) (o : Obj) : Below w.heap.size w (W.putObj l o) :=
  h.trans ⟨rfl, rfl, rfl, by simp, fun k hk => World.putObj_heap_other (by omega)⟩
/-- a round of the loop, on the state -/
theorem GS.round {w : World} {Bo Bm Bn l D : Nat} {r : Loop} {x y : Nat} {A A' A0 : Option Addr} {n c n' c' n0 c0 : Nat} {W : World} (h : GS w Bo Bm Bn l D r x y A n c A' n' c' A0 n0 c0 W) (hs : r.state = .ready) (hp : r.pending = none)
    (hne : Bm ≠ l ∧ Bn ≠ l ∧ Bo ≠ l ∧ D ≠ l ∧ Bm ≠ Bo ∧ Bn ≠ Bo ∧ D ≠ Bo) (hlo : w.heap.size ≤ Bo ∧ w.heap.size ≤ l) :
    GS w Bo Bm Bn l D r x y A n c A' n' c' A n c (((W.putObj l (.loop { r with state := .busy })).setCell ⟨Bo, 0, none⟩ (.slice A n c)).putObj l (.loop { r with state := if (none : Option Code).isNone then .ready else .done, pending := none })) := by
  obtain ⟨n1, n2, n3, n4, n5, n6, n7⟩ := hne
  have hll : l < W.heap.size := (Array.getElem?_eq_some_iff.1 h.lp).1
  have hlp1 : (W.putObj l (.loop { r with state := .busy })).heap[l]? = some (.loop { r with state := .busy }) := World.putObj_heap_same hll
  have g1 := grownBy_putObj' W l (.loop { r with state := .busy })
  have k1 := NoInt.loop h.lp
  have b1 := boxed_put h.bo n3 (.loop { r with state := .busy })
  have g2 := grownBy_setCell' (W.putObj l (.loop { r with state := .busy })) Bo (.slice A n c)
  have k2 := NoInt.box b1
  have hlp2 : ((W.putObj l (.loop { r with state := .busy })).setCell ⟨Bo, 0, none⟩ (.slice A n c)).heap[l]? = some (.loop { r with state := .busy }) := (Below.heap_setCell _ _ _ _ n3.symm).trans hlp1
  have k3 := NoInt.loop hlp2
  have g3 := grownBy_putObj' ((W.putObj l (.loop { r with state := .busy })).setCell ⟨Bo, 0, none⟩ (.slice A n c)) l (.loop { r with state := if (none : Option Code).isNone then .ready else .done, pending := none })
  have hr : ({ r with state := if (none : Option Code).isNone then LoopState.ready else .done, pending := none } : Loop) = r := by cases r; simp_all
  refine ⟨boxed_put ((boxed_put h.bm n1 _).other n5 _) n1 _, boxed_put ((boxed_put h.bn n2 _).other n6 _) n2 _, boxed_put (b1.set _) n3 _, h.hn, h.hn', ((h.mx.grown g1 k1).grown g2 k2).grown g3 k3, ((h.my.grown g1 k1).grown g2 k2).grown g3 k3, ?_, ?_, ?_⟩
  · rw [World.putObj_heap_same (Array.getElem?_eq_some_iff.1 hlp2).1, hr]
  · rw [World.putObj_heap_other n4, Below.heap_setCell _ _ _ _ n7, World.putObj_heap_other n4]
    exact h.df
  · exact below_put ((below_put h.below hlo.2 _).setCell hlo.1 _) hlo.2 _

set_option maxRecDepth 100000 in
set_option maxHeartbeats 4000000 in
theorem Gcd_any (a b : ByteArray) (w : World) (ha : a.size ≤ 68719476736) (hb : b.size ≤ 68719476736) (hg : Gl w) :
    Calls Tryz.prog 19 #[.string a, .string b] w fun e w' => e = .returned (.string (canS (Nat.gcd (valS a).natAbs (valS b).natAbs : Nat))) ∧ Below w.heap.size w w' := by
  have Hg := Lib.hid hg
  clear hg
  have HR1 := Lib.hid (fun w => read' a w ha)
  have HR2 := Lib.hid (fun w => read' b w hb)
  generalize decide (valS a < 0) = na at *
  generalize decide (valS b < 0) = nb at *
  generalize (valS a).natAbs = x at *
  generalize (valS b).natAbs = y at *
  refine (callsIn_wide (n := 6)).1 ?_
  refine callsIn_of_wp_marks Tryz.func19 rfl trivial ?_ rfl
  simp only [Tryz.ntmps19, List.size_toArray, List.length_cons, List.length_nil, Nat.reduceAdd, Nat.reduceSub, Array.replicate_succ, Array.replicate_zero, List.push_toArray, List.append_toArray, List.nil_append, List.cons_append]
  have hfld : ∀ (v u : Value) (W : World), (Instr.field 89 (.agg #[v, u]) 1).run Tryz.prog W = .ok u W := fun _ _ _ => by kernel_rfl
  have Hb0 : Hid (Below w.heap.size w (w.alloc (.cells #[.slice none 0 0] 87))) := (Below.refl _ _).alloc (Nat.le_refl _) _
  have Hbox0 : Hid (Boxed (w.alloc (.cells #[.slice none 0 0] 87)) w.heap.size 87 (.slice none 0 0)) := Boxed.new _ _ _
  have hs0 : (w.alloc (.cells #[.slice none 0 0] 87)).heap.size = w.heap.size + 1 := World.size_alloc _ _
  have Hs0 := Lib.hid hs0
  clear hs0
  gi_wp2_with fail
  generalize w.alloc (.cells #[.slice none 0 0] 87) = w0 at *
  refine ⟨trivial, (callsIn_wide.2 (HR1.out _)).mono ?_⟩
  rintro e w1 ⟨A1, n1, c1, rfl, hn1, hm1, hl1, hb1⟩
  have Hn1 := Lib.hid hn1
  have Hm1 := Lib.hid hm1
  have Hb1 := Lib.hid hb1
  clear hn1 hm1 hb1
  gi_wp2_with fail
  refine ⟨trivial, (callsIn_wide.2 (HR2.out _)).mono ?_⟩
  rintro e w2 ⟨A2, n2, c2, rfl, hn2, hm2, hl2, hb2⟩
  have Hn2 := Lib.hid hn2
  have Hm2 := Lib.hid hm2
  have Hb2 := Lib.hid hb2
  clear hn2 hm2 hb2
  gi_wp2_with fail
  refine ⟨trivial, (callsIn_wide.2 (steps_any _ _ _ _ _ _ _)).mono ?_⟩
  rintro e w3 ⟨rfl, hw3⟩
  gi_wp2_with fail
  have hs2 : w.heap.size + 1 ≤ w2.heap.size := by have h1 := Hb1.out.size; have h2 := Hb2.out.size; have h3 := Hs0.out; omega
  have Hb3 : Hid (Below w.heap.size w w3) := by
    show Below _ _ _
    rw [hw3]
    exact (((Hb0.out.trans (Hb1.out.mono Hb0.out.size)).trans (Hb2.out.mono (Nat.le_trans Hb0.out.size Hb1.out.size))).alloc (by omega) _).alloc (by simp; omega) _
  have hs3 : w3.heap.size = w2.heap.size + 2 := by rw [hw3]; simp
  have hb23 : Below w2.heap.size w2 w3 := by rw [hw3]; exact ((Below.refl _ _).alloc (Nat.le_refl _) _).alloc (by simp) _
  have Bm3 : Hid (Boxed w3 w2.heap.size 87 (.slice A1 n1 c1)) := by show Boxed _ _ _ _; rw [hw3]; exact (Boxed.new _ _ _).alloc _
  have Bn3 : Hid (Boxed w3 (w2.heap.size + 1) 87 (.slice A2 n2 c2)) := by
    show Boxed _ _ _ _; rw [hw3]
    have := Boxed.new (w2.alloc (.cells #[.slice A1 n1 c1] 87)) 87 (.slice A2 n2 c2)
    rwa [World.size_alloc] at this
  have Bo3 : Hid (Boxed w3 w.heap.size 87 (.slice none 0 0)) := boxed_below (boxed_below (boxed_below Hbox0.out Hb1.out) Hb2.out) hb23
  have Mx3 := Lib.hid ((Hm1.out.up Hb2.out).up hb23)
  have My3 := Lib.hid (Hm2.out.up hb23)
  have Hs3 := Lib.hid hs3
  rw [← hw3]
  clear hw3 hb23 hs3
  refine range_call rfl (by omega) rfl trivial (enters_of Tryz.func146 (by kernel_rfl) rfl) ?_
  intro fn hfn r hr
  have hst : r.state = .ready := by rw [hr]
  have hpe : r.pending = none := by rw [hr]
  have HS : Hid (GS w w.heap.size w2.heap.size (w2.heap.size + 1) (w3.heap.size + 1) w3.heap.size r x y A1 n1 c1 A2 n2 c2 none 0 0 ((w3.alloc (.deferred (some []))).alloc (.loop r))) := by
    have hbb : Below w3.heap.size w3 ((w3.alloc (.deferred (some []))).alloc (.loop r)) := ((Below.refl _ _).alloc (Nat.le_refl _) _).alloc (by simp) _
    refine ⟨boxed_below Bm3.out hbb, boxed_below Bn3.out hbb, boxed_below Bo3.out hbb, Hn1.out, Hn2.out, Mx3.out.up hbb, My3.out.up hbb, ?_, ?_, Hb3.out.trans (hbb.mono Hb3.out.size)⟩
    · have := World.alloc_heap_new (w3.alloc (.deferred (some []))) (.loop r)
      rwa [World.size_alloc] at this
    · exact (Below.heap_alloc _ _ _ (by simp)).trans (World.alloc_heap_new w3 _)
  refine (steps1_in w w.heap.size w2.heap.size (w2.heap.size + 1) (w3.heap.size + 1) w3.heap.size 68719476736 (Nat.gcd x y) r (by have := Hs3.out; omega) (by omega) (by omega) ?_ x y A1 n1 c1 A2 n2 c2 none 0 0 _ rfl (by omega) (by omega) HS.out).mono ?_
  · intro x y A n c A' n' c' A0 n0 c0 W1 hG
    have hne : w2.heap.size ≠ w3.heap.size + 1 ∧ w2.heap.size + 1 ≠ w3.heap.size + 1 ∧ w.heap.size ≠ w3.heap.size + 1 ∧ w3.heap.size ≠ w3.heap.size + 1 ∧ w2.heap.size ≠ w.heap.size ∧ w2.heap.size + 1 ≠ w.heap.size ∧ w3.heap.size ≠ w.heap.size := by have := Hs3.out; omega
    have hR := hG.round hst hpe hne ⟨Nat.le_refl _, by have := Hs3.out; omega⟩
    have hy := run_yield (P := Tryz.prog) (args := #[.slice A n c, .slice A' n' c']) hG.lp (by rw [hr]; rfl)
    refine ⟨_, _, _, _, hy, roundIn_of_wpIn (by rw [hr]; exact hfn) ?_⟩
    have e1 := congrArg Loop.assign hr
    have e2 := congrArg Loop.body hr
    have e3 := congrArg Loop.tmps hr
    have e4 := congrArg Loop.params hr
    dsimp only at e1 e2 e3 e4
    rw [e1, e2, e3, e4]
    have HG := Lib.hid hG
    have HRd := Lib.hid hR
    have Hst := Lib.hid hst
    have b1 := boxed_put hG.bo hne.2.2.1 (.loop { r with state := .busy })
    have cB := b1.cell
    have fB := b1.frozen
    have Hlp : Hid (((W1.putObj (w3.heap.size + 1) (.loop { r with state := .busy })).setCell ⟨w.heap.size, 0, none⟩ (.slice A n c)).heap[w3.heap.size + 1]? = some (.loop { r with state := .busy })) :=
      (Below.heap_setCell _ _ _ _ hne.2.2.1.symm).trans (World.putObj_heap_same (Array.getElem?_eq_some_iff.1 hG.lp).1)
    clear e1 e2 e3 e4 hr hy hG hR hst hpe hne b1 HS
    gi_wp2_with fail
    refine ⟨_, run_beginRound HG.out.lp Hst.out, ?_⟩
    gi_wp2_with fail
    refine ⟨_, _, run_endRound none Hlp.out, rfl, HRd.out⟩
  · rintro e W4 ⟨⟨v, rfl⟩, A, n, c, A', n', c', hnL, hG⟩
    obtain ⟨o5, ho5⟩ : ∃ o5 : Obj, o5 = .loop { r with state := .exhausted } := ⟨_, rfl⟩
    have hend := run_endLoop (P := Tryz.prog) hG.lp (by rw [hst]; decide)
    rw [← ho5] at hend
    clear ho5
    rw [hpe] at hend
    have hnl : w.heap.size ≠ w3.heap.size + 1 := by have := Hs3.out; omega
    have b1 := boxed_put hG.bo hnl o5
    have cB := b1.cell
    have HM : Hid (MagS (W4.putObj (w3.heap.size + 1) o5) A c (Nat.gcd x y)) := hG.mx.grown (grownBy_putObj' _ _ _) (NoInt.loop hG.lp)
    have Hn := Lib.hid hG.hn
    have HB5 : Hid (Below w.heap.size w (W4.putObj (w3.heap.size + 1) o5)) := below_put hG.below (by have := Hs3.out; omega) _
    have HD5 : Hid ((W4.putObj (w3.heap.size + 1) o5).heap[w3.heap.size]? = some (.deferred (some []))) := (World.putObj_heap_other (by omega)).trans hG.df
    obtain ⟨W5, hW5⟩ : ∃ W5, W4.putObj (w3.heap.size + 1) o5 = W5 := ⟨_, rfl⟩
    rw [hW5] at hend cB HM HB5 HD5
    have hs5 : w3.heap.size < W5.heap.size := (Array.getElem?_eq_some_iff.1 HD5.out).1
    refine ⟨none, W5, hend, ?_⟩
    clear hr hG hst hpe b1 HS hW5 hend
    gi_wp2_with fail
    refine ⟨trivial, (callsIn_wide.2 (text' false A c n _ _ Hn.out HM.out (by omega) (Hg.out.below HB5.out))).mono ?_⟩
    rintro e w6 ⟨rfl, hb6⟩
    have HB6 := Lib.hid hb6
    clear hb6
    gi_wp2_with fail
    have hd6 : w6.heap[w3.heap.size]? = some (.deferred (some [])) := (HB6.out.block _ hs5).trans HD5.out
    refine ⟨by simp, .inl ⟨_, _, rfl, run_takeDeferred hd6, ?_⟩⟩
    refine ⟨_, results_tmp rfl _ _ _, rfl, below_put (HB5.out.trans (HB6.out.mono HB5.out.size)) (by have := Hs3.out; omega) _⟩
end Go.Proofs.YtonopbelbehheaaGreatDoor
