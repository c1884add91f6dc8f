/- Fees: the contract of Run where nothing is wrong. Conditions: up to eight points with numbers of up to 13 bytes. -/
import Derived.Test.YticfdeaphiifeaaGreatDoorFeE
import Derived.Test.YticfdeaphiifeaaGreatDoorFeC
set_option maxHeartbeats 4000000
set_option maxRecDepth 100000
namespace Go.Proofs.YticfdeaphiifeaaGreatDoor
open Go.RowKit Go.Shelf Dec QQ
attribute [local go_sem] Oper.semAt_some
theorem infoC : (Tryz.prog.info? 57).map (fun i => (i.zero, i.size, i.bytes)) = some (some (.agg #[.int .i64 0, .string ⟨#[]⟩, .string ⟨#[]⟩, .string ⟨#[]⟩, .string ⟨#[]⟩]), 5, 72) := by kernel_rfl
theorem own_neC {w : World} {base n size : Nat} {T : TypeId} {v : Value} {xs : List Value} (h : w.ownsRow base T size v n xs) {b : Nat} {o : Obj} (hb : w.heap[b]? = some o) (ho : ∀ cur, o ≠ .cells cur T (0, 0)) : some b ≠ v.ownBlock := by
 rcases h.2 with ⟨rfl, _⟩ | ⟨g, cap, cur, rfl, _, hg, _⟩
 ·simp [Value.ownBlock]
 ·intro e
  have : b = g := by simpa [Value.ownBlock] using e
  subst this
  rw [hg] at hb
  injection hb with hb
  exact ho cur hb.symm
theorem own_keptC {w w' : World} {base n size b : Nat} {T : TypeId} {v : Value} {xs : List Value} {o : Obj} (h : w.ownsRow base T size v n xs) (hb : w.heap[b]? = some o) (ho : ∀ cur, o ≠ .cells cur T (0, 0)) (hg : w.grownBy w' (some b)) : w'.ownsRow base T size v n xs := by
 have hne := own_neC h hb ho
 refine ⟨h.1, ?_⟩
 rcases h.2 with h2 | ⟨g, cap, cur, e1, e2, e3, r⟩
 ·exact .inl h2
 ·refine .inr ⟨g, cap, cur, e1, e2, (hg.block g (Array.getElem?_eq_some_iff.1 e3).1 ?_).trans e3, r⟩
  rw [e1] at hne
  intro e
  exact hne (by rw [← e]; rfl)
structure RoundPC (base Bo l0 : Nat) (T E : TypeId) (rec : Loop) (W1 : World) (o1 o2 : Obj) (v : Value) (k : Nat) (xs : List Value) (w5 : World) (v' : Value) (xs' : List Value) : Prop where
 lp : W1.heap[l0]? = some (.loop rec)
 bo : Boxed W1 Bo T v
 own : W1.ownsRow base E 5 v k xs
 own' : w5.ownsRow base E 5 v' (k + 1) xs'
 grown : World.grownBy (((W1.alloc o1).putObj l0 (.loop { rec with state := .busy })).alloc o2) w5 v.ownBlock
 te : T ≠ E
 ne : Bo ≠ l0
section
variable {base Bo l0 k : Nat} {T E : TypeId} {rec : Loop} {W1 w5 : World} {o1 o2 : Obj} {v v' : Value} {xs xs' : List Value}
theorem RoundPC.own3 (h : RoundPC base Bo l0 T E rec W1 o1 o2 v k xs w5 v' xs') : World.ownsRow (((W1.alloc o1).putObj l0 (.loop { rec with state := .busy })).alloc o2) base E 5 v k xs :=
 World.ownsRow.alloc (ownsRow_putObj (World.ownsRow.alloc h.own o1) _ ((Below.heap_alloc _ _ _ (Array.getElem?_eq_some_iff.1 h.lp).1).trans h.lp) rfl) o2
theorem RoundPC.far5 (h : RoundPC base Bo l0 T E rec W1 o1 o2 v k xs w5 v' xs') {b : Nat} {o : Obj} (hb : W1.heap[b]? = some o) (h1 : b ≠ l0) (h3 : ∀ cur, o ≠ .cells cur E (0, 0)) : w5.heap[b]? = some o := by
 have hlt := (Array.getElem?_eq_some_iff.1 hb).1
 have e1 : (W1.alloc o1).heap[b]? = some o := (Below.heap_alloc _ _ _ hlt).trans hb
 have e2 : ((W1.alloc o1).putObj l0 (.loop { rec with state := .busy })).heap[b]? = some o := (World.putObj_heap_other h1).trans e1
 have e3 : (((W1.alloc o1).putObj l0 (.loop { rec with state := .busy })).alloc o2).heap[b]? = some o := (Below.heap_alloc _ _ _ (Array.getElem?_eq_some_iff.1 e2).1).trans e2
 exact (h.grown.block b (Array.getElem?_eq_some_iff.1 e3).1 (own_neC h.own3 e3 h3)).trans e3
theorem RoundPC.bo5 (h : RoundPC base Bo l0 T E rec W1 o1 o2 v k xs w5 v' xs') : Boxed w5 Bo T v := h.far5 h.bo h.ne (fun cur e => h.te (by injection e))
theorem RoundPC.lp5 (h : RoundPC base Bo l0 T E rec W1 o1 o2 v k xs w5 v' xs') : w5.heap[l0]? = some (.loop { rec with state := .busy }) := by
 have hlt := (Array.getElem?_eq_some_iff.1 h.lp).1
 have e1 : (W1.alloc o1).heap[l0]? = some (.loop rec) := (Below.heap_alloc _ _ _ hlt).trans h.lp
 have e2 : ((W1.alloc o1).putObj l0 (.loop { rec with state := .busy })).heap[l0]? = some (.loop { rec with state := .busy }) := World.putObj_heap_same (Array.getElem?_eq_some_iff.1 e1).1
 have e3 : (((W1.alloc o1).putObj l0 (.loop { rec with state := .busy })).alloc o2).heap[l0]? = some (.loop { rec with state := .busy }) := (Below.heap_alloc _ _ _ (Array.getElem?_eq_some_iff.1 e2).1).trans e2
 exact (h.grown.block l0 (Array.getElem?_eq_some_iff.1 e3).1 (own_neC h.own3 e3 (fun cur e => by cases e))).trans e3
theorem RoundPC.lp6 (h : RoundPC base Bo l0 T E rec W1 o1 o2 v k xs w5 v' xs') (x : Value) : (w5.setCell ⟨Bo, 0, none⟩ x).heap[l0]? = some (.loop { rec with state := .busy }) := (Below.heap_setCell _ _ _ _ h.ne.symm).trans h.lp5
theorem RoundPC.far (h : RoundPC base Bo l0 T E rec W1 o1 o2 v k xs w5 v' xs') (o3 : Obj) {b : Nat} {o : Obj} (hb : W1.heap[b]? = some o) (h1 : b ≠ l0) (h2 : b ≠ Bo) (h3 : ∀ cur, o ≠ .cells cur E (0, 0)) : ((w5.setCell ⟨Bo, 0, none⟩ v').putObj l0 o3).heap[b]? = some o :=
 (World.putObj_heap_other h1).trans ((Below.heap_setCell _ _ _ _ h2).trans (h.far5 hb h1 h3))
theorem RoundPC.below (h : RoundPC base Bo l0 T E rec W1 o1 o2 v k xs w5 v' xs') {w : World} (hw : Below w.heap.size w W1) (hb : base = w.heap.size) (h1 : w.heap.size ≤ l0) (h2 : w.heap.size ≤ Bo) (o3 : Obj) : Below w.heap.size w ((w5.setCell ⟨Bo, 0, none⟩ v').putObj l0 o3) := by
 subst hb
 have b1 := hw.alloc hw.size o1
 have b2 := below_put b1 h1 (.loop { rec with state := .busy })
 have b3 := b2.alloc b2.size o2
 have b4 := b3.grown h.grown b3.size (own_gen h.own3)
 exact below_put (b4.setCell (p := ⟨Bo, 0, none⟩) h2 v') h1 o3
theorem RoundPC.row (h : RoundPC base Bo l0 T E rec W1 o1 o2 v k xs w5 v' xs') (o3 : Obj) : ((w5.setCell ⟨Bo, 0, none⟩ v').putObj l0 o3).ownsRow base E 5 v' (k + 1) xs' :=
 ownsRow_putObj (own_keptC h.own' h.bo5 (fun cur e => h.te (by injection e)) (grownBy_setCell' _ _ _)) o3 (h.lp6 v') rfl
theorem RoundPC.box (h : RoundPC base Bo l0 T E rec W1 o1 o2 v k xs w5 v' xs') (o3 : Obj) : Boxed ((w5.setCell ⟨Bo, 0, none⟩ v').putObj l0 o3) Bo T v' := boxed_put (h.bo5.set v') h.ne o3
theorem RoundPC.loop (h : RoundPC base Bo l0 T E rec W1 o1 o2 v k xs w5 v' xs') (o3 : Obj) : ((w5.setCell ⟨Bo, 0, none⟩ v').putObj l0 o3).heap[l0]? = some o3 := World.putObj_heap_same (Array.getElem?_eq_some_iff.1 (h.lp6 v')).1
end
theorem cell_newsC (w : World) (T : TypeId) (cs : List Value) : ∀ j u, cs[j]? = some u → (w.alloc (.cells cs.toArray T)).cell? ((⟨w.heap.size, 0, none⟩ : Addr).add j) = some u := by
 intro j u hu
 have h := heap_new w (.cells cs.toArray T)
 rw [show (⟨w.heap.size, 0, none⟩ : Addr).add j = ⟨w.heap.size, j, none⟩ by unfold Addr.add; by_cases h : j = 0 <;> simp [h]]
 unfold World.cell?
 rw [h]
 simp [hu]
theorem chcells_one (p : ChS) : ∀ u ∈ chcells p, u.oneCell' = true := by
 intro u hu
 simp [chcells] at hu
 rcases hu with rfl | rfl | rfl | rfl | rfl <;> rfl
theorem grown_cell (W : World) (b i : Nat) (v : Value) : W.grownBy (W.setCell ⟨b, i, none⟩ v) (some b) :=
 ⟨rfl, rfl, rfl, by simp [World.setCell], fun k _ hk => Below.heap_setCell _ _ _ k (fun e => hk (by rw [e]))⟩
def CellsAt (W : World) (b : Nat) (cs : Array Value) (t : TypeId) : Prop := W.heap[b]? = some (.cells cs t (0, 0))
structure Blk where
 Bo : Nat
 Bl : Nat
 Bt : Nat
 Bu : Nat
 Bm : Nat
 l0 : Nat
 D : Nat
structure PSC (w : World) (T : TermS) (u : ByteArray) (mk : Rat) (L : List PtS) (A : Option Addr) (n c : Nat) (B : Blk) (rec : Loop) (k j : Nat) (W : World) : Prop where
 gl : Gl w
 low : Below w.heap.size w W
 row : Row w A (flatG ptcells L)
 bl : CellsAt W B.Bl #[.slice A n c] 45
 bt : CellsAt W B.Bt (tcells T) 44
 bu : CellsAt W B.Bu #[.string u] 32
 bm : CellsAt W B.Bm #[.string (frN (markK T (valS u) mk L j)), .string (frD (markK T (valS u) mk L j))] 34
 bo : ∃ v, Boxed W B.Bo 49 v ∧ W.ownsRow w.heap.size 57 5 v k (flatG chcells (chsL T (valS u) mk L k))
 lp : W.heap[B.l0]? = some (.loop rec)
 df : W.heap[B.D]? = some (.deferred (some []))
theorem CellsAt.on {W W' : World} {b : Nat} {cs : Array Value} {t : TypeId} (h : CellsAt W b cs t) (hb : Below W.heap.size W W') : CellsAt W' b cs t := (hb.block b (Array.getElem?_eq_some_iff.1 h).1).trans h
theorem CellsAt.bx {W : World} {b : Nat} {cs : Array Value} {t : TypeId} (h : CellsAt W b cs t) : Bx W b cs := ⟨t, h⟩
theorem CellsAt.other {W : World} {b c : Nat} {cs : Array Value} {t : TypeId} (h : CellsAt W b cs t) (hc : b ≠ c) (i : Nat) (v : Value) : CellsAt (W.setCell ⟨c, i, none⟩ v) b cs t := (Below.heap_setCell _ _ v b hc).trans h
theorem CellsAt.set {W : World} {b : Nat} {cs : Array Value} {t : TypeId} (h : CellsAt W b cs t) (i : Nat) (v : Value) : CellsAt (W.setCell ⟨b, i, none⟩ v) b (cs.setIfInBounds i v) t := by
 show (W.setCell ⟨b, i, none⟩ v).heap[b]? = _
 have h' : W.heap[b]? = some (.cells cs t (0, 0)) := h
 simp [World.setCell, Array.getElem?_modify, h']
section
variable {w : World} {T : TermS} {u : ByteArray} {mk : Rat} {L : List PtS} {A : Option Addr} {n c k j : Nat} {B : Blk} {rec : Loop} {W W' : World}
theorem PSC.up (h : PSC w T u mk L A n c B rec k j W) (hb : Below W.heap.size W W') : PSC w T u mk L A n c B rec k j W' := by
 obtain ⟨v, h1, h2⟩ := h.bo
 exact ⟨h.gl, h.low.trans (hb.mono h.low.size), h.row, h.bl.on hb, h.bt.on hb, h.bu.on hb, h.bm.on hb, ⟨v, boxed_below h1 hb, own_below h2 hb⟩, (hb.block B.l0 (Array.getElem?_eq_some_iff.1 h.lp).1).trans h.lp, (hb.block B.D (Array.getElem?_eq_some_iff.1 h.df).1).trans h.df⟩
theorem PSC.read (h : PSC w T u mk L A n c B rec k j W) (h1 : B.Bt ≠ B.Bm) (h2 : B.Bu ≠ B.Bm) : ChRead T u mk L A n c B.Bl B.Bt B.Bu B.Bm j W :=
 ⟨h.gl.below h.low, h.row.on h.low, h.bl, h.bt.bx, h.bu.bx, h.bm.bx, h1, h2⟩
theorem PSC.mark (h : PSC w T u mk L A n c B rec k j W) (hw : w.heap.size ≤ B.Bm) (h1 : B.Bl ≠ B.Bm) (h2 : B.Bt ≠ B.Bm) (h3 : B.Bu ≠ B.Bm) (h4 : B.Bo ≠ B.Bm) (h5 : B.l0 ≠ B.Bm) (h6 : B.D ≠ B.Bm) :
  PSC w T u mk L A n c B rec k (j + 1) ((W.setCell ⟨B.Bm, 0, none⟩ (.string (frN (markK T (valS u) mk L (j + 1))))).setCell ⟨B.Bm, 1, none⟩ (.string (frD (markK T (valS u) mk L (j + 1))))) := by
 obtain ⟨v, g1, g2⟩ := h.bo
 have hB1 : CellsAt W B.Bo #[v] 49 := g1
 refine ⟨h.gl, (h.low.setCell (p := ⟨B.Bm, 0, none⟩) hw _).setCell (p := ⟨B.Bm, 1, none⟩) hw _, h.row, (h.bl.other h1 0 _).other h1 1 _, (h.bt.other h2 0 _).other h2 1 _, (h.bu.other h3 0 _).other h3 1 _, (h.bm.set 0 _).set 1 _, ⟨v, (hB1.other h4 0 _).other h4 1 _, ?_⟩, ?_, ?_⟩
 ·have e1 := own_keptC g2 h.bm (fun cur e => by injection e with _ e; exact absurd e (by decide)) (grown_cell W B.Bm 0 (.string (frN (markK T (valS u) mk L (j + 1)))))
  exact own_keptC e1 (h.bm.set 0 _) (fun cur e => by injection e with _ e; exact absurd e (by decide)) (grown_cell _ B.Bm 1 _)
 ·exact (Below.heap_setCell _ _ _ _ h5).trans ((Below.heap_setCell _ _ _ _ h5).trans h.lp)
 ·exact (Below.heap_setCell _ _ _ _ h6).trans ((Below.heap_setCell _ _ _ _ h6).trans h.df)
end
theorem run_few {mn md pn pd u kn kd : ByteArray} {ct : Int} {mk : Rat} {L : List PtS} {A : Option Addr} {N c : Nat} (hn : L.length = N + 1) (hc : N + 1 ≤ c) (hR : RunOk ⟨mn, md, pn, pd, ct⟩ u mk L) (hkn : kn = frN mk) (hkd : kd = frD mk)
  (K1 : Ret 59 #[.agg #[.string mn, .string md, .string pn, .string pd, .int .i64 ct]] (.int .i64 0)) (K2 : Ret 60 #[.string u, .agg #[.string kn, .string kd]] (.int .i64 0)) (K3 : RetI (fun w => Row w A (flatG ptcells L)) 61 #[.slice A (N + 1) c] (.int .i64 0))
  (w : World) (hg : Gl w) (hr : Row w A (flatG ptcells L)) :
  Calls Tryz.prog 23 #[.agg #[.string mn, .string md, .string pn, .string pd, .int .i64 ct], .string u, .agg #[.string kn, .string kd], .slice A (N + 1) c] w fun e w' => ∃ v, e = .returned (.tuple #[v, .int .i64 0]) ∧ OutG chcells 57 5 w.heap.size w' v N (chsL ⟨mn, md, pn, pd, ct⟩ (valS u) mk L N) ∧ Below w.heap.size w w' := by
 have Hg := Lib.hid hg
 have Hr := Lib.hid hr
 have HN := Lib.hid hn
 have HRk := Lib.hid hR
 have HKM : Hid (kn = frN mk ∧ kd = frD mk) := ⟨hkn, hkd⟩
 have h8 : N ≤ 7 := by have := hR.few.1; omega
 have hs := ((St.refl hg).alloc (.cells #[.string mn, .string md, .string pn, .string pd, .int .i64 ct] 44)).alloc (.cells #[.string kn, .string kd] 34)
 have XT := (Bx.new w #[.string mn, .string md, .string pn, .string pd, .int .i64 ct] 44).alloc (.cells #[.string kn, .string kd] 34)
 have XM := Bx.new1 w (.cells #[.string mn, .string md, .string pn, .string pd, .int .i64 ct] 44) #[.string kn, .string kd] 34
 have t0 := XT.cell (i := 0) (v := .string mn) rfl
 have t1 := XT.cell (i := 1) (v := .string md) rfl
 have t2 := XT.cell (i := 2) (v := .string pn) rfl
 have t3 := XT.cell (i := 3) (v := .string pd) rfl
 have t4 := XT.cell (i := 4) (v := .int .i64 ct) rfl
 have m0 := XM.cell (i := 0) (v := .string kn) rfl
 have m1 := XM.cell (i := 1) (v := .string kd) rfl
 clear hg hr hn hR hkn hkd
 refine (callsIn_wide (n := 6)).1 ?_
 refine callsIn_of_wp_marks Tryz.func23 rfl trivial ?_ rfl
 simp only [Tryz.ntmps23, List.size_toArray, List.length_cons, List.length_nil, Nat.reduceAdd, Nat.reduceSub, Array.replicate_succ, Array.replicate_zero, List.push_toArray, List.append_toArray, List.nil_append, List.cons_append]
 gi_wp2_with fail
 refine ⟨trivial, (callsIn_wide.2 (K1 _ hs.gl)).mono ?_⟩
 rintro e w1 ⟨rfl, hb⟩
 replace hs := hs.on hb
 clear t0 t1 t2 t3 t4 m0 m1
 replace XT := XT.on hb
 replace XM := XM.on hb
 have t0 := XT.cell (i := 0) (v := .string mn) rfl
 have t1 := XT.cell (i := 1) (v := .string md) rfl
 have t2 := XT.cell (i := 2) (v := .string pn) rfl
 have t3 := XT.cell (i := 3) (v := .string pd) rfl
 have t4 := XT.cell (i := 4) (v := .int .i64 ct) rfl
 have m0 := XM.cell (i := 0) (v := .string kn) rfl
 have m1 := XM.cell (i := 1) (v := .string kd) rfl
 gi_wp2_with fail
 refine ⟨trivial, (callsIn_wide.2 (K2 _ hs.gl)).mono ?_⟩
 rintro e w2 ⟨rfl, hb⟩
 replace hs := hs.on hb
 clear t0 t1 t2 t3 t4 m0 m1
 replace XT := XT.on hb
 replace XM := XM.on hb
 have t0 := XT.cell (i := 0) (v := .string mn) rfl
 have t1 := XT.cell (i := 1) (v := .string md) rfl
 have t2 := XT.cell (i := 2) (v := .string pn) rfl
 have t3 := XT.cell (i := 3) (v := .string pd) rfl
 have t4 := XT.cell (i := 4) (v := .int .i64 ct) rfl
 have m0 := XM.cell (i := 0) (v := .string kn) rfl
 have m1 := XM.cell (i := 1) (v := .string kd) rfl
 gi_wp2_with fail
 refine ⟨trivial, (callsIn_wide.2 (K3 _ hs.gl (Hr.out.on hs.2))).mono ?_⟩
 rintro e w4 ⟨rfl, hb⟩
 replace hs := hs.on hb
 clear t0 t1 t2 t3 t4 m0 m1
 replace XT := XT.on hb
 replace XM := XM.on hb
 have t0 := XT.cell (i := 0) (v := .string mn) rfl
 have t1 := XT.cell (i := 1) (v := .string md) rfl
 have t2 := XT.cell (i := 2) (v := .string pn) rfl
 have t3 := XT.cell (i := 3) (v := .string pd) rfl
 have t4 := XT.cell (i := 4) (v := .int .i64 ct) rfl
 have m0 := XM.cell (i := 0) (v := .string kn) rfl
 have m1 := XM.cell (i := 1) (v := .string kd) rfl
 have Hw4 := Lib.hid hs.size
 have Bo4 := Lib.hid (Boxed.new w4 49 (.slice none 0 0))
 have hs4 : (w4.alloc (.cells #[.slice none 0 0] 49)).heap.size = w4.heap.size + 1 := World.size_alloc _ _
 have Hs4 := Lib.hid hs4
 clear hs4
 replace hs := hs.alloc (.cells #[.slice none 0 0] 49)
 replace XT := XT.alloc (.cells #[.slice none 0 0] 49)
 replace XM := XM.alloc (.cells #[.slice none 0 0] 49)
 clear t0 t1 t2 t3 t4 m0 m1
 have t0 := XT.cell (i := 0) (v := .string mn) rfl
 have t1 := XT.cell (i := 1) (v := .string md) rfl
 have t2 := XT.cell (i := 2) (v := .string pn) rfl
 have t3 := XT.cell (i := 3) (v := .string pd) rfl
 have t4 := XT.cell (i := 4) (v := .int .i64 ct) rfl
 have m0 := XM.cell (i := 0) (v := .string kn) rfl
 have m1 := XM.cell (i := 1) (v := .string kd) rfl
 gi_wp2_with fail
 have hk5 : Hid (St w (w4.alloc (.cells #[.slice none 0 0] 49))) := hs
 generalize w4.alloc (.cells #[.slice none 0 0] 49) = w5 at *
 refine ⟨trivial, (callsIn_wide.2 (charges_any ⟨mn, md, pn, pd, ct⟩ u kn kd A (N + 1) c w5)).mono ?_⟩
 rintro e w6 ⟨rfl, hw6⟩
 clear t0 t1 t2 t3 t4 m0 m1
 gi_wp2_with fail
 have C6 : Hid (CellsAt w6 w5.heap.size (tcells ⟨mn, md, pn, pd, ct⟩) 44 ∧ CellsAt w6 (w5.heap.size + 1) #[.string u] 32 ∧ CellsAt w6 (w5.heap.size + 2) #[.string kn, .string kd] 34 ∧ CellsAt w6 (w5.heap.size + 3) #[.slice A (N + 1) c] 45) := by
  show _ ∧ _
  rw [hw6]
  refine ⟨?_, ?_, ?_, ?_⟩
  ·exact (Below.heap_alloc _ _ _ (by simp <;> omega)).trans ((Below.heap_alloc _ _ _ (by simp <;> omega)).trans ((Below.heap_alloc _ _ _ (by simp)).trans (heap_new w5 _)))
  ·have := heap_new (w5.alloc (.cells (tcells ⟨mn, md, pn, pd, ct⟩) 44)) (.cells #[.string u] 32)
   rw [World.size_alloc] at this
   exact (Below.heap_alloc _ _ _ (by simp <;> omega)).trans ((Below.heap_alloc _ _ _ (by simp)).trans this)
  ·have := heap_new ((w5.alloc (.cells (tcells ⟨mn, md, pn, pd, ct⟩) 44)).alloc (.cells #[.string u] 32)) (.cells #[.string kn, .string kd] 34)
   rw [World.size_alloc, World.size_alloc] at this
   exact (Below.heap_alloc _ _ _ (by simp)).trans this
  ·have := heap_new (((w5.alloc (.cells (tcells ⟨mn, md, pn, pd, ct⟩) 44)).alloc (.cells #[.string u] 32)).alloc (.cells #[.string kn, .string kd] 34)) (.cells #[.slice A (N + 1) c] 45)
   rwa [World.size_alloc, World.size_alloc, World.size_alloc] at this
 have hb56 : Below w5.heap.size w5 w6 := by rw [hw6]; exact ((((Below.refl _ _).alloc (Nat.le_refl _) _).alloc (by simp) _).alloc (by simp; omega) _).alloc (by simp; omega) _
 have Bo6 := Lib.hid (boxed_below Bo4.out hb56)
 have Hb6 := Lib.hid (hk5.out.on hb56).2
 have hs6 : w6.heap.size = w5.heap.size + 4 := by rw [hw6]; simp
 have Hs6 := Lib.hid hs6
 rw [← hw6]
 clear hw6 hs6 hb56 XT XM hs hb
 refine range_call rfl (by omega) rfl trivial (enters_of Tryz.func117 (by kernel_rfl) rfl) ?_
 intro fn hfn r hr
 have hst : r.state = .ready := by rw [hr]
 have hpe : r.pending = none := by rw [hr]
 obtain ⟨BB, hBB⟩ : ∃ B : Blk, B = ⟨w4.heap.size, w5.heap.size + 3, w5.heap.size, w5.heap.size + 1, w5.heap.size + 2, w6.heap.size + 1, w6.heap.size⟩ := ⟨_, rfl⟩
 have HB : Hid (BB.Bo = w4.heap.size ∧ BB.Bl = w5.heap.size + 3 ∧ BB.Bt = w5.heap.size ∧ BB.Bu = w5.heap.size + 1 ∧ BB.Bm = w5.heap.size + 2 ∧ BB.l0 = w6.heap.size + 1 ∧ BB.D = w6.heap.size) := by
  show _ ∧ _
  rw [hBB]
  exact ⟨rfl, rfl, rfl, rfl, rfl, rfl, rfl⟩
 clear hBB
 have HS : Hid (PSC w ⟨mn, md, pn, pd, ct⟩ u mk L A (N + 1) c BB r 0 0 ((w6.alloc (.deferred (some []))).alloc (.loop r))) := by
  obtain ⟨b1, b2, b3, b4, b5, b6, b7⟩ := HB.out
  have hbb : Below w6.heap.size w6 ((w6.alloc (.deferred (some []))).alloc (.loop r)) := ((Below.refl _ _).alloc (Nat.le_refl _) _).alloc (by simp) _
  refine ⟨Hg.out, Hb6.out.trans (hbb.mono Hb6.out.size), Hr.out, ?_, ?_, ?_, ?_, ⟨_, ?_, World.ownsRow_nil _ _ _ _⟩, ?_, ?_⟩
  ·rw [b2]; exact C6.out.2.2.2.on hbb
  ·rw [b3]; exact C6.out.1.on hbb
  ·rw [b4]; exact C6.out.2.1.on hbb
  ·rw [b5]
   have := C6.out.2.2.1.on hbb
   rw [HKM.out.1, HKM.out.2] at this
   exact this
  ·rw [b1]; exact boxed_below Bo6.out hbb
  ·rw [b6]
   have := World.alloc_heap_new (w6.alloc (.deferred (some []))) (.loop r)
   rwa [World.size_alloc] at this
  ·rw [b7]; exact (Below.heap_alloc _ _ _ (by simp)).trans (World.alloc_heap_new w6 _)
 have HNE : Hid (BB.Bt ≠ BB.Bm ∧ BB.Bu ≠ BB.Bm ∧ BB.Bl ≠ BB.Bm ∧ BB.Bo ≠ BB.Bm ∧ BB.l0 ≠ BB.Bm ∧ BB.D ≠ BB.Bm ∧ w.heap.size ≤ BB.Bm) := by
  obtain ⟨b1, b2, b3, b4, b5, b6, b7⟩ := HB.out
  have h1 := Hs4.out
  have h2 := Hs6.out
  have h3 := Hw4.out
  exact ⟨by omega, by omega, by omega, by omega, by omega, by omega, by omega⟩
 have hcall := charges_in (A := A) (N := N) (c := c) (L := L) (T := ⟨mn, md, pn, pd, ct⟩) (u := u) (mk := mk) (w6.heap.size + 1) BB.Bl BB.Bt BB.Bu BB.Bm HN.out hc HRk.out (fun k j W => PSC w ⟨mn, md, pn, pd, ct⟩ u mk L A (N + 1) c BB r k j W)
  (fun k j W h => h.read HNE.out.1 HNE.out.2.1) (fun k j W W' h hb => h.up hb) (fun k W _ h => h.mark HNE.out.2.2.2.2.2.2 HNE.out.2.2.1 HNE.out.1 HNE.out.2.1 HNE.out.2.2.2.1 HNE.out.2.2.2.2.1 HNE.out.2.2.2.2.2.1)
 obtain ⟨q1, q2, q3, q4, q5, q6, q7⟩ := HB.out
 rw [q2, q3, q4, q5] at hcall
 refine (hcall ?_ _ HS.out).mono ?_
 ·intro k W1 hk hG
  have hlp : W1.heap[w6.heap.size + 1]? = some (.loop r) := by have := hG.lp; rwa [q6] at this
  have hdf : W1.heap[w6.heap.size]? = some (.deferred (some [])) := by have := hG.df; rwa [q7] at this
  have hbo : ∃ v, Boxed W1 w4.heap.size 49 v ∧ W1.ownsRow w.heap.size 57 5 v k (flatG chcells (chsL ⟨mn, md, pn, pd, ct⟩ (valS u) mk L k)) := by have := hG.bo; rwa [q1] at this
  have hy := run_yield (P := Tryz.prog) (args := #[chVal (chK ⟨mn, md, pn, pd, ct⟩ (valS u) mk L k)]) hlp (by rw [hr]; rfl)
  refine ⟨_, _, _, _, hy, roundIn_of_wpIn (by rw [hr]; exact hfn) ?_⟩
  have e1 := congrArg Loop.assign hr
  have e2 := congrArg Loop.body hr
  have e3 := congrArg Loop.tmps hr
  have e4 := congrArg Loop.params hr
  dsimp only at e1 e2 e3 e4
  rw [e1, e2, e3, e4]
  have HG := Lib.hid hG
  have HLP := Lib.hid hlp
  have HDF := Lib.hid hdf
  have Hst := Lib.hid hst
  have Hpe := Lib.hid hpe
  have HQ : Hid (BB.Bo = w4.heap.size ∧ BB.l0 = w6.heap.size + 1 ∧ BB.D = w6.heap.size) := ⟨q1, q6, q7⟩
  have HSUC := Lib.hid (chsL_succ ⟨mn, md, pn, pd, ct⟩ (valS u) mk L k)
  clear e1 e2 e3 e4 hr hy hG hst hpe HS hlp hdf hcall q1 q2 q3 q4 q5 q6 q7
  obtain ⟨p, hp⟩ : ∃ p, chK ⟨mn, md, pn, pd, ct⟩ (valS u) mk L k = p := ⟨_, rfl⟩
  rw [hp] at HSUC ⊢
  clear hp
  obtain ⟨f0, f1, f2, f3, f4⟩ := p
  dsimp only [chVal]
  gi_wp2_with fail
  have hbb : Below W1.heap.size W1 (W1.alloc (.cells #[.int .i64 f0, .string f1, .string f2, .string f3, .string f4] 57)) := (Below.refl _ _).alloc (Nat.le_refl _) _
  have HLPa : Hid ((W1.alloc (.cells #[.int .i64 f0, .string f1, .string f2, .string f3, .string f4] 57)).heap[w6.heap.size + 1]? = some (.loop r)) := (hbb.block _ (Array.getElem?_eq_some_iff.1 HLP.out).1).trans HLP.out
  refine ⟨_, run_beginRound HLPa.out Hst.out, ?_⟩
  obtain ⟨v, hv, hown⟩ := hbo
  have HV := Lib.hid hv
  have HO := Lib.hid hown
  have hl0 : W1.heap.size ≠ w6.heap.size + 1 := by have := (Array.getElem?_eq_some_iff.1 HLP.out).1; omega
  have hBo : w4.heap.size ≠ w6.heap.size + 1 := by have := Hs6.out; have := Hs4.out; omega
  have XP : Bx ((W1.alloc (.cells #[.int .i64 f0, .string f1, .string f2, .string f3, .string f4] 57)).putObj (w6.heap.size + 1) (.loop { r with state := .busy })) W1.heap.size #[.int .i64 f0, .string f1, .string f2, .string f3, .string f4] := ⟨_, (World.putObj_heap_other hl0).trans (heap_new W1 _)⟩
  have VP := boxed_put (hv.alloc (.cells #[.int .i64 f0, .string f1, .string f2, .string f3, .string f4] 57)) hBo (.loop { r with state := .busy })
  have HOP : Hid (World.ownsRow ((W1.alloc (.cells #[.int .i64 f0, .string f1, .string f2, .string f3, .string f4] 57)).putObj (w6.heap.size + 1) (.loop { r with state := .busy })) w.heap.size 57 5 v k (flatG chcells (chsL ⟨mn, md, pn, pd, ct⟩ (valS u) mk L k))) := ownsRow_putObj (World.ownsRow.alloc hown _) _ HLPa.out rfl
  have hsz : w.heap.size ≤ ((W1.alloc (.cells #[.int .i64 f0, .string f1, .string f2, .string f3, .string f4] 57)).putObj (w6.heap.size + 1) (.loop { r with state := .busy })).heap.size := by have := HG.out.low.size; simp; omega
  obtain ⟨WP, hWP⟩ : ∃ WP, (W1.alloc (.cells #[.int .i64 f0, .string f1, .string f2, .string f3, .string f4] 57)).putObj (w6.heap.size + 1) (.loop { r with state := .busy }) = WP := ⟨_, rfl⟩
  have HWP := Lib.hid hWP
  rw [hWP] at XP VP HOP hsz ⊢
  clear hWP hv hown hbb
  have vc := VP.cell
  have vf := VP.frozen
  have z0 := XP.cell (i := 0) (v := .int .i64 f0) rfl
  have z1 := XP.cell (i := 1) (v := .string f1) rfl
  have z2 := XP.cell (i := 2) (v := .string f2) rfl
  have z3 := XP.cell (i := 3) (v := .string f3) rfl
  have z4 := XP.cell (i := 4) (v := .string f4) rfl
  obtain ⟨i0, hi, hz0, hz1, hz2⟩ := info_parts infoC
  have Hi := Lib.hid hi
  have Hz0 := Lib.hid hz0
  have Hz1 := Lib.hid hz1
  have Hz2 := Lib.hid hz2
  clear hi hz0 hz1 hz2
  have vc2 := (VP.alloc (.cells #[.int .i64 f0, .string f1, .string f2, .string f3, .string f4] 57)).cell
  gi_wp2_with (gi_at_builtin; refine wpListIn_append_own _ rfl _ _ 49 rfl w.heap.size 57 i0 (.agg #[.int .i64 0, .string ⟨#[]⟩, .string ⟨#[]⟩, .string ⟨#[]⟩, .string ⟨#[]⟩]) 5 72 Tryz.underlying49 Hi.out Hz0.out Hz1.out Hz2.out rfl (by omega) _ k (flatG chcells (chsL ⟨mn, md, pn, pd, ct⟩ (valS u) mk L k)) rfl (World.ownsRow.alloc HOP.out _) ⟨WP.heap.size, 0, none⟩ 1 1 (chcells ⟨f0, f1, f2, f3, f4⟩) rfl rfl (cell_newsC WP 57 [.int .i64 f0, .string f1, .string f2, .string f3, .string f4]) (chcells_one _) (by unfold maxLen; omega) (by omega) (by simp; omega) ?_; intro v' w7 hown' hgrow _; obtain ⟨g', cap', rfl⟩ := ownsRow_succ hown'; have hrd : RoundPC w.heap.size w4.heap.size (w6.heap.size + 1) 49 57 r W1 (.cells #[.int .i64 f0, .string f1, .string f2, .string f3, .string f4] 57) (.cells #[.int .i64 f0, .string f1, .string f2, .string f3, .string f4] 57) v k (flatG chcells (chsL ⟨mn, md, pn, pd, ct⟩ (valS u) mk L k)) w7 (.slice (some ⟨g', 0, none⟩) (k + 1) cap') (flatG chcells (chsL ⟨mn, md, pn, pd, ct⟩ (valS u) mk L k) ++ chcells ⟨f0, f1, f2, f3, f4⟩) := ⟨HLP.out, HV.out, HO.out, hown', by rw [HWP.out]; exact hgrow, by decide, hBo⟩; have HRD := Lib.hid hrd; have vc5 := hrd.bo5.cell; have vf5 := hrd.bo5.frozen; clear hown' hgrow hrd)
  refine ⟨_, _, run_endRound none (HRD.out.lp6 _), rfl, ?_⟩
  have hlr : ({ r with state := if (none : Option Code).isNone then LoopState.ready else .done, pending := none } : Loop) = r := by have h1 := Hst.out; have h2 := Hpe.out; cases r; simp_all
  have hx : flatG chcells (chsL ⟨mn, md, pn, pd, ct⟩ (valS u) mk L k) ++ chcells ⟨f0, f1, f2, f3, f4⟩ = flatG chcells (chsL ⟨mn, md, pn, pd, ct⟩ (valS u) mk L (k + 1)) := by
   rw [HSUC.out, flatG_snoc]
  have n4 := Hs4.out
  have n6 := Hs6.out
  have nB := HB.out
  have hw := Hw4.out
  refine ⟨HG.out.gl, HRD.out.below HG.out.low rfl (by have := Hb6.out.size; omega) (by omega) _, HG.out.row, ?_, ?_, ?_, ?_, ⟨.slice (some ⟨g', 0, none⟩) (k + 1) cap', ?_, ?_⟩, ?_, ?_⟩
  ·exact HRD.out.far _ HG.out.bl (by omega) (by omega) (fun cur e => by injection e with _ e; exact absurd e (by decide))
  ·exact HRD.out.far _ HG.out.bt (by omega) (by omega) (fun cur e => by injection e with _ e; exact absurd e (by decide))
  ·exact HRD.out.far _ HG.out.bu (by omega) (by omega) (fun cur e => by injection e with _ e; exact absurd e (by decide))
  ·exact HRD.out.far _ HG.out.bm (by omega) (by omega) (fun cur e => by injection e with _ e; exact absurd e (by decide))
  ·rw [HQ.out.1]; exact HRD.out.box _
  ·rw [← hx]; exact HRD.out.row _
  ·rw [HQ.out.2.1, HRD.out.loop, hlr]
  ·rw [HQ.out.2.2]; exact HRD.out.far _ HDF.out (by omega) (by omega) (fun cur e => by cases e)
 ·rintro e W4 ⟨⟨v, rfl⟩, hG⟩
  have hlp0 : W4.heap[w6.heap.size + 1]? = some (.loop r) := by have := hG.lp; rwa [q6] at this
  have hdf0 : W4.heap[w6.heap.size]? = some (.deferred (some [])) := by have := hG.df; rwa [q7] at this
  obtain ⟨o5, ho5⟩ : ∃ o5 : Obj, o5 = .loop { r with state := .exhausted } := ⟨_, rfl⟩
  have hend := run_endLoop (P := Tryz.prog) hlp0 (by rw [hst]; decide)
  rw [← ho5] at hend
  clear ho5
  rw [hpe] at hend
  obtain ⟨v2, hv2, hown2⟩ := hG.bo
  rw [q1] at hv2
  have hnl : w4.heap.size ≠ w6.heap.size + 1 := by have := Hs6.out; have := Hs4.out; omega
  have b1 := boxed_put hv2 hnl o5
  have cB := b1.cell
  have hlt : w6.heap.size + 1 < W4.heap.size := (Array.getElem?_eq_some_iff.1 hlp0).1
  have HB5 : Hid (Below w.heap.size w (W4.putObj (w6.heap.size + 1) o5)) := below_put hG.low (by have := Hb6.out.size; omega) _
  have HD5 : Hid ((W4.putObj (w6.heap.size + 1) o5).heap[w6.heap.size]? = some (.deferred (some []))) := (World.putObj_heap_other (by omega)).trans hdf0
  have HO5 : Hid (OutG chcells 57 5 w.heap.size (W4.putObj (w6.heap.size + 1) o5) v2 N (chsL ⟨mn, md, pn, pd, ct⟩ (valS u) mk L N)) :=
   ⟨chsL_len _ _ _ _ _, ownsRow_putObj hown2 o5 hlp0 rfl⟩
  obtain ⟨W5, hW5⟩ : ∃ W5, W4.putObj (w6.heap.size + 1) o5 = W5 := ⟨_, rfl⟩
  rw [hW5] at hend cB HB5 HD5 HO5
  refine ⟨none, W5, hend, ?_⟩
  clear hr hG hst hpe b1 HS hW5 hend hv2 hown2 hcall
  gi_wp2_with fail
  refine ⟨by simp, .inl ⟨_, _, rfl, run_takeDeferred HD5.out, ?_⟩⟩
  refine ⟨_, results_tmp2 rfl _ _ _, v2, rfl, ⟨HO5.out.1, ownsRow_putObj HO5.out.2 _ HD5.out rfl⟩, below_put HB5.out (by have := Hb6.out.size; omega) _⟩
theorem Run_any {T : TermS} {u kn kd : ByteArray} {L : List PtS} {A : Option Addr} {n c : Nat} (hn : L.length = n) (hc : n ≤ c) (hm : n ≤ 4611686018427387904) (hz : T.le 13) (hu : u.size ≤ 13) (s1 : kn.size ≤ 900) (s2 : kd.size ≤ 900) (hl : ∀ p ∈ L, p.v.size ≤ 13 ∧ p.f.size ≤ 13) (h8 : n ≤ 8 ∨ 400 < n)
  (w : World) (hg : Gl w) (hr : Row w A (flatG ptcells L)) :
  Calls Tryz.prog 23 #[tval T, .string u, .agg #[.string kn, .string kd], .slice A n c] w fun e w' => ∃ v, e = .returned (.tuple #[v, .int .i64 (runE T u kn kd L)]) ∧ OutG chcells 57 5 w.heap.size w' v (runL T u kn kd L).length (runL T u kn kd L) ∧ Below w.heap.size w w' := by
 have K1 := fchk_any hz
 have K2 := cntU_any (u := u) (kn := kn) (kd := kd) (by omega) (by omega) (by omega)
 have K3 := ser_any (A := A) (c := c) hn hm (fun p hp => ⟨by have := (hl p hp).1; omega, by have := (hl p hp).2; omega⟩)
 have HLE : Hid (∀ e : Int, runE T u kn kd L = e → e ≠ 0 → runL T u kn kd L = []) := fun e h h0 => if_neg (by rw [h]; exact h0)
 have HRE : Hid (runE T u kn kd L = if termE T ≠ 0 then 1 else if cntE u kn kd ≠ 0 then cntE u kn kd else serE L) := rfl
 unfold FV at K2
 by_cases h1 : termE T = 0
 ·by_cases h2 : cntE u kn kd = 0
  ·by_cases h3 : serE L = 0
   ·obtain ⟨g1, g2, _⟩ := ser_zero h3
    obtain ⟨c1, c2, c3, c4⟩ := cnt_zero h2
    obtain ⟨e1, e2⟩ := FR_can c2
    have e : runE T u kn kd L = 0 := by rw [HRE.out, if_neg (by simpa using h1), if_neg (by simpa using h2), h3]
    have el : runL T u kn kd L = chsL T (valS u) (ratV kn kd) L (L.length - 1) := if_pos e
    obtain ⟨N, hN⟩ : ∃ N, n = N + 1 := ⟨n - 1, by omega⟩
    subst hN
    rw [e, el, chsL_len, hn, Nat.add_sub_cancel]
    rw [h1] at K1
    rw [h2] at K2
    rw [h3] at K3
    obtain ⟨mn, md, pn, pd, ct⟩ := T
    unfold tval at *
    dsimp only at *
    exact run_few hn hc ⟨hz, hu, c3, ⟨by omega, hl⟩, FitQ.arg (k := 900) s1 s2 (by omega)⟩ e1 e2 K1 K2 K3 w hg hr
   ·have e : runE T u kn kd L = serE L := by rw [HRE.out, if_neg (by simpa using h1), if_neg (by simpa using h2)]
    rw [HLE.out _ e h3, e]
    rw [h1] at K1
    rw [h2] at K2
    have q : (serE L != 0) = true := by simpa using h3
    have Hr := Lib.hid hr
    generalize serE L = se at *
    clear HLE HRE h1 h2 h3 e hn hl hr
    obtain ⟨mn, md, pn, pd, ct⟩ := T
    unfold tval at *
    dsimp only at *
    have hs := ((St.refl hg).alloc (.cells #[.string mn, .string md, .string pn, .string pd, .int .i64 ct] 44)).alloc (.cells #[.string kn, .string kd] 34)
    have XT := (Bx.new w #[.string mn, .string md, .string pn, .string pd, .int .i64 ct] 44).alloc (.cells #[.string kn, .string kd] 34)
    have XM := Bx.new1 w (.cells #[.string mn, .string md, .string pn, .string pd, .int .i64 ct] 44) #[.string kn, .string kd] 34
    have t0 := XT.cell (i := 0) (v := .string mn) rfl
    have t1 := XT.cell (i := 1) (v := .string md) rfl
    have t2 := XT.cell (i := 2) (v := .string pn) rfl
    have t3 := XT.cell (i := 3) (v := .string pd) rfl
    have t4 := XT.cell (i := 4) (v := .int .i64 ct) rfl
    have m0 := XM.cell (i := 0) (v := .string kn) rfl
    have m1 := XM.cell (i := 1) (v := .string kd) rfl
    go_enter Tryz.func23, Tryz.ntmps23
    go_wp2_with fail
    refine K1.step hs ?_
    intro w1 hs hb
    clear t0 t1 t2 t3 t4 m0 m1
    replace XT := XT.on hb
    replace XM := XM.on hb
    have t0 := XT.cell (i := 0) (v := .string mn) rfl
    have t1 := XT.cell (i := 1) (v := .string md) rfl
    have t2 := XT.cell (i := 2) (v := .string pn) rfl
    have t3 := XT.cell (i := 3) (v := .string pd) rfl
    have t4 := XT.cell (i := 4) (v := .int .i64 ct) rfl
    have m0 := XM.cell (i := 0) (v := .string kn) rfl
    have m1 := XM.cell (i := 1) (v := .string kd) rfl
    go_wp2_with fail
    refine K2.step hs ?_
    intro w1 hs hb
    clear t0 t1 t2 t3 t4 m0 m1
    replace XT := XT.on hb
    replace XM := XM.on hb
    have t0 := XT.cell (i := 0) (v := .string mn) rfl
    have t1 := XT.cell (i := 1) (v := .string md) rfl
    have t2 := XT.cell (i := 2) (v := .string pn) rfl
    have t3 := XT.cell (i := 3) (v := .string pd) rfl
    have t4 := XT.cell (i := 4) (v := .int .i64 ct) rfl
    have m0 := XM.cell (i := 0) (v := .string kn) rfl
    have m1 := XM.cell (i := 1) (v := .string kd) rfl
    go_wp2_with fail
    refine K3.step hs (Hr.out.on hs.2) ?_
    intro w1 hs hb
    clear t0 t1 t2 t3 t4 m0 m1
    replace XT := XT.on hb
    replace XM := XM.on hb
    have t0 := XT.cell (i := 0) (v := .string mn) rfl
    have t1 := XT.cell (i := 1) (v := .string md) rfl
    have t2 := XT.cell (i := 2) (v := .string pn) rfl
    have t3 := XT.cell (i := 3) (v := .string pd) rfl
    have t4 := XT.cell (i := 4) (v := .int .i64 ct) rfl
    have m0 := XM.cell (i := 0) (v := .string kn) rfl
    have m1 := XM.cell (i := 1) (v := .string kd) rfl
    go_wp2_with fail
    go_ret2
    exact ⟨_, rfl, ⟨rfl, World.ownsRow_nil _ _ _ _⟩, hs.2⟩
  ·have e : runE T u kn kd L = cntE u kn kd := by rw [HRE.out, if_neg (by simpa using h1), if_pos h2]
   rw [HLE.out _ e h2, e]
   rw [h1] at K1
   have q : (cntE u kn kd != 0) = true := by simpa using h2
   generalize cntE u kn kd = se at *
   clear HLE HRE h1 h2 e hn hl hr K3
   obtain ⟨mn, md, pn, pd, ct⟩ := T
   unfold tval at *
   dsimp only at *
   have hs := ((St.refl hg).alloc (.cells #[.string mn, .string md, .string pn, .string pd, .int .i64 ct] 44)).alloc (.cells #[.string kn, .string kd] 34)
   have XT := (Bx.new w #[.string mn, .string md, .string pn, .string pd, .int .i64 ct] 44).alloc (.cells #[.string kn, .string kd] 34)
   have XM := Bx.new1 w (.cells #[.string mn, .string md, .string pn, .string pd, .int .i64 ct] 44) #[.string kn, .string kd] 34
   have t0 := XT.cell (i := 0) (v := .string mn) rfl
   have t1 := XT.cell (i := 1) (v := .string md) rfl
   have t2 := XT.cell (i := 2) (v := .string pn) rfl
   have t3 := XT.cell (i := 3) (v := .string pd) rfl
   have t4 := XT.cell (i := 4) (v := .int .i64 ct) rfl
   have m0 := XM.cell (i := 0) (v := .string kn) rfl
   have m1 := XM.cell (i := 1) (v := .string kd) rfl
   go_enter Tryz.func23, Tryz.ntmps23
   go_wp2_with fail
   refine K1.step hs ?_
   intro w1 hs hb
   clear t0 t1 t2 t3 t4 m0 m1
   replace XT := XT.on hb
   replace XM := XM.on hb
   have t0 := XT.cell (i := 0) (v := .string mn) rfl
   have t1 := XT.cell (i := 1) (v := .string md) rfl
   have t2 := XT.cell (i := 2) (v := .string pn) rfl
   have t3 := XT.cell (i := 3) (v := .string pd) rfl
   have t4 := XT.cell (i := 4) (v := .int .i64 ct) rfl
   have m0 := XM.cell (i := 0) (v := .string kn) rfl
   have m1 := XM.cell (i := 1) (v := .string kd) rfl
   go_wp2_with fail
   refine K2.step hs ?_
   intro w1 hs hb
   clear t0 t1 t2 t3 t4 m0 m1
   replace XT := XT.on hb
   replace XM := XM.on hb
   have t0 := XT.cell (i := 0) (v := .string mn) rfl
   have t1 := XT.cell (i := 1) (v := .string md) rfl
   have t2 := XT.cell (i := 2) (v := .string pn) rfl
   have t3 := XT.cell (i := 3) (v := .string pd) rfl
   have t4 := XT.cell (i := 4) (v := .int .i64 ct) rfl
   have m0 := XM.cell (i := 0) (v := .string kn) rfl
   have m1 := XM.cell (i := 1) (v := .string kd) rfl
   go_wp2_with fail
   go_ret2
   exact ⟨_, rfl, ⟨rfl, World.ownsRow_nil _ _ _ _⟩, hs.2⟩
 ·have e : runE T u kn kd L = 1 := by rw [HRE.out, if_pos h1]
  rw [HLE.out _ e (by decide), e]
  have q : (termE T != 0) = true := by simpa using h1
  generalize termE T = se at *
  clear HLE HRE h1 e hn hl hr K3 K2
  obtain ⟨mn, md, pn, pd, ct⟩ := T
  unfold tval at *
  dsimp only at *
  have hs := ((St.refl hg).alloc (.cells #[.string mn, .string md, .string pn, .string pd, .int .i64 ct] 44)).alloc (.cells #[.string kn, .string kd] 34)
  have XT := (Bx.new w #[.string mn, .string md, .string pn, .string pd, .int .i64 ct] 44).alloc (.cells #[.string kn, .string kd] 34)
  have XM := Bx.new1 w (.cells #[.string mn, .string md, .string pn, .string pd, .int .i64 ct] 44) #[.string kn, .string kd] 34
  have t0 := XT.cell (i := 0) (v := .string mn) rfl
  have t1 := XT.cell (i := 1) (v := .string md) rfl
  have t2 := XT.cell (i := 2) (v := .string pn) rfl
  have t3 := XT.cell (i := 3) (v := .string pd) rfl
  have t4 := XT.cell (i := 4) (v := .int .i64 ct) rfl
  have m0 := XM.cell (i := 0) (v := .string kn) rfl
  have m1 := XM.cell (i := 1) (v := .string kd) rfl
  go_enter Tryz.func23, Tryz.ntmps23
  go_wp2_with fail
  refine K1.step hs ?_
  intro w1 hs hb
  clear t0 t1 t2 t3 t4 m0 m1
  replace XT := XT.on hb
  replace XM := XM.on hb
  have t0 := XT.cell (i := 0) (v := .string mn) rfl
  have t1 := XT.cell (i := 1) (v := .string md) rfl
  have t2 := XT.cell (i := 2) (v := .string pn) rfl
  have t3 := XT.cell (i := 3) (v := .string pd) rfl
  have t4 := XT.cell (i := 4) (v := .int .i64 ct) rfl
  have m0 := XM.cell (i := 0) (v := .string kn) rfl
  have m1 := XM.cell (i := 1) (v := .string kd) rfl
  go_wp2_with fail
  go_ret2
  exact ⟨_, rfl, ⟨rfl, World.ownsRow_nil _ _ _ _⟩, hs.2⟩
end Go.Proofs.YticfdeaphiifeaaGreatDoor
