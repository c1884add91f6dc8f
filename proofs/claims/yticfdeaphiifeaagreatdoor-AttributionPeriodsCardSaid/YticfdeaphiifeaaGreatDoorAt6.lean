/- Attribution: the contract of Parts. Conditions: up to five sectors with numbers of bounded length, or more than 32. -/
import Derived.Test.YticfdeaphiifeaaGreatDoorAt5
namespace Go.Proofs.YticfdeaphiifeaaGreatDoor
open Go.RowKit Go.Shelf Dec QQ
attribute [local go_sem] Oper.semAt_some
def prtsR (l : List SecS) : List PrtS := if chkS l = 0 then partsL l else []
theorem infoP : (Tryz.prog.info? 36).map (fun i => (i.zero, i.size, i.bytes)) = some (some (.agg #[.string ⟨#[]⟩, .string ⟨#[]⟩, .string ⟨#[]⟩, .string ⟨#[]⟩, .string ⟨#[]⟩, .string ⟨#[]⟩, .string ⟨#[]⟩]), 7, 112) := by kernel_rfl
theorem own_ne {w : World} {base n size : Nat} {T : TypeId} {v : Value} {xs : List Value} (h : w.ownsRow base T size v n xs) {b : Nat} {o : Obj} (hb : w.heap[b]? = some o) (ho : ∀ cur, o ≠ .cells cur T (0, 0)) : some b ≠ v.ownBlock := by
 rcases h.2 with ⟨rfl, _⟩ | ⟨g, cap, cur, rfl, _, hg, _⟩
 ·simp [Value.ownBlock]
 ·intro e
  have : b = g := by simpa [Value.ownBlock] using e
  subst this
  rw [hg] at hb
  injection hb with hb
  exact ho cur hb.symm
theorem own_kept {w w' : World} {base n size b : Nat} {T : TypeId} {v : Value} {xs : List Value} {o : Obj} (h : w.ownsRow base T size v n xs) (hb : w.heap[b]? = some o) (ho : ∀ cur, o ≠ .cells cur T (0, 0)) (hg : w.grownBy w' (some b)) : w'.ownsRow base T size v n xs := by
 have hne := own_ne h hb ho
 refine ⟨h.1, ?_⟩
 rcases h.2 with h2 | ⟨g, cap, cur, e1, e2, e3, r⟩
 ·exact .inl h2
 ·refine .inr ⟨g, cap, cur, e1, e2, (hg.block g (Array.getElem?_eq_some_iff.1 e3).1 ?_).trans e3, r⟩
  rw [e1] at hne
  intro e
  exact hne (by rw [← e]; rfl)
structure RoundP (base Bo l0 : Nat) (T E : TypeId) (rec : Loop) (W1 : World) (o1 o2 : Obj) (v : Value) (k : Nat) (xs : List Value) (w5 : World) (v' : Value) (xs' : List Value) : Prop where
 lp : W1.heap[l0]? = some (.loop rec)
 bo : Boxed W1 Bo T v
 own : W1.ownsRow base E 7 v k xs
 own' : w5.ownsRow base E 7 v' (k + 1) xs'
 grown : World.grownBy (((W1.alloc o1).putObj l0 (.loop { rec with state := .busy })).alloc o2) w5 v.ownBlock
 te : T ≠ E
 ne : Bo ≠ l0
section
variable {base Bo l0 k : Nat} {T E : TypeId} {rec : Loop} {W1 w5 : World} {o1 o2 : Obj} {v v' : Value} {xs xs' : List Value}
theorem RoundP.own3 (h : RoundP base Bo l0 T E rec W1 o1 o2 v k xs w5 v' xs') : World.ownsRow (((W1.alloc o1).putObj l0 (.loop { rec with state := .busy })).alloc o2) base E 7 v k xs :=
 World.ownsRow.alloc (ownsRow_putObj (World.ownsRow.alloc h.own o1) _ ((Below.heap_alloc _ _ _ (Array.getElem?_eq_some_iff.1 h.lp).1).trans h.lp) rfl) o2
theorem RoundP.far5 (h : RoundP base Bo l0 T E rec W1 o1 o2 v k xs w5 v' xs') {b : Nat} {o : Obj} (hb : W1.heap[b]? = some o) (h1 : b ≠ l0) (h3 : ∀ cur, o ≠ .cells cur E (0, 0)) : w5.heap[b]? = some o := by
 have hlt := (Array.getElem?_eq_some_iff.1 hb).1
 have e1 : (W1.alloc o1).heap[b]? = some o := (Below.heap_alloc _ _ _ hlt).trans hb
 have e2 : ((W1.alloc o1).putObj l0 (.loop { rec with state := .busy })).heap[b]? = some o := (World.putObj_heap_other h1).trans e1
 have e3 : (((W1.alloc o1).putObj l0 (.loop { rec with state := .busy })).alloc o2).heap[b]? = some o := (Below.heap_alloc _ _ _ (Array.getElem?_eq_some_iff.1 e2).1).trans e2
 exact (h.grown.block b (Array.getElem?_eq_some_iff.1 e3).1 (own_ne h.own3 e3 h3)).trans e3
theorem RoundP.bo5 (h : RoundP base Bo l0 T E rec W1 o1 o2 v k xs w5 v' xs') : Boxed w5 Bo T v := h.far5 h.bo h.ne (fun cur e => h.te (by injection e))
theorem RoundP.lp5 (h : RoundP base Bo l0 T E rec W1 o1 o2 v k xs w5 v' xs') : w5.heap[l0]? = some (.loop { rec with state := .busy }) := by
 have hlt := (Array.getElem?_eq_some_iff.1 h.lp).1
 have e1 : (W1.alloc o1).heap[l0]? = some (.loop rec) := (Below.heap_alloc _ _ _ hlt).trans h.lp
 have e2 : ((W1.alloc o1).putObj l0 (.loop { rec with state := .busy })).heap[l0]? = some (.loop { rec with state := .busy }) := World.putObj_heap_same (Array.getElem?_eq_some_iff.1 e1).1
 have e3 : (((W1.alloc o1).putObj l0 (.loop { rec with state := .busy })).alloc o2).heap[l0]? = some (.loop { rec with state := .busy }) := (Below.heap_alloc _ _ _ (Array.getElem?_eq_some_iff.1 e2).1).trans e2
 exact (h.grown.block l0 (Array.getElem?_eq_some_iff.1 e3).1 (own_ne h.own3 e3 (fun cur e => by cases e))).trans e3
theorem RoundP.lp6 (h : RoundP base Bo l0 T E rec W1 o1 o2 v k xs w5 v' xs') (x : Value) : (w5.setCell ⟨Bo, 0, none⟩ x).heap[l0]? = some (.loop { rec with state := .busy }) := (Below.heap_setCell _ _ _ _ h.ne.symm).trans h.lp5
theorem RoundP.far (h : RoundP base Bo l0 T E rec W1 o1 o2 v k xs w5 v' xs') (o3 : Obj) {b : Nat} {o : Obj} (hb : W1.heap[b]? = some o) (h1 : b ≠ l0) (h2 : b ≠ Bo) (h3 : ∀ cur, o ≠ .cells cur E (0, 0)) : ((w5.setCell ⟨Bo, 0, none⟩ v').putObj l0 o3).heap[b]? = some o :=
 (World.putObj_heap_other h1).trans ((Below.heap_setCell _ _ _ _ h2).trans (h.far5 hb h1 h3))
theorem RoundP.below (h : RoundP base Bo l0 T E rec W1 o1 o2 v k xs w5 v' xs') {w : World} (hw : Below w.heap.size w W1) (hb : base = w.heap.size) (h1 : w.heap.size ≤ l0) (h2 : w.heap.size ≤ Bo) (o3 : Obj) : Below w.heap.size w ((w5.setCell ⟨Bo, 0, none⟩ v').putObj l0 o3) := by
 subst hb
 have b1 := hw.alloc hw.size o1
 have b2 := below_put b1 h1 (.loop { rec with state := .busy })
 have b3 := b2.alloc b2.size o2
 have b4 := b3.grown h.grown b3.size (own_gen h.own3)
 exact below_put (b4.setCell (p := ⟨Bo, 0, none⟩) h2 v') h1 o3
theorem RoundP.row (h : RoundP base Bo l0 T E rec W1 o1 o2 v k xs w5 v' xs') (o3 : Obj) : ((w5.setCell ⟨Bo, 0, none⟩ v').putObj l0 o3).ownsRow base E 7 v' (k + 1) xs' :=
 ownsRow_putObj (own_kept h.own' h.bo5 (fun cur e => h.te (by injection e)) (grownBy_setCell' _ _ _)) o3 (h.lp6 v') rfl
theorem RoundP.box (h : RoundP base Bo l0 T E rec W1 o1 o2 v k xs w5 v' xs') (o3 : Obj) : Boxed ((w5.setCell ⟨Bo, 0, none⟩ v').putObj l0 o3) Bo T v' := boxed_put (h.bo5.set v') h.ne o3
theorem RoundP.loop (h : RoundP base Bo l0 T E rec W1 o1 o2 v k xs w5 v' xs') (o3 : Obj) : ((w5.setCell ⟨Bo, 0, none⟩ v').putObj l0 o3).heap[l0]? = some o3 := World.putObj_heap_same (Array.getElem?_eq_some_iff.1 (h.lp6 v')).1
end
theorem cell_news (w : World) (T : TypeId) (cs : List Value) : ∀ j u, cs[j]? = some u → (w.alloc (.cells cs.toArray T)).cell? ((⟨w.heap.size, 0, none⟩ : Addr).add j) = some u := by
 intro j u hu
 have h := heap_new w (.cells cs.toArray T)
 rw [show (⟨w.heap.size, 0, none⟩ : Addr).add j = ⟨w.heap.size, j, none⟩ by unfold Addr.add; by_cases h : j = 0 <;> simp [h]]
 unfold World.cell?
 rw [h]
 simp [hu]
theorem pcells_one (p : PrtS) : ∀ u ∈ pcells p, u.oneCell' = true := by
 intro u hu
 simp [pcells] at hu
 rcases hu with rfl | rfl | rfl | rfl | rfl | rfl | rfl <;> rfl
structure PS (w : World) (L : List SecS) (A : Option Addr) (n c Bo Bl l0 D : Nat) (rec : Loop) (k : Nat) (W : World) : Prop where
 gl : Gl w
 low : Below w.heap.size w W
 row : Row w A (flatG scells L)
 bl : Boxed W Bl 24 (.slice A n c)
 bo : ∃ v, Boxed W Bo 27 v ∧ W.ownsRow w.heap.size 36 7 v k (flatG pcells ((partsL L).take k))
 lp : W.heap[l0]? = some (.loop rec)
 df : W.heap[D]? = some (.deferred (some []))
theorem PS.up {w : World} {L : List SecS} {A : Option Addr} {n c Bo Bl l0 D k : Nat} {rec : Loop} {W W' : World} (h : PS w L A n c Bo Bl l0 D rec k W) (hb : Below W.heap.size W W') : PS w L A n c Bo Bl l0 D rec k W' := by
 obtain ⟨v, h1, h2⟩ := h.bo
 exact ⟨h.gl, h.low.trans (hb.mono h.low.size), h.row, boxed_below h.bl hb, ⟨v, boxed_below h1 hb, own_below h2 hb⟩, (hb.block l0 (Array.getElem?_eq_some_iff.1 h.lp).1).trans h.lp, (hb.block D (Array.getElem?_eq_some_iff.1 h.df).1).trans h.df⟩
set_option maxRecDepth 100000 in
set_option maxHeartbeats 4000000 in
theorem parts_few {A : Option Addr} {n c k0 : Nat} {L : List SecS} (hn : L.length = n) (hl : FewS k0 L) (hc : n ≤ c) (hok : chkS L = 0) (w : World) (hg : Gl w) (hr : Row w A (flatG scells L)) :
  Calls Tryz.prog 18 #[.slice A n c] w fun e w' => ∃ v, e = .returned (.tuple #[v, .int .i64 0]) ∧ OutG pcells 36 7 w.heap.size w' v n (partsL L) ∧ Below w.heap.size w w' := by
 have K1 := scheck_any (A := A) hn (.inr hl) hc
 rw [hok] at K1
 have Hg := Lib.hid hg
 have Hr := Lib.hid hr
 have HN := Lib.hid hn
 have HL := Lib.hid hl
 have h5 : n ≤ 5 := by have := hl.1; omega
 clear hg hr hn hl hok
 refine (callsIn_wide (n := 6)).1 ?_
 refine callsIn_of_wp_marks Tryz.func18 rfl trivial ?_ rfl
 simp only [Tryz.ntmps18, List.size_toArray, List.length_cons, List.length_nil, Nat.reduceAdd, Nat.reduceSub, Array.replicate_succ, Array.replicate_zero, List.push_toArray, List.append_toArray, List.nil_append, List.cons_append]
 gi_wp2_with fail
 refine ⟨trivial, (callsIn_wide.2 (K1 w Hg.out Hr.out)).mono ?_⟩
 rintro e w1 ⟨rfl, hb1⟩
 have Hb1 := Lib.hid hb1
 clear hb1
 gi_wp2_with fail
 have Bo2 := Lib.hid (Boxed.new w1 27 (.slice none 0 0))
 have Hb2 : Hid (Below w.heap.size w (w1.alloc (.cells #[.slice none 0 0] 27))) := Hb1.out.alloc Hb1.out.size _
 have hs2 : (w1.alloc (.cells #[.slice none 0 0] 27)).heap.size = w1.heap.size + 1 := World.size_alloc _ _
 have Hs2 := Lib.hid hs2
 clear hs2
 generalize w1.alloc (.cells #[.slice none 0 0] 27) = w2 at *
 refine ⟨trivial, (callsIn_wide.2 (contributions_any A n c w2)).mono ?_⟩
 rintro e w3 ⟨rfl, hw3⟩
 gi_wp2_with fail
 have Bl3 : Hid (Boxed w3 w2.heap.size 24 (.slice A n c)) := by show Boxed _ _ _ _; rw [hw3]; exact Boxed.new _ _ _
 have Bo3 : Hid (Boxed w3 w1.heap.size 27 (.slice none 0 0)) := by show Boxed _ _ _ _; rw [hw3]; exact Bo2.out.alloc _
 have Hb3 : Hid (Below w.heap.size w w3) := by show Below _ _ _; rw [hw3]; exact Hb2.out.alloc Hb2.out.size _
 have hs3 : w3.heap.size = w2.heap.size + 1 := by rw [hw3]; simp
 have Hs3 := Lib.hid hs3
 rw [← hw3]
 clear hw3 hs3
 refine range_call rfl (by omega) rfl trivial (enters_of Tryz.func96 (by kernel_rfl) rfl) ?_
 intro fn hfn r hr
 have hst : r.state = .ready := by rw [hr]
 have hpe : r.pending = none := by rw [hr]
 have HS : Hid (PS w L A n c w1.heap.size w2.heap.size (w3.heap.size + 1) w3.heap.size r 0 ((w3.alloc (.deferred (some []))).alloc (.loop r))) := by
  have hbb : Below w3.heap.size w3 ((w3.alloc (.deferred (some []))).alloc (.loop r)) := ((Below.refl _ _).alloc (Nat.le_refl _) _).alloc (by simp) _
  refine ⟨Hg.out, Hb3.out.trans (hbb.mono Hb3.out.size), Hr.out, boxed_below Bl3.out hbb, ⟨_, boxed_below Bo3.out hbb, World.ownsRow_nil _ _ _ _⟩, ?_, ?_⟩
  ·have := World.alloc_heap_new (w3.alloc (.deferred (some []))) (.loop r)
   rwa [World.size_alloc] at this
  ·exact (Below.heap_alloc _ _ _ (by simp)).trans (World.alloc_heap_new w3 _)
 refine (contrib_in (A := A) (n := n) (c := c) (L := L) (w3.heap.size + 1) w2.heap.size HN.out HL.out (fun k W => PS w L A n c w1.heap.size w2.heap.size (w3.heap.size + 1) w3.heap.size r k W) (fun k W h => ⟨h.gl.below h.low, h.row.on h.low, h.bl⟩) (fun k W W' h hb => h.up hb) ?_ _ HS.out).mono ?_
 ·intro k W1 s hk hs hG
  have hy := run_yield (P := Tryz.prog) (args := #[.int .i64 (k : Int), prtV (partS (benQ L) s)]) hG.lp (by rw [hr]; rfl)
  refine ⟨_, _, _, _, hy, roundIn_of_wpIn (by rw [hr]; exact hfn) ?_⟩
  have e1 := congrArg Loop.assign hr
  have e2 := congrArg Loop.body hr
  have e3 := congrArg Loop.tmps hr
  have e4 := congrArg Loop.params hr
  dsimp only at e1 e2 e3 e4
  rw [e1, e2, e3, e4]
  have HG := Lib.hid hG
  have Hst := Lib.hid hst
  have Hpe := Lib.hid hpe
  clear e1 e2 e3 e4 hr hy hG hst hpe HS
  obtain ⟨p, hp⟩ : ∃ p, partS (benQ L) s = p := ⟨_, rfl⟩
  have HP : Hid ((partsL L)[k]? = some p) := by
   show _ = _
   unfold partsL
   rw [List.getElem?_map, hs, ← hp]
   rfl
  rw [hp]
  clear hp hs
  obtain ⟨f0, f1, f2, f3, f4, f5, f6⟩ := p
  dsimp only [prtV]
  gi_wp2_with fail
  have hbb : Below W1.heap.size W1 (W1.alloc (.cells #[.string f0, .string f1, .string f2, .string f3, .string f4, .string f5, .string f6] 36)) := (Below.refl _ _).alloc (Nat.le_refl _) _
  have HGa := Lib.hid (HG.out.up hbb)
  refine ⟨_, run_beginRound HGa.out.lp Hst.out, ?_⟩
  obtain ⟨v, hv, hown⟩ := HG.out.bo
  have HV := Lib.hid hv
  have HO := Lib.hid hown
  have hl0 : W1.heap.size ≠ w3.heap.size + 1 := by have := (Array.getElem?_eq_some_iff.1 HG.out.lp).1; omega
  have hBo : w1.heap.size ≠ w3.heap.size + 1 := by have := Hs3.out; have := Hs2.out; omega
  have XP : Bx ((W1.alloc (.cells #[.string f0, .string f1, .string f2, .string f3, .string f4, .string f5, .string f6] 36)).putObj (w3.heap.size + 1) (.loop { r with state := .busy })) W1.heap.size #[.string f0, .string f1, .string f2, .string f3, .string f4, .string f5, .string f6] := ⟨_, (World.putObj_heap_other hl0).trans (heap_new W1 _)⟩
  have VP := boxed_put (hv.alloc (.cells #[.string f0, .string f1, .string f2, .string f3, .string f4, .string f5, .string f6] 36)) hBo (.loop { r with state := .busy })
  have HOP : Hid (World.ownsRow ((W1.alloc (.cells #[.string f0, .string f1, .string f2, .string f3, .string f4, .string f5, .string f6] 36)).putObj (w3.heap.size + 1) (.loop { r with state := .busy })) w.heap.size 36 7 v k (flatG pcells ((partsL L).take k))) := ownsRow_putObj (World.ownsRow.alloc hown _) _ HGa.out.lp rfl
  have hsz : w.heap.size ≤ ((W1.alloc (.cells #[.string f0, .string f1, .string f2, .string f3, .string f4, .string f5, .string f6] 36)).putObj (w3.heap.size + 1) (.loop { r with state := .busy })).heap.size := by have := HG.out.low.size; simp; omega
  obtain ⟨WP, hWP⟩ : ∃ WP, (W1.alloc (.cells #[.string f0, .string f1, .string f2, .string f3, .string f4, .string f5, .string f6] 36)).putObj (w3.heap.size + 1) (.loop { r with state := .busy }) = WP := ⟨_, rfl⟩
  have HWP := Lib.hid hWP
  rw [hWP] at XP VP HOP hsz ⊢
  clear hWP hv hown hbb
  have vc := VP.cell
  have vf := VP.frozen
  have z0 := XP.cell (i := 0) (v := .string f0) rfl
  have z1 := XP.cell (i := 1) (v := .string f1) rfl
  have z2 := XP.cell (i := 2) (v := .string f2) rfl
  have z3 := XP.cell (i := 3) (v := .string f3) rfl
  have z4 := XP.cell (i := 4) (v := .string f4) rfl
  have z5 := XP.cell (i := 5) (v := .string f5) rfl
  have z6 := XP.cell (i := 6) (v := .string f6) rfl
  obtain ⟨i0, hi, hz0, hz1, hz2⟩ := info_parts infoP
  have Hi := Lib.hid hi
  have Hz0 := Lib.hid hz0
  have Hz1 := Lib.hid hz1
  have Hz2 := Lib.hid hz2
  clear hi hz0 hz1 hz2
  have vc2 := (VP.alloc (.cells #[.string f0, .string f1, .string f2, .string f3, .string f4, .string f5, .string f6] 36)).cell
  gi_wp2_with (gi_at_builtin; refine wpListIn_append_own _ rfl _ _ 27 rfl w.heap.size 36 i0 (.agg #[.string ⟨#[]⟩, .string ⟨#[]⟩, .string ⟨#[]⟩, .string ⟨#[]⟩, .string ⟨#[]⟩, .string ⟨#[]⟩, .string ⟨#[]⟩]) 7 112 Tryz.underlying27 Hi.out Hz0.out Hz1.out Hz2.out rfl (by omega) _ k (flatG pcells ((partsL L).take k)) rfl (World.ownsRow.alloc HOP.out _) ⟨WP.heap.size, 0, none⟩ 1 1 (pcells ⟨f0, f1, f2, f3, f4, f5, f6⟩) rfl rfl (cell_news WP 36 [.string f0, .string f1, .string f2, .string f3, .string f4, .string f5, .string f6]) (pcells_one _) (by unfold maxLen; omega) (by omega) (by simp; omega) ?_; intro v' w5 hown' hgrow _; obtain ⟨g', cap', rfl⟩ := ownsRow_succ hown'; have hrd : RoundP w.heap.size w1.heap.size (w3.heap.size + 1) 27 36 r W1 (.cells #[.string f0, .string f1, .string f2, .string f3, .string f4, .string f5, .string f6] 36) (.cells #[.string f0, .string f1, .string f2, .string f3, .string f4, .string f5, .string f6] 36) v k (flatG pcells ((partsL L).take k)) w5 (.slice (some ⟨g', 0, none⟩) (k + 1) cap') (flatG pcells ((partsL L).take k) ++ pcells ⟨f0, f1, f2, f3, f4, f5, f6⟩) := ⟨HG.out.lp, HV.out, HO.out, hown', by rw [HWP.out]; exact hgrow, by decide, hBo⟩; have HRD := Lib.hid hrd; have vc5 := hrd.bo5.cell; have vf5 := hrd.bo5.frozen; clear hown' hgrow hrd)
  refine ⟨_, _, run_endRound none (HRD.out.lp6 _), rfl, ?_, ?_⟩
  ·have hlr : ({ r with state := if (none : Option Code).isNone then LoopState.ready else .done, pending := none } : Loop) = r := by have h1 := Hst.out; have h2 := Hpe.out; cases r; simp_all
   have hx : flatG pcells ((partsL L).take k) ++ pcells ⟨f0, f1, f2, f3, f4, f5, f6⟩ = flatG pcells ((partsL L).take (k + 1)) := by
    rw [List.take_add_one, HP.out, Option.toList_some, flatG_snoc]
   refine ⟨HG.out.gl, HRD.out.below HG.out.low rfl (by have := Hb3.out.size; omega) (by have := Hb1.out.size; omega) _, HG.out.row, HRD.out.far _ HG.out.bl (by have := Hs3.out; omega) (by have := Hs2.out; omega) (fun cur e => by injection e with _ e; exact absurd e (by decide)), ⟨_, HRD.out.box _, ?_⟩, ?_, HRD.out.far _ HG.out.df (by omega) (by have := Hs3.out; have := Hs2.out; omega) (fun cur e => by cases e)⟩
   ·rw [← hx]; exact HRD.out.row _
   ·rw [HRD.out.loop, hlr]
  ·intro b cs hb
   have h1 : b ≠ w3.heap.size + 1 := by rintro rfl; have := HG.out.lp.symm.trans hb; cases this
   have h2 : b ≠ w1.heap.size := by
    rintro rfl
    have := (show W1.heap[w1.heap.size]? = _ from HV.out).symm.trans hb
    injection this with this
    injection this with _ e
    exact absurd e (by decide)
   exact HRD.out.far _ hb h1 h2 (fun cur e => by injection e with _ e; exact absurd e (by decide))
 ·rintro e W4 ⟨⟨v, rfl⟩, hG⟩
  obtain ⟨o5, ho5⟩ : ∃ o5 : Obj, o5 = .loop { r with state := .exhausted } := ⟨_, rfl⟩
  have hend := run_endLoop (P := Tryz.prog) hG.lp (by rw [hst]; decide)
  rw [← ho5] at hend
  clear ho5
  rw [hpe] at hend
  obtain ⟨v2, hv2, hown2⟩ := hG.bo
  have hnl : w1.heap.size ≠ w3.heap.size + 1 := by have := Hs3.out; have := Hs2.out; omega
  have b1 := boxed_put hv2 hnl o5
  have cB := b1.cell
  have hlp : w3.heap.size + 1 < W4.heap.size := (Array.getElem?_eq_some_iff.1 hG.lp).1
  have HB5 : Hid (Below w.heap.size w (W4.putObj (w3.heap.size + 1) o5)) := below_put hG.low (by have := Hb3.out.size; omega) _
  have HD5 : Hid ((W4.putObj (w3.heap.size + 1) o5).heap[w3.heap.size]? = some (.deferred (some []))) := (World.putObj_heap_other (by omega)).trans hG.df
  have HO5 : Hid (OutG pcells 36 7 w.heap.size (W4.putObj (w3.heap.size + 1) o5) v2 n (partsL L)) := by
   have hlen : (partsL L).length = n := by unfold partsL; rw [List.length_map]; exact HN.out
   refine ⟨hlen, ?_⟩
   have := ownsRow_putObj hown2 o5 hG.lp rfl
   rwa [List.take_of_length_le (Nat.le_of_eq hlen)] at this
  obtain ⟨W5, hW5⟩ : ∃ W5, W4.putObj (w3.heap.size + 1) o5 = W5 := ⟨_, rfl⟩
  rw [hW5] at hend cB HB5 HD5 HO5
  refine ⟨none, W5, hend, ?_⟩
  clear hr hG hst hpe b1 HS hW5 hend hv2 hown2
  gi_wp2_with fail
  refine ⟨by simp, .inl ⟨_, _, rfl, run_takeDeferred HD5.out, ?_⟩⟩
  refine ⟨_, results_tmp2 rfl _ _ _, v2, rfl, ⟨HO5.out.1, ownsRow_putObj HO5.out.2 _ HD5.out rfl⟩, below_put HB5.out (by have := Hb3.out.size; omega) _⟩
end Go.Proofs.YticfdeaphiifeaaGreatDoor
