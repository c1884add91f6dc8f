/- Allocation: Running. Conditions: up to twelve weights of bounded length, or more than 1000. -/
import Derived.Test.YtpipkeplhkccoaaGreatDoorWa
import Derived.Test.YtpipkeplhkccoaaGreatDoorEqI
import Derived.Test.YtpipkeplhkccoaaGreatDoorIe
import Derived.Test.YtpipkeplhkccoaaGreatDoorFa
import Derived.Test.YtpipkeplhkccoaaGreatDoorRjg
import Derived.RangeFuncNested
import Derived.RangeFuncBound
import Derived.RangeFuncCalls
import Derived.RangeFuncLeaves
import Derived.Shelf.Abstract
import Derived.Shelf.RegionOpen
import Derived.OwnWalkIn
import Derived.TacticsInMore
import Derived.LoopNIn
import Derived.LoopIn
import Derived.Sort.LoopGhostIn
import Derived.Deep.RegionHeld3
namespace Go.Proofs.YtpipkeplhkccoaaGreatDoor
open Go.RowKit Go.Shelf Dec QQ SP
attribute [local go_sem] Oper.semAt_some

theorem fdiv_fit {k : Nat} {a b : Int} (h : Fit k a) (hb : 0 ≤ b) : Fit k (a.fdiv b) := by
  unfold Fit
  rw [Int.fdiv_eq_ediv_of_nonneg _ hb]
  exact Nat.lt_of_le_of_lt (Int.natAbs_ediv_le_natAbs _ _) h
theorem infoI4 : (Tryz.prog.info? 22).map (fun i => (i.zero, i.size, i.bytes)) = some (some (.string ⟨#[]⟩), 1, 16) := by kernel_rfl
set_option maxRecDepth 100000 in
set_option maxHeartbeats 4000000 in
theorem begin4_any (A : Option Addr) (n c : Nat) (w : World) :
    Calls Tryz.prog 73 #[.slice A n c] w fun e w' => e = .returned (.func (.func 139) #[] #[.pointer (some ⟨w.heap.size, 0, none⟩)]) ∧ w' = w.alloc (.cells #[.slice A n c] 25) := by
  go_enter Tryz.func73, Tryz.ntmps73
  go_wp2
  go_ret
  exact ⟨rfl, rfl⟩
set_option maxRecDepth 100000 in
set_option maxHeartbeats 4000000 in
theorem begin4_in {ws : List ByteArray} {A : Option Addr} {n c k0 : Nat} (l0 Bl : Nat) (hn : ws.length = n) (h12 : n ≤ 12) (hk0 : k0 ≤ 5000) (hz : ∀ s ∈ ws, s.size ≤ k0) (Inv : Nat → World → Prop)
    (hG : ∀ k W, Inv k W → Gl W ∧ Row W A (ws.map sv) ∧ Boxed W Bl 25 (.slice A n c)) (hU : ∀ k W W', Inv k W → Below W.heap.size W W' → Inv k W')
    (hY : ∀ k W1, k < n → Inv k W1 → YieldAt Fence.wide 4 Tryz.prog l0 #[.string (canS ((iv ws).take (k + 1)).sum)] W1 fun e W' => e = .returned (.bool true) ∧ Inv (k + 1) W')
    (W : World) (h0 : Inv 0 W) :
    CallsIn Fence.wide 5 Tryz.prog 139 #[.func (.yield l0) #[] #[], .pointer (some ⟨Bl, 0, none⟩)] W fun en W' => (∃ v, en = .returned v) ∧ Inv n W' := by
  have HG := Lib.hid hG
  have HU := Lib.hid hU
  have HY := Lib.hid hY
  have HN := Lib.hid hn
  have HZ := Lib.hid hz
  have H0 := Lib.hid h0
  have HF : Hid (∀ k, Fit (k0 + 2) ((iv ws).take k).sum) := fun k => take_fit hz (by omega)
  have c0 := (hG 0 W h0).2.2.cell
  have HZ0 : Hid (canS ((iv ws).take 0).sum = ⟨#[]⟩) := canS_zero
  clear hG hU hY hn hz h0
  refine callsIn_of_wp Tryz.func139 rfl trivial ?_ rfl
  simp only [Tryz.ntmps139, List.size_toArray, List.length_cons, List.length_nil, Nat.reduceAdd, Nat.reduceSub, Array.replicate_succ, Array.replicate_zero, List.push_toArray, List.append_toArray, List.nil_append, List.cons_append]
  gi_wp2_with fail
  gi_loopw [8, 3] (fun s a wr => ∃ k : Nat, k ≤ n ∧ s = .int .i64 (k : Int) ∧ a = .string (canS ((iv ws).take k).sum) ∧ Hid (Inv k wr)) (fun s _ _ => (n - intOf s).toNat)
  case atStart => exact ⟨0, by omega, rfl, by rw [HZ0.out], H0.out⟩
  case round =>
    obtain ⟨k, hk, rfl, rfl, H⟩ := hrel
    by_cases hkn : k = n
    · subst hkn
      have q : decide ((k : Int) < (k : Int)) = false := decide_eq_false (by omega)
      gi_wp2_with fail
      go_end0
      exact ⟨⟨_, rfl⟩, H.out⟩
    · have hkl : k < n := by omega
      have q : decide ((k : Int) < (n : Int)) = true := decide_eq_true (by omega)
      have qn : decide (k < n) = true := decide_eq_true hkl
      obtain ⟨s, hd⟩ : ∃ s, ws[k]? = some s := ⟨ws[k]'(by rw [HN.out]; exact hkl), by simp⟩
      obtain ⟨b, o, hA, hb, hc⟩ := (HG.out _ _ H.out).2.1 k (sv s) (by rw [List.getElem?_map, hd]; rfl)
      subst hA
      have zs := HZ.out s (List.mem_of_getElem? hd)
      have K := AddR (Vs.can (HF.out k) (by omega)) (Vs.arg (s := s) (by omega))
      rw [← iv_sum_succ hd] at K
      unfold sv at hc
      have HYD := Lib.hid (fun W1 h => HY.out k W1 hkl h)
      generalize canS ((iv ws).take k).sum = a at *
      obtain ⟨a', ha'⟩ : ∃ v, canS ((iv ws).take (k + 1)).sum = v := ⟨_, rfl⟩
      rw [ha'] at K HYD
      have HA' := Lib.hid ha'
      clear hd ha' hkn zs
      gi_wp2_with fail
      refine ⟨trivial, (callsIn_wide.2 (K _ (HG.out _ _ H.out).1)).mono ?_⟩
      rintro e w1 ⟨rfl, hb1⟩
      have H1 := Lib.hid (HU.out _ _ _ H.out hb1)
      clear hc
      obtain ⟨fn, tmps, assign, body, hy, hRR⟩ := HYD.out _ H1.out
      have HRR := Lib.hid hRR
      clear hRR
      gi_wp2_with fail
      refine HRR.out.mono ?_
      rintro e W6 ⟨rfl, hn6⟩
      have HN6 := Lib.hid hn6
      clear hn6
      gi_wp2_with fail
      go_roundw
      case rel => exact ⟨k + 1, by omega, by go_num, by rw [HA'.out], HN6.out⟩
      case measure => simp [intOf]; omega
theorem own_sli {w : World} {base n size : Nat} {T : TypeId} {v : Value} {xs : List Value} (h : w.ownsRow base T size v n xs) : ∃ A c, v = .slice A n c := by
  rcases h.2 with ⟨rfl, rfl⟩ | ⟨g, cap, cur, rfl, _⟩
  · exact ⟨_, _, rfl⟩
  · exact ⟨_, _, rfl⟩
def CellsAtW (W : World) (b : Nat) (cs : Array Value) (t : TypeId) : Prop := W.heap[b]? = some (.cells cs t (0, 0))
theorem CellsAtW.bx {W : World} {b : Nat} {cs : Array Value} {t : TypeId} (h : CellsAtW W b cs t) : Bx W b cs := ⟨t, h⟩
theorem grown_cellW (W : World) (b i : Nat) (v : Value) : W.grownBy (W.setCell ⟨b, i, none⟩ v) (some b) :=
  ⟨rfl, rfl, rfl, by simp [World.setCell], fun k _ hk => Below.heap_setCell _ _ _ k (fun e => hk (by rw [e]))⟩
/-- a block that one round leaves as it was -/
theorem far7 {W1 wA w7 : World} {l0 b : Nat} {o o1 o2 : Obj} {row : Option Nat} (hb : W1.heap[b]? = some o) (h1 : b ≠ l0)
    (hA : Below (W1.putObj l0 o1).heap.size (W1.putObj l0 o1) wA) (hg : World.grownBy (wA.alloc o2) w7 row) (hne : some b ≠ row) : w7.heap[b]? = some o := by
  have e1 : (W1.putObj l0 o1).heap[b]? = some o := (World.putObj_heap_other h1).trans hb
  have e2 := (hA.block b (Array.getElem?_eq_some_iff.1 e1).1).trans e1
  have e3 : (wA.alloc o2).heap[b]? = some o := (Below.heap_alloc _ _ _ (Array.getElem?_eq_some_iff.1 e2).1).trans e2
  exact (hg.block b (Array.getElem?_eq_some_iff.1 e3).1 hne).trans e3
theorem far4 {w7 : World} {l0 B8 B9 b : Nat} {o o3 : Obj} {x v' : Value} (hb : w7.heap[b]? = some o) (h1 : b ≠ l0) (h8 : b ≠ B8) (h9 : b ≠ B9) : (((w7.setCell ⟨B9, 0, none⟩ v').setCell ⟨B8, 0, none⟩ x).putObj l0 o3).heap[b]? = some o :=
  (World.putObj_heap_other h1).trans ((Below.heap_setCell _ _ _ _ h8).trans ((Below.heap_setCell _ _ _ _ h9).trans hb))
theorem setW {W : World} {b : Nat} {cs : Array Value} {t : TypeId} (h : W.heap[b]? = some (.cells cs t (0, 0))) (i : Nat) (v : Value) : (W.setCell ⟨b, i, none⟩ v).heap[b]? = some (.cells (cs.setIfInBounds i v) t (0, 0)) := by
  simp [World.setCell, Array.getElem?_modify, h]
/-- the blocks of a run -/
structure Blk4 where
  B2 : Nat
  B7 : Nat
  B8 : Nat
  B9 : Nat
  Bl : Nat
  D : Nat
  l0 : Nat
/-- between two rounds -/
structure PS4 (w : World) (t : ByteArray) (ws : List ByteArray) (A : Option Addr) (n c : Nat) (B : Blk4) (rec : Loop) (k : Nat) (W : World) : Prop where
  gl : Gl w
  low : Below w.heap.size w W
  row : Row w A (ws.map sv)
  b2 : CellsAtW W B.B2 #[.string t] 22
  b7 : CellsAtW W B.B7 #[.string (canS (iv ws).sum)] 22
  b8 : CellsAtW W B.B8 #[.string (canS (runQ (valS t) (iv ws) k))] 22
  bl : CellsAtW W B.Bl #[.slice A n c] 25
  bo : ∃ v, Boxed W B.B9 25 v ∧ W.ownsRow (B.l0 + 1) 22 1 v k (flatG icells (runL (valS t) (iv ws) k))
  lp : W.heap[B.l0]? = some (.loop rec)
  df : W.heap[B.D]? = some (.deferred (some []))
theorem PS4.up {w : World} {t : ByteArray} {ws : List ByteArray} {A : Option Addr} {n c k : Nat} {B : Blk4} {rec : Loop} {W W' : World} (h : PS4 w t ws A n c B rec k W) (hb : Below W.heap.size W W') : PS4 w t ws A n c B rec k W' := by
  obtain ⟨v, h1, h2⟩ := h.bo
  have on : ∀ {b : Nat} {o : Obj}, W.heap[b]? = some o → W'.heap[b]? = some o := fun h => (hb.block _ (Array.getElem?_eq_some_iff.1 h).1).trans h
  exact ⟨h.gl, h.low.trans (hb.mono h.low.size), h.row, on h.b2, on h.b7, on h.b8, on h.bl, ⟨v, boxed_below h1 hb, own_below h2 hb⟩, on h.lp, on h.df⟩
set_option maxRecDepth 100000 in
set_option maxHeartbeats 4000000 in
theorem run4_few {A : Option Addr} {n c k0 : Nat} {t : ByteArray} {ws : List ByteArray} (hn : ws.length = n) (h12 : n ≤ 12) (hk0 : k0 ≤ 5000) (ht : t.size ≤ k0) (hz : ∀ s ∈ ws, s.size ≤ k0) (he : alE t ws = 0)
    (w : World) (hg : Gl w) (hr : Row w A (ws.map sv)) :
    Calls Tryz.prog 22 #[.string t, .slice A n c] w fun e w' => ∃ v, e = .returned (.tuple #[v, .int .i64 0]) ∧ OutG icells 22 1 w.heap.size w' v n (runL (valS t) (iv ws) n) ∧ Below w.heap.size w w' := by
  have Hg := Lib.hid hg
  have Hr := Lib.hid hr
  have HN := Lib.hid hn
  have HZ := Lib.hid hz
  have HT := Lib.hid ht
  have HO := Lib.hid (alE_zero.1 he)
  have K1 := alchk_any (A := A) (c := c) hn (.inl h12) (by omega) hk0 ht hz
  rw [he] at K1
  have K2 := whole_any (A := A) (c := c) hn h12 hk0 hz
  have HQ0 : Hid (canS (runQ (valS t) (iv ws) 0) = ⟨#[]⟩) := by show _ = _; rw [runQ_zero]; exact canS_zero
  have HFS : Hid (∀ k, Fit (k0 + 2) ((iv ws).take k).sum ∧ Fit (k0 + 2) (iv ws).sum) := fun k => ⟨take_fit hz (by omega), whole_fit hz (by omega)⟩
  obtain ⟨al, hal⟩ : ∃ v, canS (iv ws).sum = v := ⟨_, rfl⟩
  rw [hal] at K2
  have HAL := Lib.hid hal
  have hs := (St.refl hg).alloc (.cells #[.string t] 22)
  have X2 := Bx.new w #[.string t] 22
  have HC2 : Hid (CellsAtW (w.alloc (.cells #[.string t] 22)) w.heap.size #[.string t] 22) := heap_new w _
  have x2 := X2.cell (i := 0) (v := .string t) rfl
  clear hg hr hn hz ht he hal
  refine (callsIn_wide (n := 6)).1 ?_
  refine callsIn_of_wp_marks Tryz.func22 rfl trivial ?_ rfl
  simp only [Tryz.ntmps22, List.size_toArray, List.length_cons, List.length_nil, Nat.reduceAdd, Nat.reduceSub, Array.replicate_succ, Array.replicate_zero, List.push_toArray, List.append_toArray, List.nil_append, List.cons_append]
  gi_wp2_with fail
  refine ⟨trivial, (callsIn_wide.2 (K1 _ hs.gl (Hr.out.on hs.2))).mono ?_⟩
  rintro e w1 ⟨rfl, hb⟩
  replace hs := hs.on hb
  replace X2 := X2.on hb
  clear x2
  have x2 := X2.cell (i := 0) (v := .string t) rfl
  have HC2 := Lib.hid ((hb.block _ (Array.getElem?_eq_some_iff.1 HC2.out).1).trans HC2.out)
  gi_wp2_with fail
  refine ⟨trivial, (callsIn_wide.2 (K2 _ hs.gl (Hr.out.on hs.2))).mono ?_⟩
  rintro e w2 ⟨rfl, hb⟩
  replace hs := hs.on hb
  replace X2 := X2.on hb
  clear x2
  have x2 := X2.cell (i := 0) (v := .string t) rfl
  have HC2 := Lib.hid ((hb.block _ (Array.getElem?_eq_some_iff.1 HC2.out).1).trans HC2.out)
  clear hb x2
  gi_wp2_with fail
  have hl2 : w.heap.size < w2.heap.size := X2.lt
  have C7 : Hid (((w2.alloc (.cells #[.string al] 22)).alloc (.cells #[.string ⟨#[]⟩] 22)).alloc (.cells #[.slice none 0 0] 25) = ((w2.alloc (.cells #[.string al] 22)).alloc (.cells #[.string ⟨#[]⟩] 22)).alloc (.cells #[.slice none 0 0] 25)) := rfl
  clear C7
  have hb25 : Below w2.heap.size w2 (((w2.alloc (.cells #[.string al] 22)).alloc (.cells #[.string ⟨#[]⟩] 22)).alloc (.cells #[.slice none 0 0] 25)) := (((Below.refl _ _).alloc (Nat.le_refl _) _).alloc (by simp) _).alloc (by simp; omega) _
  have C7 : CellsAtW (((w2.alloc (.cells #[.string al] 22)).alloc (.cells #[.string ⟨#[]⟩] 22)).alloc (.cells #[.slice none 0 0] 25)) w2.heap.size #[.string al] 22 :=
    (Below.heap_alloc _ _ _ (by simp <;> omega)).trans ((Below.heap_alloc _ _ _ (by simp)).trans (heap_new w2 _))
  have C8 : CellsAtW (((w2.alloc (.cells #[.string al] 22)).alloc (.cells #[.string ⟨#[]⟩] 22)).alloc (.cells #[.slice none 0 0] 25)) (w2.heap.size + 1) #[.string ⟨#[]⟩] 22 := by
    have := heap_new (w2.alloc (.cells #[.string al] 22)) (.cells #[.string ⟨#[]⟩] 22)
    rw [World.size_alloc] at this
    exact (Below.heap_alloc _ _ _ (by simp)).trans this
  have C9 : CellsAtW (((w2.alloc (.cells #[.string al] 22)).alloc (.cells #[.string ⟨#[]⟩] 22)).alloc (.cells #[.slice none 0 0] 25)) (w2.heap.size + 2) #[.slice none 0 0] 25 := by
    have := heap_new ((w2.alloc (.cells #[.string al] 22)).alloc (.cells #[.string ⟨#[]⟩] 22)) (.cells #[.slice none 0 0] 25)
    rwa [World.size_alloc, World.size_alloc] at this
  have HC2 := Lib.hid ((hb25.block _ (Array.getElem?_eq_some_iff.1 HC2.out).1).trans HC2.out)
  have HS5 := Lib.hid (hs.2.trans (hb25.mono hs.2.size))
  have hz5 : (((w2.alloc (.cells #[.string al] 22)).alloc (.cells #[.string ⟨#[]⟩] 22)).alloc (.cells #[.slice none 0 0] 25)).heap.size = w2.heap.size + 3 := by simp
  generalize ((w2.alloc (.cells #[.string al] 22)).alloc (.cells #[.string ⟨#[]⟩] 22)).alloc (.cells #[.slice none 0 0] 25) = w5 at *
  refine ⟨trivial, (callsIn_wide.2 (begin4_any A n c w5)).mono ?_⟩
  rintro e w6 ⟨rfl, hw6⟩
  have hb56 : Below w5.heap.size w5 w6 := by rw [hw6]; exact (Below.refl _ _).alloc (Nat.le_refl _) _
  have hs6 : w6.heap.size = w5.heap.size + 1 := by rw [hw6]; simp
  have CL6 : CellsAtW w6 w5.heap.size #[.slice A n c] 25 := by rw [hw6]; exact heap_new w5 _
  have on6 : ∀ {b : Nat} {o : Obj}, w5.heap[b]? = some o → w6.heap[b]? = some o := fun h => (hb56.block _ (Array.getElem?_eq_some_iff.1 h).1).trans h
  have H6 : Hid (CellsAtW w6 w.heap.size #[.string t] 22 ∧ CellsAtW w6 w2.heap.size #[.string al] 22 ∧ CellsAtW w6 (w2.heap.size + 1) #[.string ⟨#[]⟩] 22 ∧ CellsAtW w6 (w2.heap.size + 2) #[.slice none 0 0] 25 ∧ CellsAtW w6 w5.heap.size #[.slice A n c] 25) := ⟨on6 HC2.out, on6 C7, on6 C8, on6 C9, CL6⟩
  have HB6 := Lib.hid (HS5.out.trans (hb56.mono HS5.out.size))
  have hs6' : w6.heap.size = w2.heap.size + 4 := by omega
  rw [hz5] at H6 ⊢
  clear hw6 hb56 CL6 on6 C7 C8 C9 HC2 HS5 hz5 hs6 hb25 X2 hs
  generalize w2.heap.size = B7 at *
  gi_wp2_with fail
  refine range_call rfl (by omega) rfl trivial (enters_of Tryz.func139 (by kernel_rfl) rfl) ?_
  intro fn hfn r hr
  have hst : r.state = .ready := by rw [hr]
  have hpe : r.pending = none := by rw [hr]
  have hB7 : w.heap.size < B7 := hl2
  have HS : Hid (PS4 w t ws A n c ⟨w.heap.size, B7, B7 + 1, B7 + 2, B7 + 3, w6.heap.size, w6.heap.size + 1⟩ r 0 ((w6.alloc (.deferred (some []))).alloc (.loop r))) := by
    have hbb : Below w6.heap.size w6 ((w6.alloc (.deferred (some []))).alloc (.loop r)) := ((Below.refl _ _).alloc (Nat.le_refl _) _).alloc (by simp) _
    have on : ∀ {b : Nat} {o : Obj}, w6.heap[b]? = some o → ((w6.alloc (.deferred (some []))).alloc (.loop r)).heap[b]? = some o := fun h => (hbb.block _ (Array.getElem?_eq_some_iff.1 h).1).trans h
    refine ⟨Hg.out, HB6.out.trans (hbb.mono HB6.out.size), Hr.out, on H6.out.1, ?_, ?_, on H6.out.2.2.2.2, ⟨.slice none 0 0, on H6.out.2.2.2.1, World.ownsRow_nil _ _ _ _⟩, ?_, ?_⟩
    · show _ = _
      rw [HAL.out]
      exact on H6.out.2.1
    · show _ = _
      rw [HQ0.out]
      exact on H6.out.2.2.1
    · have := World.alloc_heap_new (w6.alloc (.deferred (some []))) (.loop r)
      rwa [World.size_alloc] at this
    · exact (Below.heap_alloc _ _ _ (by simp)).trans (World.alloc_heap_new w6 _)
  have hcall := begin4_in (A := A) (n := n) (c := c) (ws := ws) (k0 := k0) (w6.heap.size + 1) (B7 + 3) HN.out h12 hk0 HZ.out (fun k W => PS4 w t ws A n c ⟨w.heap.size, B7, B7 + 1, B7 + 2, B7 + 3, w6.heap.size, w6.heap.size + 1⟩ r k W)
    (fun k W h => ⟨h.gl.below h.low, h.row.on h.low, h.bl⟩) (fun k W W' h hb => h.up hb)
  refine (hcall ?_ _ HS.out).mono ?_
  · intro k W1 hk hG
    have hlp : W1.heap[w6.heap.size + 1]? = some (.loop r) := hG.lp
    have hy := run_yield (P := Tryz.prog) (args := #[.string (canS ((iv ws).take (k + 1)).sum)]) hlp (by rw [hr]; rfl)
    refine ⟨_, _, _, _, hy, roundIn_of_wpIn (by rw [hr]; exact hfn) ?_⟩
    have e1 := congrArg Loop.assign hr
    have e2 := congrArg Loop.body hr
    have e3 := congrArg Loop.tmps hr
    have e4 := congrArg Loop.params hr
    dsimp only at e1 e2 e3 e4
    rw [e1, e2, e3, e4]
    have HG := Lib.hid hG
    have Hst := Lib.hid hst
    have Hpe := Lib.hid hpe
    have HCL : Hid (runL (valS t) (iv ws) (k + 1) = runL (valS t) (iv ws) k ++ [runQ (valS t) (iv ws) (k + 1) - runQ (valS t) (iv ws) k]) := runL_succ _ _ _
    have hS : (iv ws).sum ≠ 0 := by have := HO.out.ok.pos; omega
    have fT : Fit k0 (valS t) := Fit.val HT.out
    have fm := fT.mul (HFS.out (k + 1)).1
    have fqk : ∀ j, Fit (k0 + (k0 + 2)) (runQ (valS t) (iv ws) j) := fun j => fdiv_fit (fT.mul (HFS.out j).1) (by have := HO.out.ok.pos; omega)
    have KM := MulR (Vs.arg (s := t) (by have := HT.out; omega)) (Vs.can (HFS.out (k + 1)).1 (by omega))
    have KD := DivR (Vs.can fm (by omega)) (Vs.can (HFS.out 0).2 (by omega)) hS
    have KS := SubR (Vs.can (fqk (k + 1)) (by omega)) (Vs.can (fqk k) (by omega))
    change Ret _ _ (.tuple #[.string (canS (runQ (valS t) (iv ws) (k + 1))), _, _]) at KD
    rw [HAL.out] at KD
    clear e1 e2 e3 e4 hr hy hG hst hpe HS hlp hcall hS fT fm fqk
    generalize canS ((iv ws).take (k + 1)).sum = sk at *
    obtain ⟨bf, hbf⟩ : ∃ x, canS (runQ (valS t) (iv ws) k) = x := ⟨_, rfl⟩
    obtain ⟨qd, hqd⟩ : ∃ x, canS (runQ (valS t) (iv ws) (k + 1)) = x := ⟨_, rfl⟩
    obtain ⟨zd, hzd⟩ : ∃ x, canS (runQ (valS t) (iv ws) (k + 1) - runQ (valS t) (iv ws) k) = x := ⟨_, rfl⟩
    rw [hbf, hqd, hzd] at KS
    rw [hqd] at KD
    have HQD := Lib.hid hqd
    have HBF := Lib.hid hbf
    have HZD := Lib.hid hzd
    clear hbf hqd hzd
    gi_wp2_with fail
    refine ⟨_, run_beginRound HG.out.lp Hst.out, ?_⟩
    obtain ⟨v, hv, hown⟩ := HG.out.bo
    have hlp2 : W1.heap[w6.heap.size + 1]? = some (.loop r) := HG.out.lp
    have HFL : Hid (CellsAtW W1 (B7 + 1) #[.string bf] 22 ∧ CellsAtW W1 (B7 + 2) #[v] 25) := by
      refine ⟨?_, hv⟩
      have := HG.out.b8
      rwa [HBF.out] at this
    obtain ⟨l0, hl0⟩ : ∃ l, w6.heap.size + 1 = l := ⟨_, rfl⟩
    have HL0 := Lib.hid hl0
    have hown : W1.ownsRow (l0 + 1) 22 1 v k (flatG icells (runL (valS t) (iv ws) k)) := by rw [← hl0]; exact hown
    rw [hl0] at hlp2 ⊢
    have hlb : B7 + 5 = l0 := by omega
    clear hl0
    have HLP2 := Lib.hid hlp2
    have hl8 : l0 ≠ B7 + 1 := by omega
    have hl9 : l0 ≠ B7 + 2 := by omega
    have h89 : B7 + 1 ≠ B7 + 2 := by omega
    have hw8 : w.heap.size ≤ B7 + 1 := by omega
    have hw9 : w.heap.size ≤ B7 + 2 := by omega
    have hwl : w.heap.size ≤ l0 := by omega
    have X2 : Bx (W1.putObj l0 (.loop { r with state := .busy })) w.heap.size #[.string t] := ⟨_, (World.putObj_heap_other (by omega)).trans HG.out.b2⟩
    have X7 : Bx (W1.putObj l0 (.loop { r with state := .busy })) B7 #[.string al] := ⟨_, (World.putObj_heap_other (by omega)).trans (by have := HG.out.b7; rwa [HAL.out] at this)⟩
    have X8 : Bx (W1.putObj l0 (.loop { r with state := .busy })) (B7 + 1) #[.string bf] := ⟨_, (World.putObj_heap_other (by omega)).trans HFL.out.1⟩
    have X9 : Bx (W1.putObj l0 (.loop { r with state := .busy })) (B7 + 2) #[v] := ⟨_, (World.putObj_heap_other (by omega)).trans HFL.out.2⟩
    have HOP0 : Hid (World.ownsRow (W1.putObj l0 (.loop { r with state := .busy })) (l0 + 1) 22 1 v k (flatG icells (runL (valS t) (iv ws) k))) := ownsRow_putObj hown _ HLP2.out rfl
    have hs0 : St w (W1.putObj l0 (.loop { r with state := .busy })) := ⟨HG.out.gl, below_put HG.out.low hwl _⟩
    have HLB0 : Hid ((W1.putObj l0 (.loop { r with state := .busy })).heap[l0]? = some (.loop { r with state := .busy })) := World.putObj_heap_same (Array.getElem?_eq_some_iff.1 HLP2.out).1
    have hlv : l0 < (W1.putObj l0 (.loop { r with state := .busy })).heap.size := (Array.getElem?_eq_some_iff.1 HLB0.out).1
    obtain ⟨WP0, hWP⟩ : ∃ WP, W1.putObj l0 (.loop { r with state := .busy }) = WP := ⟨_, rfl⟩
    have HWP := Lib.hid hWP
    rw [hWP] at X2 X7 X8 X9 HOP0 hs0 HLB0 hlv ⊢
    clear hWP hv hown hlp2
    generalize runL (valS t) (iv ws) k = CL at *
    have k2 := X2.keeps (i := 0) (v := .string t) rfl
    have k7 := X7.keeps (i := 0) (v := .string al) rfl
    gi_wp2_with fail
    refine wpIn_region_kept (by kernel_rfl) (by kernel_rfl) (by kernel_rfl) ?_
    repeat (go_big_quiet_step (first | (with_reducible exact KM.kept hs0) | (with_reducible exact KD.kept hs0)))
    refine wpQuiet_nil ?_
    rintro _ ⟨u8_, rfl⟩
    have lowQ := u8_.low
    have hsP := hs0.kept u8_
    replace X8 := X8.kept u8_
    replace X9 := X9.kept u8_
    have HOP := Lib.hid (own_below HOP0.out lowQ)
    have HLB := Lib.hid ((lowQ.block _ (Array.getElem?_eq_some_iff.1 HLB0.out).1).trans HLB0.out)
    have hlv2 : l0 < u8_.W.heap.size := by have := lowQ.size; omega
    clear k2 k7 X2 X7 HOP0 HLB0 KM KD
    generalize u8_.W = WP at *
    clear u8_
    obtain ⟨i0, hi, hz0, hz1, hz2⟩ := info_parts infoI4
    have Hi := Lib.hid hi
    have Hz0 := Lib.hid hz0
    have Hz1 := Lib.hid hz1
    have Hz2 := Lib.hid hz2
    clear hi hz0 hz1 hz2
    have low0 : Below WP.heap.size WP WP := Below.refl _ _
    have c9P := X9.cell (i := 0) (v := v) rfl
    gi_wp2_with fail
    refine wpIn_region_held (S := fun w' => w'.cell? ⟨B7 + 1, 0, none⟩ = some (.string bf)) (by kernel_rfl) (by kernel_rfl) ?_ (fun hHeld => ?_)
    · try dsimp only
      first | exact X8.cell (i := 0) rfl | exact X8.drew.cell (i := 0) rfl
    refine wpAnyH_take (i := 1) (v := ?vv1) rfl (by kernel_rfl) (by kernel_rfl) (by kernel_rfl) (fun _ _ _ h => h) (Or.inl ⟨by rfl, ?hy1⟩) (by assumption) ?rest1
    case hy1 =>
      intro w hSw
      try dsimp only at hSw
      go_simp
      try with_reducible rfl
    try simp only [Act.put]
    try simp only [List.setIfInBounds_toArray]
    try simp only [List.set_cons_succ]
    try simp only [List.set_cons_zero]
    refine wpAnyH_take (i := 2) (v := ?vv2) rfl (by kernel_rfl) (by kernel_rfl) (by kernel_rfl) (fun _ _ _ h => h) (Or.inl ⟨by rfl, ?hy2⟩) (by assumption) ?rest2
    case hy2 =>
      intro w hSw
      try dsimp only at hSw
      go_simp
      try with_reducible rfl
    try simp only [Act.put]
    try simp only [List.setIfInBounds_toArray]
    try simp only [List.set_cons_succ]
    try simp only [List.set_cons_zero]
    refine wpAnyH_ready (rs := [0, 3]) (by kernel_rfl) (by simp) ?_
    refine AllReadyH.cons rfl (fun K hK => ?_) (AllReadyH.cons rfl (fun K hK => ?_) AllReadyH.nil)
    · skip
      go_simp
      refine hK.out _ _ ?_ (fun hHeld => ?_)
      · try dsimp only
        first | exact X8.cell (i := 0) rfl | exact X8.drew.cell (i := 0) rfl
      clear hK K
      try simp only [Act.put]
      try simp only [List.setIfInBounds_toArray]
      try simp only [List.set_cons_succ]
      try simp only [List.set_cons_zero]
      refine wpAnyH_ready (rs := [3]) (by kernel_rfl) (by simp) ?_
      refine AllReadyH.cons rfl (fun K hK => ?_) AllReadyH.nil
      go_simp
      with_reducible refine KS.step (by first | with_reducible exact hsP.drew | with_reducible exact hsP) ?_
      intro wA hsA hbA
      have lowA : Below WP.heap.size WP wA := (by first | with_reducible exact hbA | exact (Below.refl _ WP).drew.trans hbA)
      have X8A := X8.on lowA
      have X9A := X9.on lowA
      have c9A := X9A.cell (i := 0) (v := v) rfl
      try go_wp2_with fail
      refine hK.out _ _ ?_ (fun hHeld => ?_)
      · try dsimp only
        first | exact X8A.cell (i := 0) rfl | exact X8A.drew.cell (i := 0) rfl
      clear hK K
      try simp only [Act.put]
      try simp only [List.setIfInBounds_toArray]
      try simp only [List.set_cons_succ]
      try simp only [List.set_cons_zero]
      refine wpAnyH_ready (rs := [4]) (by kernel_rfl) (by simp) ?_
      refine AllReadyH.cons rfl (fun K hK => ?_) AllReadyH.nil
      go_simp
      refine hK.out _ _ ?_ (fun hHeld => ?_)
      · try dsimp only
        first | exact (X8A.alloc _).cell (i := 0) rfl | exact (X8A.alloc _).drew.cell (i := 0) rfl
      clear hK K
      try simp only [Act.put]
      try simp only [List.setIfInBounds_toArray]
      try simp only [List.set_cons_succ]
      try simp only [List.set_cons_zero]
      have c9B := (X9A.alloc (.cells #[.string zd] 22)).cell (i := 0) (v := v) rfl
      refine wpAnyH_ready (rs := [5]) (by kernel_rfl) (by simp) ?_
      refine AllReadyH.cons rfl (fun K hK => ?_) AllReadyH.nil
      refine step_append_any _ (by rfl) (.tmp 34) (.tmp 38) 25 (by rfl) (l0 + 1) 22 i0 (.string ⟨#[]⟩) 1 16 (by kernel_rfl) Hi.out Hz0.out Hz1.out Hz2.out rfl (by omega) v k (flatG icells CL) (by rfl) ((own_below HOP.out lowA).alloc _) (wA.heap.size + 1) (some ⟨wA.heap.size, 0, none⟩) 1 1 [.string zd] (by rfl) (reads_row wA 22 [.string zd]) (by intro u hu; simp at hu; subst hu; rfl) (by unfold maxLen; omega) (by omega) (by have := lowA.size; simp; omega) ?_
      intro v7 w7 hown7 hg7 _
      obtain ⟨A7, c7, hv7⟩ := own_sli hown7
      subst hv7
      have X8B := (X8A.alloc (.cells #[.string zd] 22)).grown hg7 (fun e => by have := (HOP.out.lt _ e.symm).1; omega)
      have X9B := (X9A.alloc (.cells #[.string zd] 22)).grown hg7 (fun e => by have := (HOP.out.lt _ e.symm).1; omega)
      have f9 := X9B.frozen 0
      have c9C := X9B.cell (i := 0) (v := v) rfl
      have HO7 := Lib.hid hown7
      have HG7 := Lib.hid hg7
      clear hown7 hg7
      refine hK.out _ _ ?_ (fun hHeld => ?_)
      · try dsimp only
        first | exact X8B.cell (i := 0) rfl | exact X8B.drew.cell (i := 0) rfl
      clear hK K
      try simp only [Act.put]
      try simp only [List.setIfInBounds_toArray]
      try simp only [List.set_cons_succ]
      try simp only [List.set_cons_zero]
      refine wpAnyH_ready (rs := [6]) (by kernel_rfl) (by simp) ?_
      refine AllReadyH.cons rfl (fun K hK => ?_) AllReadyH.nil
      go_simp
      refine hK.out _ _ ?_ (fun hHeld => ?_)
      · try dsimp only
        first | exact (X8B.other h89 0 (.slice A7 (k + 1) c7)).cell (i := 0) rfl | exact (X8B.other h89 0 (.slice A7 (k + 1) c7)).drew.cell (i := 0) rfl
      clear hK K
      try simp only [Act.put]
      try simp only [List.setIfInBounds_toArray]
      try simp only [List.set_cons_succ]
      try simp only [List.set_cons_zero]
      refine wpAnyH_done (by kernel_rfl) ?_ _
      refine OnlyN.normal ?_
      have f8 := (X8B.other h89 0 (.slice A7 (k + 1) c7)).frozen 0
      have c8 := (X8B.other h89 0 (.slice A7 (k + 1) c7)).cell (i := 0) (v := .string bf) rfl
      gi_wp2_with fail
      have hlA : Below (W1.putObj l0 (.loop { r with state := .busy })).heap.size (W1.putObj l0 (.loop { r with state := .busy })) wA := by rw [HWP.out]; exact lowQ.trans (lowA.mono lowQ.size)
      have hlo : ∀ {b : Nat}, b ≤ l0 → some b ≠ v.ownBlock := fun hb e => by have := (HOP.out.lt _ e.symm).1; omega
      have hlw7 : w7.heap[l0]? = some (.loop { r with state := .busy }) := by
        have e1 : WP.heap[l0]? = some (.loop { r with state := .busy }) := HLB.out
        have e2 := (lowA.block _ (Array.getElem?_eq_some_iff.1 e1).1).trans e1
        have e3 : (wA.alloc (.cells #[.string zd] 22)).heap[l0]? = some (.loop { r with state := .busy }) := (Below.heap_alloc _ _ _ (Array.getElem?_eq_some_iff.1 e2).1).trans e2
        exact (HG7.out.block _ (Array.getElem?_eq_some_iff.1 e3).1 (hlo (Nat.le_refl _))).trans e3
      have hlpB : ((w7.setCell ⟨B7 + 2, 0, none⟩ (.slice A7 (k + 1) c7)).setCell ⟨B7 + 1, 0, none⟩ (.string qd)).heap[l0]? = some (.loop { r with state := .busy }) :=
        (Below.heap_setCell _ _ _ _ hl8).trans ((Below.heap_setCell _ _ _ _ hl9).trans hlw7)
      refine ⟨_, _, run_endRound none hlpB, rfl, ?_⟩
      have hlr : ({ r with state := if (none : Option Code).isNone then LoopState.ready else .done, pending := none } : Loop) = r := by have h1 := Hst.out; have h2 := Hpe.out; cases r; simp_all
      rw [hlr]
      have hlow : Below w.heap.size w (((w7.setCell ⟨B7 + 2, 0, none⟩ (.slice A7 (k + 1) c7)).setCell ⟨B7 + 1, 0, none⟩ (.string qd)).putObj l0 (.loop r)) := by
        have b1 := below_put HG.out.low hwl (.loop { r with state := .busy })
        have b2 := b1.trans (hlA.mono b1.size)
        have b3 := b2.alloc b2.size (.cells #[.string zd] 22)
        have b4 := b3.grown HG7.out b3.size (fun g hg => by have := (HOP.out.lt g hg).1; omega)
        exact below_put ((b4.setCell (p := ⟨B7 + 2, 0, none⟩) hw9 _).setCell (p := ⟨B7 + 1, 0, none⟩) hw8 _) hwl _
      have hL0 := HL0.out
      refine ⟨HG.out.gl, hlow, HG.out.row, ?_, ?_, ?_, ?_, ⟨(.slice A7 (k + 1) c7), ?_, ?_⟩, ?_, ?_⟩
      all_goals try dsimp only
      · exact far4 (far7 HG.out.b2 (by omega) hlA HG7.out (hlo (by omega))) (by omega) (by omega) (by omega)
      · exact far4 (far7 HG.out.b7 (by omega) hlA HG7.out (hlo (by omega))) (by omega) (by omega) (by omega)
      · show _ = _
        rw [HQD.out]
        exact (World.putObj_heap_other (by omega)).trans (setW ((Below.heap_setCell _ _ _ _ h89).trans (far7 HFL.out.1 (by omega) hlA HG7.out (hlo (by omega)))) 0 (.string qd))
      · exact far4 (far7 HG.out.bl (by omega) hlA HG7.out (hlo (by omega))) (by omega) (by omega) (by omega)
      · exact (World.putObj_heap_other (by omega)).trans ((Below.heap_setCell _ _ _ _ h89.symm).trans (setW (far7 HFL.out.2 (by omega) hlA HG7.out (hlo (by omega))) 0 (.slice A7 (k + 1) c7)))
      · rw [HCL.out, flatG_snoc]
        have e : icells (runQ (valS t) (iv ws) (k + 1) - runQ (valS t) (iv ws) k) = [.string zd] := by unfold icells; rw [HZD.out]
        rw [e]
        exact ownsRow_putObj ((HO7.out.kept (grown_cellW _ (B7 + 2) 0 _) (.inr (fun e => by have := (HO7.out.lt _ e).1; omega))).kept (grown_cellW _ (B7 + 1) 0 _) (.inr (fun e => by have := (HO7.out.lt _ e).1; omega))) _ hlpB rfl
      · show _ = _
        have := World.putObj_heap_same (o := Obj.loop r) (Array.getElem?_eq_some_iff.1 hlpB).1
        rwa [← hL0] at this ⊢
      · have hd : W1.heap[w6.heap.size]? = some (.deferred (some [])) := HG.out.df
        exact far4 (far7 hd (by omega) hlA HG7.out (hlo (by omega))) (by omega) (by omega) (by omega)
    · skip
      go_simp
      with_reducible refine KS.step (by first | with_reducible exact hsP.drew | with_reducible exact hsP) ?_
      intro wA hsA hbA
      have lowA : Below WP.heap.size WP wA := (by first | with_reducible exact hbA | exact (Below.refl _ WP).drew.trans hbA)
      have X8A := X8.on lowA
      have X9A := X9.on lowA
      have c9A := X9A.cell (i := 0) (v := v) rfl
      try go_wp2_with fail
      refine hK.out _ _ ?_ (fun hHeld => ?_)
      · try dsimp only
        first | exact X8A.cell (i := 0) rfl | exact X8A.drew.cell (i := 0) rfl
      clear hK K
      try simp only [Act.put]
      try simp only [List.setIfInBounds_toArray]
      try simp only [List.set_cons_succ]
      try simp only [List.set_cons_zero]
      refine wpAnyH_ready (rs := [0, 4]) (by kernel_rfl) (by simp) ?_
      refine AllReadyH.cons rfl (fun K hK => ?_) (AllReadyH.cons rfl (fun K hK => ?_) AllReadyH.nil)
      · skip
        go_simp
        refine hK.out _ _ ?_ (fun hHeld => ?_)
        · try dsimp only
          first | exact X8A.cell (i := 0) rfl | exact X8A.drew.cell (i := 0) rfl
        clear hK K
        try simp only [Act.put]
        try simp only [List.setIfInBounds_toArray]
        try simp only [List.set_cons_succ]
        try simp only [List.set_cons_zero]
        refine wpAnyH_ready (rs := [4]) (by kernel_rfl) (by simp) ?_
        refine AllReadyH.cons rfl (fun K hK => ?_) AllReadyH.nil
        go_simp
        refine hK.out _ _ ?_ (fun hHeld => ?_)
        · try dsimp only
          first | exact (X8A.alloc _).cell (i := 0) rfl | exact (X8A.alloc _).drew.cell (i := 0) rfl
        clear hK K
        try simp only [Act.put]
        try simp only [List.setIfInBounds_toArray]
        try simp only [List.set_cons_succ]
        try simp only [List.set_cons_zero]
        have c9B := (X9A.alloc (.cells #[.string zd] 22)).cell (i := 0) (v := v) rfl
        refine wpAnyH_ready (rs := [5]) (by kernel_rfl) (by simp) ?_
        refine AllReadyH.cons rfl (fun K hK => ?_) AllReadyH.nil
        refine step_append_any _ (by rfl) (.tmp 34) (.tmp 38) 25 (by rfl) (l0 + 1) 22 i0 (.string ⟨#[]⟩) 1 16 (by kernel_rfl) Hi.out Hz0.out Hz1.out Hz2.out rfl (by omega) v k (flatG icells CL) (by rfl) ((own_below HOP.out lowA).alloc _) (wA.heap.size + 1) (some ⟨wA.heap.size, 0, none⟩) 1 1 [.string zd] (by rfl) (reads_row wA 22 [.string zd]) (by intro u hu; simp at hu; subst hu; rfl) (by unfold maxLen; omega) (by omega) (by have := lowA.size; simp; omega) ?_
        intro v7 w7 hown7 hg7 _
        obtain ⟨A7, c7, hv7⟩ := own_sli hown7
        subst hv7
        have X8B := (X8A.alloc (.cells #[.string zd] 22)).grown hg7 (fun e => by have := (HOP.out.lt _ e.symm).1; omega)
        have X9B := (X9A.alloc (.cells #[.string zd] 22)).grown hg7 (fun e => by have := (HOP.out.lt _ e.symm).1; omega)
        have f9 := X9B.frozen 0
        have c9C := X9B.cell (i := 0) (v := v) rfl
        have HO7 := Lib.hid hown7
        have HG7 := Lib.hid hg7
        clear hown7 hg7
        refine hK.out _ _ ?_ (fun hHeld => ?_)
        · try dsimp only
          first | exact X8B.cell (i := 0) rfl | exact X8B.drew.cell (i := 0) rfl
        clear hK K
        try simp only [Act.put]
        try simp only [List.setIfInBounds_toArray]
        try simp only [List.set_cons_succ]
        try simp only [List.set_cons_zero]
        refine wpAnyH_ready (rs := [6]) (by kernel_rfl) (by simp) ?_
        refine AllReadyH.cons rfl (fun K hK => ?_) AllReadyH.nil
        go_simp
        refine hK.out _ _ ?_ (fun hHeld => ?_)
        · try dsimp only
          first | exact (X8B.other h89 0 (.slice A7 (k + 1) c7)).cell (i := 0) rfl | exact (X8B.other h89 0 (.slice A7 (k + 1) c7)).drew.cell (i := 0) rfl
        clear hK K
        try simp only [Act.put]
        try simp only [List.setIfInBounds_toArray]
        try simp only [List.set_cons_succ]
        try simp only [List.set_cons_zero]
        refine wpAnyH_done (by kernel_rfl) ?_ _
        refine OnlyN.normal ?_
        have f8 := (X8B.other h89 0 (.slice A7 (k + 1) c7)).frozen 0
        have c8 := (X8B.other h89 0 (.slice A7 (k + 1) c7)).cell (i := 0) (v := .string bf) rfl
        gi_wp2_with fail
        have hlA : Below (W1.putObj l0 (.loop { r with state := .busy })).heap.size (W1.putObj l0 (.loop { r with state := .busy })) wA := by rw [HWP.out]; exact lowQ.trans (lowA.mono lowQ.size)
        have hlo : ∀ {b : Nat}, b ≤ l0 → some b ≠ v.ownBlock := fun hb e => by have := (HOP.out.lt _ e.symm).1; omega
        have hlw7 : w7.heap[l0]? = some (.loop { r with state := .busy }) := by
          have e1 : WP.heap[l0]? = some (.loop { r with state := .busy }) := HLB.out
          have e2 := (lowA.block _ (Array.getElem?_eq_some_iff.1 e1).1).trans e1
          have e3 : (wA.alloc (.cells #[.string zd] 22)).heap[l0]? = some (.loop { r with state := .busy }) := (Below.heap_alloc _ _ _ (Array.getElem?_eq_some_iff.1 e2).1).trans e2
          exact (HG7.out.block _ (Array.getElem?_eq_some_iff.1 e3).1 (hlo (Nat.le_refl _))).trans e3
        have hlpB : ((w7.setCell ⟨B7 + 2, 0, none⟩ (.slice A7 (k + 1) c7)).setCell ⟨B7 + 1, 0, none⟩ (.string qd)).heap[l0]? = some (.loop { r with state := .busy }) :=
          (Below.heap_setCell _ _ _ _ hl8).trans ((Below.heap_setCell _ _ _ _ hl9).trans hlw7)
        refine ⟨_, _, run_endRound none hlpB, rfl, ?_⟩
        have hlr : ({ r with state := if (none : Option Code).isNone then LoopState.ready else .done, pending := none } : Loop) = r := by have h1 := Hst.out; have h2 := Hpe.out; cases r; simp_all
        rw [hlr]
        have hlow : Below w.heap.size w (((w7.setCell ⟨B7 + 2, 0, none⟩ (.slice A7 (k + 1) c7)).setCell ⟨B7 + 1, 0, none⟩ (.string qd)).putObj l0 (.loop r)) := by
          have b1 := below_put HG.out.low hwl (.loop { r with state := .busy })
          have b2 := b1.trans (hlA.mono b1.size)
          have b3 := b2.alloc b2.size (.cells #[.string zd] 22)
          have b4 := b3.grown HG7.out b3.size (fun g hg => by have := (HOP.out.lt g hg).1; omega)
          exact below_put ((b4.setCell (p := ⟨B7 + 2, 0, none⟩) hw9 _).setCell (p := ⟨B7 + 1, 0, none⟩) hw8 _) hwl _
        have hL0 := HL0.out
        refine ⟨HG.out.gl, hlow, HG.out.row, ?_, ?_, ?_, ?_, ⟨(.slice A7 (k + 1) c7), ?_, ?_⟩, ?_, ?_⟩
        all_goals try dsimp only
        · exact far4 (far7 HG.out.b2 (by omega) hlA HG7.out (hlo (by omega))) (by omega) (by omega) (by omega)
        · exact far4 (far7 HG.out.b7 (by omega) hlA HG7.out (hlo (by omega))) (by omega) (by omega) (by omega)
        · show _ = _
          rw [HQD.out]
          exact (World.putObj_heap_other (by omega)).trans (setW ((Below.heap_setCell _ _ _ _ h89).trans (far7 HFL.out.1 (by omega) hlA HG7.out (hlo (by omega)))) 0 (.string qd))
        · exact far4 (far7 HG.out.bl (by omega) hlA HG7.out (hlo (by omega))) (by omega) (by omega) (by omega)
        · exact (World.putObj_heap_other (by omega)).trans ((Below.heap_setCell _ _ _ _ h89.symm).trans (setW (far7 HFL.out.2 (by omega) hlA HG7.out (hlo (by omega))) 0 (.slice A7 (k + 1) c7)))
        · rw [HCL.out, flatG_snoc]
          have e : icells (runQ (valS t) (iv ws) (k + 1) - runQ (valS t) (iv ws) k) = [.string zd] := by unfold icells; rw [HZD.out]
          rw [e]
          exact ownsRow_putObj ((HO7.out.kept (grown_cellW _ (B7 + 2) 0 _) (.inr (fun e => by have := (HO7.out.lt _ e).1; omega))).kept (grown_cellW _ (B7 + 1) 0 _) (.inr (fun e => by have := (HO7.out.lt _ e).1; omega))) _ hlpB rfl
        · show _ = _
          have := World.putObj_heap_same (o := Obj.loop r) (Array.getElem?_eq_some_iff.1 hlpB).1
          rwa [← hL0] at this ⊢
        · have hd : W1.heap[w6.heap.size]? = some (.deferred (some [])) := HG.out.df
          exact far4 (far7 hd (by omega) hlA HG7.out (hlo (by omega))) (by omega) (by omega) (by omega)
      · skip
        go_simp
        refine hK.out _ _ ?_ (fun hHeld => ?_)
        · try dsimp only
          first | exact (X8A.alloc _).cell (i := 0) rfl | exact (X8A.alloc _).drew.cell (i := 0) rfl
        clear hK K
        try simp only [Act.put]
        try simp only [List.setIfInBounds_toArray]
        try simp only [List.set_cons_succ]
        try simp only [List.set_cons_zero]
        have c9B := (X9A.alloc (.cells #[.string zd] 22)).cell (i := 0) (v := v) rfl
        refine wpAnyH_ready (rs := [0]) (by kernel_rfl) (by simp) ?_
        refine AllReadyH.cons rfl (fun K hK => ?_) AllReadyH.nil
        go_simp
        refine hK.out _ _ ?_ (fun hHeld => ?_)
        · try dsimp only
          first | exact (X8A.alloc _).cell (i := 0) rfl | exact (X8A.alloc _).drew.cell (i := 0) rfl
        clear hK K
        try simp only [Act.put]
        try simp only [List.setIfInBounds_toArray]
        try simp only [List.set_cons_succ]
        try simp only [List.set_cons_zero]
        refine wpAnyH_ready (rs := [5]) (by kernel_rfl) (by simp) ?_
        refine AllReadyH.cons rfl (fun K hK => ?_) AllReadyH.nil
        refine step_append_any _ (by rfl) (.tmp 34) (.tmp 38) 25 (by rfl) (l0 + 1) 22 i0 (.string ⟨#[]⟩) 1 16 (by kernel_rfl) Hi.out Hz0.out Hz1.out Hz2.out rfl (by omega) v k (flatG icells CL) (by rfl) ((own_below HOP.out lowA).alloc _) (wA.heap.size + 1) (some ⟨wA.heap.size, 0, none⟩) 1 1 [.string zd] (by rfl) (reads_row wA 22 [.string zd]) (by intro u hu; simp at hu; subst hu; rfl) (by unfold maxLen; omega) (by omega) (by have := lowA.size; simp; omega) ?_
        intro v7 w7 hown7 hg7 _
        obtain ⟨A7, c7, hv7⟩ := own_sli hown7
        subst hv7
        have X8B := (X8A.alloc (.cells #[.string zd] 22)).grown hg7 (fun e => by have := (HOP.out.lt _ e.symm).1; omega)
        have X9B := (X9A.alloc (.cells #[.string zd] 22)).grown hg7 (fun e => by have := (HOP.out.lt _ e.symm).1; omega)
        have f9 := X9B.frozen 0
        have c9C := X9B.cell (i := 0) (v := v) rfl
        have HO7 := Lib.hid hown7
        have HG7 := Lib.hid hg7
        clear hown7 hg7
        refine hK.out _ _ ?_ (fun hHeld => ?_)
        · try dsimp only
          first | exact X8B.cell (i := 0) rfl | exact X8B.drew.cell (i := 0) rfl
        clear hK K
        try simp only [Act.put]
        try simp only [List.setIfInBounds_toArray]
        try simp only [List.set_cons_succ]
        try simp only [List.set_cons_zero]
        refine wpAnyH_ready (rs := [6]) (by kernel_rfl) (by simp) ?_
        refine AllReadyH.cons rfl (fun K hK => ?_) AllReadyH.nil
        go_simp
        refine hK.out _ _ ?_ (fun hHeld => ?_)
        · try dsimp only
          first | exact (X8B.other h89 0 (.slice A7 (k + 1) c7)).cell (i := 0) rfl | exact (X8B.other h89 0 (.slice A7 (k + 1) c7)).drew.cell (i := 0) rfl
        clear hK K
        try simp only [Act.put]
        try simp only [List.setIfInBounds_toArray]
        try simp only [List.set_cons_succ]
        try simp only [List.set_cons_zero]
        refine wpAnyH_done (by kernel_rfl) ?_ _
        refine OnlyN.normal ?_
        have f8 := (X8B.other h89 0 (.slice A7 (k + 1) c7)).frozen 0
        have c8 := (X8B.other h89 0 (.slice A7 (k + 1) c7)).cell (i := 0) (v := .string bf) rfl
        gi_wp2_with fail
        have hlA : Below (W1.putObj l0 (.loop { r with state := .busy })).heap.size (W1.putObj l0 (.loop { r with state := .busy })) wA := by rw [HWP.out]; exact lowQ.trans (lowA.mono lowQ.size)
        have hlo : ∀ {b : Nat}, b ≤ l0 → some b ≠ v.ownBlock := fun hb e => by have := (HOP.out.lt _ e.symm).1; omega
        have hlw7 : w7.heap[l0]? = some (.loop { r with state := .busy }) := by
          have e1 : WP.heap[l0]? = some (.loop { r with state := .busy }) := HLB.out
          have e2 := (lowA.block _ (Array.getElem?_eq_some_iff.1 e1).1).trans e1
          have e3 : (wA.alloc (.cells #[.string zd] 22)).heap[l0]? = some (.loop { r with state := .busy }) := (Below.heap_alloc _ _ _ (Array.getElem?_eq_some_iff.1 e2).1).trans e2
          exact (HG7.out.block _ (Array.getElem?_eq_some_iff.1 e3).1 (hlo (Nat.le_refl _))).trans e3
        have hlpB : ((w7.setCell ⟨B7 + 2, 0, none⟩ (.slice A7 (k + 1) c7)).setCell ⟨B7 + 1, 0, none⟩ (.string qd)).heap[l0]? = some (.loop { r with state := .busy }) :=
          (Below.heap_setCell _ _ _ _ hl8).trans ((Below.heap_setCell _ _ _ _ hl9).trans hlw7)
        refine ⟨_, _, run_endRound none hlpB, rfl, ?_⟩
        have hlr : ({ r with state := if (none : Option Code).isNone then LoopState.ready else .done, pending := none } : Loop) = r := by have h1 := Hst.out; have h2 := Hpe.out; cases r; simp_all
        rw [hlr]
        have hlow : Below w.heap.size w (((w7.setCell ⟨B7 + 2, 0, none⟩ (.slice A7 (k + 1) c7)).setCell ⟨B7 + 1, 0, none⟩ (.string qd)).putObj l0 (.loop r)) := by
          have b1 := below_put HG.out.low hwl (.loop { r with state := .busy })
          have b2 := b1.trans (hlA.mono b1.size)
          have b3 := b2.alloc b2.size (.cells #[.string zd] 22)
          have b4 := b3.grown HG7.out b3.size (fun g hg => by have := (HOP.out.lt g hg).1; omega)
          exact below_put ((b4.setCell (p := ⟨B7 + 2, 0, none⟩) hw9 _).setCell (p := ⟨B7 + 1, 0, none⟩) hw8 _) hwl _
        have hL0 := HL0.out
        refine ⟨HG.out.gl, hlow, HG.out.row, ?_, ?_, ?_, ?_, ⟨(.slice A7 (k + 1) c7), ?_, ?_⟩, ?_, ?_⟩
        all_goals try dsimp only
        · exact far4 (far7 HG.out.b2 (by omega) hlA HG7.out (hlo (by omega))) (by omega) (by omega) (by omega)
        · exact far4 (far7 HG.out.b7 (by omega) hlA HG7.out (hlo (by omega))) (by omega) (by omega) (by omega)
        · show _ = _
          rw [HQD.out]
          exact (World.putObj_heap_other (by omega)).trans (setW ((Below.heap_setCell _ _ _ _ h89).trans (far7 HFL.out.1 (by omega) hlA HG7.out (hlo (by omega)))) 0 (.string qd))
        · exact far4 (far7 HG.out.bl (by omega) hlA HG7.out (hlo (by omega))) (by omega) (by omega) (by omega)
        · exact (World.putObj_heap_other (by omega)).trans ((Below.heap_setCell _ _ _ _ h89.symm).trans (setW (far7 HFL.out.2 (by omega) hlA HG7.out (hlo (by omega))) 0 (.slice A7 (k + 1) c7)))
        · rw [HCL.out, flatG_snoc]
          have e : icells (runQ (valS t) (iv ws) (k + 1) - runQ (valS t) (iv ws) k) = [.string zd] := by unfold icells; rw [HZD.out]
          rw [e]
          exact ownsRow_putObj ((HO7.out.kept (grown_cellW _ (B7 + 2) 0 _) (.inr (fun e => by have := (HO7.out.lt _ e).1; omega))).kept (grown_cellW _ (B7 + 1) 0 _) (.inr (fun e => by have := (HO7.out.lt _ e).1; omega))) _ hlpB rfl
        · show _ = _
          have := World.putObj_heap_same (o := Obj.loop r) (Array.getElem?_eq_some_iff.1 hlpB).1
          rwa [← hL0] at this ⊢
        · have hd : W1.heap[w6.heap.size]? = some (.deferred (some [])) := HG.out.df
          exact far4 (far7 hd (by omega) hlA HG7.out (hlo (by omega))) (by omega) (by omega) (by omega)
  · rintro e W4 ⟨⟨v, rfl⟩, hG⟩
    have hlp0 : W4.heap[w6.heap.size + 1]? = some (.loop r) := hG.lp
    have hdf0 : W4.heap[w6.heap.size]? = some (.deferred (some [])) := hG.df
    obtain ⟨o5, ho5⟩ : ∃ o5 : Obj, o5 = .loop { r with state := .exhausted } := ⟨_, rfl⟩
    have hend := run_endLoop (P := Tryz.prog) hlp0 (by rw [hst]; decide)
    rw [← ho5] at hend
    clear ho5
    rw [hpe] at hend
    obtain ⟨v2, hv2, hown2⟩ := hG.bo
    have hv2 : Boxed W4 (B7 + 2) 25 v2 := hv2
    have hnl : B7 + 2 ≠ w6.heap.size + 1 := by omega
    have b1 := boxed_put hv2 hnl o5
    have cB := b1.cell
    have HB5 : Hid (Below w.heap.size w (W4.putObj (w6.heap.size + 1) o5)) := below_put hG.low (by omega) _
    have HD5 : Hid ((W4.putObj (w6.heap.size + 1) o5).heap[w6.heap.size]? = some (.deferred (some []))) := (World.putObj_heap_other (by omega)).trans hdf0
    have HO5 : Hid (OutG icells 22 1 (w6.heap.size + 1 + 1) (W4.putObj (w6.heap.size + 1) o5) v2 n (runL (valS t) (iv ws) n)) := ⟨runL_len _ _ _, ownsRow_putObj hown2 o5 hlp0 rfl⟩
    obtain ⟨W5, hW5⟩ : ∃ W5, W4.putObj (w6.heap.size + 1) o5 = W5 := ⟨_, rfl⟩
    rw [hW5] at hend cB HB5 HD5 HO5
    refine ⟨none, W5, hend, ?_⟩
    clear hr hG hst hpe b1 HS hW5 hend hv2 hown2 hcall
    gi_wp2_with fail
    have HD6 : W5.heap[B7 + 4]? = some (.deferred (some [])) := by rw [← hs6']; exact HD5.out
    refine ⟨by simp, .inl ⟨_, _, rfl, run_takeDeferred HD6, ?_⟩⟩
    refine ⟨_, results_tmp2 rfl _ _ _, v2, rfl, ⟨HO5.out.1, own_low (ownsRow_putObj HO5.out.2 _ HD6 rfl) (by omega)⟩, below_put HB5.out (by omega) _⟩
set_option maxRecDepth 100000 in
set_option maxHeartbeats 4000000 in
/-- Running -/
theorem run4_any {A : Option Addr} {n c k0 : Nat} {t : ByteArray} {ws : List ByteArray} (hn : ws.length = n) (h12 : n ≤ 12 ∨ 1000 < n) (hm : n ≤ 4611686018427387904) (hk0 : k0 ≤ 5000) (ht : t.size ≤ k0) (hz : ∀ s ∈ ws, s.size ≤ k0) (w : World) (hg : Gl w) (hr : Row w A (ws.map sv)) :
    Calls Tryz.prog 22 #[.string t, .slice A n c] w fun e w' => ∃ v, e = .returned (.tuple #[v, .int .i64 (alE t ws)]) ∧ OutG icells 22 1 w.heap.size w' v (alR t ws).length (alR t ws) ∧ Below w.heap.size w w' := by
  by_cases he : alE t ws = 0
  · have h2 := (alE_zero.1 he).len
    have e : alR t ws = runL (valS t) (iv ws) n := by unfold alR; rw [if_pos he, hn]
    rw [e, he, runL_len]
    exact run4_few hn (by omega) hk0 ht hz he w hg hr
  · have e : alR t ws = [] := if_neg he
    rw [e]
    have hs := (St.refl hg).alloc (.cells #[.string t] 22)
    have X2 := Bx.new w #[.string t] 22
    have x2 := X2.cell (i := 0) (v := .string t) rfl
    have HR := Lib.hid hr
    have K1 := alchk_any (A := A) (c := c) hn h12 hm hk0 ht hz
    have q : (alE t ws != 0) = true := by simpa using he
    generalize alE t ws = ee at *
    clear hn hr hz ht e
    go_enter Tryz.func22, Tryz.ntmps22
    go_wp2_with fail
    clear x2
    refine K1.step hs (HR.out.on hs.2) ?_
    intro w1 hs hb
    go_wp2_with fail
    go_ret2
    exact ⟨_, rfl, ⟨rfl, World.ownsRow_nil _ _ _ _⟩, hs.2⟩
end Go.Proofs.YtpipkeplhkccoaaGreatDoor
