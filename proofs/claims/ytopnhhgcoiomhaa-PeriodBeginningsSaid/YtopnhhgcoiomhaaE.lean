/- Period: period.opens, a range over a function; for every input. -/
import Derived.RangeFuncNested
import Derived.RangeFuncBound
import Derived.RangeFuncCalls
import Derived.RangeFuncLeaves
import Derived.Shelf.Abstract
import Derived.Shelf.RegionOpen
import Derived.WalkKit
import Derived.OwnWalkIn
import Derived.TacticsInMore
import Derived.LoopNIn
import Derived.LoopIn
import Derived.Lib.Hide
import Derived.WalkLawsBesides
import Derived.Test.YtopnhhgcoiomhaaB
namespace Go.Proofs.Ytopnhhgcoiomhaa
open Go.RowKit Go.Shelf
attribute [local go_sem] Oper.semAt_some
def lastW (pre : List (Int × Int)) : Int := match pre.getLast? with | none => -25567 | some x => wrap64 (x.1 + 1)
theorem lastW_snoc (pre : List (Int × Int)) (x : Int × Int) : lastW (pre ++ [x]) = wrap64 (x.1 + 1) := by simp [lastW]

theorem takeWhile_at (l : List (Int × Int)) (kn : Int) : ∀ (k : Nat) (x : Int × Int), l[k]? = some x → (∀ j y, j < k → l[j]? = some y → y.2 < kn) → ¬ x.2 < kn → l.takeWhile (fun x => decide (x.2 < kn)) = l.take k := by
  induction l with
  | nil => intro k x h; simp at h
  | cons a l ih =>
    intro k x hx hall hn
    cases k with
    | zero => simp at hx; subst hx; simp [hn]
    | succ k =>
      have ha := hall 0 a (by omega) rfl
      simp only [List.takeWhile_cons, ha, decide_true, if_true, List.take_succ_cons]
      rw [ih k x (by simpa using hx) (fun j y hj hy => hall (j + 1) y (by omega) (by simpa using hy)) hn]
theorem takeWhile_all (l : List (Int × Int)) (kn : Int) (h : ∀ (j : Nat) (y : Int × Int), l[j]? = some y → y.2 < kn) : l.takeWhile (fun x => decide (x.2 < kn)) = l := by
  induction l with
  | nil => rfl
  | cons a l ih =>
    have ha := h 0 a rfl
    simp only [List.takeWhile_cons, ha, decide_true, if_true]
    rw [ih (fun j y hy => h (j + 1) y (by simpa using hy))]
/-- below n₀, but for block e, all is as it was -/
def KeepX (e n₀ : Nat) (W W' : World) : Prop := W.heap.size ≤ W'.heap.size ∧ ∀ k, k < n₀ → k ≠ e → W'.heap[k]? = W.heap[k]?
theorem KeepX.refl (e n₀ : Nat) (W : World) : KeepX e n₀ W W := ⟨Nat.le_refl _, fun _ _ _ => rfl⟩
theorem KeepX.trans {e n₀ : Nat} {A B C : World} (h : KeepX e n₀ A B) (k : KeepX e n₀ B C) : KeepX e n₀ A C :=
  ⟨Nat.le_trans h.1 k.1, fun i hi hne => (k.2 i hi hne).trans (h.2 i hi hne)⟩
theorem KeepX.cell {e n₀ : Nat} {W W' : World} (h : KeepX e n₀ W W') {p : Addr} (hp : p.block < n₀) (hne : p.block ≠ e) : W'.cell? p = W.cell? p := World.cell?_of_block (w := W) (h.2 p.block hp hne)
theorem KeepX.of_below {e n₀ : Nat} {W W' : World} (h : Below n₀ W W') : KeepX e n₀ W W' := ⟨h.size, fun k hk _ => h.block k hk⟩
/-- a block of cells, known whole -/
def BlkC (W : World) (B : Nat) (t : TypeId) (cs : Array Value) : Prop := W.heap[B]? = some (.cells cs t (0, 0))

set_option maxHeartbeats 1000000 in
theorem counting_any (A : Option Addr) (n c : Nat) (kn : Int) (w : World) :
    Calls Try.prog 39 #[.slice A n c, .int .i64 kn] w fun e w' => e = .returned (.func (.func 42) #[] #[.pointer (some ⟨w.heap.size, 0, none⟩), .pointer (some ⟨w.heap.size + 1, 0, none⟩)]) ∧
      w' = (w.alloc (.cells #[.slice A n c] 22)).alloc (.cells #[.int .i64 kn] 3) := by
  go_enter Try.func39, Try.ntmps39
  go_wp2
  go_ret
  exact ⟨rfl, rfl⟩

set_option maxRecDepth 100000 in
set_option maxHeartbeats 2000000 in
theorem counting1_in (F : Fence) (n : Nat) (h42 : F.fn 42) (hro : F.round = none) (hn : 1 ≤ n) (q Bs Bk e n₀ c : Nat) (hen : e ≤ n₀) (A : Option Addr) (l : List (Int × Int)) (kn : Int) (hm : l.length ≤ 9223372036854775807)
    (J Jx : List (Int × Int) → World → Prop) (W : World) (hW0 : n₀ ≤ W.heap.size) (hJ : AbidesFrom W.heap.size J)
    (hY : ∀ pre x W1, J pre W1 → pre.length < l.length → YieldAt F (n - 1) Try.prog q #[.agg #[.int .i64 x.1, .int .i64 x.2]] W1 fun en W' =>
      (en = .returned (.bool true) ∧ J (pre ++ [x]) W' ∧ KeepX e n₀ W1 W') ∨ (en = .returned (.bool false) ∧ Jx (pre ++ [x]) W'))
    (hBs : W.cell? ⟨Bs, 0, none⟩ = some (.slice A l.length c)) (hBk : W.cell? ⟨Bk, 0, none⟩ = some (.int .i64 kn)) (hs : Bs < n₀) (hk : Bk < n₀) (_hs' : Bs ≠ e) (hk' : Bk ≠ e) (hc : Cl W e A l) (h0 : J [] W) :
    CallsIn F n Try.prog 42 #[.func (.yield q) #[] #[], .pointer (some ⟨Bs, 0, none⟩), .pointer (some ⟨Bk, 0, none⟩)] W fun en W' => (∃ v, en = .returned v) ∧
      ((∃ ys, ys = l.takeWhile (fun x => decide (x.2 < kn)) ∧ J ys W') ∨ (∃ pre, True ∧ Jx pre W')) := by
  refine callsIn_of_wp Try.func42 rfl h42 ?_ hro
  simp only [Try.ntmps42, List.size_toArray, List.length_cons, List.length_nil, Nat.reduceAdd, Nat.reduceSub, Array.replicate_succ, Array.replicate_zero, List.push_toArray, List.append_toArray, List.nil_append, List.cons_append]
  gi_wp2
  gi_loopw [8] (fun i wr => ∃ k : Nat, k ≤ l.length ∧ i = .int .i64 k ∧ J (l.take k) wr ∧ Hid (∀ j x, j < k → l[j]? = some x → x.2 < kn) ∧ KeepX e n₀ W wr)
    (fun i _ => l.length - (intOf i).toNat)
  case atStart => exact ⟨0, by omega, rfl, h0, fun j x hj => absurd hj (by omega), KeepX.refl _ _ _⟩
  case round =>
    obtain ⟨k, hk0, rfl, hJs, H, hb⟩ := hrel
    have hsz := hb.1
    by_cases hlt : k < l.length
    · obtain ⟨x, hx⟩ : ∃ x, l[k]? = some x := ⟨l[k], by simp [hlt]⟩
      obtain ⟨b, o, hA, hB, h1, h2⟩ := hc k _ hx
      subst hA
      have g1 := (hb.cell (p := ⟨b, o + k * 2, none⟩) (by simp; omega) (by simp; omega)).trans h1
      have g2 := (hb.cell (p := ⟨b, o + k * 2 + 1, none⟩) (by simp; omega) (by simp; omega)).trans h2
      have g4 := (hb.cell (p := ⟨Bk, 0, none⟩) hk hk').trans hBk
      have hbl : b < wr.heap.size := by omega
      have hsl : Bs < wr.heap.size := by omega
      have hkl : Bk < wr.heap.size := by omega
      clear h1 h2 hc
      have HX := Lib.hid hx
      clear hx
      by_cases hn : x.2 < kn
      · obtain ⟨fn, tmps, assign, body, hy, hR⟩ := hY _ x (wr.alloc (.cells #[.int .i64 x.1, .int .i64 x.2] 30)) (hJ _ wr _ none hJs (World.grownBy_alloc wr _ none) (fun r e => by cases e)) (by simp; omega)
        gi_wp2
        refine hR.mono ?_
        rintro e W3 (⟨rfl, hJ3, hk3⟩ | ⟨rfl, hJx3⟩)
        · gi_wp2
          go_roundw
          case rel =>
            refine ⟨k + 1, by omega, by go_num, ?_, ?_, (hb.trans (KeepX.of_below ((Below.refl n₀ wr).alloc (by omega) _))).trans hk3⟩
            · have e : l.take (k + 1) = l.take k ++ [x] := by rw [List.take_add_one, HX.out]; rfl
              rw [e]; exact hJ3
            · intro j y hj hy
              by_cases e : j = k
              · subst e
                have e2 : y = x := by have := HX.out; rw [hy] at this; cases this; rfl
                rw [e2]; exact hn
              · exact H.out j y (by omega) hy
          case measure => simp [intOf]; omega
        · gi_wp2
          refine bodyPost_ret (results_none rfl _ _ _) rfl ?_
          exact ⟨⟨_, rfl⟩, .inr ⟨_, trivial, hJx3⟩⟩
      · gi_wp2
        refine ⟨fun _ h => (by cases h), ?_⟩
        gi_wp2
        refine bodyPost_ret (results_none rfl _ _ _) rfl ?_
        refine ⟨⟨_, rfl⟩, .inl ⟨l.take k, ?_, hJ _ wr _ none hJs (World.grownBy_alloc wr _ none) (fun r e => by cases e)⟩⟩
        exact (takeWhile_at l kn k x HX.out H.out (by omega)).symm
    · have e : k = l.length := by omega
      have HE := Lib.hid e
      clear e
      gi_wp2
      go_end0
      refine ⟨⟨_, rfl⟩, .inl ⟨l.take k, ?_, hJs⟩⟩
      rw [HE.out, List.take_length]
      refine (takeWhile_all l kn fun j y hy => H.out j y ?_ hy).symm
      rw [HE.out]
      exact (List.getElem?_eq_some_iff.1 hy).1

/-- the iterator's contract -/
theorem counting_stops (F : Fence) (n : Nat) (h42 : F.fn 42) (hro : F.round = none) (hn : 1 ≤ n) (Bs Bk e n₀ c : Nat) (hen : e ≤ n₀) (A : Option Addr) (l : List (Int × Int)) (kn : Int) (hm : l.length ≤ 9223372036854775807)
    (w : World) (hw0 : n₀ ≤ w.heap.size) (hBs : w.cell? ⟨Bs, 0, none⟩ = some (.slice A l.length c)) (hBk : w.cell? ⟨Bk, 0, none⟩ = some (.int .i64 kn)) (hs : Bs < n₀) (hk : Bk < n₀) (hs' : Bs ≠ e) (hk' : Bk ≠ e) (hc : Cl w e A l) :
    SeqStopsK F n Try.prog 42 #[.pointer (some ⟨Bs, 0, none⟩), .pointer (some ⟨Bk, 0, none⟩)] (fun x : Int × Int => #[.agg #[.int .i64 x.1, .int .i64 x.2]]) (KeepX e n₀)
      (fun ys => ys = l.takeWhile (fun x => decide (x.2 < kn))) (fun _ => True) l.length w := fun q J Jx W hW hJ _ hY h0 =>
  counting1_in F n h42 hro hn q Bs Bk e n₀ c hen A l kn hm J Jx W (Nat.le_trans hw0 hW.size) hJ hY ((hW.cell (p := ⟨Bs, 0, none⟩) (by simp; omega)).trans hBs) ((hW.cell (p := ⟨Bk, 0, none⟩) (by simp; omega)).trans hBk) hs hk hs' hk' (hc.below (hW.mono (by omega))) h0

theorem blkC_own {β : Type} (B : Nat) (t : TypeId) (f : β → Array Value) : Own (fun s W => BlkC W B t (f s)) := fun s X Y row hs hg hrow =>
  (hg.block B (Array.getElem?_eq_some_iff.1 hs).1 (fun e' => by obtain ⟨o, ho, hc⟩ := hrow B e'.symm; rw [show X.heap[B]? = _ from hs] at ho; cases ho; cases hc)).trans hs
theorem BlkC.cell {W : World} {B : Nat} {t : TypeId} {cs : Array Value} (h : BlkC W B t cs) (i : Nat) : W.cell? ⟨B, i, none⟩ = cs[i]? := by simp [World.cell?, show W.heap[B]? = _ from h]
theorem BlkC.lt {W : World} {B : Nat} {t : TypeId} {cs : Array Value} (h : BlkC W B t cs) : B < W.heap.size := (Array.getElem?_eq_some_iff.1 h).1
theorem BlkC.new (W : World) (t : TypeId) (cs : Array Value) : BlkC (W.alloc (.cells cs t)) W.heap.size t cs := World.alloc_heap_new W _

set_option maxRecDepth 100000 in
set_option maxHeartbeats 4000000 in
theorem opens_any (A : Option Addr) (c : Nat) (l : List (Int × Int)) (kn : Int) (w : World)
    (hc : Cl w w.heap.size A l) (hm : l.length ≤ 9223372036854775807) :
    Calls Try.prog 31 #[.slice A l.length c, .int .i64 kn] w fun e W' => e = .returned (.int .i64 (lastW (l.takeWhile (fun x => decide (x.2 < kn))))) ∧ Below w.heap.size w W' := by
  refine (callsIn_wide (n := 6)).1 ?_
  refine callsIn_of_wp_marks Try.func31 rfl trivial ?_ rfl
  simp only [Try.ntmps31, List.size_toArray, List.length_cons, List.length_nil, Nat.reduceAdd, Nat.reduceSub, Array.replicate_succ, Array.replicate_zero, List.push_toArray, List.append_toArray, List.nil_append, List.cons_append]
  gi_wp2_with (refine ⟨trivial, ?_⟩; gi_at_call 39; refine (callsIn_wide.2 (counting_any _ _ _ _ _)).mono ?_; rintro e w' ⟨rfl, rfl⟩)
  have bS := ((Boxed.new w 25 (.int .i64 (-25567))).alloc (.cells #[.slice A l.length c] 22)).alloc (.cells #[.int .i64 kn] 3)
  have b1 := (Boxed.new (w.alloc (.cells #[.int .i64 (-25567)] 25)) 22 (.slice A l.length c)).alloc (.cells #[.int .i64 kn] 3)
  have b2 := Boxed.new ((w.alloc (.cells #[.int .i64 (-25567)] 25)).alloc (.cells #[.slice A l.length c] 22)) 3 (.int .i64 kn)
  simp only [World.size_alloc] at b1 b2
  have hB0 : Below w.heap.size w (((w.alloc (.cells #[.int .i64 (-25567)] 25)).alloc (.cells #[.slice A l.length c] 22)).alloc (.cells #[.int .i64 kn] 3)) := (((Below.refl _ w).alloc (Nat.le_refl _) _).alloc (by simp) _).alloc (by simp; omega) _
  have hsz : (((w.alloc (.cells #[.int .i64 (-25567)] 25)).alloc (.cells #[.slice A l.length c] 22)).alloc (.cells #[.int .i64 kn] 3)).heap.size = w.heap.size + 3 := by simp
  obtain ⟨W0, hW0⟩ : ∃ W0, ((w.alloc (.cells #[.int .i64 (-25567)] 25)).alloc (.cells #[.slice A l.length c] 22)).alloc (.cells #[.int .i64 kn] 3) = W0 := ⟨_, rfl⟩
  rw [hW0] at bS b1 b2 hB0 hsz ⊢
  clear hW0
  refine wpIn_rangeFunc_ownH rfl (by omega) (gf := 42) (lb := #[.pointer (some ⟨w.heap.size + 1, 0, none⟩), .pointer (some ⟨w.heap.size + 1 + 1, 0, none⟩)]) rfl trivial (enters_of Try.func42 (by kernel_rfl) rfl)
    (counting_stops Fence.wide 5 trivial rfl (by omega) (w.heap.size + 1) (w.heap.size + 1 + 1) w.heap.size (w.heap.size + 3) c (by omega) A l kn hm W0 (by omega) b1.cell b2.cell (by omega) (by omega) (by omega) (by omega) (hc.below hB0))
    KeepX.trans (fun W q o o' hq h1 h2 h3 => KeepX.of_below (belowK_b (w := W0) (by omega) W q o o' hq h1 h2 h3)) (Below.refl _ _) (fun _ => rfl)
    (fun pre W => (Boxed W w.heap.size 25 (.int .i64 (lastW pre)) ∧ W0.heap.size ≤ W.heap.size) ∧ Below w.heap.size w W)
    (fun _ _ _ => False)
    (OwnFrom.and (OwnFrom.and (Own.from (boxed_own _ _ _) _) (fun _ _ _ _ hs hg _ => Nat.le_trans hs hg.size)) (ownFrom_below (Nat.le_refl _) (by omega)))
    (fun _ _ _ _ _ hs _ _ => hs)
    ⟨⟨bS, Nat.le_refl _⟩, hB0⟩
    (fun x a' W => ∃ Bx, w.heap.size + 3 ≤ Bx ∧ BlkC W Bx 30 #[.int .i64 x.1, .int .i64 x.2] ∧ a' = { tmps := #[.slice A l.length c, .int .i64 kn, undef, undef, .int .i64 0, .pointer (some ⟨w.heap.size, 0, none⟩), .pointer (some ⟨Bx, 0, none⟩), .slice A l.length c, .int .i64 kn, .func (.func 42) #[] #[.pointer (some ⟨w.heap.size + 1, 0, none⟩), .pointer (some ⟨w.heap.size + 1 + 1, 0, none⟩)], .agg #[.int .i64 x.1, .int .i64 x.2], undef, undef, undef, undef], defers := [] })
    (fun x a' _ X Y row hs hg hr => by obtain ⟨Bx, h1, h2, h3⟩ := hs; exact ⟨Bx, h1, blkC_own Bx 30 (fun (_ : Unit) => #[.int .i64 x.1, .int .i64 x.2]) () X Y row h2 hg (fun r e => (hr r e).2), h3⟩)
    ?assign ?body ?done ?stop
  case assign =>
    rintro q pre x W K ⟨⟨bS1, hz1⟩, hB1⟩ hK
    have hs3 : w.heap.size + 3 ≤ W.heap.size := by omega
    gi_wp2
    exact hK _ _ ((KeepsOthers.alloc _ _).from _) (KeepX.of_below ((Below.refl _ W).alloc hs3 _)) ⟨⟨bS1.alloc _, by simp; omega⟩, hB1.alloc hB1.size _⟩ ⟨W.heap.size, hs3, BlkC.new W 30 _, rfl⟩
  case body =>
    rintro q pre x a' W hl ⟨r, hr⟩ ⟨⟨bS1, hz1⟩, hB1⟩ ⟨Bx, hBx, bX, rfl⟩ hlt
    have cS := bS1.cell
    have fS := bS1.frozen
    have c0 : W.cell? ⟨Bx, 0, none⟩ = some (.int .i64 x.1) := by rw [bX.cell]; rfl
    gi_wp2
    refine ⟨(KeepsOthers.setCell _ _ _).from _, ⟨by simp [World.setCell], fun k _ hk => Below.heap_setCell _ _ _ _ hk⟩, ⟨⟨?_, by simp [World.setCell]; omega⟩, hB1.setCell (p := ⟨w.heap.size, 0, none⟩) (Nat.le_refl _) _⟩⟩
    rw [lastW_snoc]
    exact bS1.set _
  case done =>
    rintro D ys W hD rfl ⟨⟨bS1, hz1⟩, hB1⟩ hK
    have cS := bS1.cell
    gi_wp2
    refine ⟨by simp, .inl ⟨_, _, rfl, run_takeDeferred hK, ?_⟩⟩
    exact ⟨_, results_tmp rfl _ _ _, rfl, hB1.trans (belowK_b (w := w) (Nat.le_refl _) W D _ _ (by omega) hK rfl rfl)⟩
  case stop =>
    rintro D cc pre W _ _ h _
    exact h.elim
end Go.Proofs.Ytopnhhgcoiomhaa
