/- Integer: blocks of groups that a call makes and writes. Plain facts; conditions: lengths below 2^40. -/
import Derived.Test.YtonopbelbehheaaGreatDoorIntD
import Derived.Test.YtonopbelbehheaaGreatDoorIntH
import Derived.Test.YtonopbelbehheaaGreatDoorWd
import Derived.StillTailTactics
import Derived.Laws.CopyOwn
import Derived.Laws.MakeOwn
namespace Go.Proofs.YtonopbelbehheaaGreatDoor
open Go.RowKit Dec

theorem addr_add (b o j : Nat) : (⟨b, o, none⟩ : Addr).add j = ⟨b, o + j, none⟩ := by
  unfold Addr.add; split
  · rename_i h; subst h; rfl
  · rfl
theorem heap_new (w : World) (o : Obj) : (w.alloc o).heap[w.heap.size]? = some o := by show (w.heap.push o)[w.heap.size]? = some o; exact Array.getElem?_push_size
/-- a group as a cell -/
def gvK (K : IntKind) (n : Nat) : Value := .int K (n : Int)
/-- a block of groups (kind K, type T), known whole -/
def Bk (K : IntKind) (T : TypeId) (w : World) (g : Nat) (l : List Nat) : Prop := w.heap[g]? = some (.cells (l.map (gvK K)).toArray T (0, 0))
section
variable {K : IntKind} {T : TypeId} {w w' : World} {g : Nat} {l : List Nat}
theorem Bk.lt (h : Bk K T w g l) : g < w.heap.size := (Array.getElem?_eq_some_iff.1 h).1
theorem Bk.cell (h : Bk K T w g l) {i n : Nat} (hi : l[i]? = some n) : w.cell? ⟨g, i, none⟩ = some (.int K n) := by
  unfold Bk at h
  simp [World.cell?, h, hi, gvK]
theorem Bk.frozen (h : Bk K T w g l) (i : Nat) : w.frozen? ⟨g, i, none⟩ = false := by unfold Bk at h; simp [World.frozen?, h]
theorem Bk.set (h : Bk K T w g l) (i n : Nat) : Bk K T (w.setCell ⟨g, i, none⟩ (.int K n)) g (l.set i n) := by
  unfold Bk at h ⊢
  simp [World.setCell, Array.getElem?_modify, h, gvK, List.map_set]
theorem Bk.alloc (h : Bk K T w g l) (o : Obj) : Bk K T (w.alloc o) g l := (Below.heap_alloc w o g h.lt).trans h
theorem Bk.drewN (h : Bk K T w g l) (n : Nat) : Bk K T (w.drewN n) g l := h
theorem Bk.below {B : Nat} (h : Bk K T w g l) (hb : Below B w w') (hg : g < B) : Bk K T w' g l := (hb.block g hg).trans h
theorem Bk.mg (h : Bk K T w g l) (k : Nat) : Mg K w w.heap.size (some ⟨g, 0, none⟩) (l.take k) := by
  intro i n hn
  rw [List.getElem?_take] at hn
  by_cases hi : i < k
  · rw [if_pos hi] at hn; exact ⟨g, 0, rfl, h.lt, by rw [Nat.zero_add]; exact h.cell hn⟩
  · rw [if_neg hi] at hn; cases hn
theorem Bk.own {r : List Nat} {base : Nat} (h : Bk K T w g (l ++ r)) (hb : base ≤ g) (hm : (l ++ r).length ≤ maxLen) : w.ownsRow base T 1 (.slice (some ⟨g, 0, none⟩) l.length (l ++ r).length) l.length (l.map (gvK K)) :=
  ⟨by simp, .inr ⟨g, _, _, rfl, hb, h, by simp, hm, by simp, by simp⟩⟩
theorem own_mag {base : Nat} {v : Value} (h : w.ownsRow base T 1 v l.length (l.map (gvK K))) : ∃ A c, v = .slice A l.length c ∧ Mg K w w.heap.size A l ∧ l.length ≤ c ∧ c ≤ 9223372036854775807 := by
  rcases h.2 with ⟨rfl, h0⟩ | ⟨g, cap, cur, rfl, hb, hg, hn, hc, hs, htake⟩
  · rw [h0, List.eq_nil_of_length_eq_zero h0]
    exact ⟨none, 0, rfl, Mg.nil _ _ _ _, Nat.le_refl _, by omega⟩
  · refine ⟨_, cap, rfl, ?_, hn, hc⟩
    intro i n hi
    refine ⟨g, 0, rfl, (Array.getElem?_eq_some_iff.1 hg).1, ?_⟩
    rw [Nat.zero_add]
    have hl : i < l.length := (List.getElem?_eq_some_iff.1 hi).1
    have : cur.toList[i]? = some (gvK K n) := by
      have e : (cur.toList.take (l.length * 1))[i]? = some (gvK K n) := by rw [htake, List.getElem?_map, hi]; rfl
      rwa [List.getElem?_take, if_pos (by omega)] at e
    rw [Array.getElem?_toList] at this
    simp [World.cell?, hg, this, gvK]
theorem reads_one (w : World) (T : TypeId) (v : Value) : Reads (w.alloc (.cells #[v] T)) (w.heap.size + 1) 1 (some ⟨w.heap.size, 0, none⟩) 1 [v] := by
  refine ⟨rfl, fun _ => ⟨_, rfl, by simp, ?_⟩⟩
  intro j u hu
  cases j with
  | zero =>
    simp at hu; subst hu
    have h := heap_new w (.cells #[v] T)
    show World.cell? _ ⟨w.heap.size, 0, none⟩ = _
    unfold World.cell?; rw [h]; rfl
  | succ j => simp at hu
theorem own_ge {base n : Nat} {v : Value} {xs : List Value} (h : w.ownsRow base T 1 v n xs) : ∀ k, v.ownBlock = some k → base ≤ k := by
  intro k hk
  rcases h.2 with ⟨rfl, _⟩ | ⟨g, cap, cur, rfl, hb, _⟩
  · simp [Value.ownBlock] at hk
  · simp [Value.ownBlock] at hk; omega
theorem gvK_one (l : List Nat) : ∀ v ∈ l.map (gvK K), v.oneCell' = true := by
  intro v hv
  obtain ⟨x, -, rfl⟩ := List.mem_map.1 hv
  rfl
end
theorem Mg.reads {K : IntKind} {w : World} {B : Nat} {A : Option Addr} {l : List Nat} (h : Mg K w B A l) : Reads w B 1 A l.length (l.map (gvK K)) := by
  refine ⟨by simp, fun h0 => ?_⟩
  obtain ⟨x, hx⟩ : ∃ x, l[0]? = some x := ⟨l[0], by simp⟩
  obtain ⟨b, o, hA, hB, _⟩ := h 0 x hx
  refine ⟨_, hA, hB, fun j u hu => ?_⟩
  rw [List.getElem?_map, Option.map_eq_some_iff] at hu
  obtain ⟨y, hy, rfl⟩ := hu
  obtain ⟨b', o', hA', _, h1⟩ := h j y hy
  rw [hA] at hA'
  injection hA' with e
  injection e with e1 e2
  subst e1 e2
  rw [addr_add]
  exact h1
/-- a slice of groups of the call's own: its cells lie in a block from base on, or it is empty -/
def Ow (K : IntKind) (T : TypeId) (w : World) (base : Nat) (A : Option Addr) (c : Nat) (l : List Nat) : Prop := w.ownsRow base T 1 (.slice A l.length c) l.length (l.map (gvK K))
section
variable {K : IntKind} {T : TypeId} {w w' : World} {base g c : Nat} {A : Option Addr} {l : List Nat}
theorem own_ow {v : Value} (h : w.ownsRow base T 1 v l.length (l.map (gvK K))) : ∃ A c, v = .slice A l.length c ∧ Ow K T w base A c l := by
  obtain ⟨A, c, rfl, _⟩ := own_mag h
  exact ⟨A, c, rfl, h⟩
theorem Ow.mg (h : Ow K T w base A c l) : Mg K w w.heap.size A l ∧ l.length ≤ c ∧ c ≤ 9223372036854775807 := by
  obtain ⟨A', c', e, h1⟩ := own_mag h
  injection e with e1 e2 e3
  subst e1 e3
  exact h1
theorem Ow.at (h : Ow K T w base A c l) {i n : Nat} (hi : l[i]? = some n) : ∃ g, A = some ⟨g, 0, none⟩ ∧ base ≤ g ∧ g < w.heap.size ∧ w.cell? ⟨g, i, none⟩ = some (.int K n) ∧ w.frozen? ⟨g, i, none⟩ = false := by
  obtain ⟨b, o, hA, hB, hcell⟩ := h.mg.1 i n hi
  have hl : i < l.length := (List.getElem?_eq_some_iff.1 hi).1
  rcases h.2 with ⟨_, h0⟩ | ⟨g, cap, cur, hv, hb, hg, _⟩
  · omega
  · injection hv with e1 e2 e3
    rw [hA] at e1
    injection e1 with e1
    injection e1 with e1 e4
    subst e1 e4
    refine ⟨b, hA, hb, hB, by rwa [Nat.zero_add] at hcell, by simp [World.frozen?, hg]⟩
theorem Ow.set (h : Ow K T w base (some ⟨g, 0, none⟩) c l) (i n : Nat) : Ow K T (w.setCell ⟨g, i, none⟩ (.int K n)) base (some ⟨g, 0, none⟩) c (l.set i n) := by
  have := (World.ownsRow.stored h i (.int K n)).1
  unfold Ow
  rw [List.length_set, List.map_set]
  exact this
theorem Ow.drew (h : Ow K T w base A c l) : Ow K T w.drew base A c l := h
theorem Ow.drewN (h : Ow K T w base A c l) (n : Nat) : Ow K T (w.drewN n) base A c l := h
theorem Ow.alloc (h : Ow K T w base A c l) (o : Obj) : Ow K T (w.alloc o) base A c l := World.ownsRow.alloc h o
theorem Ow.below (h : Ow K T w base A c l) (hb : Below w.heap.size w w') : Ow K T w' base A c l := by
  refine ⟨h.1, ?_⟩
  rcases h.2 with h0 | ⟨g, cap, cur, hv, hg, hh, r⟩
  · exact .inl h0
  · exact .inr ⟨g, cap, cur, hv, hg, (hb.block g (Array.getElem?_eq_some_iff.1 hh).1).trans hh, r⟩
theorem Ow.low {base' : Nat} (h : Ow K T w base A c l) (hb : base' ≤ base) : Ow K T w base' A c l := by
  refine ⟨h.1, ?_⟩
  rcases h.2 with h0 | ⟨g, cap, cur, hv, hg, r⟩
  · exact .inl h0
  · exact .inr ⟨g, cap, cur, hv, by omega, r⟩
theorem Ow.new (w : World) (K : IntKind) (T : TypeId) (l : List Nat) (hm : l.length ≤ maxLen) : Ow K T (w.alloc (.cells (l.map (gvK K)).toArray T)) w.heap.size (some ⟨w.heap.size, 0, none⟩) l.length l := by
  have h : Bk K T (w.alloc (.cells (l.map (gvK K)).toArray T)) w.heap.size (l ++ []) := by rw [List.append_nil]; exact heap_new w _
  have := h.own (base := w.heap.size) (Nat.le_refl _) (by simpa using hm)
  rw [List.append_nil] at this
  exact this
end
theorem infoU : (Tryz.prog.info? 94).map (fun i => (i.zero, i.size, i.bytes)) = some (some (.int .u64 0), 1, 8) := by kernel_rfl
theorem sizeU : (Tryz.prog.info? 94).map (·.size) = some 1 := by kernel_rfl

/-- what a function that makes a magnitude hands back: a slice that reads as the groups of n; it lies in memory that the call made, or is empty -/
def MagRet (n : Nat) (w : World) (e : Ending) (w' : World) : Prop :=
  ∃ A c, e = .returned (.slice A (mag n).length c) ∧ Mg .u64 w' w'.heap.size A (mag n) ∧ (mag n).length ≤ c ∧ c ≤ 9223372036854775807 ∧ Below w.heap.size w w'

theorem cut_pre (m : List Nat) (h : Small m) : ∃ k, k ≤ m.length ∧ cutL m = m.take k := by
  induction hn : m.length generalizing m with
  | zero => exact ⟨0, Nat.le_refl _, by rw [List.eq_nil_of_length_eq_zero hn]; rfl⟩
  | succ n ih =>
    have hne : m ≠ [] := by intro e; subst e; simp at hn
    obtain ⟨s, d, rfl⟩ : ∃ s d, m = s ++ [d] := ⟨m.dropLast, m.getLast hne, (List.dropLast_concat_getLast hne).symm⟩
    have hs : Small s := fun x hx => h x (by simp [hx])
    have hl : s.length = n := by simpa using hn
    by_cases hd : d = 0
    · subst hd
      obtain ⟨k, hk, e⟩ := ih s hs hl
      refine ⟨k, by omega, ?_⟩
      have hv : mval (s ++ [0]) = mval s := by rw [mval_append]; simp [mval]
      unfold cutL at e ⊢
      rw [hv, e, List.take_append_of_le_length (by omega)]
    · refine ⟨n + 1, Nat.le_refl _, ?_⟩
      rw [List.take_of_length_le (by omega)]
      exact mag_mval _ h (by simp; exact hd)
/-- what cut leaves of a slice of the call's own is a magnitude -/
theorem mag_ret {w wr : World} {n c : Nat} {A : Option Addr} {o : List Nat} (ho : Ow .u64 94 wr w.heap.size A c o) (hs : Small o) (hn : mval o = n) (hb : Below w.heap.size w wr) :
    MagRet n w (.returned (.slice A (cutL o).length c)) wr := by
  obtain ⟨k, hk, e⟩ := cut_pre o hs
  have e2 : mag n = o.take k := by rw [← e]; unfold cutL; rw [hn]
  obtain ⟨h1, h2, h3⟩ := ho.mg
  refine ⟨A, c, by unfold cutL; rw [hn], ?_, ?_, h3, hb⟩
  · rw [e2]; exact h1.take k
  · rw [e2, List.length_take]; omega
theorem mag_of_cut {wr : World} {n c base : Nat} {A : Option Addr} {o : List Nat} (ho : Ow .u64 94 wr base A c o) (hs : Small o) (hn : mval o = n) :
    cutL o = mag n ∧ Mg .u64 wr wr.heap.size A (mag n) ∧ (mag n).length ≤ c ∧ c ≤ 9223372036854775807 := by
  obtain ⟨k, hk, e⟩ := cut_pre o hs
  have e2 : cutL o = mag n := by unfold cutL; rw [hn]
  obtain ⟨h1, h2, h3⟩ := ho.mg
  rw [e2] at e
  refine ⟨e2, ?_, ?_, h3⟩
  · rw [e]; exact h1.take k
  · rw [e, List.length_take]; omega
/-- a slice of the call's own that reads as l -/
def OwRet (l : List Nat) (w : World) (e : Ending) (w' : World) : Prop :=
  ∃ A c, e = .returned (.slice A l.length c) ∧ Ow .u64 94 w' w.heap.size A c l ∧ Below w.heap.size w w'
theorem OwRet.mag {n : Nat} {w w' : World} {e : Ending} (h : OwRet (mag n) w e w') : MagRet n w e w' := by
  obtain ⟨A, c, rfl, ho, hb⟩ := h
  obtain ⟨h1, h2, h3⟩ := ho.mg
  exact ⟨A, c, rfl, h1, h2, h3, hb⟩
theorem Ow.take {K : IntKind} {T : TypeId} {w : World} {base c : Nat} {A : Option Addr} {l : List Nat} (h : Ow K T w base A c l) {k : Nat} (hk : k ≤ l.length) : Ow K T w base A c (l.take k) := by
  have hl : (l.take k).length = k := by rw [List.length_take]; omega
  unfold Ow
  rw [hl]
  refine ⟨by simp; omega, ?_⟩
  rcases h.2 with ⟨hv, h0⟩ | ⟨g, cap, cur, hv, hg, hh, hn, hm, hs, htake⟩
  · left
    injection hv with e1 e2 e3
    subst e1 e3
    obtain rfl : k = 0 := by omega
    exact ⟨rfl, rfl⟩
  · right
    injection hv with e1 e2 e3
    subst e1 e3
    refine ⟨g, _, cur, rfl, hg, hh, by omega, hm, hs, ?_⟩
    have : (cur.toList.take (l.length * 1)).take (k * 1) = (l.map (gvK K)).take (k * 1) := by rw [htake]
    rw [List.take_take, Nat.min_eq_left (by omega)] at this
    rw [this, Nat.mul_one, List.map_take]
theorem Ow.other {K : IntKind} {T : TypeId} {w : World} {base c g h i : Nat} {v : Value} {l : List Nat} (ho : Ow K T w base (some ⟨g, 0, none⟩) c l) (hg : g ≠ h) : Ow K T (w.setCell ⟨h, i, none⟩ v) base (some ⟨g, 0, none⟩) c l := by
  refine ⟨ho.1, ?_⟩
  rcases ho.2 with h0 | ⟨g', cap, cur, hv, hb, hh, r⟩
  · exact .inl h0
  · injection hv with e1 e2 e3
    injection e1 with e1
    injection e1 with e1
    subst e1
    exact .inr ⟨g, cap, cur, by rw [e3], hb, (Below.heap_setCell w _ v g hg).trans hh, r⟩
theorem ow_ret {w wr : World} {n c : Nat} {A : Option Addr} {o : List Nat} (ho : Ow .u64 94 wr w.heap.size A c o) (hs : Small o) (hn : mval o = n) (hb : Below w.heap.size w wr) :
    OwRet (mag n) w (.returned (.slice A (cutL o).length c)) wr := by
  obtain ⟨k, hk, e⟩ := cut_pre o hs
  have e2 : mag n = o.take k := by rw [← e]; unfold cutL; rw [hn]
  exact ⟨A, c, by unfold cutL; rw [hn], by rw [e2]; exact ho.take hk, hb⟩
theorem made_gv (K : IntKind) (n : Nat) : madeCells #[Value.int K 0] n = ((List.replicate n 0).map (gvK K)).toArray := by
  apply Array.ext'
  simp only [madeCells, Array.toList_map, Array.toList_range, List.map_replicate, gvK]
  apply List.ext_getElem
  · simp
  · intro i h1 h2
    simp [Nat.mod_one]
theorem run_makeK {P : Program} {K : IntKind} {t T : TypeId} (ht : P.underlying t = some (.slice T)) (hT : (P.info? T).map (fun i => (i.zero, i.size, i.bytes)) = some (some (.int K 0), 1, 8)) (n c : Nat) (hnc : n ≤ c) (hc : c ≤ 1099511627777) (u : World) :
    (Instr.makeSlice t (.int .i64 (n : Int)) (.int .i64 (c : Int))).run P u = .ok (.slice (some ⟨u.heap.size, 0, none⟩) n c) (u.alloc (.cells ((List.replicate c 0).map (gvK K)).toArray T)) := by
  obtain ⟨i, hi, hzz⟩ := Option.map_eq_some_iff.1 hT
  simp only [Prod.mk.injEq] at hzz
  obtain ⟨hz, hs, hb⟩ := hzz
  have hr := run_make (P := P) u t T i (.int K 0) ht hi hz .i64 .i64 n c (by omega) (by omega) (by rw [hb]; omega) (by omega)
  simp only [Int.toNat_natCast, hs, Nat.mul_one] at hr
  rw [show (Value.int K 0).cells = #[Value.int K 0] from rfl, made_gv] at hr
  exact hr
theorem run_makeU (n c : Nat) (hnc : n ≤ c) (hc : c ≤ 1099511627777) (u : World) :
    (Instr.makeSlice 87 (.int .i64 (n : Int)) (.int .i64 (c : Int))).run Tryz.prog u = .ok (.slice (some ⟨u.heap.size, 0, none⟩) n c) (u.alloc (.cells ((List.replicate c 0).map (gvK .u64)).toArray 94)) :=
  run_makeK (by kernel_rfl) infoU n c hnc hc u
end Go.Proofs.YtonopbelbehheaaGreatDoor
