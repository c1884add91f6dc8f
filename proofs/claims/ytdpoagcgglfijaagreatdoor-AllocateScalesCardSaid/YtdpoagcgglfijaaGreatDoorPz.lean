/- Allocation: the blocks that positive makes, and what they hold. No condition. -/
import Derived.Test.YtdpoagcgglfijaaGreatDoorSy
import Derived.Test.YtdpoagcgglfijaaGreatDoorWa
import Derived.Test.YtdpoagcgglfijaaGreatDoorWQ
import Derived.Test.YtdpoagcgglfijaaGreatDoorSS
import Derived.Test.YtdpoagcgglfijaaGreatDoorGr
import Derived.Test.YtdpoagcgglfijaaGreatDoorReg3
import Derived.Deep.RegionHeld3
namespace Go.Proofs.YtdpoagcgglfijaaGreatDoor
open Go.RowKit Go.Shelf Go.Sort SP Dec

theorem madeS {n : Nat} (h : n ≤ 12) : ∃ Z : Array Value, Z.size = n ∧ ∀ u : World, (Instr.makeSlice 23 (.int .i64 (n : Int)) (.int .i64 (n : Int))).run Tryz.prog u = .ok (R3.sliTo n n u.heap.size) (u.alloc (.cells Z 22)) := by
  refine ⟨Array.replicate n (.string ⟨#[]⟩), by simp, fun u => ?_⟩
  obtain h | h | h | h | h | h | h | h | h | h | h | h | h : n = 0 ∨ n = 1 ∨ n = 2 ∨ n = 3 ∨ n = 4 ∨ n = 5 ∨ n = 6 ∨ n = 7 ∨ n = 8 ∨ n = 9 ∨ n = 10 ∨ n = 11 ∨ n = 12 := by omega
  all_goals
    subst h
    kernel_rfl
theorem madeI {n : Nat} (h : n ≤ 12) : ∃ Z : Array Value, Z.size = n ∧ ∀ u : World, (Instr.makeSlice 114 (.int .i64 (n : Int)) (.int .i64 (n : Int))).run Tryz.prog u = .ok (R3.sliTo n n u.heap.size) (u.alloc (.cells Z 3)) := by
  refine ⟨Array.replicate n (.int .i64 0), by simp, fun u => ?_⟩
  obtain h | h | h | h | h | h | h | h | h | h | h | h | h : n = 0 ∨ n = 1 ∨ n = 2 ∨ n = 3 ∨ n = 4 ∨ n = 5 ∨ n = 6 ∨ n = 7 ∨ n = 8 ∨ n = 9 ∨ n = 10 ∨ n = 11 ∨ n = 12 := by omega
  all_goals
    subst h
    kernel_rfl
theorem tri0 (w : World) (a b c : Obj) : (((w.alloc a).alloc b).alloc c).drew.heap[w.heap.size]? = some a :=
  (Below.heap_alloc _ _ _ (by simp; omega)).trans ((Below.heap_alloc _ _ _ (by simp)).trans (heap_new w a))
theorem tri1 (w : World) (a b c : Obj) : (((w.alloc a).alloc b).alloc c).drew.heap[w.heap.size + 1]? = some b := by
  have := heap_new (w.alloc a) b
  rw [World.size_alloc] at this
  exact (Below.heap_alloc _ _ _ (by simp)).trans this
theorem tri2 (w : World) (a b c : Obj) : (((w.alloc a).alloc b).alloc c).drew.heap[w.heap.size + 1 + 1]? = some c := by
  have := heap_new ((w.alloc a).alloc b) c
  rw [World.size_alloc, World.size_alloc] at this
  exact this
/-- a block of n cells of which the first k are known -/
def Fil (W : World) (b : Nat) (T : TypeId) (n k : Nat) (f : Nat → Value) : Prop := ∃ cs, W.heap[b]? = some (.cells cs T (0, 0)) ∧ cs.size = n ∧ ∀ i, i < k → cs[i]? = some (f i)
section
variable {W W' : World} {b n k : Nat} {T : TypeId} {f : Nat → Value}
theorem Fil.start {cs : Array Value} (h : W.heap[b]? = some (.cells cs T (0, 0))) (hn : cs.size = n) : Fil W b T n 0 f := ⟨cs, h, hn, fun i hi => by omega⟩
theorem Fil.on (h : Fil W b T n k f) (hb : Below W.heap.size W W') : Fil W' b T n k f := by
  obtain ⟨cs, h1, h2⟩ := h
  exact ⟨cs, (hb.block b (Array.getElem?_eq_some_iff.1 h1).1).trans h1, h2⟩
theorem Fil.lt (h : Fil W b T n k f) : b < W.heap.size := by
  obtain ⟨cs, h1, _⟩ := h
  exact (Array.getElem?_eq_some_iff.1 h1).1
theorem Fil.other (h : Fil W b T n k f) {c : Nat} (hc : b ≠ c) (i : Nat) (v : Value) : Fil (W.setCell ⟨c, i, none⟩ v) b T n k f := by
  obtain ⟨cs, h1, h2⟩ := h
  exact ⟨cs, (Below.heap_setCell _ _ _ _ hc).trans h1, h2⟩
theorem Fil.set (h : Fil W b T n k f) (hk : k < n) : Fil (W.setCell ⟨b, k, none⟩ (f k)) b T n (k + 1) f := by
  obtain ⟨cs, h1, h2, h3⟩ := h
  refine ⟨cs.setIfInBounds k (f k), by simp [World.setCell, Array.getElem?_modify, h1], by simpa using h2, fun i hi => ?_⟩
  rw [Array.getElem?_setIfInBounds]
  by_cases e : k = i
  · subst e; rw [if_pos rfl, if_pos (by omega)]
  · rw [if_neg e]; exact h3 i (by omega)
theorem Fil.cell (h : Fil W b T n k f) {i : Nat} (hi : i < k) : W.cell? ⟨b, i, none⟩ = some (f i) := by
  obtain ⟨cs, h1, _, h3⟩ := h
  simp [World.cell?, h1, h3 i hi]
theorem Fil.some (h : Fil W b T n k f) {i : Nat} (hi : i < n) : ∃ v, W.cell? ⟨b, i, none⟩ = Option.some v := by
  obtain ⟨cs, h1, h2, _⟩ := h
  exact ⟨cs[i]'(by omega), by simp [World.cell?, h1, h2, hi]⟩
theorem Fil.frozen (h : Fil W b T n k f) (i : Nat) : W.frozen? ⟨b, i, none⟩ = false := by
  obtain ⟨cs, h1, _⟩ := h
  simp [World.frozen?, h1]
end
/-- positive's blocks between two rounds of its first loop -/
structure PZ (w : World) (T : Int) (l : List Int) (n P R O B k ko : Nat) (W : World) : Prop where
  st : St w W
  pr : Fil W P 22 n k (fun i => .string (canS (at0 (qL T l) i)))
  rr : Fil W R 22 n k (fun i => .string (canS (at0 (rL T l) i)))
  oo : Fil W O 3 n ko (fun i => .int .i64 (i : Int))
  bb : W.heap[B]? = some (.cells #[.slice (some ⟨R, 0, none⟩) n n] 23 (0, 0))
  lo : w.heap.size ≤ P ∧ w.heap.size ≤ R ∧ w.heap.size ≤ B ∧ w.heap.size ≤ O
  ne : P ≠ R ∧ P ≠ B ∧ P ≠ O ∧ R ≠ B ∧ R ≠ O ∧ B ≠ O
section
variable {w : World} {T : Int} {l : List Int} {n P R O B k ko : Nat} {W W' : World}
theorem PZ.up (h : PZ w T l n P R O B k ko W) (hb : Below W.heap.size W W') : PZ w T l n P R O B k ko W' :=
  ⟨h.st.on hb, h.pr.on hb, h.rr.on hb, h.oo.on hb, (hb.block _ (Array.getElem?_eq_some_iff.1 h.bb).1).trans h.bb, h.lo, h.ne⟩
theorem PZ.drew (h : PZ w T l n P R O B k ko W) : PZ w T l n P R O B k ko W.drew := h.up (Below.refl _ _).drew
theorem PZ.box (h : PZ w T l n P R O B k ko W) : W.cell? ⟨B, 0, none⟩ = some (.slice (some ⟨R, 0, none⟩) n n) := by simp [World.cell?, h.bb]
theorem PZ.two (h : PZ w T l n P R O B k ko W) (hk : k < n) {q r : ByteArray} (hq : canS (at0 (qL T l) k) = q) (hr : canS (at0 (rL T l) k) = r) : PZ w T l n P R O B (k + 1) ko ((W.setCell ⟨P, k, none⟩ (.string q)).setCell ⟨R, k, none⟩ (.string r)) := by
  subst hq hr
  obtain ⟨n1, n2, n3, n4, n5, n6⟩ := h.ne
  refine ⟨(h.st.set h.lo.1 _ _).set h.lo.2.1 _ _, (Fil.set h.pr hk).other n1 _ _, Fil.set (h.rr.other (fun e => n1 e.symm) _ _) hk, (h.oo.other (fun e => n3 e.symm) _ _).other (fun e => n5 e.symm) _ _, (Below.heap_setCell _ _ _ _ (fun e => n4 e.symm)).trans ((Below.heap_setCell _ _ _ _ (fun e => n2 e.symm)).trans h.bb), h.lo, h.ne⟩
theorem PZ.three (h : PZ w T l n P R O B k ko W) (hk : ko < n) : PZ w T l n P R O B k (ko + 1) (W.setCell ⟨O, ko, none⟩ (.int .i64 (ko : Int))) := by
  obtain ⟨n1, n2, n3, n4, n5, n6⟩ := h.ne
  exact ⟨h.st.set h.lo.2.2.2 _ _, h.pr.other n3 _ _, h.rr.other n5 _ _, Fil.set h.oo hk, (Below.heap_setCell _ _ _ _ n6).trans h.bb, h.lo, h.ne⟩
end
/-- the blocks that positive makes first -/
structure PB0 (w : World) (Z : Array Value) (n P R B : Nat) (W : World) : Prop where
  low : Below w.heap.size w W
  pr : W.heap[P]? = some (.cells Z 22 (0, 0))
  rr : W.heap[R]? = some (.cells Z 22 (0, 0))
  bb : W.heap[B]? = some (.cells #[.slice (some ⟨R, 0, none⟩) n n] 23 (0, 0))
  lP : w.heap.size ≤ P
  lR : w.heap.size ≤ R
  lB : w.heap.size ≤ B
  nPR : P ≠ R
  nPB : P ≠ B
  nRB : R ≠ B
theorem q_fit {t : ByteArray} {ws : List ByteArray} {k0 : Nat} (ht : t.size ≤ k0) (hz : ∀ s ∈ ws, s.size ≤ k0) : ∀ x ∈ qL (valS t) (iv ws), Fit (k0 + k0 + 1) x := by
  intro x hx
  unfold qL at hx
  obtain ⟨y, hy, rfl⟩ := List.mem_map.1 hx
  exact ((Fit.val ht).mul (iv_fit hz y hy)).fdiv
theorem mis_fit {t : ByteArray} {ws : List ByteArray} {k0 : Nat} (ht : t.size ≤ k0) (hz : ∀ s ∈ ws, s.size ≤ k0) (h12 : ws.length ≤ 12) (k : Nat) : Fit (k0 + k0 + 4) (valS t - ((qL (valS t) (iv ws)).take k).sum) := by
  have h1 := sum_fit (K := k0 + k0 + 1) (l := (qL (valS t) (iv ws)).take k) (fun x hx => q_fit ht hz x (List.mem_of_mem_take hx)) (by rw [List.length_take, qL_len, iv_len]; omega)
  exact ((Fit.val ht).mono (by omega)).sub h1
section
variable {W W' : World} {b n k : Nat} {T : TypeId} {f : Nat → Value}
theorem Fil.congr (h : Fil W b T n k f) {g : Nat → Value} (e : ∀ i, i < k → f i = g i) : Fil W b T n k g := by
  obtain ⟨cs, h1, h2, h3⟩ := h
  exact ⟨cs, h1, h2, fun i hi => by rw [h3 i hi, e i hi]⟩
theorem Fil.upd (h : Fil W b T n n f) {g : Nat → Value} {i : Nat} {v : Value} (hv : g i = v) (e : ∀ k, k < n → k ≠ i → g k = f k) : Fil (W.setCell ⟨b, i, none⟩ v) b T n n g := by
  obtain ⟨cs, h1, h2, h3⟩ := h
  refine ⟨cs.setIfInBounds i v, by simp [World.setCell, Array.getElem?_modify, h1], by simpa using h2, fun k hk => ?_⟩
  rw [Array.getElem?_setIfInBounds]
  by_cases e' : i = k
  · subst e'; rw [if_pos rfl, if_pos (by omega), hv]
  · rw [if_neg e', h3 k hk, e k hk (fun h => e' h.symm)]
theorem Fil.grown (h : Fil W b T n k f) {row : Option Nat} (hg : W.grownBy W' row) (hne : Option.some b ≠ row) : Fil W' b T n k f := by
  have hlt := h.lt
  obtain ⟨cs, h1, h2⟩ := h
  exact ⟨cs, (hg.block b hlt hne).trans h1, h2⟩
theorem Fil.own {base : Nat} (h : Fil W b T n n f) (hb : base ≤ b) (hn : n ≤ maxLen) : W.ownsRow base T 1 (.slice (Option.some ⟨b, 0, none⟩) n n) n ((List.range n).map f) := by
  obtain ⟨cs, h1, h2, h3⟩ := h
  refine ⟨by simp, .inr ⟨b, n, cs, rfl, hb, h1, Nat.le_refl _, hn, by omega, ?_⟩⟩
  apply List.ext_getElem?
  intro i
  rw [Nat.mul_one, List.take_of_length_le (by simp; omega), Array.getElem?_toList, List.getElem?_map]
  by_cases hi : i < n
  · rw [h3 i hi, List.getElem?_range hi]; rfl
  · rw [Array.getElem?_eq_none (by omega), List.getElem?_eq_none (by simp; omega)]; rfl
theorem Fil.row (h : Fil W b T n n f) : Row W (Option.some ⟨b, 0, none⟩) ((List.range n).map f) := by
  intro i v hv
  rw [List.getElem?_map] at hv
  by_cases hi : i < n
  · rw [List.getElem?_range hi] at hv
    injection hv with hv
    exact ⟨b, 0, rfl, h.lt, by rw [Nat.zero_add, ← hv]; exact h.cell hi⟩
  · rw [List.getElem?_eq_none (by simp; omega)] at hv
    cases hv
theorem Fil.sow {O m : Nat} (h : Fil W O 3 n n (fun i => .int .i64 (i : Int))) (hn : n = m + 1) : SoW W O (Array.ofFn (fun i : Fin (m + 1) => i)) W := by
  subst hn
  obtain ⟨cs, h1, h2, h3⟩ := h
  refine ⟨World.grownBy.refl W _, ?_⟩
  have : cs = (Array.ofFn (fun i : Fin (m + 1) => i)).map encF := by
    apply Array.ext_getElem?
    intro i
    by_cases hi : i < m + 1
    · rw [h3 i hi]; simp [hi, encF]
    · rw [Array.getElem?_eq_none (by omega), Array.getElem?_eq_none (by simp; omega)]
  rw [h1, this]
theorem SoW.fil {m O : Nat} {w0 : World} {dk : Array (Fin (m + 1))} (h : SoW w0 O dk W) (hn : dk.size = n) : Fil W O 3 n n (fun i => .int .i64 ((ati (dk.toList.map (fun x => x.val)) i : Nat) : Int)) := by
  refine ⟨dk.map encF, h.row, by simpa using hn, fun i hi => ?_⟩
  have e : ati (dk.toList.map (fun x => x.val)) i = (dk[i]'(by omega)).val := ati_some (by rw [List.getElem?_map, Array.getElem?_toList, Array.getElem?_eq_getElem (by omega)]; rfl)
  rw [Array.getElem?_map, Array.getElem?_eq_getElem (by omega)]
  show some (encF _) = some (Value.int .i64 ((ati (dk.toList.map (fun x => x.val)) i : Nat) : Int))
  rw [e]
  rfl
end
theorem St.grown {w W W' : World} {O : Nat} (h : St w W) (hg : W.grownBy W' (some O)) (hO : w.heap.size ≤ O) : St w W' :=
  ⟨h.1, h.2.grown hg h.2.size (by rintro k hk; injection hk with hk; omega)⟩
/-- the sort puts the places into order -/
theorem sorted_ord {m : Nat} {r : List Int} (hr : r.length = m + 1) : Ord r ((insertionSort (ltC (cfO r)) (Array.ofFn (fun i : Fin (m + 1) => i)) 0 (m + 1)).toList.map (fun x => x.val)) := by
  obtain ⟨h1, h2, h3⟩ := sort_order (cf := cfO r) (cfO_swo r) (d := Array.ofFn (fun i : Fin (m + 1) => i)) (n := m + 1) (by simp)
  generalize insertionSort (ltC (cfO r)) (Array.ofFn (fun i : Fin (m + 1) => i)) 0 (m + 1) = d at *
  have hp : (d.toList.map (fun x => x.val)).Perm (List.range (m + 1)) := by
    have h4 := h1.map (fun x : Fin (m + 1) => x.val)
    have e : ((Array.ofFn (fun i : Fin (m + 1) => i)).toList.map (fun x => x.val)) = List.range (m + 1) := by
      apply List.ext_getElem
      · simp
      · intro i h5 h6
        rw [List.getElem_map, Array.getElem_toList, Array.getElem_ofFn, List.getElem_range]
    rwa [e] at h4
  have at_ : ∀ a, a < m + 1 → ati (d.toList.map (fun x => x.val)) a = (d[a]!).val := fun a ha => ati_some (by
    rw [List.getElem?_map, Array.getElem?_toList, Array.getElem?_eq_getElem (by omega), getElem!_pos d a (by omega)]; rfl)
  refine srt_ord hp hr (fun a b hab hb => ?_)
  have h4 := h3 a b hab hb
  rw [ltC_beats] at h4
  have hne := ati_ne hp (a := a) (b := b) (by omega) (by omega) (by omega)
  rw [at_ a (by omega), at_ b hb] at hne ⊢
  rcases beats_total (r := r) hne with h | h
  · exact h
  · rw [h] at h4; cases h4
theorem srt_len {m : Nat} {r : List Int} : (insertionSort (ltC (cfO r)) (Array.ofFn (fun i : Fin (m + 1) => i)) 0 (m + 1)).size = m + 1 :=
  (sort_order (cf := cfO r) (cfO_swo r) (d := Array.ofFn (fun i : Fin (m + 1) => i)) (n := m + 1) (by simp)).2.1
/-- the comparison serves at every world in which only the order was turned -/
theorem cmp4_of {w W : World} {T : Int} {l : List Int} {n P R O B m k : Nat} (H : PZ w T l n P R O B n n W) (hn : n = m + 1) (hl : l.length = n) (hk : k ≤ 999999) (hz : ∀ x ∈ rL T l, Fit k x) :
    CmpK W O 86 #[.pointer (some ⟨B, 0, none⟩)] (cfO (m := m) (rL T l)) := by
  subst hn
  intro V hg x y
  obtain ⟨n1, n2, n3, n4, n5, n6⟩ := H.ne
  have hs := H.st.grown hg H.lo.2.2.2
  have hR := H.rr.grown hg (by intro e; injection e with e; exact n5 e)
  have hB : V.heap[B]? = _ := (hg.block B (Array.getElem?_eq_some_iff.1 H.bb).1 (by intro e; injection e with e; exact n6 e)).trans H.bb
  have hrow := hR.row
  have e : (List.range (m + 1)).map (fun i => Value.string (canS (at0 (rL T l) i))) = ((rL T l).map canS).map sv := by
    have e1 := map_at0 (rL T l)
    rw [rL_len, hl] at e1
    conv => rhs; rw [← e1]
    rw [List.map_map, List.map_map]
    rfl
  rw [e] at hrow
  have K := clo4_any (m := m) (B := B) (RB := R) (rs := (rL T l).map canS) (by rw [List.length_map, rL_len, hl]) (fun s hs => by
    obtain ⟨z, hz', rfl⟩ := List.mem_map.1 hs
    have := (hz z hz').size
    omega) x y V hs.gl (by simp [World.cell?, hB]) hrow
  rw [iv_can] at K
  exact K
/-- positive's blocks between two rounds of its second loop -/
structure PY (w : World) (q r : List Int) (L : List Nat) (n P O j : Nat) (W : World) : Prop where
  st : St w W
  pr : Fil W P 22 n n (fun i => .string (canS (at0 q i + if rk r i < j then 1 else 0)))
  oo : Fil W O 3 n n (fun i => .int .i64 ((ati L i : Nat) : Int))
  lo : w.heap.size ≤ P
  ne : P ≠ O
section
variable {w W W' : World} {q r : List Int} {L : List Nat} {n P O j : Nat}
theorem PY.up (h : PY w q r L n P O j W) (hb : Below W.heap.size W W') : PY w q r L n P O j W' := ⟨h.st.on hb, h.pr.on hb, h.oo.on hb, h.lo, h.ne⟩
theorem PY.start (h1 : St w W) (h2 : Fil W P 22 n n (fun i => .string (canS (at0 q i)))) (h3 : Fil W O 3 n n (fun i => .int .i64 ((ati L i : Nat) : Int))) (h4 : w.heap.size ≤ P) (h5 : P ≠ O) : PY w q r L n P O 0 W :=
  ⟨h1, h2.congr (fun i _ => by rw [if_neg (Nat.not_lt_zero _), Int.add_zero]), h3, h4, h5⟩
theorem PY.place (hL : Ord r L) (hr : r.length = n) (hj : j < n) : L[j]? = some (ati L j) ∧ ati L j < n ∧ rk r (ati L j) = j := by
  have h1 : L[j]? = some (ati L j) := ati_lt (by rw [ord_len hL, hr]; exact hj)
  exact ⟨h1, by rw [← hr]; exact (ord_mem hL).1 (List.mem_of_getElem? h1), rk_at hL h1⟩
theorem PY.at (h : PY w q r L n P O j W) (hL : Ord r L) (hr : r.length = n) (hj : j < n) : W.cell? ⟨P, ati L j, none⟩ = some (.string (canS (at0 q (ati L j)))) := by
  obtain ⟨_, h2, h3⟩ := PY.place hL hr hj
  have := h.pr.cell h2
  rwa [h3, if_neg (by omega), Int.add_zero] at this
theorem PY.step (h : PY w q r L n P O j W) (hL : Ord r L) (hr : r.length = n) (hj : j < n) {v : ByteArray} (hv : canS (at0 q (ati L j) + 1) = v) : PY w q r L n P O (j + 1) (W.setCell ⟨P, ati L j, none⟩ (.string v)) := by
  obtain ⟨_, h2, h3⟩ := PY.place hL hr hj
  refine ⟨h.st.set h.lo _ _, h.pr.upd ?_ ?_, h.oo.other (fun e => h.ne e.symm) _ _, h.lo, h.ne⟩
  · show Value.string (canS (_ + if rk r (ati L j) < j + 1 then 1 else 0)) = _
    rw [h3, if_pos (by omega), hv]
  · intro k hk hki
    have hne : rk r k ≠ j := fun h' => hki (rk_inj (r := r) (by rw [hr]; exact hk) (by rw [hr]; exact h2) (by rw [h', h3]))
    show Value.string (canS (_ + if rk r k < j + 1 then 1 else 0)) = Value.string (canS (_ + if rk r k < j then 1 else 0))
    by_cases hlt : rk r k < j
    · rw [if_pos (by omega), if_pos hlt]
    · rw [if_neg (by omega), if_neg hlt]
end
/-- a list of numbers that the call has made -/
def POut (w : World) (v : Value) (n : Nat) (l : List Int) (W : World) : Prop := ∃ P, v = .slice (some ⟨P, 0, none⟩) n n ∧ w.heap.size ≤ P ∧ l.length = n ∧ Fil W P 22 n n (fun i => .string (canS (at0 l i)))
theorem PY.done {w W : World} {T : Int} {l : List Int} {L : List Nat} {n P O j : Nat} (h : PY w (qL T l) (rL T l) L n P O j W) (hl : l.length = n) (hj : (j : Int) = mis T l) : POut w (.slice (some ⟨P, 0, none⟩) n n) n (posL T l) W := by
  refine ⟨P, rfl, h.lo, by rw [posL_len, hl], h.pr.congr fun i hi => ?_⟩
  rw [posL_at (by omega), qL_at (by omega)]
  unfold bon
  by_cases hc : rk (rL T l) i < j
  · rw [if_pos hc, if_pos (by omega)]
  · rw [if_neg hc, if_neg (by omega)]
theorem r_fit {T : Int} {ws : List Int} {K : Nat} (h : WOk ws) (hs : Fit K ws.sum) : ∀ x ∈ rL T ws, Fit K x := by
  intro x hx
  have h1 := rest_bounds T h x hx
  unfold Fit at *
  omega
theorem pos_fit {T : Int} {ws : List Int} {k0 : Nat} (hT : Fit k0 T) (hw : ∀ x ∈ ws, Fit k0 x) : ∀ x ∈ posL T ws, Fit (k0 + k0 + 2) x := by
  intro x hx
  unfold posL at hx
  obtain ⟨i, hi, rfl⟩ := List.mem_map.1 hx
  rw [List.mem_range] at hi
  rw [qL_at hi]
  have h1 : Fit (k0 + k0 + 1) ((T * at0 ws i).fdiv ws.sum) := (hT.mul (hw _ (List.mem_of_getElem? (at0_lt hi)))).fdiv
  have h2 : (10 : Nat) ^ (k0 + k0 + 2) = 10 ^ (k0 + k0 + 1) * 10 := by rw [← Nat.pow_succ]
  have h3 : 0 < (10 : Nat) ^ (k0 + k0 + 1) := Nat.pow_pos (by omega)
  unfold Fit at *
  generalize 10 ^ (k0 + k0 + 1) = p at *
  rcases bon_cases T ws i with e | e <;> rw [e, h2] <;> omega
end Go.Proofs.YtdpoagcgglfijaaGreatDoor
