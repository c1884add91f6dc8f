/- Allocation: the blocks that positive makes, and what they hold. No condition. Allocation: positive. Condition: up to twelve weights of bounded length. -/
import Derived.Test.YtpipkeplhkccoaaGreatDoorSog
import Derived.Test.YtpipkeplhkccoaaGreatDoorWa
import Derived.Test.YtpipkeplhkccoaaGreatDoorWQ
import Derived.Test.YtpipkeplhkccoaaGreatDoorSS
import Derived.Test.YtpipkeplhkccoaaGreatDoorGr
import Derived.Test.YtpipkeplhkccoaaGreatDoorReg3
import Derived.Deep.RegionHeld3
namespace Go.Proofs.YtpipkeplhkccoaaGreatDoor
open Go.RowKit Go.Shelf Go.Sort SP Dec

theorem madeS {n : Nat} (h : n ≤ 12) : ∃ Z : Array Value, Z.size = n ∧ ∀ u : World, (Instr.makeSlice 25 (.int .i64 (n : Int)) (.int .i64 (n : Int))).run Tryz.prog u = .ok (R3.sliTo n n u.heap.size) (u.alloc (.cells Z 22)) := by
  refine ⟨Array.replicate n (.string ⟨#[]⟩), by simp, fun u => ?_⟩
  obtain h | h | h | h | h | h | h | h | h | h | h | h | h : n = 0 ∨ n = 1 ∨ n = 2 ∨ n = 3 ∨ n = 4 ∨ n = 5 ∨ n = 6 ∨ n = 7 ∨ n = 8 ∨ n = 9 ∨ n = 10 ∨ n = 11 ∨ n = 12 := by omega
  all_goals
    subst h
    kernel_rfl
theorem madeI {n : Nat} (h : n ≤ 12) : ∃ Z : Array Value, Z.size = n ∧ ∀ u : World, (Instr.makeSlice 134 (.int .i64 (n : Int)) (.int .i64 (n : Int))).run Tryz.prog u = .ok (R3.sliTo n n u.heap.size) (u.alloc (.cells Z 3)) := by
  refine ⟨Array.replicate n (.int .i64 0), by simp, fun u => ?_⟩
  obtain h | h | h | h | h | h | h | h | h | h | h | h | h : n = 0 ∨ n = 1 ∨ n = 2 ∨ n = 3 ∨ n = 4 ∨ n = 5 ∨ n = 6 ∨ n = 7 ∨ n = 8 ∨ n = 9 ∨ n = 10 ∨ n = 11 ∨ n = 12 := by omega
  all_goals
    subst h
    kernel_rfl
theorem tri0 (w : World) (a b c : Obj) : (((w.alloc a).alloc b).alloc c).drew.heap[w.heap.size]? = some a :=
  (Below.heap_alloc _ _ _ (by simp; omega)).trans ((Below.heap_alloc _ _ _ (by simp)).trans (heap_new w a))
theorem tri1 (w : World) (a b c : Obj) : (((w.alloc a).alloc b).alloc c).drew.heap[w.heap.size + 1]? = some b := by
  have := heap_new (w.alloc a) b
  rw [World.size_alloc] at this
  exact (Below.heap_alloc _ _ _ (by simp)).trans this
theorem tri2 (w : World) (a b c : Obj) : (((w.alloc a).alloc b).alloc c).drew.heap[w.heap.size + 1 + 1]? = some c := by
  have := heap_new ((w.alloc a).alloc b) c
  rw [World.size_alloc, World.size_alloc] at this
  exact this
/-- a block of n cells of which the first k are known -/
def Fil (W : World) (b : Nat) (T : TypeId) (n k : Nat) (f : Nat → Value) : Prop := ∃ cs, W.heap[b]? = some (.cells cs T (0, 0)) ∧ cs.size = n ∧ ∀ i, i < k → cs[i]? = some (f i)
section
variable {W W' : World} {b n k : Nat} {T : TypeId} {f : Nat → Value}
theorem Fil.start {cs : Array Value} (h : W.heap[b]? = some (.cells cs T (0, 0))) (hn : cs.size = n) : Fil W b T n 0 f := ⟨cs, h, hn, fun i hi => by omega⟩
theorem Fil.on (h : Fil W b T n k f) (hb : Below W.heap.size W W') : Fil W' b T n k f := by
  obtain ⟨cs, h1, h2⟩ := h
  exact ⟨cs, (hb.block b (Array.getElem?_eq_some_iff.1 h1).1).trans h1, h2⟩
theorem Fil.lt (h : Fil W b T n k f) : b < W.heap.size := by
  obtain ⟨cs, h1, _⟩ := h
  exact (Array.getElem?_eq_some_iff.1 h1).1
theorem Fil.other (h : Fil W b T n k f) {c : Nat} (hc : b ≠ c) (i : Nat) (v : Value) : Fil (W.setCell ⟨c, i, none⟩ v) b T n k f := by
  obtain ⟨cs, h1, h2⟩ := h
  exact ⟨cs, (Below.heap_setCell _ _ _ _ hc).trans h1, h2⟩
theorem Fil.set (h : Fil W b T n k f) (hk : k < n) : Fil (W.setCell ⟨b, k, none⟩ (f k)) b T n (k + 1) f := by
  obtain ⟨cs, h1, h2, h3⟩ := h
  refine ⟨cs.setIfInBounds k (f k), by simp [World.setCell, Array.getElem?_modify, h1], by simpa using h2, fun i hi => ?_⟩
  rw [Array.getElem?_setIfInBounds]
  by_cases e : k = i
  · subst e; rw [if_pos rfl, if_pos (by omega)]
  · rw [if_neg e]; exact h3 i (by omega)
theorem Fil.cell (h : Fil W b T n k f) {i : Nat} (hi : i < k) : W.cell? ⟨b, i, none⟩ = some (f i) := by
  obtain ⟨cs, h1, _, h3⟩ := h
  simp [World.cell?, h1, h3 i hi]
theorem Fil.some (h : Fil W b T n k f) {i : Nat} (hi : i < n) : ∃ v, W.cell? ⟨b, i, none⟩ = Option.some v := by
  obtain ⟨cs, h1, h2, _⟩ := h
  exact ⟨cs[i]'(by omega), by simp [World.cell?, h1, h2, hi]⟩
theorem Fil.frozen (h : Fil W b T n k f) (i : Nat) : W.frozen? ⟨b, i, none⟩ = false := by
  obtain ⟨cs, h1, _⟩ := h
  simp [World.frozen?, h1]
end
/-- positive's blocks between two rounds of its first loop -/
structure PZ (w : World) (T : Int) (l : List Int) (n P R O B k ko : Nat) (W : World) : Prop where
  st : St w W
  pr : Fil W P 22 n k (fun i => .string (canS (at0 (qL T l) i)))
  rr : Fil W R 22 n k (fun i => .string (canS (at0 (rL T l) i)))
  oo : Fil W O 3 n ko (fun i => .int .i64 (i : Int))
  bb : W.heap[B]? = some (.cells #[.slice (some ⟨R, 0, none⟩) n n] 25 (0, 0))
  lo : w.heap.size ≤ P ∧ w.heap.size ≤ R ∧ w.heap.size ≤ B ∧ w.heap.size ≤ O
  ne : P ≠ R ∧ P ≠ B ∧ P ≠ O ∧ R ≠ B ∧ R ≠ O ∧ B ≠ O
section
variable {w : World} {T : Int} {l : List Int} {n P R O B k ko : Nat} {W W' : World}
theorem PZ.up (h : PZ w T l n P R O B k ko W) (hb : Below W.heap.size W W') : PZ w T l n P R O B k ko W' :=
  ⟨h.st.on hb, h.pr.on hb, h.rr.on hb, h.oo.on hb, (hb.block _ (Array.getElem?_eq_some_iff.1 h.bb).1).trans h.bb, h.lo, h.ne⟩
theorem PZ.drew (h : PZ w T l n P R O B k ko W) : PZ w T l n P R O B k ko W.drew := h.up (Below.refl _ _).drew
theorem PZ.box (h : PZ w T l n P R O B k ko W) : W.cell? ⟨B, 0, none⟩ = some (.slice (some ⟨R, 0, none⟩) n n) := by simp [World.cell?, h.bb]
theorem PZ.two (h : PZ w T l n P R O B k ko W) (hk : k < n) {q r : ByteArray} (hq : canS (at0 (qL T l) k) = q) (hr : canS (at0 (rL T l) k) = r) : PZ w T l n P R O B (k + 1) ko ((W.setCell ⟨P, k, none⟩ (.string q)).setCell ⟨R, k, none⟩ (.string r)) := by
  subst hq hr
  obtain ⟨n1, n2, n3, n4, n5, n6⟩ := h.ne
  refine ⟨(h.st.set h.lo.1 _ _).set h.lo.2.1 _ _, (Fil.set h.pr hk).other n1 _ _, Fil.set (h.rr.other (fun e => n1 e.symm) _ _) hk, (h.oo.other (fun e => n3 e.symm) _ _).other (fun e => n5 e.symm) _ _, (Below.heap_setCell _ _ _ _ (fun e => n4 e.symm)).trans ((Below.heap_setCell _ _ _ _ (fun e => n2 e.symm)).trans h.bb), h.lo, h.ne⟩
theorem PZ.three (h : PZ w T l n P R O B k ko W) (hk : ko < n) : PZ w T l n P R O B k (ko + 1) (W.setCell ⟨O, ko, none⟩ (.int .i64 (ko : Int))) := by
  obtain ⟨n1, n2, n3, n4, n5, n6⟩ := h.ne
  exact ⟨h.st.set h.lo.2.2.2 _ _, h.pr.other n3 _ _, h.rr.other n5 _ _, Fil.set h.oo hk, (Below.heap_setCell _ _ _ _ n6).trans h.bb, h.lo, h.ne⟩
end
/-- the blocks that positive makes first -/
structure PB0 (w : World) (Z : Array Value) (n P R B : Nat) (W : World) : Prop where
  low : Below w.heap.size w W
  pr : W.heap[P]? = some (.cells Z 22 (0, 0))
  rr : W.heap[R]? = some (.cells Z 22 (0, 0))
  bb : W.heap[B]? = some (.cells #[.slice (some ⟨R, 0, none⟩) n n] 25 (0, 0))
  lP : w.heap.size ≤ P
  lR : w.heap.size ≤ R
  lB : w.heap.size ≤ B
  nPR : P ≠ R
  nPB : P ≠ B
  nRB : R ≠ B
theorem q_fit {t : ByteArray} {ws : List ByteArray} {k0 : Nat} (ht : t.size ≤ k0) (hz : ∀ s ∈ ws, s.size ≤ k0) : ∀ x ∈ qL (valS t) (iv ws), Fit (k0 + k0 + 1) x := by
  intro x hx
  unfold qL at hx
  obtain ⟨y, hy, rfl⟩ := List.mem_map.1 hx
  exact ((Fit.val ht).mul (iv_fit hz y hy)).fdiv
theorem mis_fit {t : ByteArray} {ws : List ByteArray} {k0 : Nat} (ht : t.size ≤ k0) (hz : ∀ s ∈ ws, s.size ≤ k0) (h12 : ws.length ≤ 12) (k : Nat) : Fit (k0 + k0 + 4) (valS t - ((qL (valS t) (iv ws)).take k).sum) := by
  have h1 := sum_fit (K := k0 + k0 + 1) (l := (qL (valS t) (iv ws)).take k) (fun x hx => q_fit ht hz x (List.mem_of_mem_take hx)) (by rw [List.length_take, qL_len, iv_len]; omega)
  exact ((Fit.val ht).mono (by omega)).sub h1
section
variable {W W' : World} {b n k : Nat} {T : TypeId} {f : Nat → Value}
theorem Fil.congr (h : Fil W b T n k f) {g : Nat → Value} (e : ∀ i, i < k → f i = g i) : Fil W b T n k g := by
  obtain ⟨cs, h1, h2, h3⟩ := h
  exact ⟨cs, h1, h2, fun i hi => by rw [h3 i hi, e i hi]⟩
theorem Fil.upd (h : Fil W b T n n f) {g : Nat → Value} {i : Nat} {v : Value} (hv : g i = v) (e : ∀ k, k < n → k ≠ i → g k = f k) : Fil (W.setCell ⟨b, i, none⟩ v) b T n n g := by
  obtain ⟨cs, h1, h2, h3⟩ := h
  refine ⟨cs.setIfInBounds i v, by simp [World.setCell, Array.getElem?_modify, h1], by simpa using h2, fun k hk => ?_⟩
  rw [Array.getElem?_setIfInBounds]
  by_cases e' : i = k
  · subst e'; rw [if_pos rfl, if_pos (by omega), hv]
  · rw [if_neg e', h3 k hk, e k hk (fun h => e' h.symm)]
theorem Fil.grown (h : Fil W b T n k f) {row : Option Nat} (hg : W.grownBy W' row) (hne : Option.some b ≠ row) : Fil W' b T n k f := by
  have hlt := h.lt
  obtain ⟨cs, h1, h2⟩ := h
  exact ⟨cs, (hg.block b hlt hne).trans h1, h2⟩
theorem Fil.own {base : Nat} (h : Fil W b T n n f) (hb : base ≤ b) (hn : n ≤ maxLen) : W.ownsRow base T 1 (.slice (Option.some ⟨b, 0, none⟩) n n) n ((List.range n).map f) := by
  obtain ⟨cs, h1, h2, h3⟩ := h
  refine ⟨by simp, .inr ⟨b, n, cs, rfl, hb, h1, Nat.le_refl _, hn, by omega, ?_⟩⟩
  apply List.ext_getElem?
  intro i
  rw [Nat.mul_one, List.take_of_length_le (by simp; omega), Array.getElem?_toList, List.getElem?_map]
  by_cases hi : i < n
  · rw [h3 i hi, List.getElem?_range hi]; rfl
  · rw [Array.getElem?_eq_none (by omega), List.getElem?_eq_none (by simp; omega)]; rfl
theorem Fil.row (h : Fil W b T n n f) : Row W (Option.some ⟨b, 0, none⟩) ((List.range n).map f) := by
  intro i v hv
  rw [List.getElem?_map] at hv
  by_cases hi : i < n
  · rw [List.getElem?_range hi] at hv
    injection hv with hv
    exact ⟨b, 0, rfl, h.lt, by rw [Nat.zero_add, ← hv]; exact h.cell hi⟩
  · rw [List.getElem?_eq_none (by simp; omega)] at hv
    cases hv
theorem Fil.sow {O m : Nat} (h : Fil W O 3 n n (fun i => .int .i64 (i : Int))) (hn : n = m + 1) : SoW W O (Array.ofFn (fun i : Fin (m + 1) => i)) W := by
  subst hn
  obtain ⟨cs, h1, h2, h3⟩ := h
  refine ⟨World.grownBy.refl W _, ?_⟩
  have : cs = (Array.ofFn (fun i : Fin (m + 1) => i)).map encF := by
    apply Array.ext_getElem?
    intro i
    by_cases hi : i < m + 1
    · rw [h3 i hi]; simp [hi, encF]
    · rw [Array.getElem?_eq_none (by omega), Array.getElem?_eq_none (by simp; omega)]
  rw [h1, this]
theorem SoW.fil {m O : Nat} {w0 : World} {dk : Array (Fin (m + 1))} (h : SoW w0 O dk W) (hn : dk.size = n) : Fil W O 3 n n (fun i => .int .i64 ((ati (dk.toList.map (fun x => x.val)) i : Nat) : Int)) := by
  refine ⟨dk.map encF, h.row, by simpa using hn, fun i hi => ?_⟩
  have e : ati (dk.toList.map (fun x => x.val)) i = (dk[i]'(by omega)).val := ati_some (by rw [List.getElem?_map, Array.getElem?_toList, Array.getElem?_eq_getElem (by omega)]; rfl)
  rw [Array.getElem?_map, Array.getElem?_eq_getElem (by omega)]
  show some (encF _) = some (Value.int .i64 ((ati (dk.toList.map (fun x => x.val)) i : Nat) : Int))
  rw [e]
  rfl
end
theorem St.grown {w W W' : World} {O : Nat} (h : St w W) (hg : W.grownBy W' (some O)) (hO : w.heap.size ≤ O) : St w W' :=
  ⟨h.1, h.2.grown hg h.2.size (by rintro k hk; injection hk with hk; omega)⟩
/-- the sort puts the places into order -/
theorem sorted_ord {m : Nat} {r : List Int} (hr : r.length = m + 1) : Ord r ((insertionSort (ltC (cfO r)) (Array.ofFn (fun i : Fin (m + 1) => i)) 0 (m + 1)).toList.map (fun x => x.val)) := by
  obtain ⟨h1, h2, h3⟩ := sort_order (cf := cfO r) (cfO_swo r) (d := Array.ofFn (fun i : Fin (m + 1) => i)) (n := m + 1) (by simp)
  generalize insertionSort (ltC (cfO r)) (Array.ofFn (fun i : Fin (m + 1) => i)) 0 (m + 1) = d at *
  have hp : (d.toList.map (fun x => x.val)).Perm (List.range (m + 1)) := by
    have h4 := h1.map (fun x : Fin (m + 1) => x.val)
    have e : ((Array.ofFn (fun i : Fin (m + 1) => i)).toList.map (fun x => x.val)) = List.range (m + 1) := by
      apply List.ext_getElem
      · simp
      · intro i h5 h6
        rw [List.getElem_map, Array.getElem_toList, Array.getElem_ofFn, List.getElem_range]
    rwa [e] at h4
  have at_ : ∀ a, a < m + 1 → ati (d.toList.map (fun x => x.val)) a = (d[a]!).val := fun a ha => ati_some (by
    rw [List.getElem?_map, Array.getElem?_toList, Array.getElem?_eq_getElem (by omega), getElem!_pos d a (by omega)]; rfl)
  refine srt_ord hp hr (fun a b hab hb => ?_)
  have h4 := h3 a b hab hb
  rw [ltC_beats] at h4
  have hne := ati_ne hp (a := a) (b := b) (by omega) (by omega) (by omega)
  rw [at_ a (by omega), at_ b hb] at hne ⊢
  rcases beats_total (r := r) hne with h | h
  · exact h
  · rw [h] at h4; cases h4
theorem srt_len {m : Nat} {r : List Int} : (insertionSort (ltC (cfO r)) (Array.ofFn (fun i : Fin (m + 1) => i)) 0 (m + 1)).size = m + 1 :=
  (sort_order (cf := cfO r) (cfO_swo r) (d := Array.ofFn (fun i : Fin (m + 1) => i)) (n := m + 1) (by simp)).2.1
/-- the comparison serves at every world in which only the order was turned -/
theorem cmp4_of {w W : World} {T : Int} {l : List Int} {n P R O B m k : Nat} (H : PZ w T l n P R O B n n W) (hn : n = m + 1) (hl : l.length = n) (hk : k ≤ 999999) (hz : ∀ x ∈ rL T l, Fit k x) :
    CmpK W O 163 #[.pointer (some ⟨B, 0, none⟩)] (cfO (m := m) (rL T l)) := by
  subst hn
  intro V hg x y
  obtain ⟨n1, n2, n3, n4, n5, n6⟩ := H.ne
  have hs := H.st.grown hg H.lo.2.2.2
  have hR := H.rr.grown hg (by intro e; injection e with e; exact n5 e)
  have hB : V.heap[B]? = _ := (hg.block B (Array.getElem?_eq_some_iff.1 H.bb).1 (by intro e; injection e with e; exact n6 e)).trans H.bb
  have hrow := hR.row
  have e : (List.range (m + 1)).map (fun i => Value.string (canS (at0 (rL T l) i))) = ((rL T l).map canS).map sv := by
    have e1 := map_at0 (rL T l)
    rw [rL_len, hl] at e1
    conv => rhs; rw [← e1]
    rw [List.map_map, List.map_map]
    rfl
  rw [e] at hrow
  have K := clo4_any (m := m) (B := B) (RB := R) (rs := (rL T l).map canS) (by rw [List.length_map, rL_len, hl]) (fun s hs => by
    obtain ⟨z, hz', rfl⟩ := List.mem_map.1 hs
    have := (hz z hz').size
    omega) x y V hs.gl (by simp [World.cell?, hB]) hrow
  rw [iv_can] at K
  exact K
/-- positive's blocks between two rounds of its second loop -/
structure PY (w : World) (q r : List Int) (L : List Nat) (n P O j : Nat) (W : World) : Prop where
  st : St w W
  pr : Fil W P 22 n n (fun i => .string (canS (at0 q i + if rk r i < j then 1 else 0)))
  oo : Fil W O 3 n n (fun i => .int .i64 ((ati L i : Nat) : Int))
  lo : w.heap.size ≤ P
  ne : P ≠ O
section
variable {w W W' : World} {q r : List Int} {L : List Nat} {n P O j : Nat}
theorem PY.up (h : PY w q r L n P O j W) (hb : Below W.heap.size W W') : PY w q r L n P O j W' := ⟨h.st.on hb, h.pr.on hb, h.oo.on hb, h.lo, h.ne⟩
theorem PY.start (h1 : St w W) (h2 : Fil W P 22 n n (fun i => .string (canS (at0 q i)))) (h3 : Fil W O 3 n n (fun i => .int .i64 ((ati L i : Nat) : Int))) (h4 : w.heap.size ≤ P) (h5 : P ≠ O) : PY w q r L n P O 0 W :=
  ⟨h1, h2.congr (fun i _ => by rw [if_neg (Nat.not_lt_zero _), Int.add_zero]), h3, h4, h5⟩
theorem PY.place (hL : Ord r L) (hr : r.length = n) (hj : j < n) : L[j]? = some (ati L j) ∧ ati L j < n ∧ rk r (ati L j) = j := by
  have h1 : L[j]? = some (ati L j) := ati_lt (by rw [ord_len hL, hr]; exact hj)
  exact ⟨h1, by rw [← hr]; exact (ord_mem hL).1 (List.mem_of_getElem? h1), rk_at hL h1⟩
theorem PY.at (h : PY w q r L n P O j W) (hL : Ord r L) (hr : r.length = n) (hj : j < n) : W.cell? ⟨P, ati L j, none⟩ = some (.string (canS (at0 q (ati L j)))) := by
  obtain ⟨_, h2, h3⟩ := PY.place hL hr hj
  have := h.pr.cell h2
  rwa [h3, if_neg (by omega), Int.add_zero] at this
theorem PY.step (h : PY w q r L n P O j W) (hL : Ord r L) (hr : r.length = n) (hj : j < n) {v : ByteArray} (hv : canS (at0 q (ati L j) + 1) = v) : PY w q r L n P O (j + 1) (W.setCell ⟨P, ati L j, none⟩ (.string v)) := by
  obtain ⟨_, h2, h3⟩ := PY.place hL hr hj
  refine ⟨h.st.set h.lo _ _, h.pr.upd ?_ ?_, h.oo.other (fun e => h.ne e.symm) _ _, h.lo, h.ne⟩
  · show Value.string (canS (_ + if rk r (ati L j) < j + 1 then 1 else 0)) = _
    rw [h3, if_pos (by omega), hv]
  · intro k hk hki
    have hne : rk r k ≠ j := fun h' => hki (rk_inj (r := r) (by rw [hr]; exact hk) (by rw [hr]; exact h2) (by rw [h', h3]))
    show Value.string (canS (_ + if rk r k < j + 1 then 1 else 0)) = Value.string (canS (_ + if rk r k < j then 1 else 0))
    by_cases hlt : rk r k < j
    · rw [if_pos (by omega), if_pos hlt]
    · rw [if_neg (by omega), if_neg hlt]
end
/-- a list of numbers that the call has made -/
def POut (w : World) (v : Value) (n : Nat) (l : List Int) (W : World) : Prop := ∃ P, v = .slice (some ⟨P, 0, none⟩) n n ∧ w.heap.size ≤ P ∧ l.length = n ∧ Fil W P 22 n n (fun i => .string (canS (at0 l i)))
theorem PY.done {w W : World} {T : Int} {l : List Int} {L : List Nat} {n P O j : Nat} (h : PY w (qL T l) (rL T l) L n P O j W) (hl : l.length = n) (hj : (j : Int) = mis T l) : POut w (.slice (some ⟨P, 0, none⟩) n n) n (posL T l) W := by
  refine ⟨P, rfl, h.lo, by rw [posL_len, hl], h.pr.congr fun i hi => ?_⟩
  rw [posL_at (by omega), qL_at (by omega)]
  unfold bon
  by_cases hc : rk (rL T l) i < j
  · rw [if_pos hc, if_pos (by omega)]
  · rw [if_neg hc, if_neg (by omega)]
theorem r_fit {T : Int} {ws : List Int} {K : Nat} (h : WOk ws) (hs : Fit K ws.sum) : ∀ x ∈ rL T ws, Fit K x := by
  intro x hx
  have h1 := rest_bounds T h x hx
  unfold Fit at *
  omega
theorem pos_fit {T : Int} {ws : List Int} {k0 : Nat} (hT : Fit k0 T) (hw : ∀ x ∈ ws, Fit k0 x) : ∀ x ∈ posL T ws, Fit (k0 + k0 + 2) x := by
  intro x hx
  unfold posL at hx
  obtain ⟨i, hi, rfl⟩ := List.mem_map.1 hx
  rw [List.mem_range] at hi
  rw [qL_at hi]
  have h1 : Fit (k0 + k0 + 1) ((T * at0 ws i).fdiv ws.sum) := (hT.mul (hw _ (List.mem_of_getElem? (at0_lt hi)))).fdiv
  have h2 : (10 : Nat) ^ (k0 + k0 + 2) = 10 ^ (k0 + k0 + 1) * 10 := by rw [← Nat.pow_succ]
  have h3 : 0 < (10 : Nat) ^ (k0 + k0 + 1) := Nat.pow_pos (by omega)
  unfold Fit at *
  generalize 10 ^ (k0 + k0 + 1) = p at *
  rcases bon_cases T ws i with e | e <;> rw [e, h2] <;> omega
end Go.Proofs.YtpipkeplhkccoaaGreatDoor
namespace Go.Proofs.YtpipkeplhkccoaaGreatDoor
open Go.RowKit Go.Shelf Go.Sort SP Dec

set_option maxRecDepth 100000 in
set_option maxHeartbeats 4000000 in
theorem pos4_few {A : Option Addr} {n c k0 : Nat} {t : ByteArray} {ws : List ByteArray} (hn : ws.length = n) (h12 : n ≤ 12) (hk0 : k0 ≤ 5000) (ht : t.size ≤ k0) (hz : ∀ s ∈ ws, s.size ≤ k0) (hcan : canS (valS t) = t) (hok : WOk (iv ws))
    (w : World) (hg : Gl w) (hr : Row w A (ws.map sv)) :
    Calls Tryz.prog 123 #[.string t, .slice A n c] w fun e w' => ∃ v, e = .returned v ∧ POut w v n (posL (valS t) (iv ws)) w' ∧ Below w.heap.size w w' := by
  have hs := St.refl hg
  have hpos : (iv ws).sum ≠ 0 := by have := hok.pos; omega
  have HOK := Lib.hid hok
  have KW := whole_any (A := A) (c := c) hn h12 hk0 hz
  obtain ⟨Z, hZ, hm⟩ := madeS h12
  obtain ⟨Y, hY, hmi⟩ := madeI h12
  obtain ⟨sm, hsm⟩ : ∃ v, canS (iv ws).sum = v := ⟨_, rfl⟩
  rw [hsm] at KW
  have HM := Lib.hid hm
  have HR := Lib.hid hr
  have HMI : ∀ u : World, (Instr.makeSlice 134 (.int .i64 (n : Int)) (.int .i64 (n : Int))).run Tryz.prog u = .ok (.slice (some ⟨u.heap.size, 0, none⟩) n n) (u.alloc (.cells Y 3)) := hmi
  have HN := Lib.hid hn
  have HZW := Lib.hid hz
  have HT := Lib.hid ht
  have HCAN := Lib.hid hcan
  have HSM := Lib.hid hsm
  have HPOS := Lib.hid hpos
  have HFS : Hid (Fit (k0 + 2) (iv ws).sum) := whole_fit hz (by omega)
  clear hm hmi hg hr hn hz ht hcan hsm hpos hok
  go_enter Tryz.func123, Tryz.ntmps123
  go_wp2_with fail
  refine KW.step hs HR.out ?_
  intro w1 hs1 _
  go_wp2_with fail
  have HMS : ∀ u : World, (Instr.makeSlice 25 (.int .i64 (n : Int)) (.int .i64 (n : Int))).run Tryz.prog u = .ok (.slice (some ⟨u.heap.size, 0, none⟩) n n) (u.alloc (.cells Z 22)) := HM.out
  have HSZ : Hid (w.heap.size ≤ w1.heap.size) := hs1.2.size
  have HL1 := Lib.hid hs1
  clear hs
  go_upto_region 2 with (fail)
  go_cut [6, 7, 23] (fun p q r wx => ∃ P R B, p = .slice (some ⟨P, 0, none⟩) n n ∧ q = .pointer (some ⟨B, 0, none⟩) ∧ r = .slice (some ⟨R, 0, none⟩) n n ∧ Hid (PB0 w1 Z n P R B wx))
  case first =>
    clear hs1
    go_big_region
    all_goals
      go_wp2_with fail
      go_meet
      refine ⟨_, _, _, rfl, rfl, rfl, ⟨⟨rfl, rfl, rfl, ?_, ?_⟩, ?_, ?_, ?_, ?_, ?_, ?_, ?_, ?_, ?_⟩⟩
    all_goals try omega
    all_goals try first | exact tri0 _ _ _ _ | exact tri1 _ _ _ _ | exact tri2 _ _ _ _
    all_goals try (simp [-World.alloc_eq, -World.drew_eq, World.alloc, World.drew, Array.getElem?_push]; done)
    all_goals try (intro k hk; simp [-World.alloc_eq, -World.drew_eq, World.alloc, World.drew, Array.getElem?_push]; (repeat first | rw [if_neg (by omega)] | rw [if_pos (by omega)]); done)
    all_goals try (simp [-World.alloc_eq, -World.drew_eq, World.alloc, World.drew]; omega)
    all_goals try (simp [-World.alloc_eq, -World.drew_eq, World.alloc, World.setCell, World.drew, Array.getElem?_push, Array.getElem?_modify]; (repeat first | rw [if_neg (by omega)] | rw [if_pos (by omega)]); done)
  case rest =>
  obtain ⟨P, R, B, rfl, rfl, rfl, HB⟩ := hcut
  have hs2 : St w wc := hs1.on HB.out.low
  generalize wc = W5 at *
  go_wp2_with fail
  have hs3 := hs2.alloc (.cells Y 3)
  have HZ0 : Hid (∃ O, O = W5.heap.size ∧ PZ w (valS t) (iv ws) n P R O B 0 0 (W5.alloc (.cells Y 3))) := by
    have hz := hs1.2.size
    have e : ∀ {b : Nat} {o : Obj}, W5.heap[b]? = some o → b < W5.heap.size ∧ (W5.alloc (.cells Y 3)).heap[b]? = some o := fun {b o} h => ⟨(Array.getElem?_eq_some_iff.1 h).1, (Below.heap_alloc _ _ _ (Array.getElem?_eq_some_iff.1 h).1).trans h⟩
    have lp := HB.out.lP
    have lr := HB.out.lR
    have lb := HB.out.lB
    have l1 := (e HB.out.pr).1
    have l2 := (e HB.out.rr).1
    have l3 := (e HB.out.bb).1
    exact ⟨_, rfl, hs3, Fil.start (e HB.out.pr).2 hZ, Fil.start (e HB.out.rr).2 hZ, Fil.start (heap_new _ _) hY, (e HB.out.bb).2, ⟨by omega, by omega, by omega, by have := hs2.2.size; omega⟩, ⟨HB.out.nPR, HB.out.nPB, by omega, HB.out.nRB, by omega, by omega⟩⟩
  obtain ⟨O, hO, HZZ⟩ := HZ0
  rw [← hO]
  have HP0 := Lib.hid HZZ
  clear HZZ hO hs3 hs2 HB hs1 HL1 HSZ
  generalize W5.alloc (.cells Y 3) = W6 at *
  go_loopw [30, 9] (fun s ms wr => ∃ k : Nat, k ≤ n ∧ s = .int .i64 (k : Int) ∧ ms = .string (canS (valS t - ((qL (valS t) (iv ws)).take k).sum)) ∧ Hid (PZ w (valS t) (iv ws) n P R O B k k wr)) (fun s _ _ => (n - intOf s).toNat)
  case atStart => exact ⟨0, by omega, rfl, by rw [List.take_zero]; show Value.string t = .string (canS (valS t - 0)); rw [Int.sub_zero, HCAN.out], HP0.out⟩
  case round =>
    clear HP0
    obtain ⟨k, hk, rfl, rfl, HP⟩ := hrel
    by_cases hkn : k = n
    · subst hkn
      have q : decide ((k : Int) < (k : Int)) = false := decide_eq_false (by omega)
      obtain ⟨m, hm⟩ : ∃ m, k = m + 1 := ⟨k - 1, by
        have h1 : (iv ws).length = k := by rw [iv_len, HN.out]
        have h2 := HOK.out.pos
        have h3 : k ≠ 0 := fun e => by rw [List.length_eq_zero_iff.1 (h1.trans e)] at h2; simp at h2
        omega⟩
      have hiv : (iv ws).length = k := by rw [iv_len, HN.out]
      have hrl : (rL (valS t) (iv ws)).length = k := by rw [rL_len, hiv]
      have HSo := Lib.hid (sort_few (m := m) (blk := O) (n := k) (g := 163) (cb := #[.pointer (some ⟨B, 0, none⟩)]) (cf := cfO (rL (valS t) (iv ws))) (d := Array.ofFn (fun i : Fin (m + 1) => i)) (w0 := wr) (w := wr) (fun _ _ => rfl)
        (cmp4_of HP.out hm hiv (k := k0 + 2) (by omega) (r_fit HOK.out HFS.out)) (by rw [Array.size_ofFn, hm]) h12 (Fil.sow HP.out.oo hm))
      obtain ⟨j0, hj0, hjk⟩ : ∃ j0 : Nat, mis (valS t) (iv ws) = (j0 : Int) ∧ j0 ≤ k := by
        have h1 := mis_le (valS t) HOK.out
        rw [hiv] at h1
        exact ⟨(mis (valS t) (iv ws)).toNat, by omega, by omega⟩
      have e1 : valS t - ((qL (valS t) (iv ws)).take k).sum = (j0 : Int) := by
        rw [List.take_of_length_le (by rw [qL_len, hiv]; exact Nat.le_refl _)]
        exact hj0
      have KSm : Ret 166 #[.string (canS (j0 : Int))] (.tuple #[.int .i64 (j0 : Int), .bool true]) := fun w hg => by
        have := SmlV (Vs.can (k := 2) (z := (j0 : Int)) (by show (j0 : Int).natAbs < 10 ^ 2; omega) (by omega)) w hg
        rwa [show sml (j0 : Int) = ((j0 : Int), true) by unfold sml; rw [if_pos ⟨by omega, by omega⟩]] at this
      rw [e1]
      generalize canS (j0 : Int) = mt at *
      have HHM := Lib.hid (And.intro hm (And.intro hiv (And.intro hrl hj0)))
      have hk0n : ¬ k = 0 := by omega
      clear hm hiv hrl hj0 e1
      go_wp2_with fail
      refine (HSo.out).mono ?_
      rintro e w1 ⟨rfl, hS⟩
      obtain ⟨L, HL⟩ : ∃ L : List Nat, Hid (Ord (rL (valS t) (iv ws)) L ∧ PY w (qL (valS t) (iv ws)) (rL (valS t) (iv ws)) L k P O 0 w1) := by
        have hm := HHM.out.1
        have hS' := hS
        rw [show insertionSort (ltC (cfO (m := m) (rL (valS t) (iv ws)))) (Array.ofFn (fun i : Fin (m + 1) => i)) 0 k = insertionSort (ltC (cfO (m := m) (rL (valS t) (iv ws)))) (Array.ofFn (fun i : Fin (m + 1) => i)) 0 (m + 1) by rw [hm]] at hS'
        exact ⟨_, sorted_ord (m := m) (HHM.out.2.2.1.trans hm), PY.start (HP.out.st.grown hS.gr HP.out.lo.2.2.2) (HP.out.pr.grown hS.gr (by intro e; injection e with e; exact HP.out.ne.2.2.1 e)) (hS'.fil (srt_len.trans hm.symm)) HP.out.lo.1 HP.out.ne.2.2.1⟩
      have hs1 := HL.out.2.st
      have HPY := Lib.hid HL.out.2
      have HORD := Lib.hid HL.out.1
      clear HP HSo hS HL
      go_wp2_with fail
      refine KSm.step hs1 ?_
      intro w2 hs2 hb2
      replace HPY := Lib.hid (HPY.out.up hb2)
      have hadd : ∀ a : Addr, a.add (0 * 1) = a := fun a => by simp [Addr.add]
      have jk : (j0 : Int) ≤ (k : Int) := by omega
      go_wp2_with fail
      go_loopw [73] (fun s wr2 => ∃ j : Nat, j ≤ j0 ∧ s = .int .i64 (j : Int) ∧ Hid (PY w (qL (valS t) (iv ws)) (rL (valS t) (iv ws)) L k P O j wr2)) (fun s _ => (j0 - intOf s).toNat)
      case atStart => exact ⟨0, by omega, rfl, HPY.out⟩
      case round =>
        clear HPY hs1 hs2
        obtain ⟨j, hj, rfl, HPY⟩ := hrel
        by_cases hjn : j = j0
        · subst hjn
          have q : decide ((j : Int) < (j : Int)) = false := decide_eq_false (by omega)
          go_wp2_with fail
          go_ret
          exact ⟨_, rfl, HPY.out.done HHM.out.2.1 HHM.out.2.2.2.symm, HPY.out.st.2⟩
        · have hjl : j < k := by omega
          have q : decide ((j : Int) < (j0 : Int)) = true := decide_eq_true (by omega)
          have qn : decide (j < j0) = true := decide_eq_true (by omega)
          have jl0 : j < j0 := by omega
          obtain ⟨_, hik, _⟩ := PY.place HORD.out HHM.out.2.2.1 hjl
          have cO := HPY.out.oo.cell (i := j) hjl
          have cP := HPY.out.at HORD.out HHM.out.2.2.1 hjl
          have hst := fun (W : World) (h : PY w (qL (valS t) (iv ws)) (rL (valS t) (iv ws)) L k P O j W) => h.step HORD.out HHM.out.2.2.1 hjl rfl
          have hql : (qL (valS t) (iv ws)).length = k := by rw [qL_len]; exact HHM.out.2.1
          have fq := q_fit HT.out HZW.out _ (List.mem_of_getElem? (at0_lt (l := qL (valS t) (iv ws)) (i := ati L j) (by rw [hql]; exact hik)))
          have KA := AddR (Vs.can fq (by omega)) (⟨by decide, by decide⟩ : Vs ⟨#[49]⟩ 1)
          have HST := Lib.hid hst
          generalize canS (at0 (qL (valS t) (iv ws)) (ati L j) + 1) = y at *
          generalize canS (at0 (qL (valS t) (iv ws)) (ati L j)) = x at *
          generalize ati L j = i at *
          have ik : (i : Int) < (k : Int) := by omega
          have hs1 := HPY.out.st
          clear fq hst hql hjn
          go_wp2_with fail
          refine KA.step hs1 ?_
          intro w3 hs3 hb3
          have HP3 := Lib.hid (HPY.out.up hb3)
          obtain ⟨vP, cP3⟩ := HP3.out.pr.some hik
          have fP3 := HP3.out.pr.frozen i
          have HP4 := Lib.hid (HST.out _ HP3.out)
          go_wp2_with fail
          go_roundw
          case rel => exact ⟨j + 1, by omega, by go_num, HP4.out⟩
          case measure => simp [intOf]; omega
    · have hkl : k < n := by omega
      have q : decide ((k : Int) < (n : Int)) = true := decide_eq_true (by omega)
      obtain ⟨s, hd⟩ : ∃ s, ws[k]? = some s := ⟨ws[k]'(by rw [HN.out]; exact hkl), by simp⟩
      obtain ⟨b, o, hA, hb, hc⟩ := HR.out k (sv s) (by rw [List.getElem?_map, hd]; rfl)
      subst hA
      unfold sv at hc
      have hcr := (HP.out.st.2.cell (p := ⟨b, o + k, none⟩) hb).trans hc
      have zs := HZW.out s (List.mem_of_getElem? hd)
      have KM := MulR (Vs.arg (s := t) (by have := HT.out; omega)) (Vs.arg (s := s) (by omega))
      obtain ⟨tm, htm⟩ : ∃ v, canS (valS t * valS s) = v := ⟨_, rfl⟩
      rw [htm] at KM
      obtain ⟨ms, hms⟩ : ∃ v, canS (valS t - ((qL (valS t) (iv ws)).take k).sum) = v := ⟨_, rfl⟩
      rw [hms]
      have HMS := Lib.hid hms
      clear hms
      have b0 : W6.cell? ⟨B, 0, none⟩ = W6.cell? ⟨B, 0, none⟩ := rfl
      have cB : wr.cell? ⟨B, 0, none⟩ = some (.slice (some ⟨R, 0, none⟩) n n) := by simp [World.cell?, HP.out.bb]
      have kB := Kept.cell_of cB
      have hs := HP.out.st
      clear b0
      have KD := DivR (Vs.can (k := k0 + k0) (z := valS t * valS s) ((Fit.val HT.out).mul (Fit.val (HZW.out s (List.mem_of_getElem? hd)))) (by omega)) (Vs.can (k := k0 + 2) (z := (iv ws).sum) HFS.out (by omega)) HPOS.out
      rw [htm, HSM.out] at KD
      have HQ : Hid (canS (at0 (qL (valS t) (iv ws)) k) = canS ((valS t * valS s).fdiv (iv ws).sum) ∧ canS (at0 (rL (valS t) (iv ws)) k) = canS ((valS t * valS s).fmod (iv ws).sum)) := by
        have hl : k < (iv ws).length := by rw [iv_len, HN.out]; exact hkl
        exact ⟨by rw [qL_at hl, iv_at hd], by rw [rL_at hl, iv_at hd]⟩
      obtain ⟨qk, hqk⟩ : ∃ v, canS ((valS t * valS s).fdiv (iv ws).sum) = v := ⟨_, rfl⟩
      obtain ⟨rk', hrk⟩ : ∃ v, canS ((valS t * valS s).fmod (iv ws).sum) = v := ⟨_, rfl⟩
      rw [hqk, hrk] at KD HQ
      clear hqk hrk htm hd zs
      have nRP : ¬ R = P := fun e => HP.out.ne.1 e.symm
      go_wp2_with fail
      go_cut [9] (fun m9 wx => m9 = .string ms ∧ Hid (PZ w (valS t) (iv ws) n P R O B (k + 1) k wx))
      case first =>
        have HPP := HP
        have kl : (k : Int) < (n : Int) := by omega
        clear HP kB
        go_region_with (first
          | (go_at_call 52
             first | refine KM.step hs ?_ | refine KM.step hs.drew ?_
             intro wA hsA hbA
             have PA := Lib.hid (show PZ w (valS t) (iv ws) n P R O B k k wA from by first | exact HPP.out.up hbA | exact HPP.out.drew.up hbA)
             have cA := PA.out.box)
          | (go_at_call 74
             first | refine KD.step hsA ?_ | refine KD.step hsA.drew ?_
             intro wB hsB hbB
             have PB := Lib.hid (show PZ w (valS t) (iv ws) n P R O B k k wB from by first | exact PA.out.up hbB | exact PA.out.drew.up hbB)
             have cB1 := PB.out.box
             obtain ⟨vP, cP⟩ := PB.out.pr.some hkl
             obtain ⟨vR, cR⟩ := PB.out.rr.some hkl
             have fP := PB.out.pr.frozen k
             have fR := PB.out.rr.frozen k
             have cB2 : (wB.setCell ⟨P, k, none⟩ (.string qk)).cell? ⟨B, 0, none⟩ = some (.slice (some ⟨R, 0, none⟩) n n) := (World.cell?_of_block (Below.heap_setCell _ _ _ _ (fun e => PB.out.ne.2.1 e.symm))).trans cB1
             have cR2 : (wB.setCell ⟨P, k, none⟩ (.string qk)).cell? ⟨R, k, none⟩ = some vR := (World.cell?_of_block (Below.heap_setCell _ _ _ _ (fun e => PB.out.ne.1 e.symm))).trans cR
             have fR2 : (wB.setCell ⟨P, k, none⟩ (.string qk)).frozen? ⟨R, k, none⟩ = false := (World.frozen?_of_block (Below.heap_setCell _ _ _ _ (fun e => PB.out.ne.1 e.symm))).trans fR))
        all_goals
          have P2 := Lib.hid (PB.out.two hkl HQ.out.1 HQ.out.2)
          go_wp2_with fail
          go_meet
          first
            | exact ⟨rfl, P2.out⟩
            | exact ⟨rfl, P2.out.drew⟩
      case rest =>
      obtain ⟨rfl, HP2⟩ := hcut
      clear HP KM KD hs cB kB hc hb hcr
      generalize wc = W7 at *
      have cq : W7.cell? ⟨P, k, none⟩ = some (.string qk) := by
        have := HP2.out.pr.cell (i := k) (by omega)
        rwa [show canS (at0 (qL (valS t) (iv ws)) k) = qk from HQ.out.1] at this
      have hs7 := HP2.out.st
      have kl : (k : Int) < (n : Int) := by omega
      have KS := SubR (Vs.can (k := k0 + k0 + 4) (mis_fit HT.out HZW.out (by rw [HN.out]; omega) k) (by omega)) (Vs.can (k := k0 + k0 + 1) (z := at0 (qL (valS t) (iv ws)) k) (q_fit HT.out HZW.out _ (List.mem_of_getElem? (at0_lt (by rw [qL_len, iv_len, HN.out]; exact hkl)))) (by omega))
      rw [HMS.out, HQ.out.1] at KS
      have HNX : Hid (valS t - ((qL (valS t) (iv ws)).take k).sum - at0 (qL (valS t) (iv ws)) k = valS t - ((qL (valS t) (iv ws)).take (k + 1)).sum) := by
        show _ = _
        rw [List.take_add_one, at0_lt (l := qL (valS t) (iv ws)) (i := k) (by rw [qL_len, iv_len, HN.out]; exact hkl)]
        simp
        omega
      go_wp2_with fail
      refine KS.step hs7 ?_
      intro w8 hs8 hb8
      have HP3 := Lib.hid (HP2.out.up hb8)
      obtain ⟨vO, cO⟩ := HP3.out.oo.some hkl
      have fO := HP3.out.oo.frozen k
      have HP4 := Lib.hid (HP3.out.three hkl)
      go_wp2_with fail
      go_roundw
      case rel => exact ⟨k + 1, by omega, by go_num, by rw [HNX.out], HP4.out⟩
      case measure => simp [intOf]; omega
end Go.Proofs.YtpipkeplhkccoaaGreatDoor
