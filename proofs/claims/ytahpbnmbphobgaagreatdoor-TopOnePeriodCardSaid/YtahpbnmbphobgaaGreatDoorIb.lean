/- Integer: how a slice of groups reads; contracts of cut and compare. Conditions: lengths below 2^62. Words for memory: a slice that reads as a list; an append onto a row of the call's own, whatever the source. Plain theorems, no condition. Integer: blocks of groups that a call makes and writes. Plain facts; conditions: lengths below 2^40. Integer: the contract of plus. Conditions: lengths below 2^40. Integer: the contracts of slices.Clone at magnitudes and of minus. Conditions: lengths below 2^40. Integer: the contract of times. Conditions: lengths below 2^39. Integer: the contract of single. Conditions: lengths below 2^39. Integer: divide, the short cases: a dividend that is less; a divisor of one group. Conditions: lengths below 2^38. -/
import Derived.Test.YtahpbnmbphobgaaGreatDoorIa
import Derived.Test.YtahpbnmbphobgaaGreatDoorProg
import Derived.WalkKit
import Derived.WalkLawsBesides
import Derived.Deep.QuietTactic
import Derived.Deep.LoopGhost
import Derived.BigQuiet
import Derived.Lib.Hide
import Derived.Below
import Derived.Laws.OwnMore
import Derived.Deep.AppendLies
import Derived.Deep.Draws
import Derived.Maps.AppendAt
import Derived.RegionTactic
import Derived.OwnWalk
import Derived.StillTailTactics
import Derived.Laws.CopyOwn
import Derived.Laws.MakeOwn
import Derived.WalkSpells
namespace Go.Proofs.YtahpbnmbphobgaaGreatDoor
open Go.RowKit Dec

/-- a slice of groups (integers of kind K) reads as a list -/
def Mg (K : IntKind) (w : World) (B : Nat) (A : Option Addr) (l : List Nat) : Prop :=
  ∀ (i : Nat) (g : Nat), l[i]? = some g → ∃ b o, A = some ⟨b, o, none⟩ ∧ b < B ∧ w.cell? ⟨b, o + i, none⟩ = some (.int K g)
section
variable {K : IntKind} {w w' : World} {B B' : Nat} {A : Option Addr} {l : List Nat}
theorem Mg.below (h : Mg K w B A l) (hb : Below B w w') : Mg K w' B A l := by
  intro i g hg
  obtain ⟨b, o, hA, hB, h1⟩ := h i g hg
  exact ⟨b, o, hA, hB, (hb.cell (p := ⟨b, o + i, none⟩) hB).trans h1⟩
theorem Mg.mono (h : Mg K w B A l) (hb : B ≤ B') : Mg K w B' A l := by
  intro i g hg
  obtain ⟨b, o, hA, hB, h1⟩ := h i g hg
  exact ⟨b, o, hA, by omega, h1⟩
theorem Mg.up (h : Mg K w w.heap.size A l) (hb : Below w.heap.size w w') : Mg K w' w'.heap.size A l := (h.below hb).mono hb.size
theorem Mg.take (h : Mg K w B A l) (k : Nat) : Mg K w B A (l.take k) := by
  intro i g hg
  rw [List.getElem?_take] at hg
  by_cases hi : i < k
  · rw [if_pos hi] at hg; exact h i g hg
  · rw [if_neg hi] at hg; cases hg
theorem Mg.nil (K : IntKind) (w : World) (B : Nat) (A : Option Addr) : Mg K w B A [] := fun i g h => by simp at h
theorem Mg.drewN (h : Mg K w B A l) (n : Nat) : Mg K (w.drewN n) B A l := h
end
theorem below_drewN (B : Nat) (w : World) (n : Nat) : Below B w (w.drewN n) := ⟨rfl, rfl, rfl, Nat.le_refl _, fun _ _ => rfl⟩
theorem ret_two {v v' u u' : Value} (h : v = v') (h2 : u = u') : Ending.returned (.tuple #[v, u]) = .returned (.tuple #[v', u']) := by rw [h, h2]
theorem val_slice {A : Option Addr} {n m c : Nat} (h : n = m) : Value.slice A n c = .slice A m c := by rw [h]
theorem ret_int {k : IntKind} {a b : Int} (h : a = b) : Ending.returned (.int k a) = .returned (.int k b) := by rw [h]
theorem ret_slice {A : Option Addr} {n m c : Nat} (h : n = m) : Ending.returned (.slice A n c) = .returned (.slice A m c) := by rw [h]

set_option maxHeartbeats 1000000 in
/-- cut: the same slice, up to the last group that is not 0 -/
theorem cut_any (A : Option Addr) (c : Nat) (l : List Nat) (w : World) (hl : Small l) (hc : Mg .u64 w w.heap.size A l) (hcap : l.length ≤ c) (hcm : c ≤ 9223372036854775807) :
    Calls Tryz.prog 108 #[.slice A l.length c] w fun e w' => e = .returned (.slice A (cutL l).length c) ∧ w = w' := by
  have HL := Lib.hid hl
  have Hc := Lib.hid hc
  clear hl hc
  go_enter Tryz.func108, Tryz.ntmps108
  go_wp2
  go_loop [0] (fun s => ∃ k : Nat, k ≤ l.length ∧ s = .slice A k c ∧ Hid (∀ i, k ≤ i → i < l.length → l[i]? = some 0)) (fun s => match s with | .slice _ n _ => n | _ => 0)
  case atStart => exact ⟨l.length, by omega, rfl, fun i h1 h2 => by omega⟩
  case round =>
    obtain ⟨k, hk, rfl, H⟩ := hrel
    by_cases hk0 : k = 0
    · subst hk0
      go_wp2
      go_ret
      refine ⟨ret_slice ?_, rfl⟩
      rw [← cut_take l HL.out 0 (by omega) H.out (.inl rfl)]; rfl
    · obtain ⟨k, rfl⟩ : ∃ j, k = j + 1 := ⟨k - 1, by omega⟩
      obtain ⟨g, hg⟩ : ∃ g, l[k]? = some g := ⟨l[k]'(by omega), by simp⟩
      obtain ⟨b, o, hA, hB, h1⟩ := Hc.out k g hg
      subst hA
      have HGg := Lib.hid hg
      clear hg hk0
      by_cases hz : g = 0
      · subst hz
        go_wp2
        go_round
        case rel =>
          refine ⟨k, by omega, rfl, ?_⟩
          intro i h1 h2
          by_cases e : i = k
          · subst e; exact HGg.out
          · exact H.out i (by omega) h2
        case measure => simp
      · have hz' : ((g : Int) == 0) = false := by simp; omega
        go_wp2
        go_ret
        refine ⟨ret_slice ?_, rfl⟩
        rw [← cut_take l HL.out (k + 1) (by omega) H.out (.inr (by rw [Nat.add_sub_cancel, HGg.out]; intro e; cases e; exact hz rfl))]
        simp; omega

/-- what compare hands back -/
def CmpRet (a b : Nat) (w : World) (e : Ending) (w' : World) : Prop := ∃ r : Int, e = .returned (.int .i64 r) ∧ CmpIs r a b ∧ -4611686018427387904 ≤ r ∧ r ≤ 4611686018427387904 ∧ ∃ n, w' = w.drewN n

set_option maxHeartbeats 1000000 in
theorem compare_any (A A' : Option Addr) (c c' : Nat) (a b : Nat) (w : World) (hc : Mg .u64 w w.heap.size A (mag a)) (hc' : Mg .u64 w w.heap.size A' (mag b)) (hm : (mag a).length ≤ 4611686018427387904) (hm' : (mag b).length ≤ 4611686018427387904) :
    Calls Tryz.prog 80 #[.slice A (mag a).length c, .slice A' (mag b).length c'] w (CmpRet a b w) := by
  have Hc := Lib.hid hc
  have Hc' := Lib.hid hc'
  clear hc hc'
  obtain ⟨l, hl⟩ : ∃ l, mag a = l := ⟨_, rfl⟩
  obtain ⟨m, hmm⟩ : ∃ m, mag b = m := ⟨_, rfl⟩
  have HLS : Hid (Small l) := by show Small l; rw [← hl]; exact mag_small a
  have HMS : Hid (Small m) := by show Small m; rw [← hmm]; exact mag_small b
  have HVL : Hid (mval l = a) := by show mval l = a; rw [← hl]; exact mval_mag a
  have HVM : Hid (mval m = b) := by show mval m = b; rw [← hmm]; exact mval_mag b
  have HCL : Hid (l.length < m.length → a < b) := by show l.length < m.length → a < b; rw [← hl, ← hmm]; exact cmp_len
  have HCM : Hid (m.length < l.length → b < a) := by show m.length < l.length → b < a; rw [← hl, ← hmm]; exact cmp_len
  rw [hl] at Hc hm ⊢
  rw [hmm] at Hc' hm' ⊢
  clear hl hmm
  by_cases hlen : l.length = m.length
  · have hne : ((l.length : Int) != m.length) = false := by simp; omega
    have HN := Lib.hid hlen
    have hle : l.length ≤ m.length := by omega
    clear hlen
    go_enter Tryz.func80, Tryz.ntmps80
    go_wp2
    go_loopw [5] (fun s wr => ∃ k nn : Nat, k ≤ l.length ∧ s = .int .i64 ((k : Int) - 1) ∧ Hid (∀ j, k ≤ j → l[j]? = m[j]?) ∧ wr = w.drewN nn) (fun s _ => (intOf s + 1).toNat)
    case atStart => exact ⟨l.length, 0, by omega, rfl, fun j hj => by rw [List.getElem?_eq_none hj, List.getElem?_eq_none (by have := HN.out; omega)], rfl⟩
    case round =>
      obtain ⟨k, nn, hk, rfl, H, rfl⟩ := hrel
      by_cases hk0 : k = 0
      · subst hk0
        have HE : Hid (a = b) := by
          show a = b
          have e : l = m := List.ext_getElem? (fun j => H.out j (by omega))
          rw [← HVL.out, ← HVM.out, e]
        go_wp2
        go_ret
        exact ⟨0, rfl, ⟨by simp [HE.out], by simp [HE.out]⟩, by omega, by omega, nn, rfl⟩
      · obtain ⟨k, rfl⟩ : ∃ j, k = j + 1 := ⟨k - 1, by omega⟩
        obtain ⟨x, hx⟩ : ∃ g, l[k]? = some g := ⟨l[k]'(by omega), by simp⟩
        obtain ⟨y, hy⟩ : ∃ g, m[k]? = some g := ⟨m[k]'(by omega), by simp⟩
        obtain ⟨b1, o1, hA, hB, h1⟩ := Hc.out k x hx
        obtain ⟨b2, o2, hA', hB', h2⟩ := Hc'.out k y hy
        subst hA hA'
        have HX := Lib.hid hx
        have HY := Lib.hid hy
        clear hx hy hk0
        by_cases hlt : x < y
        · have q : decide ((x : Int) < y) = true := by simp; omega
          have HT := Lib.hid (mval_top HLS.out HN.out k x y HX.out HY.out hlt (fun j hj => H.out j (by omega)))
          go_wp2
          go_quiet (fail)
          go_wp2
          go_ret
          have hab : a < b := by rw [← HVL.out, ← HVM.out]; exact HT.out
          exact ⟨-1, rfl, ⟨by simp [hab], by simp; omega⟩, by omega, by omega, _, World.drewN_drewN _ _ _⟩
        · have q : decide ((x : Int) < y) = false := by simp; omega
          by_cases hgt : y < x
          · have q2 : decide ((y : Int) < x) = true := by simp; omega
            have HT := Lib.hid (mval_top HMS.out HN.out.symm k y x HY.out HX.out hgt (fun j hj => (H.out j (by omega)).symm))
            go_wp2
            go_quiet (fail)
            go_wp2
            go_quiet (fail)
            go_wp2
            go_ret
            have hab : b < a := by rw [← HVL.out, ← HVM.out]; exact HT.out
            exact ⟨1, rfl, ⟨by simp; omega, by simp; omega⟩, by omega, by omega, _, by rw [World.drewN_drewN, World.drewN_drewN]⟩
          · have q2 : decide ((y : Int) < x) = false := by simp; omega
            have HXY := Lib.hid (show x = y by omega)
            go_wp2
            go_quiet (fail)
            go_wp2
            go_quiet (fail)
            go_wp2
            go_roundw
            case rel =>
              refine ⟨k, _, by omega, by go_num, ?_, rfl⟩
              intro j hj
              by_cases e : j = k
              · subst e; rw [HX.out, HY.out, HXY.out]
              · exact H.out j (by omega)
            case measure => simp [intOf]
  · have hne : ((l.length : Int) != m.length) = true := by simp; omega
    go_enter Tryz.func80, Tryz.ntmps80
    go_wp2
    go_ret
    refine ⟨(l.length : Int) - m.length, rfl, ?_, by omega, by omega, 0, rfl⟩
    have h1 := HCL.out
    have h2 := HCM.out
    unfold CmpIs
    omega
end Go.Proofs.YtahpbnmbphobgaaGreatDoor
namespace Go.Proofs.YtahpbnmbphobgaaGreatDoor
open Go.RowKit
theorem block_of_add (a : Addr) (n : Nat) : (a.add n).block = a.block := by unfold Addr.add; split <;> rfl
theorem add_of_add (a : Addr) (i j : Nat) : (a.add i).add j = a.add (i + j) := by
  unfold Addr.add
  by_cases hi : i = 0 <;> by_cases hj : j = 0 <;> simp [hi, hj, Nat.add_assoc]

def Reads (w : World) (B size : Nat) (A : Option Addr) (n : Nat) (xs : List Value) : Prop :=
  xs.length = n * size ∧ (0 < n → ∃ ad, A = some ad ∧ ad.block < B ∧ ∀ j u, xs[j]? = some u → w.cell? (ad.add j) = some u)

section
variable {w w' : World} {B B' size n : Nat} {A : Option Addr} {xs : List Value}
theorem Reads.none_ : Reads w B size A 0 [] := ⟨by simp, fun h => absurd h (by omega)⟩
theorem Reads.at_ {k : Nat} (h : Reads w B 1 A n xs) (hk : k < n) : ∃ ad u, A = some ad ∧ ad.block < B ∧ xs[k]? = some u ∧ w.cell? (ad.add k) = some u := by
  obtain ⟨ad, e, hb, hc⟩ := h.2 (by omega)
  have hl : k < xs.length := by have := h.1; omega
  exact ⟨ad, xs[k], e, hb, List.getElem?_eq_getElem hl, hc k _ (List.getElem?_eq_getElem hl)⟩
theorem Reads.keep (h : Reads w B size A n xs) (hk : ∀ p : Addr, p.block < B → w'.cell? p = w.cell? p) : Reads w' B size A n xs :=
  ⟨h.1, fun hn => by
    obtain ⟨ad, e, hb, hc⟩ := h.2 hn
    exact ⟨ad, e, hb, fun j u hu => (hk _ (by rw [block_of_add]; exact hb)).trans (hc j u hu)⟩⟩
theorem Reads.more (h : Reads w B size A n xs) (hB : B ≤ B') : Reads w B' size A n xs :=
  ⟨h.1, fun hn => by
    obtain ⟨ad, e, hb, hc⟩ := h.2 hn
    exact ⟨ad, e, by omega, hc⟩⟩
theorem Reads.below (h : Reads w B size A n xs) (hb : Below B w w') : Reads w' B size A n xs := h.keep fun _ hp => hb.cell hp
theorem Reads.drew (h : Reads w B size A n xs) : Reads w.drew B size A n xs := h
theorem Reads.drewN (h : Reads w B size A n xs) (k : Nat) : Reads (w.drewN k) B size A n xs := h
theorem Reads.alloc (h : Reads w B size A n xs) (hB : B ≤ w.heap.size) (o : Obj) : Reads (w.alloc o) B size A n xs := h.keep fun p hp => World.cell?_alloc_lt w o p (by omega)
theorem Reads.setCell (h : Reads w B size A n xs) {p : Addr} (hB : B ≤ p.block) (u : Value) : Reads (w.setCell p u) B size A n xs :=
  h.keep fun q hq => World.cell?_setCell_other w p q u (fun e => by subst e; omega)
theorem Reads.grown (h : Reads w B size A n xs) {row : Option Nat} (hg : w.grownBy w' row) (hB : B ≤ w.heap.size) (hr : ∀ g, row = some g → B ≤ g) : Reads w' B size A n xs :=
  h.keep fun p hp => World.cell?_of_block (hg.block p.block (by omega) (fun e => by have := hr _ e.symm; omega))
theorem Reads.cut (h : Reads w B size A n xs) {k cap : Nat} (hk : k ≤ n) (hc : n ≤ cap) :
    Reads w B size (if cap = k then A else A.map (·.add (k * size))) (n - k) (xs.drop (k * size)) := by
  refine ⟨by rw [List.length_drop, h.1, Nat.sub_mul], fun hn => ?_⟩
  obtain ⟨ad, rfl, hb, hcell⟩ := h.2 (by omega)
  rw [if_neg (by omega)]
  refine ⟨ad.add (k * size), rfl, by rw [block_of_add]; exact hb, fun j u hu => ?_⟩
  rw [add_of_add]
  exact hcell _ u (by rw [← hu, List.getElem?_drop])
theorem Reads.of_own {base : Nat} {e : TypeId} {c : Nat} (h : w.ownsRow base e size (.slice A n c) n xs) : Reads w w.heap.size size A n xs := by
  refine ⟨h.1, fun hn => ?_⟩
  obtain ⟨g, cap, hv, _, hlt⟩ := h.form hn
  have hA : A = some ⟨g, 0, none⟩ := by injection hv
  subst hA
  exact ⟨_, rfl, hlt, h.cells (g := g) rfl⟩
end
section
variable {P : Program} (w : World)

theorem run_append_of_nil (base : Nat) (t ty e : TypeId) (i : TypeInfo) (size : Nat) (ht : P.underlying t = some (.slice e)) (hi : P.info? e = some i)
    (v : Value) (n : Nat) (xs : List Value) (hown : w.ownsRow base e size v n xs) (c : Nat) : (Builtin.append_ #[t, t] ty #[v, .slice none 0 c]).run P w = .ok v w := by
  rcases hown.2 with ⟨rfl, rfl⟩ | ⟨g, cap, cur, rfl, _, _, hnc, _⟩
  · simp [Builtin.append_, run_underlying ht, sizeOf, typeInfo, hi, Builtin.lenOf, Builtin.firstCells]
  · simp [Builtin.append_, run_underlying ht, sizeOf, typeInfo, hi, Builtin.lenOf, Builtin.firstCells, hnc, storeCells]

theorem run_append_any (base : Nat) (t ty e : TypeId) (i : TypeInfo) (z : Value) (size bytes : Nat) (ht : P.underlying t = some (.slice e)) (hi : P.info? e = some i) (hz : i.zero = some z)
    (hsize : i.size = size) (hby : i.bytes = bytes) (hzs : z.cells.size = size) (hsz : 0 < size)
    (v : Value) (n : Nat) (xs : List Value) (hown : w.ownsRow base e size v n xs)
    (B : Nat) (A : Option Addr) (m c : Nat) (news : List Value) (hr : Reads w B size A m news) (h1 : ∀ u ∈ news, u.oneCell' = true)
    (h63 : n + m ≤ maxLen) (hbytes : (n + m) * bytes ≤ 140737488355328) (hbase : base ≤ w.heap.size) :
    ∃ v' w', (Builtin.append_ #[t, t] ty #[v, .slice A m c]).run P w = .ok v' w' ∧ w'.ownsRow base e size v' (n + m) (xs ++ news) ∧ w.grownBy w' v.ownBlock ∧
      (v'.ownBlock = v.ownBlock ∨ v'.ownBlock = some w.heap.size) := by
  rcases A with _ | ad
  · have hm : m = 0 := by
      rcases Nat.eq_zero_or_pos m with h0 | h0
      · exact h0
      · obtain ⟨ad, h, _⟩ := hr.2 h0
        cases h
    subst hm
    have hn : news = [] := List.eq_nil_of_length_eq_zero (by simpa using hr.1)
    subst hn
    exact ⟨v, w, run_append_of_nil w base t ty e i size ht hi v n xs hown c, by simpa using hown, World.grownBy.refl w _, .inl rfl⟩
  · have hcells : ∀ j u, news[j]? = some u → w.cell? (ad.add j) = some u := by
      intro j u hu
      rcases Nat.eq_zero_or_pos m with h0 | h0
      · subst h0
        have hn : news = [] := List.eq_nil_of_length_eq_zero (by simpa using hr.1)
        subst hn
        simp at hu
      · obtain ⟨ad', h, _, hc⟩ := hr.2 h0
        injection h with h
        subst h
        exact hc j u hu
    obtain ⟨v', w', hrun, h2, h3, _, h5⟩ := run_append_own_at (P := P) w base t ty e i z size bytes ht hi hz hsize hby hzs hsz v n xs hown ad m c news hr.1 hcells h1 h63 hbytes hbase
    exact ⟨v', w', hrun, h2, h3, h5⟩

theorem wp_append_any {o : Oper} {a : Act} {K : Act → World → Prop} {Q : Exit → Act → World → Prop} (s x : Operand) (t : TypeId)
    (ho : o.op = .call { callee := .builtin .append, args := #[s, x], argTypes := #[t, t] })
    (base : Nat) (e : TypeId) (i : TypeInfo) (z : Value) (size bytes : Nat) (ht : P.underlying t = some (.slice e)) (hi : P.info? e = some i) (hz : i.zero = some z)
    (hsize : i.size = size) (hby : i.bytes = bytes) (hzs : z.cells.size = size) (hsz : 0 < size)
    (v : Value) (n : Nat) (xs : List Value) (hs : a.eval s = v) (hown : w.ownsRow base e size v n xs)
    (B : Nat) (A : Option Addr) (m c : Nat) (news : List Value) (hx : a.eval x = .slice A m c) (hr : Reads w B size A m news) (h1 : ∀ u ∈ news, u.oneCell' = true)
    (h63 : n + m ≤ maxLen) (hbytes : (n + m) * bytes ≤ 140737488355328) (hbase : base ≤ w.heap.size)
    (h : ∀ v' w', w'.ownsRow base e size v' (n + m) (xs ++ news) → w.grownBy w' v.ownBlock → (v'.ownBlock = v.ownBlock ∨ v'.ownBlock = some w.heap.size) → K (a.put o.dst v') w') : o.wp P a w K Q := by
  obtain ⟨v', w', hrun, h2, h3, h4⟩ := run_append_any (P := P) w base t o.type e i z size bytes ht hi hz hsize hby hzs hsz v n xs hown B A m c news hr h1 h63 hbytes hbase
  unfold Oper.wp execOp
  simp only [ho, resolve, invoke, builtin, Sem.run_bind, Sem.run_pure, Result.andThen_ok, List.map_toArray, List.map_cons, List.map_nil, hs, hx, hrun]
  exact h v' w' h2 h3 h4

theorem wpList_append_any {ops : Array Oper} {rest : List Oper} {o : Oper} {a : Act} {Q : Exit → Act → World → Prop} (hgd : o.guard = none) (s x : Operand) (t : TypeId)
    (ho : o.op = .call { callee := .builtin .append, args := #[s, x], argTypes := #[t, t] })
    (base : Nat) (e : TypeId) (i : TypeInfo) (z : Value) (size bytes : Nat) (ht : P.underlying t = some (.slice e)) (hi : P.info? e = some i) (hz : i.zero = some z)
    (hsize : i.size = size) (hby : i.bytes = bytes) (hzs : z.cells.size = size) (hsz : 0 < size)
    (v : Value) (n : Nat) (xs : List Value) (hs : a.eval s = v) (hown : w.ownsRow base e size v n xs)
    (B : Nat) (A : Option Addr) (m c : Nat) (news : List Value) (hx : a.eval x = .slice A m c) (hr : Reads w B size A m news) (h1 : ∀ u ∈ news, u.oneCell' = true)
    (h63 : n + m ≤ maxLen) (hbytes : (n + m) * bytes ≤ 140737488355328) (hbase : base ≤ w.heap.size)
    (h : ∀ v' w', w'.ownsRow base e size v' (n + m) (xs ++ news) → w.grownBy w' v.ownBlock → (v'.ownBlock = v.ownBlock ∨ v'.ownBlock = some w.heap.size) → wpList P ops Q rest (a.put o.dst v') w') : wpList P ops Q (o :: rest) a w :=
  wpList_plain hgd fun _ hK => wp_append_any w s x t ho base e i z size bytes ht hi hz hsize hby hzs hsz v n xs hs hown B A m c news hx hr h1 h63 hbytes hbase fun v' w' h2 h3 h4 => hK _ _ (h v' w' h2 h3 h4)

theorem step_append_any {ops : Array Oper} {o : Oper} {a : Act} {K : Act → World → Prop} {Q : Exit → Act → World → Prop} {E : Prop} (hgd : o.guard = none) (s x : Operand) (t : TypeId)
    (ho : o.op = .call { callee := .builtin .append, args := #[s, x], argTypes := #[t, t] })
    (base : Nat) (e : TypeId) (i : TypeInfo) (z : Value) (size bytes : Nat) (ht : P.underlying t = some (.slice e)) (hi : P.info? e = some i) (hz : i.zero = some z)
    (hsize : i.size = size) (hby : i.bytes = bytes) (hzs : z.cells.size = size) (hsz : 0 < size)
    (v : Value) (n : Nat) (xs : List Value) (hs : a.eval s = v) (hown : w.ownsRow base e size v n xs)
    (B : Nat) (A : Option Addr) (m c : Nat) (news : List Value) (hx : a.eval x = .slice A m c) (hr : Reads w B size A m news) (h1 : ∀ u ∈ news, u.oneCell' = true)
    (h63 : n + m ≤ maxLen) (hbytes : (n + m) * bytes ≤ 140737488355328) (hbase : base ≤ w.heap.size)
    (h : ∀ v' w', w'.ownsRow base e size v' (n + m) (xs ++ news) → w.grownBy w' v.ownBlock → (v'.ownBlock = v.ownBlock ∨ v'.ownBlock = some w.heap.size) → K (a.put o.dst v') w') :
    if Region.wanted o (yielded ops a.tmps) = true then Oper.wp P o a w K Q else E := by
  have hw : Region.wanted o (yielded ops a.tmps) = true := by simp [Region.wanted, hgd]
  rw [if_pos hw]
  exact wp_append_any w s x t ho base e i z size bytes ht hi hz hsize hby hzs hsz v n xs hs hown B A m c news hx hr h1 h63 hbytes hbase h
end
end Go.Proofs.YtahpbnmbphobgaaGreatDoor
namespace Go.Proofs.YtahpbnmbphobgaaGreatDoor
open Go.RowKit Dec

theorem addr_add (b o j : Nat) : (⟨b, o, none⟩ : Addr).add j = ⟨b, o + j, none⟩ := by
  unfold Addr.add; split
  · rename_i h; subst h; rfl
  · rfl
theorem heap_new (w : World) (o : Obj) : (w.alloc o).heap[w.heap.size]? = some o := by show (w.heap.push o)[w.heap.size]? = some o; exact Array.getElem?_push_size
/-- a group as a cell -/
def gvK (K : IntKind) (n : Nat) : Value := .int K (n : Int)
/-- a block of groups (kind K, type T), known whole -/
def Bk (K : IntKind) (T : TypeId) (w : World) (g : Nat) (l : List Nat) : Prop := w.heap[g]? = some (.cells (l.map (gvK K)).toArray T (0, 0))
section
variable {K : IntKind} {T : TypeId} {w w' : World} {g : Nat} {l : List Nat}
theorem Bk.lt (h : Bk K T w g l) : g < w.heap.size := (Array.getElem?_eq_some_iff.1 h).1
theorem Bk.cell (h : Bk K T w g l) {i n : Nat} (hi : l[i]? = some n) : w.cell? ⟨g, i, none⟩ = some (.int K n) := by
  unfold Bk at h
  simp [World.cell?, h, hi, gvK]
theorem Bk.frozen (h : Bk K T w g l) (i : Nat) : w.frozen? ⟨g, i, none⟩ = false := by unfold Bk at h; simp [World.frozen?, h]
theorem Bk.set (h : Bk K T w g l) (i n : Nat) : Bk K T (w.setCell ⟨g, i, none⟩ (.int K n)) g (l.set i n) := by
  unfold Bk at h ⊢
  simp [World.setCell, Array.getElem?_modify, h, gvK, List.map_set]
theorem Bk.alloc (h : Bk K T w g l) (o : Obj) : Bk K T (w.alloc o) g l := (Below.heap_alloc w o g h.lt).trans h
theorem Bk.drewN (h : Bk K T w g l) (n : Nat) : Bk K T (w.drewN n) g l := h
theorem Bk.below {B : Nat} (h : Bk K T w g l) (hb : Below B w w') (hg : g < B) : Bk K T w' g l := (hb.block g hg).trans h
theorem Bk.mg (h : Bk K T w g l) (k : Nat) : Mg K w w.heap.size (some ⟨g, 0, none⟩) (l.take k) := by
  intro i n hn
  rw [List.getElem?_take] at hn
  by_cases hi : i < k
  · rw [if_pos hi] at hn; exact ⟨g, 0, rfl, h.lt, by rw [Nat.zero_add]; exact h.cell hn⟩
  · rw [if_neg hi] at hn; cases hn
theorem Bk.own {r : List Nat} {base : Nat} (h : Bk K T w g (l ++ r)) (hb : base ≤ g) (hm : (l ++ r).length ≤ maxLen) : w.ownsRow base T 1 (.slice (some ⟨g, 0, none⟩) l.length (l ++ r).length) l.length (l.map (gvK K)) :=
  ⟨by simp, .inr ⟨g, _, _, rfl, hb, h, by simp, hm, by simp, by simp⟩⟩
theorem own_mag {base : Nat} {v : Value} (h : w.ownsRow base T 1 v l.length (l.map (gvK K))) : ∃ A c, v = .slice A l.length c ∧ Mg K w w.heap.size A l ∧ l.length ≤ c ∧ c ≤ 9223372036854775807 := by
  rcases h.2 with ⟨rfl, h0⟩ | ⟨g, cap, cur, rfl, hb, hg, hn, hc, hs, htake⟩
  · rw [h0, List.eq_nil_of_length_eq_zero h0]
    exact ⟨none, 0, rfl, Mg.nil _ _ _ _, Nat.le_refl _, by omega⟩
  · refine ⟨_, cap, rfl, ?_, hn, hc⟩
    intro i n hi
    refine ⟨g, 0, rfl, (Array.getElem?_eq_some_iff.1 hg).1, ?_⟩
    rw [Nat.zero_add]
    have hl : i < l.length := (List.getElem?_eq_some_iff.1 hi).1
    have : cur.toList[i]? = some (gvK K n) := by
      have e : (cur.toList.take (l.length * 1))[i]? = some (gvK K n) := by rw [htake, List.getElem?_map, hi]; rfl
      rwa [List.getElem?_take, if_pos (by omega)] at e
    rw [Array.getElem?_toList] at this
    simp [World.cell?, hg, this, gvK]
theorem reads_one (w : World) (T : TypeId) (v : Value) : Reads (w.alloc (.cells #[v] T)) (w.heap.size + 1) 1 (some ⟨w.heap.size, 0, none⟩) 1 [v] := by
  refine ⟨rfl, fun _ => ⟨_, rfl, by simp, ?_⟩⟩
  intro j u hu
  cases j with
  | zero =>
    simp at hu; subst hu
    have h := heap_new w (.cells #[v] T)
    show World.cell? _ ⟨w.heap.size, 0, none⟩ = _
    unfold World.cell?; rw [h]; rfl
  | succ j => simp at hu
theorem own_ge {base n : Nat} {v : Value} {xs : List Value} (h : w.ownsRow base T 1 v n xs) : ∀ k, v.ownBlock = some k → base ≤ k := by
  intro k hk
  rcases h.2 with ⟨rfl, _⟩ | ⟨g, cap, cur, rfl, hb, _⟩
  · simp [Value.ownBlock] at hk
  · simp [Value.ownBlock] at hk; omega
theorem gvK_one (l : List Nat) : ∀ v ∈ l.map (gvK K), v.oneCell' = true := by
  intro v hv
  obtain ⟨x, -, rfl⟩ := List.mem_map.1 hv
  rfl
end
theorem Mg.reads {K : IntKind} {w : World} {B : Nat} {A : Option Addr} {l : List Nat} (h : Mg K w B A l) : Reads w B 1 A l.length (l.map (gvK K)) := by
  refine ⟨by simp, fun h0 => ?_⟩
  obtain ⟨x, hx⟩ : ∃ x, l[0]? = some x := ⟨l[0], by simp⟩
  obtain ⟨b, o, hA, hB, _⟩ := h 0 x hx
  refine ⟨_, hA, hB, fun j u hu => ?_⟩
  rw [List.getElem?_map, Option.map_eq_some_iff] at hu
  obtain ⟨y, hy, rfl⟩ := hu
  obtain ⟨b', o', hA', _, h1⟩ := h j y hy
  rw [hA] at hA'
  injection hA' with e
  injection e with e1 e2
  subst e1 e2
  rw [addr_add]
  exact h1
/-- a slice of groups of the call's own: its cells lie in a block from base on, or it is empty -/
def Ow (K : IntKind) (T : TypeId) (w : World) (base : Nat) (A : Option Addr) (c : Nat) (l : List Nat) : Prop := w.ownsRow base T 1 (.slice A l.length c) l.length (l.map (gvK K))
section
variable {K : IntKind} {T : TypeId} {w w' : World} {base g c : Nat} {A : Option Addr} {l : List Nat}
theorem own_ow {v : Value} (h : w.ownsRow base T 1 v l.length (l.map (gvK K))) : ∃ A c, v = .slice A l.length c ∧ Ow K T w base A c l := by
  obtain ⟨A, c, rfl, _⟩ := own_mag h
  exact ⟨A, c, rfl, h⟩
theorem Ow.mg (h : Ow K T w base A c l) : Mg K w w.heap.size A l ∧ l.length ≤ c ∧ c ≤ 9223372036854775807 := by
  obtain ⟨A', c', e, h1⟩ := own_mag h
  injection e with e1 e2 e3
  subst e1 e3
  exact h1
theorem Ow.at (h : Ow K T w base A c l) {i n : Nat} (hi : l[i]? = some n) : ∃ g, A = some ⟨g, 0, none⟩ ∧ base ≤ g ∧ g < w.heap.size ∧ w.cell? ⟨g, i, none⟩ = some (.int K n) ∧ w.frozen? ⟨g, i, none⟩ = false := by
  obtain ⟨b, o, hA, hB, hcell⟩ := h.mg.1 i n hi
  have hl : i < l.length := (List.getElem?_eq_some_iff.1 hi).1
  rcases h.2 with ⟨_, h0⟩ | ⟨g, cap, cur, hv, hb, hg, _⟩
  · omega
  · injection hv with e1 e2 e3
    rw [hA] at e1
    injection e1 with e1
    injection e1 with e1 e4
    subst e1 e4
    refine ⟨b, hA, hb, hB, by rwa [Nat.zero_add] at hcell, by simp [World.frozen?, hg]⟩
theorem Ow.set (h : Ow K T w base (some ⟨g, 0, none⟩) c l) (i n : Nat) : Ow K T (w.setCell ⟨g, i, none⟩ (.int K n)) base (some ⟨g, 0, none⟩) c (l.set i n) := by
  have := (World.ownsRow.stored h i (.int K n)).1
  unfold Ow
  rw [List.length_set, List.map_set]
  exact this
theorem Ow.drew (h : Ow K T w base A c l) : Ow K T w.drew base A c l := h
theorem Ow.drewN (h : Ow K T w base A c l) (n : Nat) : Ow K T (w.drewN n) base A c l := h
theorem Ow.alloc (h : Ow K T w base A c l) (o : Obj) : Ow K T (w.alloc o) base A c l := World.ownsRow.alloc h o
theorem Ow.below (h : Ow K T w base A c l) (hb : Below w.heap.size w w') : Ow K T w' base A c l := by
  refine ⟨h.1, ?_⟩
  rcases h.2 with h0 | ⟨g, cap, cur, hv, hg, hh, r⟩
  · exact .inl h0
  · exact .inr ⟨g, cap, cur, hv, hg, (hb.block g (Array.getElem?_eq_some_iff.1 hh).1).trans hh, r⟩
theorem Ow.low {base' : Nat} (h : Ow K T w base A c l) (hb : base' ≤ base) : Ow K T w base' A c l := by
  refine ⟨h.1, ?_⟩
  rcases h.2 with h0 | ⟨g, cap, cur, hv, hg, r⟩
  · exact .inl h0
  · exact .inr ⟨g, cap, cur, hv, by omega, r⟩
theorem Ow.new (w : World) (K : IntKind) (T : TypeId) (l : List Nat) (hm : l.length ≤ maxLen) : Ow K T (w.alloc (.cells (l.map (gvK K)).toArray T)) w.heap.size (some ⟨w.heap.size, 0, none⟩) l.length l := by
  have h : Bk K T (w.alloc (.cells (l.map (gvK K)).toArray T)) w.heap.size (l ++ []) := by rw [List.append_nil]; exact heap_new w _
  have := h.own (base := w.heap.size) (Nat.le_refl _) (by simpa using hm)
  rw [List.append_nil] at this
  exact this
end
theorem infoU : (Tryz.prog.info? 123).map (fun i => (i.zero, i.size, i.bytes)) = some (some (.int .u64 0), 1, 8) := by kernel_rfl
theorem sizeU : (Tryz.prog.info? 123).map (·.size) = some 1 := by kernel_rfl

/-- what a function that makes a magnitude hands back: a slice that reads as the groups of n; it lies in memory that the call made, or is empty -/
def MagRet (n : Nat) (w : World) (e : Ending) (w' : World) : Prop :=
  ∃ A c, e = .returned (.slice A (mag n).length c) ∧ Mg .u64 w' w'.heap.size A (mag n) ∧ (mag n).length ≤ c ∧ c ≤ 9223372036854775807 ∧ Below w.heap.size w w'

theorem cut_pre (m : List Nat) (h : Small m) : ∃ k, k ≤ m.length ∧ cutL m = m.take k := by
  induction hn : m.length generalizing m with
  | zero => exact ⟨0, Nat.le_refl _, by rw [List.eq_nil_of_length_eq_zero hn]; rfl⟩
  | succ n ih =>
    have hne : m ≠ [] := by intro e; subst e; simp at hn
    obtain ⟨s, d, rfl⟩ : ∃ s d, m = s ++ [d] := ⟨m.dropLast, m.getLast hne, (List.dropLast_concat_getLast hne).symm⟩
    have hs : Small s := fun x hx => h x (by simp [hx])
    have hl : s.length = n := by simpa using hn
    by_cases hd : d = 0
    · subst hd
      obtain ⟨k, hk, e⟩ := ih s hs hl
      refine ⟨k, by omega, ?_⟩
      have hv : mval (s ++ [0]) = mval s := by rw [mval_append]; simp [mval]
      unfold cutL at e ⊢
      rw [hv, e, List.take_append_of_le_length (by omega)]
    · refine ⟨n + 1, Nat.le_refl _, ?_⟩
      rw [List.take_of_length_le (by omega)]
      exact mag_mval _ h (by simp; exact hd)
/-- what cut leaves of a slice of the call's own is a magnitude -/
theorem mag_ret {w wr : World} {n c : Nat} {A : Option Addr} {o : List Nat} (ho : Ow .u64 123 wr w.heap.size A c o) (hs : Small o) (hn : mval o = n) (hb : Below w.heap.size w wr) :
    MagRet n w (.returned (.slice A (cutL o).length c)) wr := by
  obtain ⟨k, hk, e⟩ := cut_pre o hs
  have e2 : mag n = o.take k := by rw [← e]; unfold cutL; rw [hn]
  obtain ⟨h1, h2, h3⟩ := ho.mg
  refine ⟨A, c, by unfold cutL; rw [hn], ?_, ?_, h3, hb⟩
  · rw [e2]; exact h1.take k
  · rw [e2, List.length_take]; omega
theorem mag_of_cut {wr : World} {n c base : Nat} {A : Option Addr} {o : List Nat} (ho : Ow .u64 123 wr base A c o) (hs : Small o) (hn : mval o = n) :
    cutL o = mag n ∧ Mg .u64 wr wr.heap.size A (mag n) ∧ (mag n).length ≤ c ∧ c ≤ 9223372036854775807 := by
  obtain ⟨k, hk, e⟩ := cut_pre o hs
  have e2 : cutL o = mag n := by unfold cutL; rw [hn]
  obtain ⟨h1, h2, h3⟩ := ho.mg
  rw [e2] at e
  refine ⟨e2, ?_, ?_, h3⟩
  · rw [e]; exact h1.take k
  · rw [e, List.length_take]; omega
/-- a slice of the call's own that reads as l -/
def OwRet (l : List Nat) (w : World) (e : Ending) (w' : World) : Prop :=
  ∃ A c, e = .returned (.slice A l.length c) ∧ Ow .u64 123 w' w.heap.size A c l ∧ Below w.heap.size w w'
theorem OwRet.mag {n : Nat} {w w' : World} {e : Ending} (h : OwRet (mag n) w e w') : MagRet n w e w' := by
  obtain ⟨A, c, rfl, ho, hb⟩ := h
  obtain ⟨h1, h2, h3⟩ := ho.mg
  exact ⟨A, c, rfl, h1, h2, h3, hb⟩
theorem Ow.take {K : IntKind} {T : TypeId} {w : World} {base c : Nat} {A : Option Addr} {l : List Nat} (h : Ow K T w base A c l) {k : Nat} (hk : k ≤ l.length) : Ow K T w base A c (l.take k) := by
  have hl : (l.take k).length = k := by rw [List.length_take]; omega
  unfold Ow
  rw [hl]
  refine ⟨by simp; omega, ?_⟩
  rcases h.2 with ⟨hv, h0⟩ | ⟨g, cap, cur, hv, hg, hh, hn, hm, hs, htake⟩
  · left
    injection hv with e1 e2 e3
    subst e1 e3
    obtain rfl : k = 0 := by omega
    exact ⟨rfl, rfl⟩
  · right
    injection hv with e1 e2 e3
    subst e1 e3
    refine ⟨g, _, cur, rfl, hg, hh, by omega, hm, hs, ?_⟩
    have : (cur.toList.take (l.length * 1)).take (k * 1) = (l.map (gvK K)).take (k * 1) := by rw [htake]
    rw [List.take_take, Nat.min_eq_left (by omega)] at this
    rw [this, Nat.mul_one, List.map_take]
theorem Ow.other {K : IntKind} {T : TypeId} {w : World} {base c g h i : Nat} {v : Value} {l : List Nat} (ho : Ow K T w base (some ⟨g, 0, none⟩) c l) (hg : g ≠ h) : Ow K T (w.setCell ⟨h, i, none⟩ v) base (some ⟨g, 0, none⟩) c l := by
  refine ⟨ho.1, ?_⟩
  rcases ho.2 with h0 | ⟨g', cap, cur, hv, hb, hh, r⟩
  · exact .inl h0
  · injection hv with e1 e2 e3
    injection e1 with e1
    injection e1 with e1
    subst e1
    exact .inr ⟨g, cap, cur, by rw [e3], hb, (Below.heap_setCell w _ v g hg).trans hh, r⟩
theorem ow_ret {w wr : World} {n c : Nat} {A : Option Addr} {o : List Nat} (ho : Ow .u64 123 wr w.heap.size A c o) (hs : Small o) (hn : mval o = n) (hb : Below w.heap.size w wr) :
    OwRet (mag n) w (.returned (.slice A (cutL o).length c)) wr := by
  obtain ⟨k, hk, e⟩ := cut_pre o hs
  have e2 : mag n = o.take k := by rw [← e]; unfold cutL; rw [hn]
  exact ⟨A, c, by unfold cutL; rw [hn], by rw [e2]; exact ho.take hk, hb⟩
theorem made_gv (K : IntKind) (n : Nat) : madeCells #[Value.int K 0] n = ((List.replicate n 0).map (gvK K)).toArray := by
  apply Array.ext'
  simp only [madeCells, Array.toList_map, Array.toList_range, List.map_replicate, gvK]
  apply List.ext_getElem
  · simp
  · intro i h1 h2
    simp [Nat.mod_one]
theorem run_makeK {P : Program} {K : IntKind} {t T : TypeId} (ht : P.underlying t = some (.slice T)) (hT : (P.info? T).map (fun i => (i.zero, i.size, i.bytes)) = some (some (.int K 0), 1, 8)) (n c : Nat) (hnc : n ≤ c) (hc : c ≤ 1099511627777) (u : World) :
    (Instr.makeSlice t (.int .i64 (n : Int)) (.int .i64 (c : Int))).run P u = .ok (.slice (some ⟨u.heap.size, 0, none⟩) n c) (u.alloc (.cells ((List.replicate c 0).map (gvK K)).toArray T)) := by
  obtain ⟨i, hi, hzz⟩ := Option.map_eq_some_iff.1 hT
  simp only [Prod.mk.injEq] at hzz
  obtain ⟨hz, hs, hb⟩ := hzz
  have hr := run_make (P := P) u t T i (.int K 0) ht hi hz .i64 .i64 n c (by omega) (by omega) (by rw [hb]; omega) (by omega)
  simp only [Int.toNat_natCast, hs, Nat.mul_one] at hr
  rw [show (Value.int K 0).cells = #[Value.int K 0] from rfl, made_gv] at hr
  exact hr
theorem run_makeU (n c : Nat) (hnc : n ≤ c) (hc : c ≤ 1099511627777) (u : World) :
    (Instr.makeSlice 114 (.int .i64 (n : Int)) (.int .i64 (c : Int))).run Tryz.prog u = .ok (.slice (some ⟨u.heap.size, 0, none⟩) n c) (u.alloc (.cells ((List.replicate c 0).map (gvK .u64)).toArray 123)) :=
  run_makeK (by kernel_rfl) infoU n c hnc hc u
end Go.Proofs.YtahpbnmbphobgaaGreatDoor
namespace Go.Proofs.YtahpbnmbphobgaaGreatDoor
open Go.RowKit Dec

/-- what the loop of plus keeps -/
def PlusIs (w : World) (l m : List Nat) (k cy : Nat) (o : List Nat) (wr : World) : Prop :=
  o.length = l.length ∧ Small o ∧ mval o + cy * BB ^ k = mval l + mval (m.take k) ∧ (∀ t, k ≤ t → o[t]? = l[t]?) ∧ Bk .u64 123 wr w.heap.size (o ++ [0]) ∧ Below w.heap.size w wr
theorem plus_rel {w wr W : World} {l m o : List Nat} {k cy x y : Nat} (h : PlusIs w l m k cy o wr) (hx : o[k]? = some x) (hy : m[k]?.getD 0 = y) (hk : k < l.length)
    (hB : Bk .u64 123 W w.heap.size ((o ++ [0]).set k ((x + cy + y) % BB))) (hb : Below w.heap.size w W) : PlusIs w l m (k + 1) ((x + cy + y) / BB) (o.set k ((x + cy + y) % BB)) W := by
  obtain ⟨h1, h2, h3, h4, h5, h6⟩ := h
  refine ⟨by rw [List.length_set]; exact h1, h2.set _ (Nat.mod_lt _ BB_pos), plus_keep hx hy h3, ?_, ?_, hb⟩
  · intro t ht
    rw [List.getElem?_set_ne (by omega)]
    exact h4 t (by omega)
  · rw [List.set_append_left _ _ (by omega)] at hB
    exact hB
theorem plus_low {a b : Nat} {l : List Nat} (hl : mag a = l) : l = [] ∨ BB ^ (l.length - 1) ≤ a + b := by
  by_cases h : l = []
  · exact .inl h
  · right
    have hp : 0 < l.length := List.length_pos_iff.2 h
    have : ¬ a < BB ^ (l.length - 1) := fun hh => by have := mag_len_lt.2 hh; rw [hl] at this; omega
    omega
theorem plus_end0 {w wr : World} {a b : Nat} {l m o : List Nat} (hl : mag a = l) (hm : mag b = m) (hle : m.length ≤ l.length) (h : PlusIs w l m l.length 0 o wr) : o = mag (a + b) := by
  obtain ⟨h1, h2, h3, h4, h5, h6⟩ := h
  have e : mval o = a + b := by
    rw [List.take_of_length_le hle, ← hl, ← hm, mval_mag, mval_mag] at h3; omega
  rw [← e]
  refine (mag_of_len o h2 ?_).symm
  rcases plus_low (b := b) hl with h | h
  · left; rw [h] at h1; exact List.eq_nil_of_length_eq_zero h1
  · right; rw [h1, e]; exact h
theorem plus_end1 {w wr : World} {a b : Nat} {l m o : List Nat} (hl : mag a = l) (hm : mag b = m) (hle : m.length ≤ l.length) (h : PlusIs w l m l.length 1 o wr) : o ++ [1] = mag (a + b) := by
  obtain ⟨h1, h2, h3, h4, h5, h6⟩ := h
  have e : mval (o ++ [1]) = a + b := by
    rw [List.take_of_length_le hle, ← hl, ← hm, mval_mag, mval_mag] at h3
    rw [mval_append, h1, ← hl]
    simp only [mval]
    omega
  rw [← e]
  refine (mag_mval _ ?_ (by simp)).symm
  intro g hg
  rcases List.mem_append.1 hg with hg | hg
  · exact h2 g hg
  · simp at hg; subst hg; decide

set_option maxRecDepth 100000 in
set_option maxHeartbeats 2000000 in
/-- plus, the first one being not shorter -/
theorem plus_ge (A A' : Option Addr) (c c' : Nat) (a b : Nat) (w : World) (hc : Mg .u64 w w.heap.size A (mag a)) (hc' : Mg .u64 w w.heap.size A' (mag b)) (hm : (mag a).length ≤ 1099511627776) (hle : (mag b).length ≤ (mag a).length) :
    Calls Tryz.prog 114 #[.slice A (mag a).length c, .slice A' (mag b).length c'] w (OwRet (mag (a + b)) w) := by
  obtain ⟨l, hl⟩ : ∃ l, mag a = l := ⟨_, rfl⟩
  obtain ⟨m, hmm⟩ : ∃ m, mag b = m := ⟨_, rfl⟩
  rw [hl] at hc hm hle ⊢
  rw [hmm] at hc' hle ⊢
  have Hc := Lib.hid hc
  have Hc' := Lib.hid hc'
  clear hc hc'
  have k0 : decide ((l.length : Int) < m.length) = false := by simp; omega
  have hmk : ∀ u : World, (Instr.makeSlice 114 (.int .i64 (l.length : Int)) (.int .i64 ((l.length : Int) + 1))).run Tryz.prog u = .ok (.slice (some ⟨u.heap.size, 0, none⟩) l.length (l.length + 1)) (u.alloc (.cells ((List.replicate (l.length + 1) 0).map (gvK .u64)).toArray 123)) := fun u => run_makeU l.length (l.length + 1) (by omega) (by omega) u
  obtain ⟨cs, hcs⟩ : ∃ cs, cs = l.map (gvK .u64) := ⟨_, rfl⟩
  obtain ⟨z, hz⟩ : ∃ z, z = (List.replicate (l.length + 1) 0).map (gvK .u64) := ⟨_, rfl⟩
  rw [← hz] at hmk
  have Hcs := Lib.hid hcs
  have Hz := Lib.hid hz
  clear hcs hz
  have Hl := Lib.hid hl
  have Hmm := Lib.hid hmm
  clear hl hmm
  have F1 : Hid ((w.alloc (.cells z.toArray 123)).heap[w.heap.size]? = some (.cells z.toArray 123 (0, 0))) := by
    exact heap_new w _
  have F2 : Hid (cs.length = Nat.min l.length l.length) := by show _ = _; rw [Hcs.out]; simp
  have F3 : Hid (0 < cs.length → some (⟨w.heap.size, 0, none⟩ : Addr) = some ⟨w.heap.size, 0, none⟩ ∧ ∃ ad, A = some ad ∧ ∀ j v, cs[j]? = some v → (w.alloc (.cells z.toArray 123)).cell? (ad.add j) = some v) := by
    intro h0
    rw [Hcs.out] at h0 ⊢
    simp only [List.length_map] at h0
    obtain ⟨x, hx⟩ : ∃ x, l[0]? = some x := ⟨l[0], by simp⟩
    obtain ⟨b0, o0, hA, -, -⟩ := Hc.out 0 x hx
    refine ⟨rfl, ⟨b0, o0, none⟩, hA, fun j v hv => ?_⟩
    rw [List.getElem?_map, Option.map_eq_some_iff] at hv
    obtain ⟨y, hy, rfl⟩ := hv
    obtain ⟨b1, o1, hA1, -, h1⟩ := (Hc.out.below ((Below.refl w.heap.size w).alloc (Nat.le_refl _) (.cells z.toArray 123))) j y hy
    rw [hA] at hA1
    injection hA1 with hA1
    injection hA1 with e1 e2
    subst e1 e2
    rw [show (⟨b0, o0, none⟩ : Addr).add j = ⟨b0, o0 + j, none⟩ from addr_add b0 o0 j]
    exact h1
  have F4 : Hid (0 + cs.length ≤ z.length) := by show _ ≤ _; rw [Hcs.out, Hz.out]; simp
  have F5 : Hid (∀ v ∈ cs, v.oneCell' = true) := by
    intro v hv
    rw [Hcs.out] at hv
    obtain ⟨x, -, rfl⟩ := List.mem_map.1 hv
    rfl
  have F6 : Hid (Below w.heap.size w (w.alloc (.cells z.toArray 123))) := (Below.refl w.heap.size w).alloc (Nat.le_refl _) _
  have F7 : Hid (splice z 0 cs = (l ++ [0]).map (gvK .u64)) := by
    show _ = _
    rw [Hcs.out, Hz.out]
    simp [splice]
  go_enter Tryz.func114, Tryz.ntmps114
  go_wp2_with (show wpList _ _ _ (⟨some 23, _, _, _, _, _⟩ :: _) _ _; go_loud (refine wpList_copy_splice rfl (.tmp 21) (.tmp 22) 114 114 rfl 123 (by kernel_rfl) sizeU (some ⟨w.heap.size, 0, none⟩) A l.length (l.length + 1) l.length c (by go_simp) (by go_simp) w.heap.size 0 z 123 F1.out cs F2.out F3.out F4.out F5.out w.heap.size w F6.out (Nat.le_refl _) ?_); intro w2 hg2 hb2)
  have HB : Hid (Bk .u64 123 w2 w.heap.size (l ++ [0])) := by
    show Bk .u64 123 _ _ _
    unfold Bk
    rw [hg2.out, F7.out]
  have HBW := Lib.hid hb2
  clear hg2 hb2 F1 F2 F3 F4 F5 F6 F7 hmk Hcs Hz
  have HV : Hid (mval l = a) := by show mval l = a; rw [← Hl.out]; exact mval_mag a
  have HVM : Hid (mval m = b) := by show mval m = b; rw [← Hmm.out]; exact mval_mag b
  have HLS : Hid (Small l) := by show Small l; rw [← Hl.out]; exact mag_small a
  have HMS : Hid (Small m) := by show Small m; rw [← Hmm.out]; exact mag_small b
  go_loopw [26, 6] (fun s t wr => ∃ (k cy : Nat) (o : List Nat), k ≤ l.length ∧ s = .int .i64 (k : Int) ∧ t = .int .u64 (cy : Int) ∧ cy ≤ 1 ∧ Hid (PlusIs w l m k cy o wr)) (fun s _ _ => (l.length - intOf s).toNat)
  case atStart => exact ⟨0, 0, l, by omega, rfl, rfl, by omega, rfl, HLS.out, by simp [mval], fun _ _ => rfl, HB.out, HBW.out⟩
  case round =>
    obtain ⟨k, cy, o, hk, rfl, rfl, hcy, H⟩ := hrel
    by_cases hkl : k = l.length
    · subst hkl
      by_cases hc0 : cy = 0
      · subst hc0
        go_wp2_with fail
        go_ret
        have e := plus_end0 Hl.out Hmm.out hle H.out
        refine ⟨some ⟨w.heap.size, 0, none⟩, l.length + 1, ret_slice ?_, ?_, H.out.2.2.2.2.2⟩
        · rw [← e, H.out.1]
        · rw [← e]
          have := H.out.2.2.2.2.1.own (base := w.heap.size) (Nat.le_refl _) (by rw [List.length_append, H.out.1]; unfold maxLen; simp; omega)
          rw [List.length_append, H.out.1] at this
          unfold Ow
          rw [H.out.1]
          exact this
      · obtain rfl : cy = 1 := by omega
        clear hc0
        have HOW : Hid (wr.ownsRow w.heap.size 123 1 (.slice (some ⟨w.heap.size, 0, none⟩) l.length (l.length + 1)) l.length (o.map (gvK .u64))) := by
          have := H.out.2.2.2.2.1.own (base := w.heap.size) (Nat.le_refl _) (by rw [List.length_append, H.out.1]; unfold maxLen; simp; omega)
          rw [List.length_append, H.out.1] at this
          exact this
        have hsz : w.heap.size < wr.heap.size := H.out.2.2.2.2.1.lt
        obtain ⟨i0, hi, hz0, hz1, hz2⟩ := info_parts infoU
        have Hi := Lib.hid hi
        have Hz0 := Lib.hid hz0
        have Hz1 := Lib.hid hz1
        have Hz2 := Lib.hid hz2
        clear hi hz0 hz1 hz2
        go_wp2_with (at_builtin; refine wpList_append_any _ rfl (.tmp 64) (.tmp 66) 114 rfl w.heap.size 123 i0 (.int .u64 0) 1 8 (by kernel_rfl) Hi.out Hz0.out Hz1.out Hz2.out rfl (by omega) _ l.length (o.map (gvK .u64)) rfl (HOW.out.alloc _) (wr.heap.size + 1) (some ⟨wr.heap.size, 0, none⟩) 1 1 [.int .u64 1] rfl (reads_one wr _ _) (gvK_one [1]) (by unfold maxLen; omega) (by omega) (by simp; omega) ?_; intro v3 w3 hown3 hg3 _; have HO3 := Lib.hid hown3; have HG3 := Lib.hid hg3; clear hown3 hg3)
        go_ret
        have e := plus_end1 Hl.out Hmm.out hle H.out
        have hb3 : Below w.heap.size w w3 := (H.out.2.2.2.2.2.alloc (by omega) _).grown HG3.out (by simp; omega) (own_ge HOW.out)
        have ho : w3.ownsRow w.heap.size 123 1 v3 (o ++ [1]).length ((o ++ [1]).map (gvK .u64)) := by
          have := HO3.out
          rw [List.length_append, H.out.1, List.map_append]
          exact this
        obtain ⟨A3, c3, rfl, ho3⟩ := own_ow ho
        rw [e] at ho3
        exact ⟨A3, c3, ret_slice (by rw [e]), ho3, hb3⟩
    · have hkl' : k < l.length := by omega
      clear hkl
      obtain ⟨x, hx⟩ : ∃ x, l[k]? = some x := some_at l k hkl'
      have hxb : x < 1000000000 := HLS.out.at hx
      have HX : Hid (o[k]? = some x) := by show _ = _; rw [H.out.2.2.2.1 k (Nat.le_refl _)]; exact hx
      clear hx
      have hcell : wr.cell? ⟨w.heap.size, k, none⟩ = some (.int .u64 x) := H.out.2.2.2.2.1.cell (by rw [List.getElem?_append_left (by rw [H.out.1]; exact hkl')]; exact HX.out)
      have hfz : wr.frozen? ⟨w.heap.size, k, none⟩ = false := H.out.2.2.2.2.1.frozen k
      have g1 : Hid (Bk .u64 123 (wr.setCell ⟨w.heap.size, k, none⟩ (.int .u64 ((x : Int) + cy))) w.heap.size ((o ++ [0]).set k (x + cy))) := H.out.2.2.2.2.1.set k (x + cy)
      have g2 : Hid (Below w.heap.size w (wr.setCell ⟨w.heap.size, k, none⟩ (.int .u64 ((x : Int) + cy)))) := H.out.2.2.2.2.2.setCell (Nat.le_refl _) _
      by_cases hkm : k < m.length
      · have q : decide ((k : Int) < m.length) = true := by simp; omega
        obtain ⟨y, hy⟩ := some_at m k hkm
        have hyb : y < 1000000000 := HMS.out.at hy
        obtain ⟨b1, o1, hA, hB, h1⟩ := Hc'.out k y hy
        subst hA
        have HY := Lib.hid hy
        clear hy
        go_wp2_with fail
        generalize wr.setCell ⟨w.heap.size, k, none⟩ (.int .u64 ((x : Int) + cy)) = W1 at *
        have hc1 : W1.cell? ⟨w.heap.size, k, none⟩ = some (.int .u64 ((x : Int) + cy)) := g1.out.cell (n := x + cy) (by rw [List.getElem?_set_self (by simp [H.out.1]; omega)])
        have hf1 : W1.frozen? ⟨w.heap.size, k, none⟩ = false := g1.out.frozen k
        have hd1 : W1.cell? ⟨b1, o1 + k, none⟩ = some (.int .u64 y) := (g2.out.cell (p := ⟨b1, o1 + k, none⟩) hB).trans h1
        clear h1 hcell hfz
        go_still_tail 10, (by kernel_rfl)
        go_wp2_with fail
        go_roundw
        case rel =>
          refine ⟨k + 1, (x + cy + y) / BB, o.set k ((x + cy + y) % BB), by omega, by go_num, rfl, by unfold BB; omega, plus_rel H.out HX.out (by rw [HY.out]; rfl) hkl' ?_ ?_⟩
          · have := (g1.out.set k (x + cy + y)).set k ((x + cy + y) % BB)
            rw [List.set_set, List.set_set] at this
            exact this
          · exact ((g2.out.setCell (Nat.le_refl _) _).setCell (Nat.le_refl _) _).drew
        case measure => simp [intOf]; omega
      · have q : decide ((k : Int) < m.length) = false := by simp; omega
        go_wp2_with fail
        go_roundw
        case rel =>
          refine ⟨k + 1, (x + cy + 0) / BB, o.set k ((x + cy + 0) % BB), by omega, by go_num, rfl, by unfold BB; omega, plus_rel H.out HX.out (by rw [List.getElem?_eq_none (by omega)]; rfl) hkl' ?_ ?_⟩
          · have := g1.out.set k ((x + cy + 0) % BB)
            rw [List.set_set] at this
            exact this
          · exact g2.out.setCell (Nat.le_refl _) _
        case measure => simp [intOf]; omega
set_option maxRecDepth 100000 in
set_option maxHeartbeats 2000000 in
/-- plus, the first one being shorter -/
theorem plus_lt (A A' : Option Addr) (c c' : Nat) (a b : Nat) (w : World) (hc : Mg .u64 w w.heap.size A (mag a)) (hc' : Mg .u64 w w.heap.size A' (mag b)) (hm : (mag a).length ≤ 1099511627776) (hlt : (mag b).length < (mag a).length) :
    Calls Tryz.prog 114 #[.slice A' (mag b).length c', .slice A (mag a).length c] w (OwRet (mag (a + b)) w) := by
  obtain ⟨l, hl⟩ : ∃ l, mag a = l := ⟨_, rfl⟩
  obtain ⟨m, hmm⟩ : ∃ m, mag b = m := ⟨_, rfl⟩
  have hle : (mag b).length ≤ (mag a).length := by omega
  rw [hl] at hc hm hle hlt ⊢
  rw [hmm] at hc' hle hlt ⊢
  have Hc := Lib.hid hc
  have Hc' := Lib.hid hc'
  clear hc hc'
  have k0 : decide ((m.length : Int) < l.length) = true := by simp; omega

  have hmk : ∀ u : World, (Instr.makeSlice 114 (.int .i64 (l.length : Int)) (.int .i64 ((l.length : Int) + 1))).run Tryz.prog u = .ok (.slice (some ⟨u.heap.size, 0, none⟩) l.length (l.length + 1)) (u.alloc (.cells ((List.replicate (l.length + 1) 0).map (gvK .u64)).toArray 123)) := fun u => run_makeU l.length (l.length + 1) (by omega) (by omega) u
  obtain ⟨cs, hcs⟩ : ∃ cs, cs = l.map (gvK .u64) := ⟨_, rfl⟩
  obtain ⟨z, hz⟩ : ∃ z, z = (List.replicate (l.length + 1) 0).map (gvK .u64) := ⟨_, rfl⟩
  rw [← hz] at hmk
  have Hcs := Lib.hid hcs
  have Hz := Lib.hid hz
  clear hcs hz
  have Hl := Lib.hid hl
  have Hmm := Lib.hid hmm
  clear hl hmm
  have F1 : Hid ((w.alloc (.cells z.toArray 123)).heap[w.heap.size]? = some (.cells z.toArray 123 (0, 0))) := by
    exact heap_new w _
  have F2 : Hid (cs.length = Nat.min l.length l.length) := by show _ = _; rw [Hcs.out]; simp
  have F3 : Hid (0 < cs.length → some (⟨w.heap.size, 0, none⟩ : Addr) = some ⟨w.heap.size, 0, none⟩ ∧ ∃ ad, A = some ad ∧ ∀ j v, cs[j]? = some v → (w.alloc (.cells z.toArray 123)).cell? (ad.add j) = some v) := by
    intro h0
    rw [Hcs.out] at h0 ⊢
    simp only [List.length_map] at h0
    obtain ⟨x, hx⟩ : ∃ x, l[0]? = some x := ⟨l[0], by simp⟩
    obtain ⟨b0, o0, hA, -, -⟩ := Hc.out 0 x hx
    refine ⟨rfl, ⟨b0, o0, none⟩, hA, fun j v hv => ?_⟩
    rw [List.getElem?_map, Option.map_eq_some_iff] at hv
    obtain ⟨y, hy, rfl⟩ := hv
    obtain ⟨b1, o1, hA1, -, h1⟩ := (Hc.out.below ((Below.refl w.heap.size w).alloc (Nat.le_refl _) (.cells z.toArray 123))) j y hy
    rw [hA] at hA1
    injection hA1 with hA1
    injection hA1 with e1 e2
    subst e1 e2
    rw [show (⟨b0, o0, none⟩ : Addr).add j = ⟨b0, o0 + j, none⟩ from addr_add b0 o0 j]
    exact h1
  have F4 : Hid (0 + cs.length ≤ z.length) := by show _ ≤ _; rw [Hcs.out, Hz.out]; simp
  have F5 : Hid (∀ v ∈ cs, v.oneCell' = true) := by
    intro v hv
    rw [Hcs.out] at hv
    obtain ⟨x, -, rfl⟩ := List.mem_map.1 hv
    rfl
  have F6 : Hid (Below w.heap.size w (w.alloc (.cells z.toArray 123))) := (Below.refl w.heap.size w).alloc (Nat.le_refl _) _
  have F7 : Hid (splice z 0 cs = (l ++ [0]).map (gvK .u64)) := by
    show _ = _
    rw [Hcs.out, Hz.out]
    simp [splice]
  go_enter Tryz.func114, Tryz.ntmps114
  go_wp2_with (show wpList _ _ _ (⟨some 23, _, _, _, _, _⟩ :: _) _ _; go_loud (refine wpList_copy_splice rfl (.tmp 21) (.tmp 22) 114 114 rfl 123 (by kernel_rfl) sizeU (some ⟨w.heap.size, 0, none⟩) A l.length (l.length + 1) l.length c (by go_simp) (by go_simp) w.heap.size 0 z 123 F1.out cs F2.out F3.out F4.out F5.out w.heap.size w F6.out (Nat.le_refl _) ?_); intro w2 hg2 hb2)
  have HB : Hid (Bk .u64 123 w2 w.heap.size (l ++ [0])) := by
    show Bk .u64 123 _ _ _
    unfold Bk
    rw [hg2.out, F7.out]
  have HBW := Lib.hid hb2
  clear hg2 hb2 F1 F2 F3 F4 F5 F6 F7 hmk Hcs Hz
  have HV : Hid (mval l = a) := by show mval l = a; rw [← Hl.out]; exact mval_mag a
  have HVM : Hid (mval m = b) := by show mval m = b; rw [← Hmm.out]; exact mval_mag b
  have HLS : Hid (Small l) := by show Small l; rw [← Hl.out]; exact mag_small a
  have HMS : Hid (Small m) := by show Small m; rw [← Hmm.out]; exact mag_small b
  go_loopw [26, 6] (fun s t wr => ∃ (k cy : Nat) (o : List Nat), k ≤ l.length ∧ s = .int .i64 (k : Int) ∧ t = .int .u64 (cy : Int) ∧ cy ≤ 1 ∧ Hid (PlusIs w l m k cy o wr)) (fun s _ _ => (l.length - intOf s).toNat)
  case atStart => exact ⟨0, 0, l, by omega, rfl, rfl, by omega, rfl, HLS.out, by simp [mval], fun _ _ => rfl, HB.out, HBW.out⟩
  case round =>
    obtain ⟨k, cy, o, hk, rfl, rfl, hcy, H⟩ := hrel
    by_cases hkl : k = l.length
    · subst hkl
      by_cases hc0 : cy = 0
      · subst hc0
        go_wp2_with fail
        go_ret
        have e := plus_end0 Hl.out Hmm.out hle H.out
        refine ⟨some ⟨w.heap.size, 0, none⟩, l.length + 1, ret_slice ?_, ?_, H.out.2.2.2.2.2⟩
        · rw [← e, H.out.1]
        · rw [← e]
          have := H.out.2.2.2.2.1.own (base := w.heap.size) (Nat.le_refl _) (by rw [List.length_append, H.out.1]; unfold maxLen; simp; omega)
          rw [List.length_append, H.out.1] at this
          unfold Ow
          rw [H.out.1]
          exact this
      · obtain rfl : cy = 1 := by omega
        clear hc0
        have HOW : Hid (wr.ownsRow w.heap.size 123 1 (.slice (some ⟨w.heap.size, 0, none⟩) l.length (l.length + 1)) l.length (o.map (gvK .u64))) := by
          have := H.out.2.2.2.2.1.own (base := w.heap.size) (Nat.le_refl _) (by rw [List.length_append, H.out.1]; unfold maxLen; simp; omega)
          rw [List.length_append, H.out.1] at this
          exact this
        have hsz : w.heap.size < wr.heap.size := H.out.2.2.2.2.1.lt
        obtain ⟨i0, hi, hz0, hz1, hz2⟩ := info_parts infoU
        have Hi := Lib.hid hi
        have Hz0 := Lib.hid hz0
        have Hz1 := Lib.hid hz1
        have Hz2 := Lib.hid hz2
        clear hi hz0 hz1 hz2
        go_wp2_with (at_builtin; refine wpList_append_any _ rfl (.tmp 64) (.tmp 66) 114 rfl w.heap.size 123 i0 (.int .u64 0) 1 8 (by kernel_rfl) Hi.out Hz0.out Hz1.out Hz2.out rfl (by omega) _ l.length (o.map (gvK .u64)) rfl (HOW.out.alloc _) (wr.heap.size + 1) (some ⟨wr.heap.size, 0, none⟩) 1 1 [.int .u64 1] rfl (reads_one wr _ _) (gvK_one [1]) (by unfold maxLen; omega) (by omega) (by simp; omega) ?_; intro v3 w3 hown3 hg3 _; have HO3 := Lib.hid hown3; have HG3 := Lib.hid hg3; clear hown3 hg3)
        go_ret
        have e := plus_end1 Hl.out Hmm.out hle H.out
        have hb3 : Below w.heap.size w w3 := (H.out.2.2.2.2.2.alloc (by omega) _).grown HG3.out (by simp; omega) (own_ge HOW.out)
        have ho : w3.ownsRow w.heap.size 123 1 v3 (o ++ [1]).length ((o ++ [1]).map (gvK .u64)) := by
          have := HO3.out
          rw [List.length_append, H.out.1, List.map_append]
          exact this
        obtain ⟨A3, c3, rfl, ho3⟩ := own_ow ho
        rw [e] at ho3
        exact ⟨A3, c3, ret_slice (by rw [e]), ho3, hb3⟩
    · have hkl' : k < l.length := by omega
      clear hkl
      obtain ⟨x, hx⟩ : ∃ x, l[k]? = some x := some_at l k hkl'
      have hxb : x < 1000000000 := HLS.out.at hx
      have HX : Hid (o[k]? = some x) := by show _ = _; rw [H.out.2.2.2.1 k (Nat.le_refl _)]; exact hx
      clear hx
      have hcell : wr.cell? ⟨w.heap.size, k, none⟩ = some (.int .u64 x) := H.out.2.2.2.2.1.cell (by rw [List.getElem?_append_left (by rw [H.out.1]; exact hkl')]; exact HX.out)
      have hfz : wr.frozen? ⟨w.heap.size, k, none⟩ = false := H.out.2.2.2.2.1.frozen k
      have g1 : Hid (Bk .u64 123 (wr.setCell ⟨w.heap.size, k, none⟩ (.int .u64 ((x : Int) + cy))) w.heap.size ((o ++ [0]).set k (x + cy))) := H.out.2.2.2.2.1.set k (x + cy)
      have g2 : Hid (Below w.heap.size w (wr.setCell ⟨w.heap.size, k, none⟩ (.int .u64 ((x : Int) + cy)))) := H.out.2.2.2.2.2.setCell (Nat.le_refl _) _
      by_cases hkm : k < m.length
      · have q : decide ((k : Int) < m.length) = true := by simp; omega
        obtain ⟨y, hy⟩ := some_at m k hkm
        have hyb : y < 1000000000 := HMS.out.at hy
        obtain ⟨b1, o1, hA, hB, h1⟩ := Hc'.out k y hy
        subst hA
        have HY := Lib.hid hy
        clear hy
        go_wp2_with fail
        generalize wr.setCell ⟨w.heap.size, k, none⟩ (.int .u64 ((x : Int) + cy)) = W1 at *
        have hc1 : W1.cell? ⟨w.heap.size, k, none⟩ = some (.int .u64 ((x : Int) + cy)) := g1.out.cell (n := x + cy) (by rw [List.getElem?_set_self (by simp [H.out.1]; omega)])
        have hf1 : W1.frozen? ⟨w.heap.size, k, none⟩ = false := g1.out.frozen k
        have hd1 : W1.cell? ⟨b1, o1 + k, none⟩ = some (.int .u64 y) := (g2.out.cell (p := ⟨b1, o1 + k, none⟩) hB).trans h1
        clear h1 hcell hfz
        go_still_tail 10, (by kernel_rfl)
        go_wp2_with fail
        go_roundw
        case rel =>
          refine ⟨k + 1, (x + cy + y) / BB, o.set k ((x + cy + y) % BB), by omega, by go_num, rfl, by unfold BB; omega, plus_rel H.out HX.out (by rw [HY.out]; rfl) hkl' ?_ ?_⟩
          · have := (g1.out.set k (x + cy + y)).set k ((x + cy + y) % BB)
            rw [List.set_set, List.set_set] at this
            exact this
          · exact ((g2.out.setCell (Nat.le_refl _) _).setCell (Nat.le_refl _) _).drew
        case measure => simp [intOf]; omega
      · have q : decide ((k : Int) < m.length) = false := by simp; omega
        go_wp2_with fail
        go_roundw
        case rel =>
          refine ⟨k + 1, (x + cy + 0) / BB, o.set k ((x + cy + 0) % BB), by omega, by go_num, rfl, by unfold BB; omega, plus_rel H.out HX.out (by rw [List.getElem?_eq_none (by omega)]; rfl) hkl' ?_ ?_⟩
          · have := g1.out.set k ((x + cy + 0) % BB)
            rw [List.set_set] at this
            exact this
          · exact g2.out.setCell (Nat.le_refl _) _
        case measure => simp [intOf]; omega
theorem plus_any (A A' : Option Addr) (c c' : Nat) (a b : Nat) (w : World) (hc : Mg .u64 w w.heap.size A (mag a)) (hc' : Mg .u64 w w.heap.size A' (mag b)) (hm : (mag a).length ≤ 1099511627776) (hm' : (mag b).length ≤ 1099511627776) :
    Calls Tryz.prog 114 #[.slice A (mag a).length c, .slice A' (mag b).length c'] w (OwRet (mag (a + b)) w) := by
  by_cases h : (mag b).length ≤ (mag a).length
  · exact plus_ge A A' c c' a b w hc hc' hm h
  · rw [Nat.add_comm a b]
    exact plus_lt A' A c' c b a w hc' hc hm' (by omega)
end Go.Proofs.YtahpbnmbphobgaaGreatDoor
namespace Go.Proofs.YtahpbnmbphobgaaGreatDoor
open Go.RowKit Dec

set_option maxHeartbeats 1000000 in
theorem clone_any (A : Option Addr) (c : Nat) (l : List Nat) (w : World) (hc : Mg .u64 w w.heap.size A l) (hm : l.length ≤ 1099511627776) :
    Calls Tryz.prog 155 #[.slice A l.length c] w (OwRet l w) := by
  have Hc := Lib.hid hc
  clear hc
  cases A with
  | none =>
    have hl : l = [] := by
      cases l with
      | nil => rfl
      | cons g l => obtain ⟨b, o, h, _⟩ := Hc.out 0 g rfl; cases h
    subst hl
    have k : ∀ u : World, (binOp .eql 114 (.slice none 0 c) (.slice none 0 0)).run Tryz.prog u = .ok (.bool true) u := fun u => Lib.run_eql_slice_nil u _ 123 none _ _ _ _ (by kernel_rfl)
    go_enter Tryz.func155, Tryz.ntmps155
    go_wp2_with fail
    go_ret
    exact ⟨none, 0, rfl, ⟨rfl, .inl ⟨rfl, rfl⟩⟩, Below.refl _ _⟩
  | some ad =>
    have k : ∀ u : World, (binOp .eql 114 (.slice (some ad) l.length c) (.slice none 0 0)).run Tryz.prog u = .ok (.bool false) u := fun u => Lib.run_eql_slice_nil u _ 123 (some ad) _ _ _ _ (by kernel_rfl)
    obtain ⟨i0, hi, hz0, hz1, hz2⟩ := info_parts infoU
    have Hi := Lib.hid hi
    have Hz0 := Lib.hid hz0
    have Hz1 := Lib.hid hz1
    have Hz2 := Lib.hid hz2
    clear hi hz0 hz1 hz2
    have HR := Lib.hid (Hc.out.reads.alloc (Nat.le_refl _) (.cells #[] 123))
    have HO := Lib.hid (Ow.new w .u64 123 [] (by simp))
    go_enter Tryz.func155, Tryz.ntmps155
    go_wp2_with (at_builtin; refine wpList_append_any _ rfl (.tmp 5) (.tmp 6) 114 rfl w.heap.size 123 i0 (.int .u64 0) 1 8 (by kernel_rfl) Hi.out Hz0.out Hz1.out Hz2.out rfl (by omega) (.slice (some ⟨w.heap.size, 0, none⟩) 0 0) 0 [] rfl HO.out w.heap.size (some ad) l.length c (l.map (gvK .u64)) rfl HR.out (gvK_one l) (by unfold maxLen; omega) (by omega) (by simp) ?_; intro v3 w3 hown3 hg3 _; have HO3 := Lib.hid hown3; have HG3 := Lib.hid hg3; clear hown3 hg3)
    go_ret
    have hb3 : Below w.heap.size w w3 := ((Below.refl _ _).alloc (Nat.le_refl _) _).grown HG3.out (by simp) (fun k hk => by simp [Value.ownBlock] at hk; omega)
    have ho := HO3.out
    rw [Nat.zero_add, List.nil_append] at ho
    obtain ⟨A3, c3, rfl, h3⟩ := own_ow ho
    exact ⟨A3, c3, rfl, h3, hb3⟩

/-- what the loop of minus keeps -/
def MinusIs (w : World) (l m : List Nat) (k cy : Nat) (o : List Nat) (A : Option Addr) (c : Nat) (wr : World) : Prop :=
  o.length = l.length ∧ Small o ∧ mval o + mval (m.take k) = mval l + cy * BB ^ k ∧ (∀ t, k ≤ t → o[t]? = l[t]?) ∧ Ow .u64 123 wr w.heap.size A c o ∧ Below w.heap.size w wr
theorem minus_rel {w wr W : World} {l m o : List Nat} {k cy cy' v : Nat} {A : Option Addr} {c : Nat} (h : MinusIs w l m k cy o A c wr) (hv : v < BB)
    (hk : mval (o.set k v) + mval (m.take (k + 1)) = mval l + cy' * BB ^ (k + 1)) (hB : Ow .u64 123 W w.heap.size A c (o.set k v)) (hb : Below w.heap.size w W) : MinusIs w l m (k + 1) cy' (o.set k v) A c W := by
  obtain ⟨h1, h2, h3, h4, h5, h6⟩ := h
  refine ⟨by rw [List.length_set]; exact h1, h2.set _ hv, hk, ?_, hB, hb⟩
  intro t ht
  rw [List.getElem?_set_ne (by omega)]
  exact h4 t (by omega)

set_option maxRecDepth 100000 in
set_option maxHeartbeats 2000000 in
theorem minus_any (A A' : Option Addr) (c c' : Nat) (a b : Nat) (w : World) (hc : Mg .u64 w w.heap.size A (mag a)) (hc' : Mg .u64 w w.heap.size A' (mag b)) (hm : (mag a).length ≤ 1099511627776) (hle : b ≤ a) :
    Calls Tryz.prog 115 #[.slice A (mag a).length c, .slice A' (mag b).length c'] w (OwRet (mag (a - b)) w) := by
  have hlen : (mag b).length ≤ (mag a).length := by
    rcases Nat.lt_or_ge (mag a).length (mag b).length with h | h
    · have := cmp_len h; omega
    · exact h
  obtain ⟨l, hl⟩ : ∃ l, mag a = l := ⟨_, rfl⟩
  obtain ⟨m, hmm⟩ : ∃ m, mag b = m := ⟨_, rfl⟩
  rw [hl] at hc hm hlen ⊢
  rw [hmm] at hc' hlen ⊢
  have Hc := Lib.hid hc
  have Hc' := Lib.hid hc'
  clear hc hc'
  have Hl := Lib.hid hl
  have Hmm := Lib.hid hmm
  have Hle := Lib.hid hle
  clear hl hmm hle
  have HV : Hid (mval l = a) := by show mval l = a; rw [← Hl.out]; exact mval_mag a
  have HVM : Hid (mval m = b) := by show mval m = b; rw [← Hmm.out]; exact mval_mag b
  have HLS : Hid (Small l) := by show Small l; rw [← Hl.out]; exact mag_small a
  have HMS : Hid (Small m) := by show Small m; rw [← Hmm.out]; exact mag_small b
  go_enter Tryz.func115, Tryz.ntmps115
  go_wp2_with fail
  refine (clone_any A c l w Hc.out hm).mono ?_
  rintro e w2 ⟨A2, c2, rfl, ho2, hb2⟩
  have HO2 := Lib.hid ho2
  have HB2 := Lib.hid hb2
  clear ho2 hb2
  go_wp2_with fail
  go_loopw [13, 6] (fun s t wr => ∃ (k cy : Nat) (o : List Nat), k ≤ l.length ∧ s = .int .i64 (k : Int) ∧ t = .int .u64 (cy : Int) ∧ cy ≤ 1 ∧ Hid (MinusIs w l m k cy o A2 c2 wr)) (fun s _ _ => (l.length - intOf s).toNat)
  case atStart => exact ⟨0, 0, l, by omega, rfl, rfl, by omega, rfl, HLS.out, by simp [mval], fun _ _ => rfl, HO2.out, HB2.out⟩
  case round =>
    obtain ⟨k, cy, o, hk, rfl, rfl, hcy, H⟩ := hrel
    by_cases hkl : k = l.length
    · subst hkl
      have HE : Hid (mval o = a - b) := minus_end H.out.2.1 H.out.1 (by have := H.out.2.2.1; rw [List.take_of_length_le hlen, HV.out, HVM.out] at this; exact this) Hle.out hcy
      have Hlo := Lib.hid H.out.1
      go_wp2_with fail
      rw [← Hlo.out]
      refine (cut_any A2 c2 o wr H.out.2.1 H.out.2.2.2.2.1.mg.1 H.out.2.2.2.2.1.mg.2.1 H.out.2.2.2.2.1.mg.2.2).mono ?_
      rintro e w3 ⟨rfl, rfl⟩
      go_wp2_with fail
      go_ret
      exact ow_ret H.out.2.2.2.2.1 H.out.2.1 HE.out H.out.2.2.2.2.2
    · have hkl' : k < l.length := by omega
      clear hkl
      obtain ⟨x, hx⟩ : ∃ x, l[k]? = some x := some_at l k hkl'
      have hxb : x < 1000000000 := HLS.out.at hx
      have HX : Hid (o[k]? = some x) := by show _ = _; rw [H.out.2.2.2.1 k (Nat.le_refl _)]; exact hx
      clear hx
      obtain ⟨g, hA, hg, hg2, hcell, hfz⟩ := H.out.2.2.2.2.1.at HX.out
      subst hA
      by_cases hkm : k < m.length
      · have q : decide ((k : Int) < m.length) = true := by simp; omega
        obtain ⟨y, hy⟩ := some_at m k hkm
        have hyb : y < 1000000000 := HMS.out.at hy
        obtain ⟨b1, o1, hA, hB, h1⟩ := Hc'.out k y hy
        subst hA
        have HY := Lib.hid hy
        clear hy
        have hd1 : wr.cell? ⟨b1, o1 + k, none⟩ = some (.int .u64 y) := (H.out.2.2.2.2.2.cell (p := ⟨b1, o1 + k, none⟩) hB).trans h1
        clear h1
        by_cases hlt : x < cy + y
        · go_wp2_with fail
          go_roundw
          case rel =>
            have e : ((x + BB - (cy + y) : Nat) : Int) = (x : Int) + 1000000000 - (cy + y) := by unfold BB; omega
            refine ⟨k + 1, 1, o.set k (x + BB - (cy + y)), by omega, by go_num, rfl, by omega, minus_rel H.out (by unfold BB; omega) (minus_keep1 HX.out (by rw [HY.out]; rfl) H.out.2.2.1 (by unfold BB; omega)) ?_ ((H.out.2.2.2.2.2.setCell hg _).setCell hg _)⟩
            have := (H.out.2.2.2.2.1.set k (x + BB)).set k (x + BB - (cy + y))
            rw [List.set_set, e] at this
            exact this
          case measure => simp [intOf]; omega
        · go_wp2_with fail
          go_roundw
          case rel =>
            have e : ((x - (cy + y) : Nat) : Int) = (x : Int) - (cy + y) := by omega
            refine ⟨k + 1, 0, o.set k (x - (cy + y)), by omega, by go_num, rfl, by omega, minus_rel H.out (by unfold BB; omega) (minus_keep0 HX.out (by rw [HY.out]; rfl) H.out.2.2.1 (by omega)) ?_ (H.out.2.2.2.2.2.setCell hg _)⟩
            have := H.out.2.2.2.2.1.set k (x - (cy + y))
            rw [e] at this
            exact this
          case measure => simp [intOf]; omega
      · have q : decide ((k : Int) < m.length) = false := by simp; omega
        by_cases hlt : x < cy
        · go_wp2_with fail
          go_roundw
          case rel =>
            have e : ((x + BB - (cy + 0) : Nat) : Int) = (x : Int) + 1000000000 - cy := by unfold BB; omega
            refine ⟨k + 1, 1, o.set k (x + BB - (cy + 0)), by omega, by go_num, rfl, by omega, minus_rel H.out (by unfold BB; omega) (minus_keep1 HX.out (by rw [List.getElem?_eq_none (by omega)]; rfl) H.out.2.2.1 (by unfold BB; omega)) ?_ ((H.out.2.2.2.2.2.setCell hg _).setCell hg _)⟩
            have := (H.out.2.2.2.2.1.set k (x + BB)).set k (x + BB - (cy + 0))
            rw [List.set_set, e] at this
            exact this
          case measure => simp [intOf]; omega
        · go_wp2_with fail
          go_roundw
          case rel =>
            have e : ((x - (cy + 0) : Nat) : Int) = (x : Int) - cy := by omega
            refine ⟨k + 1, 0, o.set k (x - (cy + 0)), by omega, by go_num, rfl, by omega, minus_rel H.out (by unfold BB; omega) (minus_keep0 HX.out (by rw [List.getElem?_eq_none (by omega)]; rfl) H.out.2.2.1 (by omega)) ?_ (H.out.2.2.2.2.2.setCell hg _)⟩
            have := H.out.2.2.2.2.1.set k (x - (cy + 0))
            rw [e] at this
            exact this
          case measure => simp [intOf]; omega
end Go.Proofs.YtahpbnmbphobgaaGreatDoor
namespace Go.Proofs.YtahpbnmbphobgaaGreatDoor
open Go.RowKit Dec

/-- what the rows of times keep -/
def TimesIs (w : World) (l m : List Nat) (i : Nat) (o : List Nat) (wr : World) : Prop :=
  o.length = l.length + m.length ∧ Small o ∧ mval o = mval (l.take i) * mval m ∧ (∀ t, i + m.length ≤ t → t < o.length → o[t]? = some 0) ∧ Ow .u64 123 wr w.heap.size (some ⟨w.heap.size, 0, none⟩) (l.length + m.length) o ∧ Below w.heap.size w wr
/-- what the rounds of a row keep -/
def RowIs (w : World) (m O : List Nat) (n i x k cy : Nat) (o : List Nat) (wr : World) : Prop :=
  o.length = n ∧ Small o ∧ mval o + cy * BB ^ (i + k) = mval O + x * mval (m.take k) * BB ^ i ∧ (∀ t, i + k ≤ t → o[t]? = O[t]?) ∧ Ow .u64 123 wr w.heap.size (some ⟨w.heap.size, 0, none⟩) n o ∧ Below w.heap.size w wr
theorem row_rel {w wr W : World} {m O o : List Nat} {n i x k cy y z : Nat} (h : RowIs w m O n i x k cy o wr) (hz : o[i + k]? = some z) (hy : m[k]? = some y)
    (hB : Ow .u64 123 W w.heap.size (some ⟨w.heap.size, 0, none⟩) n (o.set (i + k) ((cy + (z + x * y)) % BB))) (hb : Below w.heap.size w W) :
    RowIs w m O n i x (k + 1) ((cy + (z + x * y)) / BB) (o.set (i + k) ((cy + (z + x * y)) % BB)) W := by
  obtain ⟨h1, h2, h3, h4, h5, h6⟩ := h
  refine ⟨by rw [List.length_set]; exact h1, h2.set _ (Nat.mod_lt _ BB_pos), times_keep hz (by rw [hy]; rfl) h3, ?_, hB, hb⟩
  intro t ht
  rw [List.getElem?_set_ne (by omega)]
  exact h4 t (by omega)
theorem times_start {w W : World} {l m : List Nat} (hO : Ow .u64 123 W w.heap.size (some ⟨w.heap.size, 0, none⟩) (l.length + m.length) (List.replicate (l.length + m.length) 0)) (hb : Below w.heap.size w W) :
    TimesIs w l m 0 (List.replicate (l.length + m.length) 0) W := by
  refine ⟨by simp, ?_, by simp [mval_zeros, mval], ?_, hO, hb⟩
  · intro g hg; rw [List.eq_of_mem_replicate hg]; exact BB_pos
  · intro t _ ht; rw [List.getElem?_replicate, if_pos (by simpa using ht)]
theorem times_next {w wr W : World} {l m O o : List Nat} {i x cy : Nat} (hT : ∃ wo, TimesIs w l m i O wo) (hx : l[i]? = some x) (h : RowIs w m O (l.length + m.length) i x m.length cy o wr) (hcy : cy < BB)
    (hz : o[i + m.length]? = some 0) (hB : Ow .u64 123 W w.heap.size (some ⟨w.heap.size, 0, none⟩) (l.length + m.length) (o.set (i + m.length) (0 + cy))) (hb : Below w.heap.size w W) :
    TimesIs w l m (i + 1) (o.set (i + m.length) (0 + cy)) W := by
  obtain ⟨wo, t1, t2, t3, t4, t5, t6⟩ := hT
  obtain ⟨h1, h2, h3, h4, h5, h6⟩ := h
  rw [List.take_of_length_le (Nat.le_refl _)] at h3
  refine ⟨by rw [List.length_set]; exact h1, h2.set _ (by omega), times_row hz hx h3 t3, ?_, hB, hb⟩
  intro t ht htl
  rw [List.length_set] at htl
  rw [List.getElem?_set_ne (by omega), h4 t (by omega)]
  exact t4 t (by omega) (by omega)
theorem times_skip {w wr : World} {l m O o : List Nat} {i x cy : Nat} (hT : ∃ wo, TimesIs w l m i O wo) (hm : m = []) (h : RowIs w m O (l.length + m.length) i x m.length cy o wr) (hcy : cy = 0) : TimesIs w l m (i + 1) o wr := by
  obtain ⟨wo, t1, t2, t3, t4, t5, t6⟩ := hT
  obtain ⟨h1, h2, h3, h4, h5, h6⟩ := h
  subst hm hcy
  simp [mval] at h3 t3
  refine ⟨h1, h2, by simp [mval]; omega, ?_, h5, h6⟩
  intro t ht htl
  rw [h4 t (by simp at ht ⊢; omega)]
  exact t4 t (by omega) (by omega)

set_option maxRecDepth 100000 in
set_option maxHeartbeats 2000000 in
theorem times_own (A A' : Option Addr) (c c' : Nat) (a b : Nat) (w : World) (hc : Mg .u64 w w.heap.size A (mag a)) (hc' : Mg .u64 w w.heap.size A' (mag b)) (hm : (mag a).length ≤ 549755813888) (hm' : (mag b).length ≤ 549755813888) :
    Calls Tryz.prog 70 #[.slice A (mag a).length c, .slice A' (mag b).length c'] w (OwRet (mag (a * b)) w) := by
  obtain ⟨l, hl⟩ : ∃ l, mag a = l := ⟨_, rfl⟩
  obtain ⟨m, hmm⟩ : ∃ m, mag b = m := ⟨_, rfl⟩
  rw [hl] at hc hm ⊢
  rw [hmm] at hc' hm' ⊢
  have Hc := Lib.hid hc
  have Hc' := Lib.hid hc'
  clear hc hc'
  have Hl := Lib.hid hl
  have Hmm := Lib.hid hmm
  clear hl hmm
  have HV : Hid (mval l = a) := by show mval l = a; rw [← Hl.out]; exact mval_mag a
  have HVM : Hid (mval m = b) := by show mval m = b; rw [← Hmm.out]; exact mval_mag b
  have HLS : Hid (Small l) := by show Small l; rw [← Hl.out]; exact mag_small a
  have HMS : Hid (Small m) := by show Small m; rw [← Hmm.out]; exact mag_small b
  have hmk : ∀ u : World, (Instr.makeSlice 114 (.int .i64 ((l.length : Int) + m.length)) (.int .i64 ((l.length : Int) + m.length))).run Tryz.prog u = .ok (.slice (some ⟨u.heap.size, 0, none⟩) (l.length + m.length) (l.length + m.length)) (u.alloc (.cells ((List.replicate (l.length + m.length) 0).map (gvK .u64)).toArray 123)) := fun u => by
    have := run_makeU (l.length + m.length) (l.length + m.length) (Nat.le_refl _) (by omega) u
    rwa [Int.natCast_add] at this
  obtain ⟨z, hz⟩ : ∃ z, z = (List.replicate (l.length + m.length) 0).map (gvK .u64) := ⟨_, rfl⟩
  rw [← hz] at hmk
  have HS : Hid (TimesIs w l m 0 (List.replicate (l.length + m.length) 0) (w.alloc (.cells z.toArray 123))) := by
    refine times_start ?_ ((Below.refl _ _).alloc (Nat.le_refl _) _)
    have := Ow.new w .u64 123 (List.replicate (l.length + m.length) 0) (by unfold maxLen; simp; omega)
    rw [← hz, List.length_replicate] at this
    exact this
  clear hz
  go_enter Tryz.func70, Tryz.ntmps70
  go_wp2_with fail
  clear hmk
  go_loopw [19] (fun s wr => ∃ (i : Nat) (o : List Nat), i ≤ l.length ∧ s = .int .i64 (i : Int) ∧ Hid (TimesIs w l m i o wr)) (fun s _ => (l.length - intOf s).toNat)
  case atStart => exact ⟨0, _, by omega, rfl, HS.out⟩
  case round =>
    obtain ⟨i, O, hi, rfl, H⟩ := hrel
    clear HS
    by_cases hil : i = l.length
    · subst hil
      have HE : Hid (mval O = a * b) := by show _ = _; rw [H.out.2.2.1, List.take_of_length_le (Nat.le_refl _), HV.out, HVM.out]
      have Hlo := Lib.hid H.out.1
      go_wp2_with fail
      rw [← Hlo.out]
      refine (cut_any _ _ O wr H.out.2.1 H.out.2.2.2.2.1.mg.1 (by rw [Hlo.out]; exact Nat.le_refl _) (by rw [Hlo.out]; omega)).mono ?_
      rintro e w3 ⟨rfl, rfl⟩
      go_wp2_with fail
      go_ret
      exact ow_ret (by rw [Hlo.out]; exact H.out.2.2.2.2.1) H.out.2.1 HE.out H.out.2.2.2.2.2
    · have hil' : i < l.length := by omega
      clear hil
      obtain ⟨x, hx⟩ : ∃ x, l[i]? = some x := some_at l i hil'
      have hxb : x < 1000000000 := HLS.out.at hx
      obtain ⟨b1, o1, hA, hB, h1⟩ := Hc.out i x hx
      subst hA
      have HX := Lib.hid hx
      clear hx
      have hd1 : wr.cell? ⟨b1, o1 + i, none⟩ = some (.int .u64 x) := (H.out.2.2.2.2.2.cell (p := ⟨b1, o1 + i, none⟩) hB).trans h1
      clear h1
      go_wp2_with fail
      obtain ⟨wo, rfl⟩ : ∃ wo : World, wo = wr := ⟨_, rfl⟩
      go_loopw [26, 8] (fun s t wr => ∃ (k cy : Nat) (o : List Nat), k ≤ m.length ∧ s = .int .i64 (k : Int) ∧ t = .int .u64 (cy : Int) ∧ cy < 1000000000 ∧ (m.length = 0 → cy = 0) ∧ Hid (RowIs w m O (l.length + m.length) i x k cy o wr)) (fun s _ _ => (m.length - intOf s).toNat)
      case atStart => exact ⟨0, 0, O, by omega, rfl, rfl, by omega, fun _ => rfl, H.out.1, H.out.2.1, by simp [mval], fun _ _ => rfl, H.out.2.2.2.2.1, H.out.2.2.2.2.2⟩
      case round =>
        obtain ⟨k, cy, o, hk, rfl, rfl, hcy, hcz, R⟩ := hrel
        have Hcz := Lib.hid hcz
        clear hcz
        by_cases hkm : k = m.length
        · subst hkm
          by_cases hm0 : m.length = 0
          · have q : decide ((0 : Int) < m.length) = false := decide_eq_false (by omega)
            go_wp2_with fail
            go_roundw
            case rel => exact ⟨i + 1, o, by omega, by go_num, times_skip ⟨_, H.out⟩ (List.eq_nil_of_length_eq_zero hm0) R.out (Hcz.out hm0)⟩
            case measure => simp [intOf]; omega
          · have q : decide ((0 : Int) < m.length) = true := decide_eq_true (by omega)
            have hz : o[i + m.length]? = some 0 := by rw [R.out.2.2.2.1 _ (Nat.le_refl _)]; exact H.out.2.2.2.1 _ (Nat.le_refl _) (by rw [H.out.1]; omega)
            obtain ⟨g, hA3, hg, hg2, hcell, hfz⟩ := R.out.2.2.2.2.1.at hz
            obtain rfl : g = w.heap.size := by injection hA3 with e; injection e with e; exact e.symm
            have HZ := Lib.hid hz
            clear hz hA3
            go_wp2_with fail
            go_roundw
            case rel =>
              refine ⟨i + 1, o.set (i + m.length) (0 + cy), by omega, by go_num, times_next ⟨_, H.out⟩ HX.out R.out hcy HZ.out ?_ (R.out.2.2.2.2.2.setCell (Nat.le_refl _) _)⟩
              have := R.out.2.2.2.2.1.set (i + m.length) (0 + cy)
              rwa [show ((0 + cy : Nat) : Int) = cy by omega] at this
            case measure => simp [intOf]; omega
        · have hkm' : k < m.length := by omega
          clear hkm
          obtain ⟨y, hy⟩ := some_at m k hkm'
          have hyb : y < 1000000000 := HMS.out.at hy
          obtain ⟨b2, o2, hA2, hB2, h2⟩ := Hc'.out k y hy
          subst hA2
          have HY := Lib.hid hy
          clear hy
          have hd2 : wr.cell? ⟨b2, o2 + k, none⟩ = some (.int .u64 y) := (R.out.2.2.2.2.2.cell (p := ⟨b2, o2 + k, none⟩) hB2).trans h2
          clear h2
          obtain ⟨z, hz⟩ := some_at o (i + k) (by rw [R.out.1]; omega)
          have hzb : z < 1000000000 := R.out.2.1.at hz
          obtain ⟨g, hA3, hg, hg2, hcell, hfz⟩ := R.out.2.2.2.2.1.at hz
          obtain rfl : g = w.heap.size := by injection hA3 with e; injection e with e; exact e.symm
          have HZ := Lib.hid hz
          clear hz hA3
          have hp := (times_bound hcy hzb hxb hyb).1
          have hp1 : (x : Int) * y ≤ 999999998000000001 := by have := Int.ofNat_le.2 hp; rwa [Int.natCast_mul] at this
          have hp0 : (0 : Int) ≤ (x : Int) * y := Int.mul_nonneg (by omega) (by omega)
          clear hp
          go_wp2_with fail
          go_roundw
          case rel =>
            refine ⟨k + 1, (cy + (z + x * y)) / BB, o.set (i + k) ((cy + (z + x * y)) % BB), by omega, by go_num, rfl, (times_bound hcy hzb hxb hyb).2, fun h => by omega, row_rel R.out HZ.out HY.out ?_ (R.out.2.2.2.2.2.setCell (Nat.le_refl _) _)⟩
            have := R.out.2.2.2.2.1.set (i + k) ((cy + (z + x * y)) % BB)
            exact this
          case measure => simp [intOf]; omega
theorem times_any (A A' : Option Addr) (c c' : Nat) (a b : Nat) (w : World) (hc : Mg .u64 w w.heap.size A (mag a)) (hc' : Mg .u64 w w.heap.size A' (mag b)) (hm : (mag a).length ≤ 549755813888) (hm' : (mag b).length ≤ 549755813888) :
    Calls Tryz.prog 70 #[.slice A (mag a).length c, .slice A' (mag b).length c'] w (MagRet (a * b) w) :=
  (times_own A A' c c' a b w hc hc' hm hm').mono fun _ _ h => h.mag
end Go.Proofs.YtahpbnmbphobgaaGreatDoor
namespace Go.Proofs.YtahpbnmbphobgaaGreatDoor
open Go.RowKit Dec

/-- what the loop of single keeps -/
def SingleIs (w : World) (l : List Nat) (d i r : Nat) (o : List Nat) (wr : World) : Prop :=
  o.length = l.length ∧ Small o ∧ mval o * d + r * BB ^ i + mval (l.take i) = mval l ∧ (∀ t, t < i → o[t]? = some 0) ∧ Ow .u64 123 wr w.heap.size (some ⟨w.heap.size, 0, none⟩) l.length o ∧ Below w.heap.size w wr
/-- what single hands back -/
def SingleRet (a d : Nat) (w : World) (e : Ending) (w' : World) : Prop :=
  ∃ A c, e = .returned (.tuple #[.slice A (mag (a / d)).length c, .int .u64 ((a % d : Nat) : Int)]) ∧ Mg .u64 w' w'.heap.size A (mag (a / d)) ∧ (mag (a / d)).length ≤ c ∧ c ≤ 9223372036854775807 ∧ Below w.heap.size w w'

set_option maxRecDepth 100000 in
set_option maxHeartbeats 2000000 in
theorem single_any (A : Option Addr) (c : Nat) (a d : Nat) (w : World) (hc : Mg .u64 w w.heap.size A (mag a)) (hm : (mag a).length ≤ 549755813888) (hd0 : 0 < d) (hd : d ≤ 1000000000) :
    Calls Tryz.prog 217 #[.slice A (mag a).length c, .int .u64 (d : Int)] w (SingleRet a d w) := by
  obtain ⟨l, hl⟩ : ∃ l, mag a = l := ⟨_, rfl⟩
  rw [hl] at hc hm ⊢
  have Hc := Lib.hid hc
  clear hc
  have Hl := Lib.hid hl
  clear hl
  have HV : Hid (mval l = a) := by show mval l = a; rw [← Hl.out]; exact mval_mag a
  have HLS : Hid (Small l) := by show Small l; rw [← Hl.out]; exact mag_small a
  have hmk : ∀ u : World, (Instr.makeSlice 114 (.int .i64 (l.length : Int)) (.int .i64 (l.length : Int))).run Tryz.prog u = .ok (.slice (some ⟨u.heap.size, 0, none⟩) l.length l.length) (u.alloc (.cells ((List.replicate l.length 0).map (gvK .u64)).toArray 123)) := fun u => run_makeU l.length l.length (Nat.le_refl _) (by omega) u
  obtain ⟨z, hz⟩ : ∃ z, z = (List.replicate l.length 0).map (gvK .u64) := ⟨_, rfl⟩
  rw [← hz] at hmk
  have HS : Hid (SingleIs w l d l.length 0 (List.replicate l.length 0) (w.alloc (.cells z.toArray 123))) := by
    refine ⟨by simp, fun g hg => by rw [List.eq_of_mem_replicate hg]; exact BB_pos, by simp [mval_zeros], fun t ht => by rw [List.getElem?_replicate, if_pos ht], ?_, (Below.refl _ _).alloc (Nat.le_refl _) _⟩
    have := Ow.new w .u64 123 (List.replicate l.length 0) (by unfold maxLen; simp; omega)
    rw [← hz, List.length_replicate] at this
    exact this
  clear hz
  go_enter Tryz.func217, Tryz.ntmps217
  go_wp2_with fail
  clear hmk
  go_loopw [8, 7] (fun s t wr => ∃ (i r : Nat) (o : List Nat), i ≤ l.length ∧ s = .int .i64 ((i : Int) - 1) ∧ t = .int .u64 (r : Int) ∧ r < d ∧ Hid (SingleIs w l d i r o wr)) (fun s _ _ => (intOf s + 1).toNat)
  case atStart => exact ⟨l.length, 0, _, by omega, rfl, rfl, by omega, HS.out⟩
  case round =>
    obtain ⟨i, r, o, hi, rfl, rfl, hr, H⟩ := hrel
    clear HS
    by_cases hi0 : i = 0
    · subst hi0
      have HE : Hid (mval o = a / d ∧ r = a % d) := by
        have := H.out.2.2.1
        rw [HV.out] at this
        exact single_end hr (by simpa [mval] using this)
      have Hlo := Lib.hid H.out.1
      go_wp2_with fail
      rw [← Hlo.out]
      refine (cut_any _ _ o wr H.out.2.1 H.out.2.2.2.2.1.mg.1 (Nat.le_refl _) (by rw [Hlo.out]; omega)).mono ?_
      rintro e w3 ⟨rfl, rfl⟩
      go_wp2_with fail
      go_ret2
      obtain ⟨h1, h2, h3, h4⟩ := mag_of_cut H.out.2.2.2.2.1 H.out.2.1 HE.out.1
      refine ⟨_, _, ret_two (val_slice (by rw [h1])) (by rw [HE.out.2]; rfl), h2, ?_, ?_, H.out.2.2.2.2.2⟩
      · rw [Hlo.out]; exact h3
      · rw [Hlo.out]; exact h4
    · obtain ⟨i, rfl⟩ : ∃ j, i = j + 1 := ⟨i - 1, by omega⟩
      clear hi0
      obtain ⟨x, hx⟩ : ∃ x, l[i]? = some x := some_at l i (by omega)
      have hxb : x < 1000000000 := HLS.out.at hx
      obtain ⟨b1, o1, hA, hB, h1⟩ := Hc.out i x hx
      subst hA
      have HX := Lib.hid hx
      clear hx
      have hd1 : wr.cell? ⟨b1, o1 + i, none⟩ = some (.int .u64 x) := (H.out.2.2.2.2.2.cell (p := ⟨b1, o1 + i, none⟩) hB).trans h1
      clear h1
      have hz : o[i]? = some 0 := H.out.2.2.2.1 i (by omega)
      obtain ⟨g, hA3, hg, hg2, hcell, hfz⟩ := H.out.2.2.2.2.1.at hz
      obtain rfl : g = w.heap.size := by injection hA3 with e; injection e with e; exact e.symm
      have HZ := Lib.hid hz
      clear hz hA3
      go_wp2_with fail
      go_roundw
      case rel =>
        refine ⟨i, (r * BB + x) % d, o.set i ((r * BB + x) / d), by omega, rfl, rfl, Nat.mod_lt _ hd0, by rw [List.length_set]; exact H.out.1, H.out.2.1.set _ (single_bound hd hr hxb).1, single_keep HX.out HZ.out H.out.2.2.1, ?_, ?_, H.out.2.2.2.2.2.setCell (Nat.le_refl _) _⟩
        · intro t ht; rw [List.getElem?_set_ne (by omega)]; exact H.out.2.2.2.1 t (by omega)
        · have := H.out.2.2.2.2.1.set i ((r * BB + x) / d)
          exact this
      case measure => simp [intOf]
end Go.Proofs.YtahpbnmbphobgaaGreatDoor
namespace Go.Proofs.YtahpbnmbphobgaaGreatDoor
open Go.RowKit Dec

/-- a slice that reads as the groups of n -/
def MagS (w : World) (A : Option Addr) (c n : Nat) : Prop := Mg .u64 w w.heap.size A (mag n) ∧ (mag n).length ≤ c ∧ c ≤ 9223372036854775807
theorem MagS.up {w w' : World} {A : Option Addr} {c n : Nat} (h : MagS w A c n) (hb : Below w.heap.size w w') : MagS w' A c n := ⟨h.1.up hb, h.2⟩
theorem MagS.drewN {w : World} {A : Option Addr} {c n : Nat} (h : MagS w A c n) (k : Nat) : MagS (w.drewN k) A c n := h
/-- what divide hands back -/
def DivRet (a b : Nat) (w : World) (e : Ending) (w' : World) : Prop :=
  ∃ A c A' c', e = .returned (.tuple #[.slice A (mag (a / b)).length c, .slice A' (mag (a % b)).length c']) ∧ MagS w' A c (a / b) ∧ MagS w' A' c' (a % b) ∧ Below w.heap.size w w'

set_option maxRecDepth 1000000 in
set_option maxHeartbeats 2000000 in
theorem divide_less (A A' : Option Addr) (c c' : Nat) (a b : Nat) (w : World) (hc : MagS w A c a) (hc' : MagS w A' c' b) (hm : (mag a).length ≤ 274877906944) (hm' : (mag b).length ≤ 274877906944) (hlt : a < b) :
    Calls Tryz.prog 157 #[.slice A (mag a).length c, .slice A' (mag b).length c'] w (DivRet a b w) := by
  have Hc := Lib.hid hc
  have Hc' := Lib.hid hc'
  clear hc hc'
  have HD : Hid (a / b = 0 ∧ a % b = a) := ⟨Nat.div_eq_of_lt hlt, Nat.mod_eq_of_lt hlt⟩
  have Hlt := Lib.hid hlt
  clear hlt
  go_enter Tryz.func157, Tryz.ntmps157
  go_wp2_with fail
  refine (compare_any A A' c c' a b w Hc.out.1 Hc'.out.1 (by omega) (by omega)).mono ?_
  rintro e w1 ⟨r, rfl, hr, hr1, hr2, nn, rfl⟩
  have q : decide (r < 0) = true := decide_eq_true (hr.1.2 Hlt.out)
  clear hr
  go_wp2_with fail
  go_ret2
  refine ⟨none, 0, A, c, ret_two (val_slice (by rw [HD.out.1]; rfl)) (val_slice (by rw [HD.out.2])), ?_, ?_, ?_⟩
  · rw [HD.out.1]; exact ⟨Mg.nil _ _ _ _, Nat.le_refl _, by omega⟩
  · rw [HD.out.2]; exact Hc.out
  · exact below_drewN _ _ _

theorem mag_one {n : Nat} (h0 : n ≠ 0) (h : n < BB) : mag n = [n] := by rw [mag_pos h0, Nat.mod_eq_of_lt h, Nat.div_eq_of_lt h, mag_zero]
theorem mag_len_one {n : Nat} (h : (mag n).length = 1) : mag n = [n] ∧ n ≠ 0 ∧ n < BB := by
  have h1 : n < BB ^ 1 := mag_len_lt.1 (by omega)
  have h0 : n ≠ 0 := by rintro rfl; simp [mag_zero] at h
  rw [Nat.pow_one] at h1
  exact ⟨mag_one h0 h1, h0, h1⟩
theorem mg_new (w : World) (l : List Nat) : Mg .u64 (w.alloc (.cells (l.map (gvK .u64)).toArray 123)) (w.heap.size + 1) (some ⟨w.heap.size, 0, none⟩) l := by
  have h : Bk .u64 123 (w.alloc (.cells (l.map (gvK .u64)).toArray 123)) w.heap.size l := heap_new w _
  have := h.mg l.length
  rw [List.take_of_length_le (Nat.le_refl _)] at this
  rwa [World.size_alloc] at this

set_option maxRecDepth 1000000 in
set_option maxHeartbeats 2000000 in
theorem divide_one (A A' : Option Addr) (c c' : Nat) (a b : Nat) (w : World) (hc : MagS w A c a) (hc' : MagS w A' c' b) (hm : (mag a).length ≤ 274877906944) (hm' : (mag b).length = 1) (hle : b ≤ a) :
    Calls Tryz.prog 157 #[.slice A (mag a).length c, .slice A' (mag b).length c'] w (DivRet a b w) := by
  obtain ⟨e1, hb0, hbB⟩ := mag_len_one hm'
  have Hc := Lib.hid hc
  have Hc' := Lib.hid hc'
  clear hc hc'
  have Hle := Lib.hid hle
  have H1 := Lib.hid hm'
  have HE := Lib.hid e1
  clear hle hm' e1
  obtain ⟨b1, o1, hA, hB, h1⟩ := Hc'.out.1 0 b (by rw [HE.out]; rfl)
  subst hA
  rw [Nat.add_zero] at h1
  go_enter Tryz.func157, Tryz.ntmps157
  go_wp2_with fail
  refine (compare_any A _ c c' a b w Hc.out.1 Hc'.out.1 (by omega) (by rw [H1.out]; omega)).mono ?_
  rintro e w1 ⟨r, rfl, hr, hr1, hr2, nn, rfl⟩
  have q : decide (r < 0) = false := decide_eq_false (fun h => by have := hr.1.1 h; have := Hle.out; omega)
  clear hr
  have q2 : (((mag b).length : Int) == 1) = true := by rw [H1.out]; rfl
  have q3 : (0 : Int) < (mag b).length := by rw [H1.out]; decide
  have q4 : 0 < (mag b).length := by rw [H1.out]; decide
  go_wp2_with fail
  refine (single_any A c a b (w.drewN nn) Hc.out.1 (by omega) (by omega) (by unfold BB at hbB; omega)).mono ?_
  rintro e w2 ⟨A2, c2, rfl, hm2, hl2, hc2, hb2⟩
  have HM2 := Lib.hid hm2
  have HB2 : Hid (Below w.heap.size w w2) := (below_drewN _ _ nn).trans hb2
  clear hm2 hb2
  have hr : a % b < b := Nat.mod_lt _ (by omega)
  go_wp2_with fail
  refine (cut_any (some ⟨w2.heap.size, 0, none⟩) 1 [a % b] _ ?_ ?_ (Nat.le_refl _) (by omega)).mono ?_
  · intro g hg; simp at hg; subst hg; exact Nat.lt_trans hr hbB
  · have := mg_new w2 [a % b]
    rw [World.size_alloc]
    exact this
  rintro e w3 ⟨rfl, rfl⟩
  go_wp2_with fail
  go_ret2
  have hcut : cutL [a % b] = mag (a % b) := by unfold cutL; simp [mval]
  have hs : Small [a % b] := by intro g hg; simp at hg; subst hg; exact Nat.lt_trans hr hbB
  have hb3 : Below w2.heap.size w2 (w2.alloc (.cells #[.int .u64 ((a : Int) % b)] 123)) := (Below.refl _ _).alloc (Nat.le_refl _) _
  obtain ⟨k, hk, e⟩ := cut_pre _ hs
  refine ⟨A2, c2, _, 1, ret_two rfl (val_slice (by rw [hcut])), ⟨HM2.out.up hb3, hl2, hc2⟩, ⟨?_, ?_, by omega⟩, HB2.out.trans (hb3.mono HB2.out.size)⟩
  · rw [← hcut, e]
    have := (mg_new w2 [a % b]).take k
    rw [World.size_alloc]
    exact this
  · rw [← hcut, e, List.length_take]; simp; omega
theorem times_own' (A A' : Option Addr) (c c' n n' : Nat) (a b : Nat) (w : World) (hn : (mag a).length = n) (hn' : (mag b).length = n') (hc : Mg .u64 w w.heap.size A (mag a)) (hc' : Mg .u64 w w.heap.size A' (mag b)) (hm : n ≤ 549755813888) (hm' : n' ≤ 549755813888) :
    Calls Tryz.prog 70 #[.slice A n c, .slice A' n' c'] w (OwRet (mag (a * b)) w) := by
  subst hn hn'
  exact times_own A A' c c' a b w hc hc' hm hm'
theorem own_ow' {K : IntKind} {T : TypeId} {w : World} {base n : Nat} {l : List Nat} {v : Value} (h : w.ownsRow base T 1 v n (l.map (gvK K))) (hn : l.length = n) : ∃ A c, v = .slice A n c ∧ Ow K T w base A c l := by
  subst hn
  exact own_ow h
theorem scale_at {v : Nat} (hv : 0 < v) (hvb : v < 1000000000) : ∃ s : Nat, s = BB / (v + 1) ∧ ((1000000000 : Int) / ((v : Int) + 1)) = (s : Int) ∧ 0 < s ∧ s < 1000000000 ∧ mag s = [s] := by
  have h1 := scale_pos (v := v) hvb
  have h2 : BB / (v + 1) < BB := Nat.div_lt_self BB_pos (by omega)
  exact ⟨_, rfl, rfl, h1, h2, mag_one (by omega) h2⟩
/-- what the rounds of the long division keep: al the rest, ql the quotient, from place j on -/
structure DivIs (w : World) (lb : List Nat) (N k T D ga gb gq c3 c4 j : Nat) (al ql : List Nat) (wr : World) : Prop where
  len : al.length = N + 2
  small : Small al
  sum : mval al + mval ql * D = T
  low : mval (al.drop j) < D
  qlen : ql.length = N - k
  qsmall : Small ql
  qz : ∀ t, t < j → ql[t]? = some 0
  oa : Ow .u64 123 wr w.heap.size (some ⟨ga, 0, none⟩) c3 al
  ob : Ow .u64 123 wr w.heap.size (some ⟨gb, 0, none⟩) c4 lb
  oq : Ow .u64 123 wr w.heap.size (some ⟨gq, 0, none⟩) (N - k) ql
  below : Below w.heap.size w wr

theorem div_start {w W : World} {la lb : List Nat} {N k T D ga gb gq c3 c4 : Nat} (hla : mag T = la) (hN : la.length = N) (hk : k + 2 ≤ N) (hD : BB ^ (k + 1) ≤ D)
    (oa : Ow .u64 123 W w.heap.size (some ⟨ga, 0, none⟩) c3 (la ++ [0, 0])) (ob : Ow .u64 123 W w.heap.size (some ⟨gb, 0, none⟩) c4 lb)
    (oq : Ow .u64 123 W w.heap.size (some ⟨gq, 0, none⟩) (N - k) (List.replicate (N - k) 0)) (hb : Below w.heap.size w W) :
    DivIs w lb N k T D ga gb gq c3 c4 (N - k) (la ++ [0, 0]) (List.replicate (N - k) 0) W := by
  subst hla hN
  have hs := mag_small T
  refine ⟨by simp, ?_, ?_, ?_, by simp, ?_, fun t ht => by rw [List.getElem?_replicate, if_pos ht], oa, ob, oq, hb⟩
  · intro g hg
    rcases List.mem_append.1 hg with hg | hg
    · exact hs g hg
    · simp at hg; subst hg; exact BB_pos
  · rw [mval_append, mval_mag, mval_zeros]; simp [mval]
  · rw [List.drop_append_of_le_length (by omega), mval_append]
    have h1 := mval_lt _ (hs.drop ((mag T).length - k))
    rw [List.length_drop, show (mag T).length - ((mag T).length - k) = k by omega] at h1
    have h2 : BB ^ k ≤ BB ^ (k + 1) := Nat.pow_le_pow_right BB_pos (by omega)
    simp only [mval, Nat.mul_zero, Nat.add_zero]
    omega
  · intro g hg; rw [List.eq_of_mem_replicate hg]; exact BB_pos

theorem DivIs.drewN {w wr : World} {lb al ql : List Nat} {N k T D ga gb gq c3 c4 j : Nat} (h : DivIs w lb N k T D ga gb gq c3 c4 j al ql wr) (n : Nat) : DivIs w lb N k T D ga gb gq c3 c4 j al ql (wr.drewN n) :=
  ⟨h.len, h.small, h.sum, h.low, h.qlen, h.qsmall, h.qz, h.oa.drewN n, h.ob.drewN n, h.oq.drewN n, h.below.trans (below_drewN _ _ n)⟩
/-- what the rounds of the subtraction keep -/
structure SubIs (w : World) (lb al ql : List Nat) (N k ga gb gq c3 c4 i g j cy : Nat) (o : List Nat) (wr : World) : Prop where
  small : Small o
  sum : mval o + g * mval (lb.take j) * BB ^ i = mval al + cy * BB ^ (i + j)
  alike : Dec.Alike i al o
  same : ∀ t, i + j ≤ t → o[t]? = al[t]?
  oa : Ow .u64 123 wr w.heap.size (some ⟨ga, 0, none⟩) c3 o
  ob : Ow .u64 123 wr w.heap.size (some ⟨gb, 0, none⟩) c4 lb
  oq : Ow .u64 123 wr w.heap.size (some ⟨gq, 0, none⟩) (N - k) ql
  below : Below w.heap.size w wr
theorem DivIs.sub {w wr : World} {lb al ql : List Nat} {N k T D ga gb gq c3 c4 j : Nat} (h : DivIs w lb N k T D ga gb gq c3 c4 j al ql wr) (i g : Nat) : SubIs w lb al ql N k ga gb gq c3 c4 i g 0 0 al wr :=
  ⟨h.small, by simp [mval], Dec.Alike.refl _ _, fun _ _ => rfl, h.oa, h.ob, h.oq, h.below⟩
theorem SubIs.next {w wr W : World} {lb al ql o : List Nat} {N k ga gb gq c3 c4 i g j cy cy' v : Nat} (h : SubIs w lb al ql N k ga gb gq c3 c4 i g j cy o wr) (hv : v < BB)
    (hs : mval (o.set (i + j) v) + g * mval (lb.take (j + 1)) * BB ^ i = mval al + cy' * BB ^ (i + (j + 1)))
    (oa : Ow .u64 123 W w.heap.size (some ⟨ga, 0, none⟩) c3 (o.set (i + j) v)) (ob : Ow .u64 123 W w.heap.size (some ⟨gb, 0, none⟩) c4 lb)
    (oq : Ow .u64 123 W w.heap.size (some ⟨gq, 0, none⟩) (N - k) ql) (hb : Below w.heap.size w W) : SubIs w lb al ql N k ga gb gq c3 c4 i g (j + 1) cy' (o.set (i + j) v) W :=
  ⟨h.small.set _ hv, hs, h.alike.set (Nat.le_add_right _ _), fun t ht => by rw [List.getElem?_set_ne (by omega)]; exact h.same t (by omega), oa, ob, oq, hb⟩
/-- what the rounds of the adding back keep -/
structure AddIs (w : World) (lb o0 ql : List Nat) (N k ga gb gq c3 c4 i j cy : Nat) (o : List Nat) (wr : World) : Prop where
  small : Small o
  sum : mval o + cy * BB ^ (i + j) = mval o0 + mval (lb.take j) * BB ^ i
  alike : Dec.Alike i o0 o
  same : ∀ t, i + j ≤ t → o[t]? = o0[t]?
  oa : Ow .u64 123 wr w.heap.size (some ⟨ga, 0, none⟩) c3 o
  ob : Ow .u64 123 wr w.heap.size (some ⟨gb, 0, none⟩) c4 lb
  oq : Ow .u64 123 wr w.heap.size (some ⟨gq, 0, none⟩) (N - k) ql
  below : Below w.heap.size w wr
theorem SubIs.add {w wr : World} {lb al ql o : List Nat} {N k ga gb gq c3 c4 i g j cy : Nat} (h : SubIs w lb al ql N k ga gb gq c3 c4 i g j cy o wr) : AddIs w lb o ql N k ga gb gq c3 c4 i 0 0 o wr :=
  ⟨h.small, by simp [mval], Dec.Alike.refl _ _, fun _ _ => rfl, h.oa, h.ob, h.oq, h.below⟩
theorem AddIs.next {w wr W : World} {lb o0 ql o : List Nat} {N k ga gb gq c3 c4 i j cy cy' v : Nat} (h : AddIs w lb o0 ql N k ga gb gq c3 c4 i j cy o wr) (hv : v < BB)
    (hs : mval (o.set (i + j) v) + cy' * BB ^ (i + (j + 1)) = mval o0 + mval (lb.take (j + 1)) * BB ^ i)
    (oa : Ow .u64 123 W w.heap.size (some ⟨ga, 0, none⟩) c3 (o.set (i + j) v)) (ob : Ow .u64 123 W w.heap.size (some ⟨gb, 0, none⟩) c4 lb)
    (oq : Ow .u64 123 W w.heap.size (some ⟨gq, 0, none⟩) (N - k) ql) (hb : Below w.heap.size w W) : AddIs w lb o0 ql N k ga gb gq c3 c4 i (j + 1) cy' (o.set (i + j) v) W :=
  ⟨h.small.set _ hv, hs, h.alike.set (Nat.le_add_right _ _), fun t ht => by rw [List.getElem?_set_ne (by omega)]; exact h.same t (by omega), oa, ob, oq, hb⟩
/-- a group more of the quotient -/
theorem DivIs.next {w wr W : World} {lb al ql o : List Nat} {N k T D ga gb gq c3 c4 i g : Nat} (h : DivIs w lb N k T D ga gb gq c3 c4 (i + 1) al ql wr) (hi : i < N - k) (hD : 0 < D) (hgB : g < BB) (ho : Small o) (hal : Dec.Alike i al o)
    (hg : g = mval (al.drop i) / D) (hr : mval (o.drop i) = mval (al.drop i) % D)
    (oa : Ow .u64 123 W w.heap.size (some ⟨ga, 0, none⟩) c3 o) (ob : Ow .u64 123 W w.heap.size (some ⟨gb, 0, none⟩) c4 lb)
    (oq : Ow .u64 123 W w.heap.size (some ⟨gq, 0, none⟩) (N - k) (ql.set i g)) (hb : Below w.heap.size w W) : DivIs w lb N k T D ga gb gq c3 c4 i o (ql.set i g) W :=
  ⟨hal.1.trans h.len, ho, quot_keep hal (by rw [h.len]; omega) (h.qz i (by omega)) h.sum hg hr, by rw [hr]; exact Nat.mod_lt _ hD, by rw [List.length_set]; exact h.qlen, h.qsmall.set _ hgB,
    fun t ht => by rw [List.getElem?_set_ne (by omega)]; exact h.qz t (by omega), oa, ob, oq, hb⟩
theorem ow_cell {w : World} {base g c : Nat} {l : List Nat} (h : Ow .u64 123 w base (some ⟨g, 0, none⟩) c l) {i n : Nat} (hi : l[i]? = some n) : w.cell? ⟨g, i, none⟩ = some (.int .u64 n) ∧ w.frozen? ⟨g, i, none⟩ = false ∧ base ≤ g := by
  obtain ⟨g', e, h1, _, h2, h3⟩ := h.at hi
  injection e with e
  injection e with e
  subst e
  exact ⟨h2, h3, h1⟩

end Go.Proofs.YtahpbnmbphobgaaGreatDoor
