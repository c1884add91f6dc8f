/- Allocation: Fractions (walk), any fractions. Condition: at most twelve of bounded length, or more than a thousand. A law's argument of fractions, as the walks read it. No condition. Allocation, the reference: Fractions. Condition: at most twelve fractions of bounded length, or more than a thousand. -/
import Derived.Test.YtpipkeplhkccoaaGreatDoorFrg
import Derived.Test.YtpipkeplhkccoaaGreatDoorLf
import Derived.Deep.Slices
import Derived.Deep.Fields
import Derived.Test.YtpipkeplhkccoaaGreatDoorR4h
import Derived.Test.YtpipkeplhkccoaaGreatDoorRt
namespace Go.Proofs.YtpipkeplhkccoaaGreatDoor
open Go.RowKit Go.Shelf Dec QQ SP

def qsOf (l : List PqS) : List Rat := l.map fun s => ratV s.n s.d
theorem qsOf_len (l : List PqS) : (qsOf l).length = l.length := by simp [qsOf]
theorem qsOf_at {l : List PqS} {k : Nat} {s : PqS} (h : l[k]? = some s) : (qsOf l)[k]? = some (ratV s.n s.d) := by unfold qsOf; rw [List.getElem?_map, h]; rfl
def frE (t : ByteArray) (l : List PqS) : Int := if l.length = 0 then 11 else if 1000 < l.length then 4 else if chk t ≠ 0 ∨ l.any fbad = true then 1 else frsE (qsOf l)
def frL (t : ByteArray) (l : List PqS) : List Int := if frE t l = 0 then frsL (valS t) (qsOf l) else []
theorem chkF_ok {s : PqS} (h : chkF s.n s.d = 0) : s.n = frN (ratV s.n s.d) ∧ s.d = frD (ratV s.n s.d) := by
  unfold chkF at h
  split at h
  · assumption
  · cases h
theorem fbad_ok {s : PqS} (h : fbad s = false) : s.n = frN (ratV s.n s.d) ∧ s.d = frD (ratV s.n s.d) ∧ 0 ≤ ratV s.n s.d := by
  unfold fbad at h
  rw [Bool.or_eq_false_iff, decide_eq_false_iff_not] at h
  have h1 : chkF s.n s.d = 0 := by simpa using h.1
  obtain ⟨e1, e2⟩ := chkF_ok h1
  refine ⟨e1, e2, ?_⟩
  have : valS s.n = (ratV s.n s.d).num := (congrArg valS e1).trans (valS_canS _)
  exact Rat.num_nonneg.1 (by omega)
theorem fbad_lt {s : PqS} (h : chkF s.n s.d = 0) : decide (cmpQ (ratV s.n s.d) 0 < 0) = decide (valS s.n < 0) := by
  obtain ⟨e1, e2⟩ := chkF_ok h
  have : valS s.n = (ratV s.n s.d).num := (congrArg valS e1).trans (valS_canS _)
  rw [decide_eq_decide, cmpQ_neg, this, ← Rat.not_le, ← Rat.num_nonneg]
  omega
theorem qsOf_fit {l : List PqS} {k : Nat} (hk : 1 ≤ k) (h : ∀ s ∈ l, s.n.size ≤ k ∧ s.d.size ≤ k) : ∀ q ∈ qsOf l, FitQ k q := fun q hq => by
  obtain ⟨s, hs, rfl⟩ := List.mem_map.1 hq
  exact FitQ.mono (FitQ.rat (k := k) (m := k) (Fit.val (h s hs).1) (Fit.val (h s hs).2) hk) (by omega)
theorem flat_ok {l : List PqS} (h : l.any fbad = false) : flatG pqcells l = flatG qcells (qsOf l) := by
  unfold flatG qsOf
  rw [List.flatMap_map, List.flatMap_def, List.flatMap_def]
  congr 1
  apply List.map_congr_left
  intro s hs
  obtain ⟨e1, e2, _⟩ := fbad_ok (by simpa using List.any_eq_false.1 h s hs)
  show [Value.string s.n, .string s.d] = [.string (frN (ratV s.n s.d)), .string (frD (ratV s.n s.d))]
  rw [← e1, ← e2]
theorem qsOf_nn {l : List PqS} (h : l.any fbad = false) : ∀ q ∈ qsOf l, 0 ≤ q ∧ fbad ⟨frN q, frD q⟩ = false := fun q hq => by
  obtain ⟨s, hs, rfl⟩ := List.mem_map.1 hq
  have hb : fbad s = false := by simpa using List.any_eq_false.1 h s hs
  obtain ⟨e1, e2, e3⟩ := fbad_ok hb
  refine ⟨e3, ?_⟩
  rw [← e1, ← e2]
  exact hb
theorem frL_le {t : ByteArray} {l : List PqS} (h : l.length ≤ 1005) : (frL t l).length ≤ 1005 := by
  unfold frL frsL
  split
  · split
    · rw [splL_len, frW_len, qsOf_len]; exact h
    · exact Nat.zero_le _
  · exact Nat.zero_le _
set_option maxRecDepth 100000 in
set_option maxHeartbeats 4000000 in
theorem frs_any {A : Option Addr} {n c : Nat} {t : ByteArray} {l : List PqS} (hn : l.length = n) (h12 : n ≤ 12 ∨ 1000 < n) (hm : n ≤ 4611686018427387904) (ht : t.size ≤ 1000) (hz : ∀ s ∈ l, s.n.size ≤ 100 ∧ s.d.size ≤ 100) (w : World) (hg : Gl w) (hr : Row w A (flatG pqcells l)) :
    Calls Tryz.prog 32 #[.string t, .slice A n c] w fun e w' => ∃ v, e = .returned (.tuple #[v, .int .i64 (frE t l)]) ∧ OutG icells 22 1 w.heap.size w' v (frL t l).length (frL t l) ∧ Below w.heap.size w w' := by
  have hs := St.refl hg
  have HR := Lib.hid hr
  have HE : Hid (frE t l = if n = 0 then 11 else if 1000 < n then 4 else if chk t ≠ 0 ∨ l.any fbad = true then 1 else frsE (qsOf l)) := by show _ = _; rw [← hn]; rfl
  have HL : Hid (∀ e, frE t l = e → e ≠ 0 → frL t l = []) := fun e h h0 => if_neg (by rw [h]; exact h0)
  have K1 := ChkR (a := t) (by omega)
  by_cases h0 : n = 0
  · have e : frE t l = 11 := by rw [HE.out, if_pos h0]
    rw [HL.out _ e (by decide), e]
    subst h0
    clear HE HL K1 h12 hn hz e hr
    go_enter Tryz.func32, Tryz.ntmps32
    go_wp2_with fail
    go_ret2
    exact ⟨_, rfl, ⟨rfl, World.ownsRow_nil _ _ _ _⟩, hs.2⟩
  have q0 : ((n : Int) == 0) = false := beq_eq_false_iff_ne.2 (by omega)
  by_cases h1 : 1000 < n
  · have e : frE t l = 4 := by rw [HE.out, if_neg h0, if_pos h1]
    rw [HL.out _ e (by decide), e]
    have q1 : decide ((1000 : Int) < (n : Int)) = true := decide_eq_true (by omega)
    have q1n : decide (1000 < n) = true := decide_eq_true h1
    clear HE HL K1 h12 hn hz e h0 h1 hr
    go_enter Tryz.func32, Tryz.ntmps32
    go_wp2_with fail
    go_ret2
    exact ⟨_, rfl, ⟨rfl, World.ownsRow_nil _ _ _ _⟩, hs.2⟩
  have q1 : decide ((1000 : Int) < (n : Int)) = false := decide_eq_false (by omega)
  have q1n : decide (1000 < n) = false := decide_eq_false h1
  have K2 := containsPq (A := A) (c := c) (cap := #[]) (f := 85) (p := fbad) (l := l) (I := fun _ => True) (n := n) (fun _ _ _ _ => trivial) hn (by omega) (fun _ _ => rfl) (fun s hs => (frs4_1 (Nat.le_trans (hz s hs).1 (by decide)) (Nat.le_trans (hz s hs).2 (by decide))).i _)
  by_cases h2 : chk t = 0
  · cases h3 : l.any fbad with
    | true =>
      have e : frE t l = 1 := by rw [HE.out, if_neg h0, if_neg h1, if_pos (.inr h3)]
      rw [HL.out _ e (by decide), e]
      rw [h2] at K1
      rw [h3] at K2
      clear HE HL h12 hn hz e h0 h1 hr h2 h3
      go_enter Tryz.func32, Tryz.ntmps32
      go_wp2_with fail
      refine K1.step hs ?_
      intro w1 hs hb
      go_wp2_with fail
      refine K2.step hs ⟨HR.out.on hs.2, trivial⟩ ?_
      intro w2 hs hb
      go_wp2_with fail
      go_ret2
      exact ⟨_, rfl, ⟨rfl, World.ownsRow_nil _ _ _ _⟩, hs.2⟩
    | false =>
      have e : frE t l = frsE (qsOf l) := by rw [HE.out, if_neg h0, if_neg h1, if_neg (by rw [h3]; simp [h2])]
      have e2 : frL t l = frsL (valS t) (qsOf l) := by
        unfold frL
        by_cases he : frE t l = 0
        · exact if_pos he
        · rw [if_neg he]
          unfold frsL
          rw [if_neg]
          intro h
          apply he
          rw [e]
          exact if_pos h
      rw [e, e2]
      rw [flat_ok h3] at hr
      exact frs_few (k0 := 1000) (K := 100) (by rw [qsOf_len, hn]) (by omega) (by omega) (by decide) (qsOf_fit (by decide) hz) (by decide) ht h2 (fun q hq => (qsOf_nn h3 q hq).1) (fun q hq => (qsOf_nn h3 q hq).2) w hg hr
  · have e : frE t l = 1 := by rw [HE.out, if_neg h0, if_neg h1, if_pos (.inl h2)]
    rw [HL.out _ e (by decide), e]
    have q3 : (chk t != 0) = true := by simpa using h2
    generalize chk t = ct at *
    clear HE HL h12 hn hz e h0 h1 hr h2 K2
    go_enter Tryz.func32, Tryz.ntmps32
    go_wp2_with fail
    refine K1.step hs ?_
    intro w1 hs hb
    go_wp2_with fail
    go_ret2
    exact ⟨_, rfl, ⟨rfl, World.ownsRow_nil _ _ _ _⟩, hs.2⟩
end Go.Proofs.YtpipkeplhkccoaaGreatDoor
namespace Go.Proofs.YtpipkeplhkccoaaGreatDoor
open Go.ChangeShapes Go.WideShapes Go.ChangeAt Go.RowKit Go.Deep

theorem flatG_invQ {α : Type} {cs : α → List Value} {m : Nat} (hm : ∀ a, (cs a).length = m) {l : List α} {i : Nat} {x : Value} (h : (flatG cs l)[i]? = some x) : ∃ k j d, i = k * m + j ∧ l[k]? = some d ∧ (cs d)[j]? = some x := by
  induction l generalizing i with
  | nil => simp [flatG] at h
  | cons e l ih =>
    change (cs e ++ flatG cs l)[i]? = some x at h
    by_cases hi : i < m
    · rw [List.getElem?_append_left (by rw [hm]; omega)] at h
      exact ⟨0, i, e, by omega, rfl, h⟩
    · rw [List.getElem?_append_right (by rw [hm]; omega), hm] at h
      obtain ⟨k, j, d, e1, e2, e3⟩ := ih h
      refine ⟨k + 1, j, d, ?_, by simpa using e2, e3⟩
      rw [Nat.succ_mul]
      omega
theorem cellsQ_frac : Tryz.prog.cellsOf 36 = 2 := by kernel_rfl
theorem cellsQ_int : Tryz.prog.cellsOf 22 = 1 := by kernel_rfl
def PqS.big (x : PqS) : Prop := x.n.size ≤ 9223372036854775807 ∧ x.d.size ≤ 9223372036854775807
set_option maxRecDepth 100000 in
theorem fracs_one {H : Type} {enc : TypeId × Value → H} {w : World} {base n : Nat} {spare : Nat → Bool} {held : Bool} {cs : List Value} {y : DataW H × List MemPlace} (h : DataW.trod enc Tryz.prog w base spare held n 36 cs = some y) : ∃ x : PqS, cs = pqcells x ∧ x.big := by
  obtain ⟨ys, n', _, _, hl, hyl, hf⟩ := DataW.trod_struct Tryz.underlying36 h
  rw [cellsQ_frac] at hl
  match cs, hl with
  | [c0, c1], _ =>
    have h0 := hf 0 _ rfl
    have h1 := hf 1 _ rfl
    change DataW.trod enc Tryz.prog w base spare held n' 22 (List.take (Tryz.prog.cellsOf 22) (List.drop 0 [c0, c1])) = ys[0]? at h0
    change DataW.trod enc Tryz.prog w base spare held n' 22 (List.take (Tryz.prog.cellsOf 22) (List.drop 1 [c0, c1])) = ys[1]? at h1
    rw [cellsQ_int] at h0 h1
    rw [List.getElem?_eq_getElem (by rw [hyl]; decide)] at h0 h1
    obtain ⟨s, e0, _, f0⟩ := DataW.trod_string Tryz.underlying22 h0
    obtain ⟨t, e1, _, f1⟩ := DataW.trod_string Tryz.underlying22 h1
    simp at e0 e1
    subst e0 e1
    exact ⟨⟨s, t⟩, rfl, f0, f1⟩
set_option maxRecDepth 100000 in
/-- an argument of type []api.Frac reads as a list -/
theorem open_fracs {H : Type} {enc : TypeId × Value → H} {W : World} {base : Nat} {v : Value} {d : DataW H} {p : List MemPlace}
    (hv : Value.okWide Tryz.prog W .any base 42 v) (h : DataW.Trod enc Tryz.prog W 0 (fun _ => true) true 42 v d p) :
    ∃ (A : Option Addr) (c : Nat) (l : List PqS), v = .slice A l.length c ∧ Row W A (flatG pqcells l) ∧ l.length ≤ c ∧ c ≤ 9223372036854775807 ∧ ∀ x ∈ l, x.big := by
  obtain ⟨a0, len, cap, rfl⟩ := okWide_slice Tryz.underlying42 hv
  obtain ⟨fuel, hf⟩ := h
  rcases open_slice Tryz.underlying42 hf with ⟨hcs, hx⟩ | ⟨a, len', cap', m, n, D, Pl, hcs, _, hl, hm, hmm, hx, hi⟩
  · have e : a0 = none ∧ len = 0 ∧ cap = 0 := by simpa [Value.cells] using hcs
    obtain ⟨rfl, rfl, rfl⟩ := e
    exact ⟨none, 0, [], rfl, fun i v hv => by simp [flatG] at hv, by simp, by omega, fun x hx => by cases hx⟩
  · have e : a0 = some a ∧ len = len' ∧ cap = cap' := by simpa [Value.cells] using hcs
    obtain ⟨rfl, rfl, rfl⟩ := e
    have hmc : m = cap := by simpa using hmm
    by_cases h0 : len = 0
    · subst h0
      exact ⟨_, _, [], rfl, fun i v hv => by simp [flatG] at hv, by simp, by unfold maxLen at hm; omega, fun x hx => by cases hx⟩
    · obtain ⟨l, hlen, hq⟩ := list_of (fun i (x : PqS) => (W.cell? (a.add (i * 2 + 0)) = some (.string x.n) ∧ W.cell? (a.add (i * 2 + 1)) = some (.string x.d)) ∧ x.big) len (fun i hil => by
        obtain ⟨cs', hc, ht'⟩ := hi i (by omega)
        rw [cellsQ_frac] at hc
        obtain ⟨x, hx, hb⟩ := fracs_one ht'
        obtain ⟨_, hcl, hat⟩ := World.cells?_some hc
        subst hx
        have key : ∀ j, j < 2 → W.cell? (a.add (i * 2 + j)) = (pqcells x)[j]? := fun j hj => by rw [← Go.Deep.add_add]; exact hat j hj
        exact ⟨x, ⟨key 0 (by decide), key 1 (by decide)⟩, hb⟩)
      obtain ⟨b, o, spot⟩ := a
      have hspot : spot = none := by
        obtain ⟨f0, _⟩ := hq 0 (l[0]'(by omega)) (by simp)
        simpa [Addr.add] using World.cell?_spot f0.1
      subst hspot
      refine ⟨some ⟨b, o, none⟩, cap, l, by rw [hlen], ?_, by omega, by unfold maxLen at hm; omega, ?_⟩
      · intro i x hix
        obtain ⟨k, j, d, e1, e2, e3⟩ := flatG_invQ pqcells_len hix
        obtain ⟨g, _⟩ := hq k d e2
        simp only [Go.WideShapes.add_plain] at g
        have hlt : b < W.heap.size := block_lt_of_cell g.1
        refine ⟨b, o, rfl, hlt, ?_⟩
        subst e1
        have hj : j < 2 := by
          have := (List.getElem?_eq_some_iff.1 e3).1
          simpa [pqcells] using this
        match j, hj, e3 with
        | 0, _, e3 => simp [pqcells] at e3; subst e3; exact g.1
        | 1, _, e3 => simp [pqcells] at e3; subst e3; exact g.2
      · intro x hx
        obtain ⟨i, hi2, rfl⟩ := List.mem_iff_getElem.1 hx
        exact (hq i _ (List.getElem?_eq_getElem hi2)).2
end Go.Proofs.YtpipkeplhkccoaaGreatDoor
namespace Go.Proofs.YtpipkeplhkccoaaGreatDoor
open Go.RowKit Go.Shelf Dec QQ SP

namespace R3
/-- one new block, whose cells the rest of the region works out -/
theorem wp_region_lays1 {P : Program} {w : World} {id : Nat} {Q : Exit → Act → World → Prop} {a : Act} {l : List Oper} (n k d : Nat) (m : Nat → Value) (z : Array Value × TypeId) (hm : P.follows .mixedOrders = true) (hB : Region.lexTailB .any l.toArray n = true)
    (hF : freshB l.toArray n [k] = true) (hkn : k < n) (hd : dstOf l.toArray k = some d) (hN : ((List.range n).all fun i => (dstOf l.toArray i).all fun d => decide (d < a.tmps.size)) = true)
    (i0 : ∀ b c, m b = m c → b = c) (u0 : ∀ b, m b ≠ undef)
    (h : ∃ af, AllClasses w (fun S W => wpQuiet P l.toArray (fun w' => ∃ u : S, w' = W u) (fun a' => a' = af) (quietL [k] (l.take n) 0) a) ∧ (∀ o, l.toArray[k]? = some o → Lays P o af m z) ∧
      ∀ b v, w.heap.size ≤ b → Below w.heap.size w v → BT v b z → wpList P l.toArray Q (l.drop n) (af.put (some d) (m b)) v) : (Code.region id l.toArray true).wp P Q a w := by
  obtain ⟨af, h1, y, h2⟩ := h
  have hn : n < l.length := by
    simp only [Region.lexTailB, Bool.and_eq_true, decide_eq_true_eq] at hB
    exact hB.1.1.1.2
  refine wp_region_lays n [k] (fun _ => m) (fun _ => z) hm hB hF (by intro x hx; obtain rfl := List.mem_singleton.1 hx; exact hkn) hN ⟨af, h1, (by intro x hx o ho; obtain rfl := List.mem_singleton.1 hx; exact y o ho), ?_⟩
  intro τ hτ v β hb
  obtain ⟨o, b, τ', ho, hb0, rfl, hτ'⟩ := puts_one (k := k) (List.mem_singleton.2 rfl) (Nat.zero_le k) (fun i _ hi h => by have := List.mem_singleton.1 h; omega) (by rw [List.length_take]; omega) hτ
  obtain rfl := puts_none (fun i hi h => by have := List.mem_singleton.1 h; omega) hτ'
  have hod : o.dst = some d := by
    rw [← hd]
    unfold dstOf
    rw [Nat.sub_zero, List.getElem?_take, if_pos hkn] at ho
    rw [List.getElem?_toArray, ho]
    rfl
  rw [hod] at hb ⊢
  obtain ⟨e1, e2, e3⟩ := hb.box k (List.mem_singleton.2 rfl) d hd
  have hp : putL af [(some d, m b)] = af.put (some d) (m b) := rfl
  rw [hp] at e1
  have e := mk_slot i0 u0 e1
  rw [← e] at e2
  exact h2 b v hb0 hb.low e2
end R3
theorem reads_bt {v : World} {g : Nat} {T : TypeId} {cs : List Value} (h : v.heap[g]? = some (.cells cs.toArray T (0, 0))) : Reads v v.heap.size cs.length (some ⟨g, 0, none⟩) 1 cs := by
  refine ⟨by simp, fun _ => ⟨_, rfl, (Array.getElem?_eq_some_iff.1 h).1, ?_⟩⟩
  intro j u hu
  rw [show (⟨g, 0, none⟩ : Addr).add j = ⟨g, j, none⟩ by unfold Addr.add; by_cases h : j = 0 <;> simp [h]]
  unfold World.cell?
  rw [h]
  simp [hu]
theorem raw_fr4 (q : Rat) : rawR (frN q) (frD q) = (canS q.num, canS (q.den : Int)) := by
  unfold rawR
  by_cases h : q.den = 1
  · have e : frD q = ⟨#[]⟩ := if_pos h
    rw [e, if_pos (by decide), h]
    show (frN q, _) = (frN q, canS 1)
    rw [show canS 1 = ⟨#[49]⟩ by decide +kernel]
  · have e : frD q = canS q.den := if_neg h
    rw [e, valS_canS, if_neg (den_ne q), if_neg (by omega)]
    rfl
theorem ratV_nil4 : ratV ⟨#[]⟩ ⟨#[]⟩ = 0 := by
  have := ratV_fr 0
  rwa [frN_zero, frD_zero] at this
set_option maxRecDepth 100000 in
set_option maxHeartbeats 4000000 in
theorem rpartsFV {a b : ByteArray} {k : Nat} (hk : 1 ≤ k ∧ k ≤ 30000) (h1 : a.size ≤ k) (h2 : b.size ≤ k) : Ret 92 #[FV a b] (.tuple #[.string (canS (ratV a b).num), .string (canS ((ratV a b).den : Int))]) := by
  intro w hg
  have hs := (St.refl hg).alloc (.cells #[.string a, .string b] 36)
  have X := Bx.new w #[.string a, .string b] 36
  have x0 := X.cell (i := 0) (v := .string a) rfl
  have x1 := X.cell (i := 1) (v := .string b) rfl
  have K1 := canonical_r (n := a) (d := b) (by omega) (by omega)
  have fq : FitQ (max k k) (ratV a b) := FitQ.rat (k := k) (m := k) (Fit.val h1) (Fit.val h2) hk.1
  have sz := FitQ.sizes fq
  have K2 := raw_r (n := frN (ratV a b)) (d := frD (ratV a b)) (by omega) (by omega)
  rw [raw_fr4] at K2
  unfold FV
  unfold FR at K1
  generalize frN (ratV a b) = n1 at *
  generalize frD (ratV a b) = d1 at *
  generalize canS ((ratV a b).den : Int) = d2 at *
  generalize canS (ratV a b).num = n2 at *
  clear fq sz h1 h2 hk
  go_enter Tryz.func92, Tryz.ntmps92
  go_wp2_with fail
  refine K1.step hs ?_
  intro w1 hs hb
  go_wp2_with fail
  refine K2.step hs ?_
  intro w2 hs hb
  go_wp2_with fail
  go_ret2
  exact ⟨rfl, hs.2⟩
/-- the weights that the reference shares by -/
theorem fr_weights {t : ByteArray} {qs : List Rat} (hct : chk t = 0) (h0 : 0 < qs.length) (h1 : qs.length ≤ 1000) (hnn : ∀ q ∈ qs, 0 ≤ q) (hs : sumR qs = 1) :
    alE t ((frW qs (prdTo qs qs.length)).map canS) = 0 ∧ alS t ((frW qs (prdTo qs qs.length)).map canS) = splL (valS t) (frW qs (lcmTo qs qs.length)) := by
  have hd : ∀ q ∈ qs, (q.den : Int) ∣ prdTo qs qs.length := all_dvd (fun i hi => prd_dvd qs _ i hi)
  have hok := frW_ok (prd_pos qs qs.length) hd hs hnn
  have he : alE t ((frW qs (prdTo qs qs.length)).map canS) = 0 := alE_zero.2 ⟨by rw [List.length_map, frW_len]; exact h0, by rw [List.length_map, frW_len]; exact h1, hct, fun w hw => by
    obtain ⟨x, hx, rfl⟩ := List.mem_map.1 hw
    exact ⟨chk_can x, by rw [valS_canS]; exact hok.nn x hx⟩, by rw [iv_can]; exact hok⟩
  refine ⟨he, ?_⟩
  unfold alS
  rw [if_pos he, iv_can]
  exact frW_split (valS t) (prd_pos qs _) (lcm_pos qs _) hd (all_dvd (fun i hi => lcm_dvd qs _ i hi)) hs
theorem fr_floor {q : Rat} {C : Int} (h : (q.den : Int) ∣ C) : (q * (C : Rat)).floor = q.num * (C / (q.den : Int)) := by
  rw [← frW_mul h, Rat.floor_intCast]
set_option maxRecDepth 100000 in
set_option maxHeartbeats 8000000 in
theorem rfr_any {A : Option Addr} {n c : Nat} {t : ByteArray} {l : List PqS} (hn : l.length = n) (h12 : n ≤ 12 ∨ 1000 < n) (hm : n ≤ 4611686018427387904) (ht : t.size ≤ 1000) (hz : ∀ s ∈ l, s.n.size ≤ 100 ∧ s.d.size ≤ 100) (w : World) (hg : Gl w) (hr : Row w A (flatG pqcells l)) :
    Calls Tryz.prog 33 #[.string t, .slice A n c] w fun e w' => ∃ v, e = .returned (.tuple #[v, .int .i64 (frE t l)]) ∧ OutG icells 22 1 w.heap.size w' v (frL t l).length (frL t l) ∧ Below w.heap.size w w' := by
  have hs := St.refl hg
  have HR := Lib.hid hr
  have HE : Hid (frE t l = if n = 0 then 11 else if 1000 < n then 4 else if chk t ≠ 0 ∨ l.any fbad = true then 1 else frsE (qsOf l)) := by show _ = _; rw [← hn]; rfl
  have HL : Hid (∀ e, frE t l = e → e ≠ 0 → frL t l = []) := fun e h h0 => if_neg (by rw [h]; exact h0)
  have K1 := rchkR (a := t) (by omega)
  by_cases h0 : n = 0
  · have e : frE t l = 11 := by rw [HE.out, if_pos h0]
    rw [HL.out _ e (by decide), e]
    subst h0
    clear HE HL K1 h12 hn hz e hr
    go_enter Tryz.func33, Tryz.ntmps33
    go_wp2_with fail
    go_ret2
    exact ⟨_, rfl, ⟨rfl, World.ownsRow_nil _ _ _ _⟩, hs.2⟩
  have q0 : ((n : Int) == 0) = false := beq_eq_false_iff_ne.2 (by omega)
  by_cases h1 : 1000 < n
  · have e : frE t l = 4 := by rw [HE.out, if_neg h0, if_pos h1]
    rw [HL.out _ e (by decide), e]
    have q1 : decide ((1000 : Int) < (n : Int)) = true := decide_eq_true (by omega)
    have q1n : decide (1000 < n) = true := decide_eq_true h1
    clear HE HL K1 h12 hn hz e h0 h1 hr
    go_enter Tryz.func33, Tryz.ntmps33
    go_wp2_with fail
    go_ret2
    exact ⟨_, rfl, ⟨rfl, World.ownsRow_nil _ _ _ _⟩, hs.2⟩
  have q1 : decide ((1000 : Int) < (n : Int)) = false := decide_eq_false (by omega)
  have q1n : decide (1000 < n) = false := decide_eq_false h1
  by_cases h2 : chk t = 0
  rotate_left 1
  · have e : frE t l = 1 := by rw [HE.out, if_neg h0, if_neg h1, if_pos (.inl h2)]
    rw [HL.out _ e (by decide), e]
    have q3 : (chk t != 0) = true := by simpa using h2
    generalize chk t = ct at *
    clear HE HL h12 hn hz e h0 h1 hr h2
    go_enter Tryz.func33, Tryz.ntmps33
    go_wp2_with fail
    refine K1.step hs ?_
    intro w1 hs hb
    go_wp2_with fail
    go_ret2
    exact ⟨_, rfl, ⟨rfl, World.ownsRow_nil _ _ _ _⟩, hs.2⟩
  have hn12 : n ≤ 12 := by omega
  have HEV : Hid (l.any fbad = true → frE t l = 1 ∧ frL t l = []) := fun h => by
    have e : frE t l = 1 := by rw [HE.out, if_neg h0, if_neg h1, if_pos (.inr h)]
    exact ⟨e, HL.out _ e (by decide)⟩
  have HEN : Hid (l.any fbad = false → frE t l = frsE (qsOf l) ∧ frL t l = frsL (valS t) (qsOf l)) := fun h3 => by
    have e : frE t l = frsE (qsOf l) := by rw [HE.out, if_neg h0, if_neg h1, if_neg (by rw [h3]; simp [h2])]
    refine ⟨e, ?_⟩
    unfold frL
    by_cases he : frE t l = 0
    · exact if_pos he
    · rw [if_neg he]
      unfold frsL
      rw [if_neg]
      intro h
      apply he
      rw [e]
      exact if_pos h
  rw [h2] at K1
  obtain ⟨ee, hee⟩ : ∃ e, frE t l = e := ⟨_, rfl⟩
  obtain ⟨ll, hll⟩ : ∃ x, frL t l = x := ⟨_, rfl⟩
  rw [hee, hll] at HEV HEN
  rw [hee, hll]
  have HNN : Hid (l.any fbad = false → ∀ q ∈ qsOf l, 0 ≤ q) := fun h q hq => (qsOf_nn h q hq).1
  have hq := qsOf_fit (by decide) hz
  have hql : (qsOf l).length = n := by rw [qsOf_len, hn]
  have HQS : Hid (∀ (k : Nat) (s : PqS), l[k]? = some s → (qsOf l)[k]? = some (ratV s.n s.d)) := fun k s h => qsOf_at h
  clear hee hll HE HL
  generalize qsOf l = qs at *
  have HN := Lib.hid hn
  have HQ := Lib.hid hq
  have HZ := Lib.hid hz
  have HQL := Lib.hid hql
  have HSF : Hid (∀ k, k ≤ n → FitQ 1300 (sumR (qs.take k))) := fun k hk => FitQ.mono (sumR_fit hq k (by omega)) (by omega)
  have HCF : Hid (∀ k, k ≤ n → Fit 1300 (prdTo qs k)) := fun k hk => (by have := Nat.lt_of_le_of_lt (prd_le hq k) (Nat.pow_lt_pow_right (a := 10) (by decide) (show 100 * k < 1300 by omega)); exact this)
  have HTK : Hid (qs.take n = qs) := List.take_of_length_le (by omega)
  have HS0 : Hid (frN (sumR (qs.take 0)) = ⟨#[]⟩ ∧ frD (sumR (qs.take 0)) = ⟨#[]⟩) := ⟨frN_zero, frD_zero⟩
  have HL0 : Hid (canS (prdTo qs 0) = ⟨#[49]⟩) := by
    show canS 1 = _
    decide +kernel
  have HDV : Hid (∀ q ∈ qs, (q.den : Int) ∣ prdTo qs n) := all_dvd (fun i hi => prd_dvd qs n i (by omega))
  have KO := rof1
  unfold FR at KO
  obtain ⟨on, hon⟩ : ∃ x, frN (1 : Rat) = x := ⟨_, rfl⟩
  obtain ⟨od, hod⟩ : ∃ x, frD (1 : Rat) = x := ⟨_, rfl⟩
  rw [hon, hod] at KO
  have HON := Lib.hid (And.intro hon hod)
  have HCT := Lib.hid h2
  have HTS := Lib.hid ht
  have HN0 := Lib.hid (Nat.pos_of_ne_zero h0)
  clear hr hn hq hz hql h12 hm h2 hon hod h0 h1 ht
  go_enter Tryz.func33, Tryz.ntmps33
  go_wp2_with fail
  refine K1.step hs ?_
  intro w2 hs hb
  have X6 := Bx.new w2 #[.string ⟨#[]⟩, .string ⟨#[]⟩] 36
  have HL6 : Hid (w.heap.size ≤ w2.heap.size) := hs.2.size
  replace hs := hs.alloc (.cells #[.string ⟨#[]⟩, .string ⟨#[]⟩] 36)
  have HX6 := Lib.hid X6
  clear X6 K1
  go_wp2_with fail
  obtain ⟨b6, hb6⟩ : ∃ b, w2.heap.size = b := ⟨_, rfl⟩
  rw [hb6] at HX6 HL6 ⊢
  generalize w2.alloc (.cells #[.string ⟨#[]⟩, .string ⟨#[]⟩] 36) = w3 at *
  clear hb6
  try go_wp2_with fail
  go_loopw [8, 7] (fun s cm wr => ∃ k : Nat, k ≤ n ∧ s = .int .i64 (k : Int) ∧ cm = .string (canS (prdTo qs k)) ∧ St w wr ∧ Hid (Bx wr b6 #[.string (frN (sumR (qs.take k))), .string (frD (sumR (qs.take k)))]) ∧ Hid (∀ (i : Nat) (s : PqS), i < k → l[i]? = some s → fbad s = false)) (fun s _ _ => (n - intOf s).toNat)
  case atStart => exact ⟨0, by omega, rfl, by rw [HL0.out], hs, by rw [HS0.out.1, HS0.out.2]; exact HX6, fun i s hi => by omega⟩
  case round =>
    clear hs HX6
    obtain ⟨k, hk, rfl, rfl, hs, HX6, HG⟩ := hrel
    by_cases hkn : k = n
    · subst hkn
      have q : decide ((k : Int) < (k : Int)) = false := decide_eq_false (by omega)
      have hany : l.any fbad = false := by
        rw [List.any_eq_false]
        intro s hs'
        obtain ⟨i, hi⟩ := List.mem_iff_getElem?.1 hs'
        have := HG.out i s (by have := (List.getElem?_eq_some_iff.1 hi).1; have := HN.out; omega) hi
        rw [this]
        decide
      have e0 : sumR (qs.take k) = sumR qs := by rw [HTK.out]
      rw [e0] at HX6
      have hE := HEN.out hany
      have hNN := HNN.out hany
      obtain ⟨cc, hcc⟩ : ∃ v, canS (prdTo qs k) = v := ⟨_, rfl⟩
      rw [hcc]
      have HCC := Lib.hid hcc
      clear hcc e0 HEN HEV hany HNN HG
      by_cases h1 : sumR qs = 1
      · have eE : ee = 0 := by rw [hE.1]; exact if_pos h1
        have eL : ll = splL (valS t) (frW qs (lcmTo qs k)) := by rw [hE.2]; unfold frsL; rw [if_pos h1, HQL.out]
        have hw := fr_weights (t := t) HCT.out (by rw [HQL.out]; exact HN0.out) (by rw [HQL.out]; omega) hNN h1
        rw [HQL.out] at hw
        have HWW := Lib.hid hw
        clear hE hNN hw
        subst eE eL
        rw [h1, HON.out.1, HON.out.2] at HX6
        have k60 := HX6.out.keeps (i := 0) (v := .string on) rfl
        have k61 := HX6.out.keeps (i := 1) (v := .string od) rfl
        have eqD := fun x => neqF on od on od x
        simp only [beq_self_eq_true, Bool.and_true, Bool.not_true] at eqD
        have HWF : Hid (∀ x ∈ frW qs (prdTo qs k), Fit 1400 x) := fun x hx => Fit.mono (frW_fit HQ.out (HCF.out k (Nat.le_refl _)) x hx) (by omega)
        have HWL : Hid ((frW qs (prdTo qs k)).length = k) := by show _ = _; rw [frW_len, HQL.out]
        clear h1
        go_wp2_with fail
        refine wp_region_kept (by kernel_rfl) (by kernel_rfl) ?_
        repeat (go_big_quiet_step (with_reducible exact KO.kept hs))
        refine wpQuiet_nil ?_
        rintro _ ⟨u, rfl⟩
        replace hs := hs.kept u
        clear k60 k61 KO eqD HX6
        generalize u.W = w4 at *
        go_wp2_with fail
        go_loopw [12, 11] (fun s v wr2 => ∃ j : Nat, j ≤ k ∧ s = .int .i64 (j : Int) ∧ St w wr2 ∧ Hid (World.ownsRow wr2 w.heap.size 22 1 v j (flatG icells ((frW qs (prdTo qs k)).take j)))) (fun s _ _ => (k - intOf s).toNat)
        case atStart => exact ⟨0, by omega, rfl, hs, World.ownsRow_nil _ _ _ _⟩
        case round =>
          clear hs
          obtain ⟨j, hj, rfl, hs, HO⟩ := hrel
          by_cases hjn : j = k
          · subst hjn
            have q : decide ((j : Int) < (j : Int)) = false := decide_eq_false (by omega)
            have e : (frW qs (prdTo qs j)).take j = frW qs (prdTo qs j) := List.take_of_length_le (by rw [HWL.out]; exact Nat.le_refl _)
            rw [e] at HO
            obtain ⟨A1, c1, hv, hrow⟩ := OutG.row (cs := icells) (T := 22) (m := 1) (base := w.heap.size) ⟨HWL.out, HO.out⟩
            subst hv
            rw [flat_sv] at hrow
            have KD := Lib.hid (rsplit_any (A := A1) (c := c1) (n := j) (k0 := 2000) (t := t) (ws := (frW qs (prdTo qs j)).map canS) (by rw [List.length_map, HWL.out]) (.inl hn12) (by omega) (by decide) (by have := HTS.out; omega) (fun s hs => by
              obtain ⟨x, hx, rfl⟩ := List.mem_map.1 hs
              have := (HWF.out x hx).size
              omega) _ hs.gl hrow)
            rw [HWW.out.1, HWW.out.2] at KD
            clear e hrow HO
            go_wp2_with fail
            refine KD.out.mono ?_
            rintro e w5 ⟨v, rfl, hov, hb⟩
            have HPO := Lib.hid (show OutG icells 22 1 w.heap.size w5 v (splL (valS t) (frW qs (lcmTo qs j))).length (splL (valS t) (frW qs (lcmTo qs j))) from ⟨hov.1, own_low hov.2 hs.2.size⟩)
            replace hs := hs.on hb
            clear hov
            go_wp2_with fail
            go_ret2
            exact ⟨_, rfl, HPO.out, hs.2⟩
          · have hjl : j < k := by omega
            have q : decide ((j : Int) < (k : Int)) = true := decide_eq_true (by omega)
            have qn : decide (j < k) = true := decide_eq_true hjl
            have jl2 : (j : Int) < (k : Int) := by omega
            obtain ⟨s, hsk⟩ : ∃ s, l[j]? = some s := ⟨l[j]'(by rw [HN.out]; exact hjl), by simp⟩
            have hqk := HQS.out j s hsk
            obtain ⟨bg, og, hA, lg, hcells⟩ := row_at (cs := pqcells) (m := 2) pqcells_len (by decide) (HR.out.on hs.2) hsk
            subst hA
            have zs := HZ.out s (List.mem_of_getElem? hsk)
            have fC := HCF.out k (Nat.le_refl _)
            have fx := HWF.out _ (List.mem_of_getElem? (frW_at hqk))
            have szC := FitQ.sizes (FitQ.int (k := 1300) fC (by decide))
            have KA1 := rofI fC (by decide)
            have KM := rmul_r (a := s.n) (b := s.d) (c := frN ((prdTo qs k : Int) : Rat)) (d := frD ((prdTo qs k : Int) : Rat)) (by omega) (by omega) (by omega) (by omega)
            have hdv := HDV.out _ (List.mem_of_getElem? hqk)
            rw [ratV_fr] at KM
            have KF := rfloorFR (p := ratV s.n s.d * ((prdTo qs k : Int) : Rat)) (K := 1400) (by rw [← frW_mul hdv]; exact FitQ.int fx (by decide)) (by decide)
            rw [fr_floor hdv] at KF
            have HSU : Hid ((frW qs (prdTo qs k)).take (j + 1) = (frW qs (prdTo qs k)).take j ++ [(ratV s.n s.d).num * (prdTo qs k / ((ratV s.n s.d).den : Int))]) := by
              show _ = _
              rw [List.take_add_one, frW_at hqk]
              rfl
            rw [HCC.out] at KA1
            obtain ⟨xw, hxw⟩ : ∃ x, canS ((ratV s.n s.d).num * (prdTo qs k / ((ratV s.n s.d).den : Int))) = x := ⟨_, rfl⟩
            rw [hxw] at KF
            have HXW : Hid (icells ((ratV s.n s.d).num * (prdTo qs k / ((ratV s.n s.d).den : Int))) = [.string xw]) := by show _ = _; unfold icells; rw [hxw]
            have y0 := hcells 0 _ rfl
            have y1 := hcells 1 _ rfl
            rw [Nat.add_zero] at y0
            rw [← Nat.add_assoc] at y1
            unfold FV at KM
            unfold FR at KA1 KM KF
            generalize (frW qs (prdTo qs k)).take j = CL at *
            generalize frN (ratV s.n s.d * ((prdTo qs k : Int) : Rat)) = m1 at *
            generalize frD (ratV s.n s.d * ((prdTo qs k : Int) : Rat)) = m2 at *
            generalize frN ((prdTo qs k : Int) : Rat) = a1 at *
            generalize frD ((prdTo qs k : Int) : Rat) = a2 at *
            obtain ⟨sn, sd⟩ := s
            dsimp only at KM y0 y1
            have HY0 := Lib.hid y0
            have HY1 := Lib.hid y1
            clear hcells hsk hqk lg zs fC fx szC hdv hxw hjn y0 y1
            go_wp2_with fail
            refine R3.wp_region_lays1 10 9 79 (R3.sliTo 1 1) (#[.string xw], 22) (by kernel_rfl) (by kernel_rfl) (by kernel_rfl) (by omega) rfl (by kernel_rfl) (R3.sli_inj _ _) (R3.sli_undef _ _) ?_
            apply Exists.intro
            refine ⟨fun S W hne hk hcl => ?_, ?_, ?_⟩
            · simp only [List.take_succ_cons, List.take_zero, quietL, List.mem_cons, List.not_mem_nil, or_false, Nat.reduceAdd, Nat.reduceEqDiff, reduceIte, Nat.zero_add]
              have kk0 := fun u => ((hk u).cell (block_lt_of_cell HY0.out)).trans HY0.out
              have kk1 := fun u => ((hk u).cell (block_lt_of_cell HY1.out)).trans HY1.out
              repeat (go_big_quiet_step (first | (with_reducible exact KA1.fresh hs hk hcl) | (with_reducible exact KM.fresh hs hk hcl) | (with_reducible exact KF.fresh hs hk hcl)))
              exact wpQuiet_nil rfl
            · intro oo hoo u
              obtain rfl := Option.some.inj hoo
              simp [execOp, go_sem, R3.sliTo]
            intro g w7 hg0 hv BG
            simp only [List.drop_succ_cons, List.drop_zero, R3.sliTo]
            replace hs := hs.on hv
            have HO4 := Lib.hid (own_below HO.out hv)
            have HRD := Lib.hid (reads_bt (cs := [.string xw]) BG)
            clear KA1 KM KF HO BG hv hg0
            obtain ⟨i0, hi, hz0, hz1, hz2⟩ := info_parts infoI4
            have Hi := Lib.hid hi
            have Hz0 := Lib.hid hz0
            have Hz1 := Lib.hid hz1
            have Hz2 := Lib.hid hz2
            have hsz : w.heap.size ≤ w7.heap.size := hs.2.size
            clear hi hz0 hz1 hz2
            go_wp2_with (at_builtin; refine wpList_append_any _ rfl (.tmp 70) (.tmp 79) 25 rfl w.heap.size 22 i0 (.string ⟨#[]⟩) 1 16 (by kernel_rfl) Hi.out Hz0.out Hz1.out Hz2.out rfl (by omega) _ j (flatG icells CL) rfl HO4.out w7.heap.size (some ⟨g, 0, none⟩) 1 1 [.string xw] rfl HRD.out (by intro u hu; simp at hu; subst hu; rfl) (by unfold maxLen; omega) (by omega) hsz ?_; intro v8 w8 hown8 hg8 _; have HO8 := Lib.hid hown8; have HG8 := Lib.hid hg8; clear hown8 hg8)
            go_roundw
            case rel =>
              refine ⟨j + 1, by omega, by go_num, ⟨hs.1, hs.2.grown HG8.out hsz (own_gen HO4.out)⟩, ?_⟩
              show World.ownsRow _ _ _ _ _ _ _
              rw [HSU.out, flatG_snoc, HXW.out]
              exact HO8.out
            case measure => simp [intOf]; omega
      · have eE : ee = 9 := by rw [hE.1]; exact if_neg h1
        have eL : ll = [] := by rw [hE.2]; exact if_neg h1
        clear hE hNN
        subst eE eL
        have hne := fr_ne h1
        rw [HON.out.1, HON.out.2] at hne
        generalize frN (sumR qs) = sn at *
        generalize frD (sumR qs) = sd at *
        have k60 := HX6.out.keeps (i := 0) (v := .string sn) rfl
        have k61 := HX6.out.keeps (i := 1) (v := .string sd) rfl
        have eqD := fun x => neqF sn sd on od x
        rw [hne] at eqD
        simp only [Bool.not_false] at eqD
        clear h1 hne
        go_wp2_with fail
        refine wp_region_kept (by kernel_rfl) (by kernel_rfl) ?_
        repeat (go_big_quiet_step (with_reducible exact KO.kept hs))
        refine wpQuiet_nil ?_
        rintro _ ⟨u, rfl⟩
        replace hs := hs.kept u
        clear k60 k61 KO eqD HX6
        go_wp2_with fail
        go_ret2
        exact ⟨_, rfl, ⟨rfl, World.ownsRow_nil _ _ _ _⟩, hs.2⟩
    · have hkl : k < n := by omega
      have q : decide ((k : Int) < (n : Int)) = true := decide_eq_true (by omega)
      have qn : decide (k < n) = true := decide_eq_true hkl
      have kl2 : (k : Int) < (n : Int) := by omega
      obtain ⟨s, hsk⟩ : ∃ s, l[k]? = some s := ⟨l[k]'(by rw [HN.out]; exact hkl), by simp⟩
      have hqk := HQS.out k s hsk
      obtain ⟨bg, og, hA, lg, hcells⟩ := row_at (cs := pqcells) (m := 2) pqcells_len (by decide) HR.out hsk
      subst hA
      have zs := HZ.out s (List.mem_of_getElem? hsk)
      have hbad : fbad s = true → l.any fbad = true := fun h => List.any_eq_true.2 ⟨s, List.mem_of_getElem? hsk, h⟩
      have KC := rchk_r (a := s.n) (b := s.d) (by omega) (by omega)
      have KMc := rcmpF (a := s.n) (b := s.d) (c := ⟨#[]⟩) (d := ⟨#[]⟩) (by omega) (by omega) (by decide) (by decide)
      rw [ratV_nil4] at KMc
      have qlt : chkF s.n s.d = 0 → decide (cmpQ (ratV s.n s.d) 0 < 0) = decide (valS s.n < 0) := fbad_lt
      have hfb : fbad s = ((chkF s.n s.d != 0) || decide (valS s.n < 0)) := rfl
      have u0 := hcells 0 _ rfl
      have u1 := hcells 1 _ rfl
      rw [Nat.add_zero] at u0
      have HY : Hid (∀ u : World, Below w.heap.size w u → u.cell? ⟨bg, og + k * 2, none⟩ = some (.string s.n) ∧ u.cell? ⟨bg, og + k * 2 + 1, none⟩ = some (.string s.d)) := fun u hb => ⟨(hb.cell (block_lt_of_cell u0)).trans u0, (hb.cell (block_lt_of_cell u1)).trans u1⟩
      have HBG : Hid (bg < w.heap.size) := lg
      clear hcells u0 u1 lg hkn
      by_cases hc : chkF s.n s.d = 0
      · have hq0 := qlt hc
        rw [hc] at KC hfb
        rw [show ((0 : Int) != 0) = false by decide, Bool.false_or] at hfb
        by_cases hv : valS s.n < 0
        · rw [decide_eq_true hv] at hq0 hfb
          obtain ⟨eE, eL⟩ := HEV.out (hbad hfb)
          subst eE eL
          unfold FV at KC KMc
          generalize cmpQ (ratV s.n s.d) 0 = cv at *
          obtain ⟨sn, sd⟩ := s
          dsimp only at KC KMc HY
          obtain ⟨y0, y1⟩ := HY.out wr hs.2
          clear hbad qlt hfb hc hv hsk hqk zs HEN HX6 HG
          go_wp2_with fail
          refine KC.step hs ?_
          intro w4 hs hb4
          clear y0 y1
          obtain ⟨y0, y1⟩ := HY.out w4 hs.2
          go_wp2_with fail
          refine KMc.step hs ?_
          intro w5 hs hb5
          go_wp2_with fail
          go_ret2
          exact ⟨_, rfl, ⟨rfl, World.ownsRow_nil _ _ _ _⟩, hs.2⟩
        · rw [decide_eq_false hv] at hq0 hfb
          have fs := HSF.out k hk
          have szS := FitQ.sizes fs
          have fC := HCF.out k hk
          have KAd := radd_r (a := frN (sumR (qs.take k))) (b := frD (sumR (qs.take k))) (c := s.n) (d := s.d) (by omega) (by omega) (by omega) (by omega)
          rw [ratV_fr, ← sumR_succ hqk] at KAd
          have KPa := rpartsFV (a := s.n) (b := s.d) (k := 100) (by decide) zs.1 zs.2
          have fdn : Fit 100 ((ratV s.n s.d).den : Int) := (HQ.out _ (List.mem_of_getElem? hqk)).2
          have KPr := rMulR (a := canS (prdTo qs k)) (b := canS ((ratV s.n s.d).den : Int)) (by have := fC.size; omega) (by have := fdn.size; omega)
          rw [valS_canS, valS_canS, show prdTo qs k * ((ratV s.n s.d).den : Int) = prdTo qs (k + 1) by rw [← dn_at hqk]; rfl] at KPr
          have HG2 : Hid (∀ (i : Nat) (s : PqS), i < k + 1 → l[i]? = some s → fbad s = false) := fun i s' hi h => by
            by_cases e : i = k
            · subst e
              rw [hsk] at h
              injection h with h
              subst h
              exact hfb
            · exact HG.out i s' (by omega) h
          unfold FV at KC KMc KAd KPa
          unfold FR at KAd
          generalize cmpQ (ratV s.n s.d) 0 = cv at *
          generalize canS ((ratV s.n s.d).den : Int) = dd at *
          generalize canS (ratV s.n s.d).num = nn at *
          obtain ⟨lk, hlk⟩ : ∃ v, canS (prdTo qs k) = v := ⟨_, rfl⟩
          obtain ⟨lk', hlk'⟩ : ∃ v, canS (prdTo qs (k + 1)) = v := ⟨_, rfl⟩
          obtain ⟨s1, hs1'⟩ : ∃ v, frN (sumR (qs.take k)) = v := ⟨_, rfl⟩
          obtain ⟨s2, hs2'⟩ : ∃ v, frD (sumR (qs.take k)) = v := ⟨_, rfl⟩
          obtain ⟨s3, hs3'⟩ : ∃ v, frN (sumR (qs.take (k + 1))) = v := ⟨_, rfl⟩
          obtain ⟨s4, hs4'⟩ : ∃ v, frD (sumR (qs.take (k + 1))) = v := ⟨_, rfl⟩
          rw [hlk, hlk'] at KPr
          rw [hlk]
          rw [hs1', hs2', hs3', hs4'] at KAd
          rw [hs1', hs2'] at HX6
          have HLK := Lib.hid hlk'
          have HS34 := Lib.hid (And.intro hs3' hs4')
          obtain ⟨sn, sd⟩ := s
          dsimp only at KC KMc KAd KPa HY
          obtain ⟨y0, y1⟩ := HY.out wr hs.2
          clear hbad qlt hfb hc hv hsk hqk zs HEN HG HEV fs szS fC fdn hlk hlk' hs1' hs2' hs3' hs4'
          go_wp2_with fail
          refine KC.step hs ?_
          intro w4 hs hb4
          replace HX6 := Lib.hid (HX6.out.on hb4)
          clear y0 y1
          obtain ⟨y0, y1⟩ := HY.out w4 hs.2
          go_wp2_with fail
          refine KMc.step hs ?_
          intro w5 hs hb5
          replace HX6 := Lib.hid (HX6.out.on hb5)
          clear y0 y1
          obtain ⟨y0, y1⟩ := HY.out w5 hs.2
          have z0 := Kept.cell_of y0
          have z1 := Kept.cell_of y1
          have z2 := HX6.out.keeps (i := 0) (v := .string s1) rfl
          have z3 := HX6.out.keeps (i := 1) (v := .string s2) rfl
          clear y0 y1
          go_wp2_with fail
          refine wp_region_kept_tail 6 (by kernel_rfl) (by kernel_rfl) ?_
          simp only [List.take_succ_cons, List.take_zero, List.drop_succ_cons, List.drop_zero]
          repeat (go_big_quiet_step (with_reducible exact KAd.kept hs))
          refine wpQuiet_nil ?_
          rintro _ ⟨u, rfl⟩
          replace hs := hs.kept u
          have X6 := HX6.out.kept u
          clear z0 z1 z2 z3 KAd HX6
          generalize u.W = w6 at *
          have c0 := X6.cell (i := 0) (v := .string s1) rfl
          have c1' := X6.cell (i := 1) (v := .string s2) rfl
          have f0 := X6.frozen 0
          have f1 := X6.frozen 1
          have X62 := (X6.set 0 (.string s3)).set 1 (.string s4)
          replace hs := (hs.set (b := b6) HL6.out 0 (.string s3)).set (b := b6) HL6.out 1 (.string s4)
          obtain ⟨y0, y1⟩ := HY.out _ hs.2
          go_wp2_with fail
          clear c0 c1' f0 f1 y0 y1 X6
          generalize (w6.setCell ⟨b6, 0, none⟩ (.string s3)).setCell ⟨b6, 1, none⟩ (.string s4) = w7 at *
          obtain ⟨y0, y1⟩ := HY.out w7 hs.2
          try go_wp2_with fail
          refine KPa.step hs ?_
          intro w8 hs hb8
          replace X62 := X62.on hb8
          clear y0 y1
          go_wp2_with fail
          refine KPr.step hs ?_
          intro w9 hs hb9
          replace X62 := Lib.hid (X62.on hb9)
          go_wp2_with fail
          go_roundw
          case rel => exact ⟨k + 1, by omega, by go_num, by rw [HLK.out], hs, by rw [HS34.out.1, HS34.out.2]; exact X62, HG2⟩
          case measure => simp [intOf]; omega
      · have hq0 : (chkF s.n s.d != 0) = true := by simpa using hc
        rw [hq0] at hfb
        obtain ⟨eE, eL⟩ := HEV.out (hbad (by rw [hfb]; rfl))
        subst eE eL
        unfold FV at KC
        generalize chkF s.n s.d = cf at *
        obtain ⟨sn, sd⟩ := s
        dsimp only at KC HY
        obtain ⟨y0, y1⟩ := HY.out wr hs.2
        clear hbad qlt hfb hc hsk hqk zs HEN HX6 HG KMc
        go_wp2_with fail
        refine KC.step hs ?_
        intro w4 hs hb4
        clear y0 y1
        go_wp2_with fail
        go_ret2
        exact ⟨_, rfl, ⟨rfl, World.ownsRow_nil _ _ _ _⟩, hs.2⟩
end Go.Proofs.YtpipkeplhkccoaaGreatDoor
