/- Regions that leave their order open and lay new blocks: reads, calls that turn nothing old, new blocks at whatever time, then stores in one forced order. Plain facts; no condition. -/
import Derived.Test.YtahpbnmbphobgaaGreatDoorFa
namespace Go.Proofs.YtahpbnmbphobgaaGreatDoor
open Go.RowKit

/-- one value, in the world that it got; a call turns nothing of the world that it got -/
def calmUpon (P : Program) (v : World) (x : Value) : Result Next → Prop
  | .ok (.value u) v' => v' = v ∧ u = x
  | .ok .skip v' => v' = v ∧ x = undef
  | .ok (.enter f args) v' => v' = v ∧ Calls P f args v (fun e v'' => e = .returned x ∧ Below v.heap.size v v'')
  | _ => False
def Calm (P : Program) (w : World) (o : Oper) (a : Act) (x : Value) : Prop := ∀ u : Kept w, calmUpon P u.W x ((execOp a.eval o).run P u.W)
def ptrTo (b : Nat) : Value := .pointer (some ⟨b, 0, none⟩)
def dstOf (ops : Array Oper) (i : Nat) : Option Tmp := (ops[i]?).bind (·.dst)
def looksOf (ops : Array Oper) (i : Nat) : List Tmp := match ops[i]? with | some o => o.looksAt ops | none => []
/-- the slots of the head are all different, and none of its operations looks at the new blocks' slots -/
def freshB (ops : Array Oper) (n : Nat) (ks : List Nat) : Bool :=
  ((List.range n).all fun i => (dstOf ops i).isSome && (List.range n).all fun j => i == j || dstOf ops i != dstOf ops j) &&
  ((List.range n).all fun i => ks.contains i || ks.all fun k => match dstOf ops k with | some d => !(looksOf ops i).contains d | none => true)
section
variable {P : Program} {ops : Array Oper} {w : World} {ks : List Nat} {val : Nat → Value} {md : Region.Mode}
def outV (ops : Array Oper) (o : Oper) (a : Act) (x : Value) : Value := if Region.wanted o (yielded ops a.tmps) then x else undef
def fixOp (P : Program) (ops : Array Oper) (w : World) (ks : List Nat) (val : Nat → Value) (i : Nat) (K : Act → Prop) (a : Act) : Prop :=
  match ops[i]? with
  | none => K a
  | some o => if i ∈ ks then ∀ b, w.heap.size ≤ b → K (a.put o.dst (ptrTo b)) else (Region.wanted o (yielded ops a.tmps) = true → Calm P w o a (val i)) ∧ K (a.put o.dst (outV ops o a (val i)))
theorem fixOp_mono {i : Nat} {a : Act} {K K' : Act → Prop} (h : ∀ a, K a → K' a) (hh : fixOp P ops w ks val i K a) : fixOp P ops w ks val i K' a := by
  unfold fixOp at *
  cases ho : ops[i]? with
  | none => rw [ho] at hh; exact h _ hh
  | some o =>
    rw [ho] at hh
    simp only at hh ⊢
    split
    · rename_i hk; rw [if_pos hk] at hh; exact fun b hb => h _ (hh b hb)
    · rename_i hk; rw [if_neg hk] at hh; exact ⟨hh.1, h _ hh.2⟩
theorem calm_put {o : Oper} {a : Act} {x v : Value} {dst : Option Tmp} (hs : ∀ cs b, o.op ≠ .select cs b) (h : ∀ d, dst = some d → d ∉ o.looksAt ops) : Calm P w o (a.put dst v) x ↔ Calm P w o a x := by
  unfold Calm
  rw [execOp_put o hs a dst v h]
theorem outV_put {o : Oper} {a : Act} {x v : Value} {dst : Option Tmp} (h : ∀ d, dst = some d → d ∉ o.looksAt ops) : outV ops o (a.put dst v) x = outV ops o a x := by
  unfold outV
  rw [wanted_put o a dst v h]
theorem fix_put {i j : Nat} {oi oj : Oper} (hj : ops[j]? = some oj) (hap : oi.apart ops oj = true) (hsi : ∀ cs b, oi.op ≠ .select cs b) (hsj : ∀ cs b, oj.op ≠ .select cs b) {K : Act → Prop} {a : Act}
    (hy : Region.wanted oi (yielded ops a.tmps) = true → Calm P w oi a (val i)) (h : fixOp P ops w ks val j K (a.put oi.dst (outV ops oi a (val i)))) :
    fixOp P ops w ks val j (fun a' => (Region.wanted oi (yielded ops a'.tmps) = true → Calm P w oi a' (val i)) ∧ K (a'.put oi.dst (outV ops oi a' (val i)))) a := by
  obtain ⟨h1, h2, h3⟩ := Oper.apart_spec hap
  unfold fixOp at *
  rw [hj] at h ⊢
  simp only at h ⊢
  split
  · rename_i hk
    rw [if_pos hk] at h
    intro b hb
    refine ⟨?_, ?_⟩
    · rw [wanted_put oi a oj.dst _ h3, calm_put hsi h3]; exact hy
    · rw [outV_put h3, ← Act.put_comm a _ _ h2]; exact h b hb
  · rename_i hk
    rw [if_neg hk] at h
    rw [wanted_put oj a oi.dst _ h1, calm_put hsj h1, outV_put h1] at h
    refine ⟨h.1, ?_, ?_⟩
    · rw [wanted_put oi a oj.dst _ h3, calm_put hsi h3]; exact hy
    · rw [outV_put h3, ← Act.put_comm a _ _ h2]; exact h.2
theorem fix_new {j : Nat} {oi oj : Oper} (hj : ops[j]? = some oj) (hap : oi.apart ops oj = true) (hsj : ∀ cs b, oj.op ≠ .select cs b) {K : Act → Prop} {a : Act}
    (h : ∀ b, w.heap.size ≤ b → fixOp P ops w ks val j K (a.put oi.dst (ptrTo b))) : fixOp P ops w ks val j (fun a' => ∀ b, w.heap.size ≤ b → K (a'.put oi.dst (ptrTo b))) a := by
  obtain ⟨h1, h2, h3⟩ := Oper.apart_spec hap
  unfold fixOp at *
  rw [hj]
  simp only [hj] at h ⊢
  split
  · rename_i hk
    intro b hb b' hb'
    have := h b' hb'
    rw [if_pos hk] at this
    rw [← Act.put_comm a _ _ h2]
    exact this b hb
  · rename_i hk
    have h0 := h _ (Nat.le_refl _)
    rw [if_neg hk, wanted_put oj a oi.dst _ h1, calm_put hsj h1] at h0
    refine ⟨h0.1, fun b hb => ?_⟩
    have := (by simpa only [if_neg hk] using h b hb : _ ∧ _).2
    rw [outV_put h1] at this
    rw [← Act.put_comm a _ _ h2]
    exact this
def FreshAny (P : Program) (md : Region.Mode) (ops : Array Oper) (w : World) (ks : List Nat) (val : Nat → Value) (n : Nat) (L : Array Bool → Act → Prop) : Nat → Array Bool → Act → Prop
  | 0, s, a => L s a
  | f + 1, s, a => Region.ready md ops s ≠ [] ∧ ∀ i ∈ Region.ready md ops s, i < n ∧ fixOp P ops w ks val i (FreshAny P md ops w ks val n L f (s.setIfInBounds i true)) a
theorem FreshAny.first {n i : Nat} {oi : Oper} {L : Array Bool → Act → Prop} (hi : ops[i]? = some oi) (hns : Region.noSelect ops = true)
    (hs : Region.sinkB md ops n = true) (hc : Region.chainB md ops n = true) (hn : n < ops.size) (hin : i < n)
    (hend : ∀ s a, L s a → ∀ j ∈ Region.ready md ops s, n ≤ j) :
    ∀ (f : Nat) (s : Array Bool) (a : Act), HeadInv md ops n s →
      (∀ j oj, ops[j]? = some oj → j ≠ i → s.getD j true = false → (∀ e ∈ oj.after, Region.binds md e = true → e.on ≠ i) → oi.apart ops oj = true) →
      i ∈ Region.ready md ops s → fixOp P ops w ks val i (FreshAny P md ops w ks val n L f (s.setIfInBounds i true)) a → FreshAny P md ops w ks val n L (f + 1) s a := by
  intro f
  induction f with
  | zero =>
    intro s a inv _ hr H
    refine ⟨List.ne_nil_of_mem hr, fun j hj => ?_⟩
    have hlow : j < n := Nat.lt_of_not_le fun h => tail_waits hs hc hn inv _ i rfl hin (mem_ready.1 hr).1 j h hj
    refine ⟨hlow, ?_⟩
    by_cases e : j = i
    · subst e; exact H
    · exfalso
      have hL : ∃ a', L (s.setIfInBounds i true) a' := by
        unfold fixOp at H
        simp only [hi] at H
        split at H
        · exact ⟨_, H _ (Nat.le_refl _)⟩
        · exact ⟨_, H.2⟩
      obtain ⟨a', hL⟩ := hL
      exact absurd (hend _ _ hL j (ready_mono hj e)) (Nat.not_le_of_lt hlow)
  | succ f ih =>
    intro s a inv hfree hr H
    have hun := (mem_ready.1 hr).1
    refine ⟨List.ne_nil_of_mem hr, fun j hj => ?_⟩
    have hlow : j < n := Nat.lt_of_not_le fun h => tail_waits hs hc hn inv _ i rfl hin hun j h hj
    refine ⟨hlow, ?_⟩
    by_cases e : j = i
    · subst e; exact H
    · obtain ⟨hju, oj, hoj, hall⟩ := mem_ready.1 hj
      have hno : ∀ x ∈ oj.after, Region.binds md x = true → x.on ≠ i := by
        intro x hx hb hxi
        have := hall x hx hb
        rw [hxi, getD_both hun] at this
        cases this
      have hap := hfree j oj hoj e hju hno
      have hfree' : ∀ k ok, ops[k]? = some ok → k ≠ i → (s.setIfInBounds j true).getD k true = false → (∀ e ∈ ok.after, Region.binds md e = true → e.on ≠ i) → oi.apart ops ok = true := by
        intro k ok hk hki hku hkn
        refine hfree k ok hk hki ?_ hkn
        by_cases hjk : j = k
        · subst hjk; exact hju
        · rwa [getD_set_ne true hjk] at hku
      have nsi := fun cs b => Region.noSelect_spec hns i oi cs b hi
      have nsj := fun cs b => Region.noSelect_spec hns j oj cs b hoj
      by_cases hk : i ∈ ks
      · have H' : ∀ b, w.heap.size ≤ b → FreshAny P md ops w ks val n L (f + 1) (s.setIfInBounds i true) (a.put oi.dst (ptrTo b)) := by
          unfold fixOp at H
          simpa only [hi, if_pos hk] using H
        have step := fix_new (K := FreshAny P md ops w ks val n L f ((s.setIfInBounds i true).setIfInBounds j true)) hoj hap nsj (fun b hb => ((H' b hb).2 j (ready_mono hj e)).2)
        refine fixOp_mono (fun a' h3 => ih _ a' (inv.set hj hlow) hfree' (ready_mono hr (Ne.symm e)) ?_) step
        rw [Array.setIfInBounds_comm _ _ e]
        unfold fixOp
        simpa only [hi, if_pos hk] using h3
      · have H' : (Region.wanted oi (yielded ops a.tmps) = true → Calm P w oi a (val i)) ∧ FreshAny P md ops w ks val n L (f + 1) (s.setIfInBounds i true) (a.put oi.dst (outV ops oi a (val i))) := by
          unfold fixOp at H
          simpa only [hi, if_neg hk] using H
        have step := fix_put (i := i) hoj hap nsi nsj H'.1 (H'.2.2 j (ready_mono hj e)).2
        refine fixOp_mono (fun a' h3 => ih _ a' (inv.set hj hlow) hfree' (ready_mono hr (Ne.symm e)) ?_) step
        rw [Array.setIfInBounds_comm _ _ e]
        unfold fixOp
        simpa only [hi, if_neg hk] using h3
/-- the head in the text's order -/
def wpFix (P : Program) (ops : Array Oper) (w : World) (ks : List Nat) (val : Nat → Value) (R : Act → Prop) : List Oper → Nat → Act → Prop
  | [], _, a => R a
  | o :: rest, k, a => if k ∈ ks then ∀ b, w.heap.size ≤ b → wpFix P ops w ks val R rest (k + 1) (a.put o.dst (ptrTo b)) else (Region.wanted o (yielded ops a.tmps) = true → Calm P w o a (val k)) ∧ wpFix P ops w ks val R rest (k + 1) (a.put o.dst (outV ops o a (val k)))
theorem FreshAny.lex {n g : Nat} {R : Act → Prop} (hns : Region.noSelect ops = true) (hs : Region.sinkB md ops n = true) (hc : Region.chainB md ops n = true) (hn : n < ops.size) :
    ∀ (l : List Oper) (k : Nat) (s : Array Bool) (a : Act), (∀ j, j < l.length → l[j]? = ops[k + j]?) → k + l.length = n → HeadInv md ops n s → (∀ i, i < k → s.getD i false = true) →
    Region.lexHead md ops g l.length k s = true → wpFix P ops w ks val R l k a →
    FreshAny P md ops w ks val n (fun s' a' => Region.seqB md ops g n s' = true ∧ (∀ i, i < n → s'.getD i false = true) ∧ R a') l.length s a := by
  intro l
  induction l with
  | nil =>
    intro k s a _ hk _ hset hB h
    obtain rfl : k = n := hk
    exact ⟨hB, hset, h⟩
  | cons o l ih =>
    intro k s a hl hk inv hset hB h
    have h0 : ops[k]? = some o := (hl 0 (Nat.succ_pos _)).symm
    rw [List.length_cons] at hk hB
    rw [Region.lexHead, Bool.and_eq_true, Bool.and_eq_true] at hB
    have hr : k ∈ Region.ready md ops s := List.contains_iff_mem.1 hB.1.1
    have hk2 : k < s.size := by rw [inv.size]; omega
    have hset' : ∀ i, i < k + 1 → (s.setIfInBounds k true).getD i false = true := by
      intro i hi
      by_cases e : i = k
      · subst e; simp [hk2]
      · rw [getD_set_ne false (Ne.symm e)]; exact hset i (by omega)
    have nxt : ∀ a', wpFix P ops w ks val R l (k + 1) a' → FreshAny P md ops w ks val n (fun s' a' => Region.seqB md ops g n s' = true ∧ (∀ i, i < n → s'.getD i false = true) ∧ R a') l.length (s.setIfInBounds k true) a' := by
      intro a' h'
      refine ih (k + 1) _ _ (fun j hj => ?_) (by omega) (inv.set hr (by omega)) hset' hB.2 h'
      have := hl (j + 1) (by rw [List.length_cons]; omega)
      rw [List.getElem?_cons_succ] at this
      rw [this]
      congr 1
      omega
    refine FreshAny.first h0 hns hs hc hn (by omega) (fun s' a' h' => seqB_ready h'.1) l.length s a inv (Region.free_spec h0 hB.1.2) hr ?_
    unfold fixOp
    rw [wpFix] at h
    simp only [h0]
    split
    · rename_i hk'; rw [if_pos hk'] at h; exact fun b hb => nxt _ (h b hb)
    · rename_i hk'; rw [if_neg hk'] at h; exact ⟨h.1, nxt _ h.2⟩
/-- how an operation lays a new block -/
def AllocAt (P : Program) (ops : Array Oper) (i : Nat) (zs : Array Value) : Prop :=
  ∃ o d T, ops[i]? = some o ∧ o.dst = some d ∧ o.guard = none ∧ ∀ (e : Operand → Value) (u : World), (execOp e o).run P u = .ok (.value (ptrTo u.heap.size)) (u.alloc (.cells zs T))
/-- the new blocks so far -/
structure Blocks (ops : Array Oper) (w : World) (ks : List Nat) (zs : Nat → Array Value) (s : Array Bool) (a : Act) (v : World) (β : Nat → Nat) : Prop where
  low : Below w.heap.size w v
  box : ∀ i ∈ ks, s.getD i false = true → ∀ d, dstOf ops i = some d → a.tmps.getD d undef = ptrTo (β i) ∧ Bx v (β i) (zs i) ∧ w.heap.size ≤ β i
  two : ∀ i ∈ ks, ∀ j ∈ ks, s.getD i false = true → s.getD j false = true → i ≠ j → β i ≠ β j
theorem put_size (a : Act) (dst : Option Tmp) (v : Value) : (a.put dst v).tmps.size = a.tmps.size := by
  cases dst <;> simp [Act.put]
theorem put_get {a : Act} {d : Tmp} {v : Value} (h : d < a.tmps.size) : (a.put (some d) v).tmps.getD d undef = v := by simp [Act.put, h]
theorem put_other {a : Act} {d : Tmp} {dst : Option Tmp} {v : Value} (h : dst ≠ some d) : (a.put dst v).tmps.getD d undef = a.tmps.getD d undef := by
  cases dst with
  | none => rfl
  | some x =>
    have : x ≠ d := fun e => h (by rw [e])
    simp [Act.put, Array.getElem?_setIfInBounds_ne this]
theorem FreshAny.sound {n g N : Nat} {zs : Nat → Array Value} {L : Array Bool → Act → Prop} {Q : Exit → Act → World → Prop}
    (hks : ∀ k ∈ ks, k < n ∧ AllocAt P ops k (zs k)) (hd : ∀ i j, i < n → j < n → i ≠ j → dstOf ops i ≠ dstOf ops j) (hN : ∀ i, i < n → ∀ d, dstOf ops i = some d → d < N)
    (hL : ∀ s a v β, Blocks ops w ks zs s a v β → L s a → wpAny P md ops Q g s a v) :
    ∀ (f : Nat) (s : Array Bool) (a : Act) (v : World) (β : Nat → Nat), a.tmps.size = N → s.size = ops.size → Blocks ops w ks zs s a v β → FreshAny P md ops w ks val n L f s a → wpAny P md ops Q (f + g) s a v := by
  intro f
  induction f with
  | zero => intro s a v β _ _ hb h; rw [Nat.zero_add]; exact hL s a v β hb h
  | succ f ih =>
    intro s a v β hsz hss hb h
    rw [Nat.succ_add]
    refine ⟨fun h0 => absurd h0 h.1, fun i hi => ?_⟩
    obtain ⟨hin, hf⟩ := h.2 i hi
    obtain ⟨hiu, oi, hoi, _⟩ := mem_ready.1 hi
    have hdi : dstOf ops i = oi.dst := by unfold dstOf; rw [hoi]; rfl
    have keep : ∀ (v' : World) (x : Value), i ∉ ks → Below v.heap.size v v' → Blocks ops w ks zs (s.setIfInBounds i true) (a.put oi.dst x) v' β := by
      intro v' x hk hbv
      have hne : ∀ k ∈ ks, k ≠ i := fun k hkk e => hk (e ▸ hkk)
      refine ⟨hb.low.trans (hbv.mono hb.low.size), fun k hkk hl d hdk => ?_, fun k hkk j hjk h1 h2 hkj => ?_⟩
      · rw [getD_set_ne false (Ne.symm (hne k hkk))] at hl
        obtain ⟨e1, e2, e3⟩ := hb.box k hkk hl d hdk
        refine ⟨?_, e2.on hbv, e3⟩
        rw [put_other]
        · exact e1
        · rw [← hdi, ← hdk]; exact hd i k hin (hks k hkk).1 (Ne.symm (hne k hkk))
      · rw [getD_set_ne false (Ne.symm (hne k hkk))] at h1
        rw [getD_set_ne false (Ne.symm (hne j hjk))] at h2
        exact hb.two k hkk j hjk h1 h2 hkj
    have hsz' : ∀ x, (a.put oi.dst x).tmps.size = N := fun x => by rw [put_size]; exact hsz
    have hss' : (s.setIfInBounds i true).size = ops.size := by rw [Array.size_setIfInBounds]; exact hss
    unfold wpOp
    rw [hoi]
    simp only
    unfold fixOp at hf
    simp only [hoi] at hf
    by_cases hk : i ∈ ks
    · rw [if_pos hk] at hf
      obtain ⟨o, d, T, ho, hod, hg, hrun⟩ := (hks i hk).2
      obtain rfl : o = oi := Option.some.inj (ho.symm.trans hoi)
      have hw : Region.wanted o (yielded ops a.tmps) = true := by unfold Region.wanted; rw [hg]
      rw [if_pos hw]
      left
      unfold Oper.wp
      rw [hrun]
      simp only [Oper.upon]
      have hdl : d < a.tmps.size := by rw [hsz]; exact hN i hin d (by rw [hdi]; exact hod)
      have hil : i < s.size := by rw [hss]; exact (Array.getElem?_eq_some_iff.1 hoi).1
      refine ih _ _ _ (fun k => if k = i then v.heap.size else β k) (hsz' _) hss' ?_ (hf v.heap.size hb.low.size)
      refine ⟨hb.low.alloc hb.low.size _, fun k hkk hl d' hdk => ?_, fun k hkk j hjk h1 h2 hkj => ?_⟩
      · by_cases e : k = i
        · subst e
          rw [if_pos rfl]
          have : d' = d := by rw [hdi, hod] at hdk; exact (Option.some.inj hdk).symm
          subst this
          refine ⟨?_, Bx.new v _ _, hb.low.size⟩
          rw [hod]
          exact put_get hdl
        · rw [if_neg e]
          rw [getD_set_ne false (Ne.symm e)] at hl
          obtain ⟨e1, e2, e3⟩ := hb.box k hkk hl d' hdk
          refine ⟨?_, e2.alloc _, e3⟩
          rw [put_other]
          · exact e1
          · rw [← hdi, ← hdk]; exact hd i k hin (hks k hkk).1 (Ne.symm e)
      · have lt : ∀ k ∈ ks, k ≠ i → (s.setIfInBounds i true).getD k false = true → β k < v.heap.size := by
          intro k hkk e hl
          rw [getD_set_ne false (Ne.symm e)] at hl
          obtain ⟨o', d', T', ho', hod', _⟩ := (hks k hkk).2
          exact (hb.box k hkk hl d' (by unfold dstOf; rw [ho']; exact hod')).2.1.lt
        by_cases e : k = i
        · by_cases e2 : j = i
          · exact absurd (e.trans e2.symm) hkj
          · rw [if_pos e, if_neg e2]; exact Ne.symm (Nat.ne_of_lt (lt j hjk e2 h2))
        · by_cases e2 : j = i
          · rw [if_neg e, if_pos e2]; exact Nat.ne_of_lt (lt k hkk e h1)
          · rw [if_neg e, if_neg e2]
            rw [getD_set_ne false (Ne.symm e)] at h1
            rw [getD_set_ne false (Ne.symm e2)] at h2
            exact hb.two k hkk j hjk h1 h2 hkj
    · rw [if_neg hk] at hf
      split
      · rename_i hw
        left
        have hcm := hf.1 hw ⟨v, hb.low⟩
        have hK := hf.2
        unfold outV at hK
        rw [if_pos hw] at hK
        unfold Oper.wp
        generalize (execOp a.eval oi).run P v = r at hcm ⊢
        have hcm' : calmUpon P v (val i) r := hcm
        cases r with
        | ok nx v' =>
          cases nx <;> simp only [calmUpon] at hcm' <;> simp only [Oper.upon]
          case value u =>
            obtain ⟨e1, e2⟩ := hcm'
            rw [e1, e2]
            exact ih _ _ _ β (hsz' _) hss' (keep v _ hk (Below.refl _ _)) hK
          case skip =>
            obtain ⟨e1, e2⟩ := hcm'
            rw [e1]
            rw [e2] at hK
            exact ih _ _ _ β (hsz' _) hss' (keep v _ hk (Below.refl _ _)) hK
          case enter fi args =>
            obtain ⟨e1, hc⟩ := hcm'
            rw [e1]
            exact hc.mono fun e w'' ⟨he, hw''⟩ => by subst he; exact ih _ _ _ β (hsz' _) hss' (keep w'' _ hk hw'') hK
        | halt x v' => simp only [calmUpon] at hcm'
      · rename_i hw
        have hK := hf.2
        unfold outV at hK
        rw [if_neg hw] at hK
        exact ih _ _ _ β (hsz' _) hss' (keep v _ hk (Below.refl _ _)) hK

/-- the head without its new blocks -/
def quietL (ks : List Nat) : List Oper → Nat → List Oper
  | [], _ => []
  | o :: l, k => if k ∈ ks then quietL ks l (k + 1) else o :: quietL ks l (k + 1)
def putL (a : Act) (σ : List (Option Tmp × Value)) : Act := σ.foldl (fun a p => a.put p.1 p.2) a
theorem putL_put {σ : List (Option Tmp × Value)} {dst : Option Tmp} {x : Value} : ∀ {a : Act}, (∀ p ∈ σ, ∀ d, p.1 = some d → dst ≠ some d) → (putL a σ).put dst x = putL (a.put dst x) σ := by
  induction σ with
  | nil => intro a _; rfl
  | cons p σ ih =>
    intro a h
    show (putL (a.put p.1 p.2) σ).put dst x = putL ((a.put dst x).put p.1 p.2) σ
    rw [ih (fun q hq => h q (List.mem_cons_of_mem _ hq)), Act.put_comm a p.2 x (h p List.mem_cons_self)]
theorem putL_calm {σ : List (Option Tmp × Value)} {o : Oper} {x : Value} (hs : ∀ cs b, o.op ≠ .select cs b) : ∀ {a : Act}, (∀ p ∈ σ, ∀ d, p.1 = some d → d ∉ o.looksAt ops) → (Calm P w o (putL a σ) x ↔ Calm P w o a x) := by
  induction σ with
  | nil => intro a _; rfl
  | cons p σ ih =>
    intro a h
    show Calm P w o (putL (a.put p.1 p.2) σ) x ↔ _
    rw [ih (fun q hq => h q (List.mem_cons_of_mem _ hq)), calm_put hs (h p List.mem_cons_self)]
theorem putL_wanted {σ : List (Option Tmp × Value)} {o : Oper} : ∀ {a : Act}, (∀ p ∈ σ, ∀ d, p.1 = some d → d ∉ o.looksAt ops) → Region.wanted o (yielded ops (putL a σ).tmps) = Region.wanted o (yielded ops a.tmps) := by
  induction σ with
  | nil => intro a _; rfl
  | cons p σ ih =>
    intro a h
    show Region.wanted o (yielded ops (putL (a.put p.1 p.2) σ).tmps) = _
    rw [ih (fun q hq => h q (List.mem_cons_of_mem _ hq)), wanted_put o a p.1 p.2 (h p List.mem_cons_self)]
/-- whatever class of worlds that goes along with calls -/
def AllClasses (w : World) (H : ∀ (S : Type) (_ : S → World), Prop) : Prop :=
  ∀ (S : Type) (W : S → World), Nonempty S → (∀ u, Below w.heap.size w (W u)) → (∀ u w'', Below (W u).heap.size (W u) w'' → ∃ u', w'' = W u') → H S W
theorem quiet_slot {C : World → Prop} {af : Act} {d : Tmp} : ∀ {l : List Oper} {a : Act}, wpQuiet P ops C (fun a' => a' = af) l a → (∀ o ∈ l, o.dst ≠ some d) → af.tmps.getD d undef = a.tmps.getD d undef := by
  intro l
  induction l with
  | nil => intro a h _; rw [show a = af from h]
  | cons o l ih =>
    intro a h hd
    rw [wpQuiet] at h
    have h0 := hd o List.mem_cons_self
    have h1 := fun q hq => hd q (List.mem_cons_of_mem _ hq)
    split at h
    · obtain ⟨v, _, h⟩ := h
      rw [ih h h1, put_other h0]
    · rw [ih h h1, put_other h0]
def valOf (ops : Array Oper) (af : Act) (k : Nat) : Value := match dstOf ops k with | some d => af.tmps.getD d undef | none => undef
theorem mem_quietL {o : Oper} : ∀ {l : List Oper} {k : Nat}, o ∈ quietL ks l k → ∃ j, l[j]? = some o ∧ k + j ∉ ks := by
  intro l
  induction l with
  | nil => intro k h; simp [quietL] at h
  | cons x l ih =>
    intro k h
    unfold quietL at h
    split at h
    · obtain ⟨j, h1, h2⟩ := ih h
      exact ⟨j + 1, by rw [List.getElem?_cons_succ]; exact h1, by rw [show k + (j + 1) = k + 1 + j by omega]; exact h2⟩
    · rename_i hk
      rcases List.mem_cons.1 h with rfl | h
      · exact ⟨0, rfl, hk⟩
      · obtain ⟨j, h1, h2⟩ := ih h
        exact ⟨j + 1, by rw [List.getElem?_cons_succ]; exact h1, by rw [show k + (j + 1) = k + 1 + j by omega]; exact h2⟩
/-- the new blocks' slots, put at the end -/
def PutsAt (w : World) (ops : Array Oper) (ks : List Nat) : List Oper → Nat → List (Option Tmp × Value) → Prop
  | [], _, τ => τ = []
  | o :: l, k, τ => if k ∈ ks then ∃ b τ', w.heap.size ≤ b ∧ τ = (o.dst, ptrTo b) :: τ' ∧ PutsAt w ops ks l (k + 1) τ' else PutsAt w ops ks l (k + 1) τ
theorem toFix {n N : Nat} {af : Act} {R : Act → Prop} (hns : Region.noSelect ops = true)
    (hd : ∀ i j, i < n → j < n → i ≠ j → dstOf ops i ≠ dstOf ops j) (hsm : ∀ i, i < n → ∃ d, dstOf ops i = some d) (hN : ∀ i, i < n → ∀ d, dstOf ops i = some d → d < N)
    (hlk : ∀ i, i < n → i ∉ ks → ∀ k ∈ ks, ∀ d, dstOf ops k = some d → d ∉ looksOf ops i) (hkn : ∀ k ∈ ks, k < n) :
    ∀ (l : List Oper) (k : Nat) (a : Act) (σ : List (Option Tmp × Value)), a.tmps.size = N → (∀ j, j < l.length → l[j]? = ops[k + j]?) → k + l.length = n →
      (∀ p ∈ σ, ∃ i ∈ ks, p.1 = dstOf ops i) →
      AllClasses w (fun S W => wpQuiet P ops (fun w' => ∃ u : S, w' = W u) (fun a' => a' = af) (quietL ks l k) a) →
      (∀ τ, PutsAt w ops ks l k τ → R (putL af (σ ++ τ))) → wpFix P ops w ks (valOf ops af) R l k (putL a σ) := by
  intro l
  induction l with
  | nil =>
    intro k a σ _ _ _ _ hq hf
    have h0 : a = af := by
      have := hq (Kept w) Kept.W (kept_some w) (fun u => u.low) (fun u w'' h => ⟨⟨w'', u.low.trans (h.mono u.low.size)⟩, rfl⟩)
      exact this
    subst h0
    have := hf [] rfl
    rwa [List.append_nil] at this
  | cons o l ih =>
    intro k a σ hsz hl hk hσ hq hf
    rw [List.length_cons] at hk
    have h0 : ops[k]? = some o := (hl 0 (Nat.succ_pos _)).symm
    have hdk : dstOf ops k = o.dst := by unfold dstOf; rw [h0]; rfl
    have hl' : ∀ j, j < l.length → l[j]? = ops[k + 1 + j]? := by
      intro j hj
      have := hl (j + 1) (by rw [List.length_cons]; omega)
      rw [List.getElem?_cons_succ] at this
      rw [this]
      congr 1
      omega
    rw [wpFix]
    unfold quietL at hq
    by_cases hkk : k ∈ ks
    · rw [if_pos hkk]
      rw [if_pos hkk] at hq
      intro b hb
      have e : (putL a σ).put o.dst (ptrTo b) = putL a (σ ++ [(o.dst, ptrTo b)]) := by unfold putL; rw [List.foldl_append]; rfl
      rw [e]
      refine ih (k + 1) a _ hsz hl' (by omega) ?_ hq ?_
      · intro p hp
        rcases List.mem_append.1 hp with hp | hp
        · exact hσ p hp
        · obtain rfl := List.mem_singleton.1 hp
          exact ⟨k, hkk, hdk.symm⟩
      · intro τ hτ
        rw [List.append_assoc]
        refine hf _ ?_
        unfold PutsAt
        rw [if_pos hkk]
        exact ⟨b, τ, hb, rfl, hτ⟩
    · rw [if_neg hkk]
      rw [if_neg hkk] at hq
      have hlo : ∀ p ∈ σ, ∀ d, p.1 = some d → d ∉ o.looksAt ops := by
        intro p hp d hpd
        obtain ⟨i, hi, e⟩ := hσ p hp
        have := hlk k (by omega) hkk i hi d (by rw [← e]; exact hpd)
        unfold looksOf at this
        rw [h0] at this
        exact this
      have hdo : ∀ p ∈ σ, ∀ d, p.1 = some d → o.dst ≠ some d := by
        intro p hp d hpd
        obtain ⟨i, hi, e⟩ := hσ p hp
        rw [← hdk, ← hpd, e]
        exact hd k i (by omega) (hkn i hi) (fun e => hkk (e ▸ hi))
      obtain ⟨d, hod⟩ := hsm k (by omega)
      have hod' : o.dst = some d := by rw [← hdk]; exact hod
      have hdl : d < a.tmps.size := by rw [hsz]; exact hN k (by omega) d hod
      have hrest : ∀ q ∈ quietL ks l (k + 1), q.dst ≠ some d := by
        intro q hq'
        obtain ⟨j, h1, h2⟩ := mem_quietL hq'
        have hj : j < l.length := (List.getElem?_eq_some_iff.1 h1).1
        have e : dstOf ops (k + 1 + j) = q.dst := by unfold dstOf; rw [← hl' j hj, h1]; rfl
        rw [← e, ← hod]
        exact hd _ _ (by omega) (by omega) (by omega)
      have hval : valOf ops af k = af.tmps.getD d undef := by unfold valOf; rw [hod]
      have nso := fun cs b => Region.noSelect_spec hns k o cs b h0
      rw [putL_wanted hlo, putL_calm nso hlo]
      have hout : outV ops o (putL a σ) (valOf ops af k) = outV ops o a (valOf ops af k) := by unfold outV; rw [putL_wanted hlo]
      rw [hout, putL_put hdo]
      constructor
      · intro hw u
        have hS : wpQuiet P ops (fun w' => ∃ x : Kept u.W, w' = x.W) (fun a' => a' = af) (o :: quietL ks l (k + 1)) a := hq (Kept u.W) Kept.W (kept_some u.W) (fun x => u.low.trans (x.low.mono u.low.size)) (fun x w'' h => ⟨⟨w'', x.low.trans (h.mono x.low.size)⟩, rfl⟩)
        rw [wpQuiet, if_pos hw] at hS
        obtain ⟨v, h1, h2⟩ := hS
        have e1 := quiet_slot h2 hrest
        rw [hod', put_get hdl] at e1
        rw [hval, e1]
        have h3 := h1 u.W ⟨⟨u.W, Below.refl _ _⟩, rfl⟩
        unfold Oper.quietAt at h3
        generalize (execOp a.eval o).run P u.W = r at h3 ⊢
        cases r with
        | ok nx v' =>
          cases nx <;> simp only [Oper.quietUpon] at h3 <;> simp only [calmUpon]
          case value => exact h3
          case skip => exact h3
          case enter => exact ⟨h3.1, h3.2.mono fun e w'' ⟨he, x, hx⟩ => ⟨he, by rw [hx]; exact x.low⟩⟩
        | halt x v' => simp only [Oper.quietUpon] at h3
      · refine ih (k + 1) _ σ (by rw [put_size]; exact hsz) hl' (by omega) hσ ?_ ?_
        · intro S W hne hk1 hk2
          have hS : wpQuiet P ops (fun w' => ∃ x : S, w' = W x) (fun a' => a' = af) (o :: quietL ks l (k + 1)) a := hq S W hne hk1 hk2
          rw [wpQuiet] at hS
          unfold outV
          split at hS
          · rename_i hw
            rw [if_pos hw]
            obtain ⟨v, h1, h2⟩ := hS
            have e1 := quiet_slot h2 hrest
            rw [hod', put_get hdl] at e1
            rw [hval, e1]
            exact h2
          · rename_i hw
            rw [if_neg hw]
            exact hS
        · intro τ hτ
          refine hf τ ?_
          unfold PutsAt
          rw [if_neg hkk]
          exact hτ
/-- all new blocks -/
structure AllBlocks (ops : Array Oper) (w : World) (ks : List Nat) (zs : Nat → Array Value) (a : Act) (v : World) (β : Nat → Nat) : Prop where
  low : Below w.heap.size w v
  box : ∀ i ∈ ks, ∀ d, dstOf ops i = some d → a.tmps.getD d undef = ptrTo (β i) ∧ Bx v (β i) (zs i) ∧ w.heap.size ≤ β i
  two : ∀ i ∈ ks, ∀ j ∈ ks, i ≠ j → β i ≠ β j
theorem wp_region_fresh {id : Nat} {Q : Exit → Act → World → Prop} {a : Act} {l : List Oper} (n : Nat) (ks : List Nat) (zs : Nat → Array Value) (hm : P.follows .mixedOrders = true) (hB : Region.lexTailB .any l.toArray n = true)
    (hF : freshB l.toArray n ks = true) (hkn : ∀ k ∈ ks, k < n) (hN : ((List.range n).all fun i => (dstOf l.toArray i).all fun d => decide (d < a.tmps.size)) = true) (hz : ∀ k ∈ ks, AllocAt P l.toArray k (zs k))
    (h : ∃ af, AllClasses w (fun S W => wpQuiet P l.toArray (fun w' => ∃ u : S, w' = W u) (fun a' => a' = af) (quietL ks (l.take n) 0) a) ∧
      ∀ τ, PutsAt w l.toArray ks (l.take n) 0 τ → ∀ v β, AllBlocks l.toArray w ks zs (putL af τ) v β → wpList P l.toArray Q (l.drop n) (putL af τ) v) : (Code.region id l.toArray true).wp P Q a w := by
  obtain ⟨af, hq, hf⟩ := h
  simp only [Region.lexTailB, Bool.and_eq_true, decide_eq_true_eq] at hB
  obtain ⟨⟨⟨⟨hns, hn⟩, hs⟩, hc⟩, hlex⟩ := hB
  have hn' : n < l.length := hn
  have htl : (l.take n).length = n := by rw [List.length_take]; omega
  have hdl : (l.drop n).length = l.toArray.size - n := by rw [List.length_drop]; rfl
  have inv0 : HeadInv .any l.toArray n (Array.replicate l.toArray.size false) :=
    ⟨by simp, fun j oj _ hl => (by rw [getD_replicate_false] at hl; cases hl), fun t _ ht => getD_in (by simpa using ht) (getD_replicate_false _ _)⟩
  unfold freshB at hF
  simp only [Bool.and_eq_true, List.all_eq_true, List.mem_range, Bool.or_eq_true, beq_iff_eq, bne_iff_ne, Option.isSome_iff_exists, List.contains_iff_mem, ne_eq] at hF
  simp only [List.all_eq_true, List.mem_range] at hN
  have hd : ∀ i j, i < n → j < n → i ≠ j → dstOf l.toArray i ≠ dstOf l.toArray j := fun i j hi hj hij => ((hF.1 i hi).2 j hj).resolve_left hij
  have hN' : ∀ i, i < n → ∀ d, dstOf l.toArray i = some d → d < a.tmps.size := fun i hi d hdd => by
    have := hN i hi
    rw [hdd] at this
    simpa using this
  have hlk : ∀ i, i < n → i ∉ ks → ∀ k ∈ ks, ∀ d, dstOf l.toArray k = some d → d ∉ looksOf l.toArray i := by
    intro i hi hik k hk d hdd
    have := (hF.2 i hi).resolve_left hik k hk
    rw [hdd] at this
    simpa using this
  have HF := toFix (P := P) (w := w) (R := fun a' => ∀ v β, AllBlocks l.toArray w ks zs a' v β → wpList P l.toArray Q (l.drop n) a' v) hns hd (fun i hi => (hF.1 i hi).1) hN' hlk hkn (l.take n) 0 a [] rfl (fun j hj => by
    rw [htl] at hj
    simp [hj]) (by rw [htl]; exact Nat.zero_add n) (fun p hp => by cases hp) hq (fun τ hτ v β hb => hf τ hτ v β hb)
  have H := FreshAny.lex (md := .any) (g := l.toArray.size - n) hns hs hc hn (l.take n) 0 _ (putL a []) (fun j hj => by
    rw [htl] at hj
    simp [hj]) (by rw [htl]; exact Nat.zero_add n) inv0 (fun i hi => absurd hi (Nat.not_lt_zero _)) (by rw [htl]; exact hlex) HF
  have H2 := FreshAny.sound (w := w) (Q := Q) (g := l.toArray.size - n) (zs := zs) (L := fun s' a' => Region.seqB .any l.toArray (l.toArray.size - n) n s' = true ∧ (∀ i, i < n → s'.getD i false = true) ∧ ∀ v β, AllBlocks l.toArray w ks zs a' v β → wpList P l.toArray Q (l.drop n) a' v) (fun k hk => ⟨hkn k hk, hz k hk⟩) hd hN' (fun s a' v β hb hL => by
    have := wpAny_of_seq (md := .any) (Q' := Q) (l.drop n) n s a' v (fun j => by simp [List.getElem?_drop]) (by rw [hdl]; exact hL.1)
      (hL.2.2 v β ⟨hb.low, fun i hi d hdd => hb.box i hi (hL.2.1 i (hkn i hi)) d hdd, fun i hi j hj hij => hb.two i hi j hj (hL.2.1 i (hkn i hi)) (hL.2.1 j (hkn j hj)) hij⟩)
    rwa [hdl] at this) _ _ _ { w with drawn := w.drawn + 1 } (fun _ => 0) rfl (by simp) ⟨⟨rfl, rfl, rfl, Nat.le_refl _, fun _ _ => rfl⟩, fun i _ hl => (by rw [getD_replicate_false] at hl; cases hl), fun i _ j _ hl => (by rw [getD_replicate_false] at hl; cases hl)⟩ H
  rw [htl, show n + (l.toArray.size - n) = l.toArray.size by omega] at H2
  exact wp_region_any hm H2
theorem puts_none {l : List Oper} : ∀ {j : Nat} {τ : List (Option Tmp × Value)}, (∀ i, j ≤ i → i ∉ ks) → PutsAt w ops ks l j τ → τ = [] := by
  induction l with
  | nil => intro j τ _ h; exact h
  | cons o l ih =>
    intro j τ hk h
    unfold PutsAt at h
    rw [if_neg (hk j (Nat.le_refl _))] at h
    exact ih (fun i hi => hk i (by omega)) h
theorem puts_one {k : Nat} {l : List Oper} (hk : k ∈ ks) : ∀ {j : Nat} {τ : List (Option Tmp × Value)}, j ≤ k → (∀ i, j ≤ i → i < k → i ∉ ks) → k < j + l.length → PutsAt w ops ks l j τ →
    ∃ o b τ', l[k - j]? = some o ∧ w.heap.size ≤ b ∧ τ = (o.dst, ptrTo b) :: τ' ∧ PutsAt w ops ks (l.drop (k - j + 1)) (k + 1) τ' := by
  induction l with
  | nil => intro j τ h1 _ h2 _; simp at h2; omega
  | cons o l ih =>
    intro j τ h1 h3 h2 h
    unfold PutsAt at h
    by_cases e : j = k
    · subst e
      rw [if_pos hk] at h
      obtain ⟨b, τ', hb, e2, h⟩ := h
      exact ⟨o, b, τ', by rw [Nat.sub_self]; rfl, hb, e2, by rw [Nat.sub_self]; exact h⟩
    · rw [if_neg (h3 j (Nat.le_refl _) (by omega))] at h
      rw [List.length_cons] at h2
      obtain ⟨o', b, τ', h4, h5, h6, h7⟩ := ih (by omega) (fun i hi => h3 i (by omega)) (by omega) h
      refine ⟨o', b, τ', ?_, h5, h6, ?_⟩
      · rw [show k - j = (k - (j + 1)) + 1 by omega, List.getElem?_cons_succ]; exact h4
      · rw [show k - j + 1 = (k - (j + 1) + 1) + 1 by omega, List.drop_succ_cons]; exact h7
theorem ptr_slot {a : Act} {d b c : Nat} (h : (a.put (some d) (ptrTo b)).tmps.getD d undef = ptrTo c) : b = c := by
  by_cases hd : d < a.tmps.size
  · rw [put_get hd] at h
    unfold ptrTo at h
    injection h with h
    injection h with h
    injection h
  · rw [show (a.put (some d) (ptrTo b)).tmps.getD d undef = undef by simp [Act.put, hd]] at h
    unfold ptrTo undef at h
    cases h
/-- one new block -/
theorem wp_region_fresh1 {id : Nat} {Q : Exit → Act → World → Prop} {a : Act} {l : List Oper} (n k d : Nat) (zs : Array Value) (hm : P.follows .mixedOrders = true) (hB : Region.lexTailB .any l.toArray n = true)
    (hF : freshB l.toArray n [k] = true) (hkn : k < n) (hdk : dstOf l.toArray k = some d) (hN : ((List.range n).all fun i => (dstOf l.toArray i).all fun d => decide (d < a.tmps.size)) = true) (hz : AllocAt P l.toArray k zs)
    (h : ∃ af, AllClasses w (fun S W => wpQuiet P l.toArray (fun w' => ∃ u : S, w' = W u) (fun a' => a' = af) (quietL [k] (l.take n) 0) a) ∧
      ∀ b v, w.heap.size ≤ b → Below w.heap.size w v → Bx v b zs → wpList P l.toArray Q (l.drop n) (af.put (some d) (ptrTo b)) v) : (Code.region id l.toArray true).wp P Q a w := by
  obtain ⟨af, h1, h2⟩ := h
  have hn : n < l.length := by
    simp only [Region.lexTailB, Bool.and_eq_true, decide_eq_true_eq] at hB
    exact hB.1.1.1.2
  refine wp_region_fresh n [k] (fun _ => zs) hm hB hF (by intro x hx; obtain rfl := List.mem_singleton.1 hx; exact hkn) hN (by intro x hx; obtain rfl := List.mem_singleton.1 hx; exact hz) ⟨af, h1, ?_⟩
  intro τ hτ v β hb
  obtain ⟨o, b, τ', ho, hb0, rfl, hτ'⟩ := puts_one (List.mem_singleton.2 rfl) (Nat.zero_le k) (fun i _ hi h => by have := List.mem_singleton.1 h; omega) (by rw [List.length_take]; omega) hτ
  obtain rfl := puts_none (fun i hi h => by have := List.mem_singleton.1 h; omega) hτ'
  have hod : o.dst = some d := by
    rw [← hdk]
    unfold dstOf
    rw [Nat.sub_zero, List.getElem?_take, if_pos hkn] at ho
    rw [List.getElem?_toArray, ho]
    rfl
  rw [hod] at hb ⊢
  obtain ⟨e1, e2, e3⟩ := hb.box k (List.mem_singleton.2 rfl) d hdk
  have e := ptr_slot (a := af) e1
  rw [← e] at e2
  exact h2 b v hb0 hb.low e2
/-- two new blocks -/
theorem wp_region_fresh2 {id : Nat} {Q : Exit → Act → World → Prop} {a : Act} {l : List Oper} (n k d k' d' : Nat) (zs zs' : Array Value) (hm : P.follows .mixedOrders = true) (hB : Region.lexTailB .any l.toArray n = true)
    (hF : freshB l.toArray n [k, k'] = true) (hkn : k < n) (hkn' : k' < n) (hkk : k < k') (hdk : dstOf l.toArray k = some d) (hdk' : dstOf l.toArray k' = some d') (hN : ((List.range n).all fun i => (dstOf l.toArray i).all fun d => decide (d < a.tmps.size)) = true)
    (hz : AllocAt P l.toArray k zs) (hz' : AllocAt P l.toArray k' zs')
    (h : ∃ af, AllClasses w (fun S W => wpQuiet P l.toArray (fun w' => ∃ u : S, w' = W u) (fun a' => a' = af) (quietL [k, k'] (l.take n) 0) a) ∧
      ∀ b b' v, w.heap.size ≤ b → w.heap.size ≤ b' → b ≠ b' → Below w.heap.size w v → Bx v b zs → Bx v b' zs' → wpList P l.toArray Q (l.drop n) ((af.put (some d) (ptrTo b)).put (some d') (ptrTo b')) v) : (Code.region id l.toArray true).wp P Q a w := by
  obtain ⟨af, h1, h2⟩ := h
  have hn : n < l.length := by
    simp only [Region.lexTailB, Bool.and_eq_true, decide_eq_true_eq] at hB
    exact hB.1.1.1.2
  have mem : ∀ x, x ∈ [k, k'] → x = k ∨ x = k' := by intro x hx; simpa using hx
  have hdd : d ≠ d' := by
    unfold freshB at hF
    simp only [Bool.and_eq_true, List.all_eq_true, List.mem_range, Bool.or_eq_true, beq_iff_eq, bne_iff_ne, ne_eq] at hF
    have := ((hF.1 k hkn).2 k' hkn').resolve_left (by omega)
    rw [hdk, hdk'] at this
    intro e
    exact this (by rw [e])
  refine wp_region_fresh n [k, k'] (fun x => if x = k then zs else zs') hm hB hF (by intro x hx; rcases mem x hx with rfl | rfl <;> assumption) hN (by
    intro x hx
    rcases mem x hx with rfl | rfl
    · simpa using hz
    · simpa [show ¬ x = k by omega] using hz') ⟨af, h1, ?_⟩
  intro τ hτ v β hb
  obtain ⟨o, b, τ', ho, hb0, rfl, hτ'⟩ := puts_one (k := k) (by simp) (Nat.zero_le k) (fun i _ hi h => by have := mem i h; omega) (by rw [List.length_take]; omega) hτ
  obtain ⟨o', b', τ'', ho', hb0', rfl, hτ''⟩ := puts_one (k := k') (by simp) (show k + 1 ≤ k' by omega) (fun i h1 hi h => by have := mem i h; omega) (by rw [List.length_drop, List.length_take]; omega) hτ'
  obtain rfl := puts_none (fun i hi h => by have := mem i h; omega) hτ''
  have hod : o.dst = some d := by
    rw [← hdk]
    unfold dstOf
    rw [Nat.sub_zero, List.getElem?_take, if_pos hkn] at ho
    rw [List.getElem?_toArray, ho]
    rfl
  have hod' : o'.dst = some d' := by
    rw [← hdk']
    unfold dstOf
    rw [List.getElem?_drop, show k - 0 + 1 + (k' - (k + 1)) = k' by omega, List.getElem?_take, if_pos hkn'] at ho'
    rw [List.getElem?_toArray, ho']
    rfl
  rw [hod, hod'] at hb ⊢
  obtain ⟨e1, e2, e3⟩ := hb.box k (by simp) d hdk
  obtain ⟨f1, f2, f3⟩ := hb.box k' (by simp) d' hdk'
  have q1 : (putL af [(some d, ptrTo b), (some d', ptrTo b')]).tmps.getD d undef = (af.put (some d) (ptrTo b)).tmps.getD d undef := put_other (fun e => hdd (Option.some.inj e).symm)
  have e := ptr_slot (a := af) (q1.symm.trans e1)
  have f := ptr_slot (a := af.put (some d) (ptrTo b)) f1
  rw [if_pos rfl, ← e] at e2
  rw [if_neg (by omega), ← f] at f2
  have hne := hb.two k (by simp) k' (by simp) (by omega)
  rw [← e, ← f] at hne
  exact h2 b b' v hb0 hb0' hne hb.low e2 f2
end
theorem Ret.fresh {w0 w : World} {f : FuncId} {args : Array Value} {V : Value} {S : Type} {W : S → World} (h : Ret f args V) (hs : St w0 w) (hk : ∀ u, Below w.heap.size w (W u)) (hc : ∀ u w'', Below (W u).heap.size (W u) w'' → ∃ u', w'' = W u') {u : S} :
    Calls Tryz.prog f args (W u) fun e w'' => e = .returned V ∧ ∃ u', w'' = W u' :=
  (h (W u) (hs.gl.below (hk u))).mono fun _ w' ⟨he, hb⟩ => ⟨he, hc u w' hb⟩
theorem Bx.in {w : World} {b : Nat} {cs : Array Value} (h : Bx w b cs) {S : Type} {W : S → World} (hk : ∀ u, Below w.heap.size w (W u)) {i : Nat} {v : Value} (hi : cs[i]? = some v) (u : S) : (W u).cell? ⟨b, i, none⟩ = some v := (h.on (hk u)).cell hi
end Go.Proofs.YtahpbnmbphobgaaGreatDoor
