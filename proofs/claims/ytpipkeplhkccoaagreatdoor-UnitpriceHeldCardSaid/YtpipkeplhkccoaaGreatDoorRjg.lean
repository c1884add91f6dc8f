/- Regions that leave their order open, inside a round of a loop over an iterator: reads and calls that turn nothing old, then stores in one forced order. Plain facts; no condition. Regions that leave their order open, inside a round of a loop over an iterator: reads and calls alone; any operations, shown order by order. Plain facts; no condition. -/
import Derived.Test.YtpipkeplhkccoaaGreatDoorFa
import Derived.OrdersIn
import Derived.TacticsIn
import Derived.Deep.RegionHeld
namespace Go.Proofs.YtpipkeplhkccoaaGreatDoor
open Go.RowKit

section
variable {P : Program} {ops : Array Oper} {md : Region.Mode} {C : World → Prop} {l0 m : Nat}
theorem callsIn_round {f : FuncId} {args : Array Value} {w : World} {R : Ending → World → Prop} (h : Calls P f args w R) : CallsIn (Fence.wide.inRound l0) m P f args w R := callsIn_wide.2 h
theorem wpOpIn_of_qOp {i : Nat} {a : Act} {K : Act → Prop} {K' : Act → World → Prop} {Q' : Exit → Act → World → Prop} {w : World} (hnd : ∀ o, ops[i]? = some o → ∀ c, o.op ≠ .defer c) (hC : C w) (h : ∀ a w', C w' → K a → K' a w') (hh : qOp P ops C i K a) :
    wpOpIn (Fence.wide.inRound l0) m P ops Q' i K' a w := by
  unfold qOp at hh
  unfold wpOpIn
  split
  · rename_i ho; simp only [ho] at hh; exact h _ _ hC hh
  · rename_i o ho
    simp only [ho] at hh
    split
    · rename_i hw
      simp only [hw, if_true] at hh
      obtain ⟨v, h1, h2⟩ := hh
      refine ⟨fun f _ => trivial, ?_⟩
      rw [Oper.semAt_eq _ _ _ (hnd o ho)]
      have hq := h1 w hC
      unfold Oper.quietAt at hq
      generalize (execOp a.eval o).run P w = r at hq ⊢
      cases r with
      | ok nx v' =>
        cases nx <;> simp only [Oper.quietUpon] at hq <;> simp only [Oper.uponIn]
        case value u =>
          obtain ⟨e1, e2⟩ := hq
          subst e1 e2
          exact h _ _ hC h2
        case skip =>
          obtain ⟨e1, e2⟩ := hq
          subst e1 e2
          exact h _ _ hC h2
        case enter f args =>
          obtain ⟨e1, hc⟩ := hq
          subst e1
          refine ⟨fun hd => by simp [Fence.wide, Fence.inRound] at hd, callsIn_round (hc.mono fun e w'' ⟨he, hw''⟩ => ?_)⟩
          subst he
          exact h _ _ hw'' h2
      | halt x v' => simp only [Oper.quietUpon] at hq
    · rename_i hw
      simp only [hw] at hh
      exact ⟨fun f _ => trivial, h _ _ hC hh⟩
theorem HeadAny.soundIn {n g : Nat} {L : Array Bool → Act → Prop} {Q : Exit → Act → World → Prop} (hnd : ∀ (i : Nat) (o : Oper), ops[i]? = some o → ∀ c, o.op ≠ .defer c) (hL : ∀ s a w, C w → L s a → wpAnyIn (Fence.wide.inRound l0) m P md ops Q g s a w) :
    ∀ (f : Nat) (s : Array Bool) (a : Act) (w : World), C w → HeadAny P md ops C n L f s a → wpAnyIn (Fence.wide.inRound l0) m P md ops Q (f + g) s a w
  | 0, s, a, w, hw, h => by rw [Nat.zero_add]; exact hL s a w hw h
  | f + 1, s, a, w, hw, h => by
    rw [Nat.succ_add]
    exact ⟨fun h0 => absurd h0 h.1, fun i hi => wpOpIn_of_qOp (hnd i) hw (fun a' w' hw' h' => HeadAny.soundIn hnd hL f _ a' w' hw' h') (h.2 i hi).2⟩
theorem wpAnyIn_of_seq {F : Fence} {Q' : Exit → Act → World → Prop} : ∀ (l : List Oper) (k : Nat) (listed : Array Bool) (a : Act) (w : World), (∀ j, l[j]? = ops[k + j]?) →
    Region.seqB md ops l.length k listed = true → wpListIn F m P ops Q' l a w → wpAnyIn F m P md ops Q' l.length listed a w
  | [], _, _, _, _, _, hB, h => ⟨by simpa [Region.seqB] using hB, h⟩
  | o :: l, k, listed, a, w, hl, hB, h => by
    have h0 : ops[k]? = some o := by simpa using (hl 0).symm
    simp only [List.length_cons, Region.seqB, Bool.and_eq_true, decide_eq_true_eq] at hB
    refine ⟨fun h1 => (by rw [hB.1] at h1; cases h1), fun i hi => ?_⟩
    rw [hB.1] at hi
    have hik : i = k := by simpa using hi
    subst hik
    have hw : wpOpIn F m P ops Q' i (wpListIn F m P ops Q' l) a w := by unfold wpOpIn; simp only [h0]; exact h
    exact wpOpIn_mono (fun a' w' h' => wpAnyIn_of_seq l (i + 1) _ a' w' (fun j => by have := hl (j + 1); simpa [Nat.add_assoc, Nat.add_comm 1 j] using this) hB.2 h') hw
def noDefer (l : List Oper) : Bool := l.all fun o => match o.op with | .defer _ => false | _ => true
theorem noDefer_spec {l : List Oper} (h : noDefer l = true) : ∀ (i : Nat) (o : Oper), l.toArray[i]? = some o → ∀ c, o.op ≠ .defer c := by
  intro i o ho c e
  have hm : o ∈ l := List.mem_of_getElem? (by simpa using ho)
  unfold noDefer at h
  have := List.all_eq_true.1 h o hm
  rw [e] at this
  cases this
theorem wpIn_region_kept_tail {id : Nat} {w : World} {Q : Exit → Act → World → Prop} {a : Act} {l : List Oper} (n : Nat) (hm : P.follows .mixedOrders = true) (hB : Region.lexTailB .any l.toArray n = true) (hD : noDefer l = true)
    (h : wpQuiet P l.toArray (fun w' => ∃ u : Kept w, w' = u.W) (fun a' => ∀ w', (∃ u : Kept w, w' = u.W) → wpListIn (Fence.wide.inRound l0) m P l.toArray Q (l.drop n) a' w') (l.take n) a) : (Code.region id l.toArray true).wpIn (Fence.wide.inRound l0) m P Q a w := by
  simp only [Region.lexTailB, Bool.and_eq_true, decide_eq_true_eq] at hB
  obtain ⟨⟨⟨⟨hns, hn⟩, hs⟩, hc⟩, hlex⟩ := hB
  have hn' : n < l.length := hn
  have htl : (l.take n).length = n := by rw [List.length_take]; omega
  have hdl : (l.drop n).length = l.toArray.size - n := by rw [List.length_drop]; rfl
  have inv0 : HeadInv .any l.toArray n (Array.replicate l.toArray.size false) :=
    ⟨by simp, fun j oj _ hl => (by rw [getD_replicate_false] at hl; cases hl), fun t _ ht => getD_in (by simpa using ht) (getD_replicate_false _ _)⟩
  have H := HeadAny.lex (md := .any) (g := l.toArray.size - n) hns hs hc hn (l.take n) 0 _ a (fun j hj => by
    rw [htl] at hj
    simp [hj]) (by rw [htl]; exact Nat.zero_add n) inv0 (by rw [htl]; exact hlex) h
  have H2 := HeadAny.soundIn (l0 := l0) (m := m) (Q := Q) (g := l.toArray.size - n) (noDefer_spec hD) (fun s a' w' hw hL => by
    have := wpAnyIn_of_seq (F := Fence.wide.inRound l0) (m := m) (md := .any) (Q' := Q) (l.drop n) n s a' w' (fun j => by simp [List.getElem?_drop]) (by rw [hdl]; exact hL.1) (hL.2 w' hw)
    rwa [hdl] at this) _ _ _ _ (kept_drew w) H
  rw [htl, show n + (l.toArray.size - n) = l.toArray.size by omega] at H2
  exact wpIn_region_any hm H2
end
end Go.Proofs.YtpipkeplhkccoaaGreatDoor
namespace Go.Proofs.YtpipkeplhkccoaaGreatDoor
open Go.RowKit

section
variable {P : Program} {ops : Array Oper} {md : Region.Mode} {C : World → Prop} {l0 m : Nat}
theorem wpAnyIn_of_quiet {Q : Act → Prop} {Q' : Exit → Act → World → Prop} (hnd : ∀ (i : Nat) (o : Oper), ops[i]? = some o → ∀ c, o.op ≠ .defer c) (hQ : ∀ a w, C w → Q a → Q' .normal a w) :
    ∀ (fuel : Nat) (listed : Array Bool) (a : Act) (w : World), C w → wpAnyQ P md ops C Q fuel listed a → wpAnyIn (Fence.wide.inRound l0) m P md ops Q' fuel listed a w
  | 0, _, _, _, hw, h => ⟨h.1, hQ _ _ hw h.2⟩
  | fuel + 1, _, _, _, hw, h => ⟨fun h0 => hQ _ _ hw (h.1 h0), fun i hi => wpOpIn_of_qOp (hnd i) hw (fun a' w' hw' h' => wpAnyIn_of_quiet hnd hQ fuel _ a' w' hw' h') (h.2 i hi)⟩
theorem wpIn_region_kept {id : Nat} {w : World} {Q : Exit → Act → World → Prop} {a : Act} {l : List Oper} (hm : P.follows .mixedOrders = true) (hB : Region.lexB .any l.toArray = true) (hD : noDefer l = true)
    (h : wpQuiet P l.toArray (fun w' => ∃ u : Kept w, w' = u.W) (fun a' => ∀ w', (∃ u : Kept w, w' = u.W) → Q .normal a' w') l a) : (Code.region id l.toArray true).wpIn (Fence.wide.inRound l0) m P Q a w := by
  simp only [Region.lexB, Bool.and_eq_true] at hB
  refine wpIn_region_any hm (wpAnyIn_of_quiet (noDefer_spec hD) (Q := fun a' => ∀ w', (∃ u : Kept w, w' = u.W) → Q .normal a' w') (fun _ w' hw' h => h w' hw') _ _ _ _ (kept_drew w) ?_)
  have := wpAnyQ_lex (C := fun w' => ∃ u : Kept w, w' = u.W) (md := .any) hB.1 l 0 (Array.replicate l.toArray.size false) a (by simp) (by simpa using hB.2) h
  simpa using this
/-- Q at the region's plain end alone -/
def OnlyN (Q : Exit → Act → World → Prop) : Exit → Act → World → Prop
  | .normal, a, w => Q .normal a w
  | _, _, _ => False
theorem OnlyN.normal {Q : Exit → Act → World → Prop} {a : Act} {w : World} (h : Q .normal a w) : OnlyN Q .normal a w := h
theorem OnlyN.out {Q : Exit → Act → World → Prop} (h : LetsOut (OnlyN Q)) : False := by
  obtain ⟨_, _, h⟩ := h
  exact h
theorem wpOpIn_of_wpOp {Q : Exit → Act → World → Prop} {i : Nat} {a : Act} {K K' : Act → World → Prop} {w : World} (hnd : ∀ o, ops[i]? = some o → ∀ c, o.op ≠ .defer c) (h : ∀ a w, K a w → K' a w) (hh : wpOp P ops (OnlyN Q) i K a w) :
    wpOpIn (Fence.wide.inRound l0) m P ops Q i K' a w := by
  unfold wpOp at hh
  unfold wpOpIn
  split
  · rename_i ho; simp only [ho] at hh; exact h _ _ hh
  · rename_i o ho
    simp only [ho] at hh
    split
    · rename_i hw
      simp only [hw, if_true] at hh
      rcases hh with hh | ⟨_, hh⟩
      · refine ⟨fun f _ => trivial, ?_⟩
        rw [Oper.semAt_eq _ _ _ (hnd o ho)]
        unfold Oper.wp at hh
        generalize (execOp a.eval o).run P w = r at hh ⊢
        cases r with
        | ok nx v' =>
          cases nx <;> simp only [Oper.upon] at hh <;> simp only [Oper.uponIn]
          case value u => exact h _ _ hh
          case skip => exact h _ _ hh
          case defer d => exact h _ _ hh
          case enter f args =>
            refine ⟨fun hd => by simp [Fence.wide, Fence.inRound] at hd, callsIn_round (hh.mono fun e w'' he => ?_)⟩
            cases e with
            | returned v => exact h _ _ he
            | panicked c => exact he.elim
            | outgrown => exact (OnlyN.out he).elim
          case row row args =>
            refine ⟨fun hd => by simp [Fence.wide, Fence.inRound] at hd, fun c cs _ => ?_⟩
            obtain ⟨v, w', r, s⟩ := hh c cs
            exact ⟨v, w', h _ _ r, stepsIn_wide.2 s⟩
        | halt x v' => cases x <;> simp only [Oper.upon] at hh <;> exact hh.elim
      · exact (OnlyN.out hh).elim
    · rename_i hw
      simp only [hw] at hh
      exact ⟨fun f _ => trivial, h _ _ hh⟩
theorem wpAnyIn_of_any {Q : Exit → Act → World → Prop} (hnd : ∀ (i : Nat) (o : Oper), ops[i]? = some o → ∀ c, o.op ≠ .defer c) :
    ∀ (fuel : Nat) (listed : Array Bool) (a : Act) (w : World), wpAny P md ops (OnlyN Q) fuel listed a w → wpAnyIn (Fence.wide.inRound l0) m P md ops Q fuel listed a w
  | 0, _, _, _, h => ⟨h.1, h.2⟩
  | fuel + 1, _, _, _, h => ⟨fun h0 => h.1 h0, fun i hi => wpOpIn_of_wpOp (hnd i) (fun a' w' h' => wpAnyIn_of_any hnd fuel _ a' w' h') (h.2 i hi)⟩
theorem wpIn_region_held {S : World → Prop} {id : Nat} {w : World} {Q : Exit → Act → World → Prop} {a : Act} {l : List Oper} (hm : P.follows .mixedOrders = true) (hD : noDefer l = true) (hS : S w.drew)
    (h : S w.drew → wpAnyH P .any l.toArray (OnlyN Q) S l.toArray.size (Array.replicate l.toArray.size false) a w.drew) : (Code.region id l.toArray true).wpIn (Fence.wide.inRound l0) m P Q a w :=
  wpIn_region_any hm (wpAnyIn_of_any (noDefer_spec hD) _ _ _ _ (wpAny_of_held _ _ _ _ (h hS)))
end
end Go.Proofs.YtpipkeplhkccoaaGreatDoor
