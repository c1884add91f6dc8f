/- Regions that leave their order open, inside a round of a loop over an iterator: reads and calls that turn nothing old, then stores in one forced order. Plain facts; no condition. -/
import Derived.Test.YtdpoagcgglfijaaGreatDoorFa
import Derived.OrdersIn
import Derived.TacticsIn
namespace Go.Proofs.YtdpoagcgglfijaaGreatDoor
open Go.RowKit

section
variable {P : Program} {ops : Array Oper} {md : Region.Mode} {C : World → Prop} {l0 m : Nat}
theorem callsIn_round {f : FuncId} {args : Array Value} {w : World} {R : Ending → World → Prop} (h : Calls P f args w R) : CallsIn (Fence.wide.inRound l0) m P f args w R := callsIn_wide.2 h
theorem wpOpIn_of_qOp {i : Nat} {a : Act} {K : Act → Prop} {K' : Act → World → Prop} {Q' : Exit → Act → World → Prop} {w : World} (hnd : ∀ o, ops[i]? = some o → ∀ c, o.op ≠ .defer c) (hC : C w) (h : ∀ a w', C w' → K a → K' a w') (hh : qOp P ops C i K a) :
    wpOpIn (Fence.wide.inRound l0) m P ops Q' i K' a w := by
  unfold qOp at hh
  unfold wpOpIn
  split
  · rename_i ho; simp only [ho] at hh; exact h _ _ hC hh
  · rename_i o ho
    simp only [ho] at hh
    split
    · rename_i hw
      simp only [hw, if_true] at hh
      obtain ⟨v, h1, h2⟩ := hh
      refine ⟨fun f _ => trivial, ?_⟩
      rw [Oper.semAt_eq _ _ _ (hnd o ho)]
      have hq := h1 w hC
      unfold Oper.quietAt at hq
      generalize (execOp a.eval o).run P w = r at hq ⊢
      cases r with
      | ok nx v' =>
        cases nx <;> simp only [Oper.quietUpon] at hq <;> simp only [Oper.uponIn]
        case value u =>
          obtain ⟨e1, e2⟩ := hq
          subst e1 e2
          exact h _ _ hC h2
        case skip =>
          obtain ⟨e1, e2⟩ := hq
          subst e1 e2
          exact h _ _ hC h2
        case enter f args =>
          obtain ⟨e1, hc⟩ := hq
          subst e1
          refine ⟨fun hd => by simp [Fence.wide, Fence.inRound] at hd, callsIn_round (hc.mono fun e w'' ⟨he, hw''⟩ => ?_)⟩
          subst he
          exact h _ _ hw'' h2
      | halt x v' => simp only [Oper.quietUpon] at hq
    · rename_i hw
      simp only [hw] at hh
      exact ⟨fun f _ => trivial, h _ _ hC hh⟩
theorem HeadAny.soundIn {n g : Nat} {L : Array Bool → Act → Prop} {Q : Exit → Act → World → Prop} (hnd : ∀ (i : Nat) (o : Oper), ops[i]? = some o → ∀ c, o.op ≠ .defer c) (hL : ∀ s a w, C w → L s a → wpAnyIn (Fence.wide.inRound l0) m P md ops Q g s a w) :
    ∀ (f : Nat) (s : Array Bool) (a : Act) (w : World), C w → HeadAny P md ops C n L f s a → wpAnyIn (Fence.wide.inRound l0) m P md ops Q (f + g) s a w
  | 0, s, a, w, hw, h => by rw [Nat.zero_add]; exact hL s a w hw h
  | f + 1, s, a, w, hw, h => by
    rw [Nat.succ_add]
    exact ⟨fun h0 => absurd h0 h.1, fun i hi => wpOpIn_of_qOp (hnd i) hw (fun a' w' hw' h' => HeadAny.soundIn hnd hL f _ a' w' hw' h') (h.2 i hi).2⟩
theorem wpAnyIn_of_seq {F : Fence} {Q' : Exit → Act → World → Prop} : ∀ (l : List Oper) (k : Nat) (listed : Array Bool) (a : Act) (w : World), (∀ j, l[j]? = ops[k + j]?) →
    Region.seqB md ops l.length k listed = true → wpListIn F m P ops Q' l a w → wpAnyIn F m P md ops Q' l.length listed a w
  | [], _, _, _, _, _, hB, h => ⟨by simpa [Region.seqB] using hB, h⟩
  | o :: l, k, listed, a, w, hl, hB, h => by
    have h0 : ops[k]? = some o := by simpa using (hl 0).symm
    simp only [List.length_cons, Region.seqB, Bool.and_eq_true, decide_eq_true_eq] at hB
    refine ⟨fun h1 => (by rw [hB.1] at h1; cases h1), fun i hi => ?_⟩
    rw [hB.1] at hi
    have hik : i = k := by simpa using hi
    subst hik
    have hw : wpOpIn F m P ops Q' i (wpListIn F m P ops Q' l) a w := by unfold wpOpIn; simp only [h0]; exact h
    exact wpOpIn_mono (fun a' w' h' => wpAnyIn_of_seq l (i + 1) _ a' w' (fun j => by have := hl (j + 1); simpa [Nat.add_assoc, Nat.add_comm 1 j] using this) hB.2 h') hw
def noDefer (l : List Oper) : Bool := l.all fun o => match o.op with | .defer _ => false | _ => true
theorem noDefer_spec {l : List Oper} (h : noDefer l = true) : ∀ (i : Nat) (o : Oper), l.toArray[i]? = some o → ∀ c, o.op ≠ .defer c := by
  intro i o ho c e
  have hm : o ∈ l := List.mem_of_getElem? (by simpa using ho)
  unfold noDefer at h
  have := List.all_eq_true.1 h o hm
  rw [e] at this
  cases this
theorem wpIn_region_kept_tail {id : Nat} {w : World} {Q : Exit → Act → World → Prop} {a : Act} {l : List Oper} (n : Nat) (hm : P.follows .mixedOrders = true) (hB : Region.lexTailB .any l.toArray n = true) (hD : noDefer l = true)
    (h : wpQuiet P l.toArray (fun w' => ∃ u : Kept w, w' = u.W) (fun a' => ∀ w', (∃ u : Kept w, w' = u.W) → wpListIn (Fence.wide.inRound l0) m P l.toArray Q (l.drop n) a' w') (l.take n) a) : (Code.region id l.toArray true).wpIn (Fence.wide.inRound l0) m P Q a w := by
  simp only [Region.lexTailB, Bool.and_eq_true, decide_eq_true_eq] at hB
  obtain ⟨⟨⟨⟨hns, hn⟩, hs⟩, hc⟩, hlex⟩ := hB
  have hn' : n < l.length := hn
  have htl : (l.take n).length = n := by rw [List.length_take]; omega
  have hdl : (l.drop n).length = l.toArray.size - n := by rw [List.length_drop]; rfl
  have inv0 : HeadInv .any l.toArray n (Array.replicate l.toArray.size false) :=
    ⟨by simp, fun j oj _ hl => (by rw [getD_replicate_false] at hl; cases hl), fun t _ ht => getD_in (by simpa using ht) (getD_replicate_false _ _)⟩
  have H := HeadAny.lex (md := .any) (g := l.toArray.size - n) hns hs hc hn (l.take n) 0 _ a (fun j hj => by
    rw [htl] at hj
    simp [hj]) (by rw [htl]; exact Nat.zero_add n) inv0 (by rw [htl]; exact hlex) h
  have H2 := HeadAny.soundIn (l0 := l0) (m := m) (Q := Q) (g := l.toArray.size - n) (noDefer_spec hD) (fun s a' w' hw hL => by
    have := wpAnyIn_of_seq (F := Fence.wide.inRound l0) (m := m) (md := .any) (Q' := Q) (l.drop n) n s a' w' (fun j => by simp [List.getElem?_drop]) (by rw [hdl]; exact hL.1) (hL.2 w' hw)
    rwa [hdl] at this) _ _ _ _ (kept_drew w) H
  rw [htl, show n + (l.toArray.size - n) = l.toArray.size by omega] at H2
  exact wpIn_region_any hm H2
end
end Go.Proofs.YtdpoagcgglfijaaGreatDoor
