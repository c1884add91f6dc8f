/- Regions that leave their order open, inside a round of a loop over an iterator: reads and calls alone; any operations, shown order by order. Plain facts; no condition. -/
import Derived.Test.YtdpoagcgglfijaaGreatDoorRegI
import Derived.Deep.RegionHeld
namespace Go.Proofs.YtdpoagcgglfijaaGreatDoor
open Go.RowKit

section
variable {P : Program} {ops : Array Oper} {md : Region.Mode} {C : World → Prop} {l0 m : Nat}
theorem wpAnyIn_of_quiet {Q : Act → Prop} {Q' : Exit → Act → World → Prop} (hnd : ∀ (i : Nat) (o : Oper), ops[i]? = some o → ∀ c, o.op ≠ .defer c) (hQ : ∀ a w, C w → Q a → Q' .normal a w) :
    ∀ (fuel : Nat) (listed : Array Bool) (a : Act) (w : World), C w → wpAnyQ P md ops C Q fuel listed a → wpAnyIn (Fence.wide.inRound l0) m P md ops Q' fuel listed a w
  | 0, _, _, _, hw, h => ⟨h.1, hQ _ _ hw h.2⟩
  | fuel + 1, _, _, _, hw, h => ⟨fun h0 => hQ _ _ hw (h.1 h0), fun i hi => wpOpIn_of_qOp (hnd i) hw (fun a' w' hw' h' => wpAnyIn_of_quiet hnd hQ fuel _ a' w' hw' h') (h.2 i hi)⟩
theorem wpIn_region_kept {id : Nat} {w : World} {Q : Exit → Act → World → Prop} {a : Act} {l : List Oper} (hm : P.follows .mixedOrders = true) (hB : Region.lexB .any l.toArray = true) (hD : noDefer l = true)
    (h : wpQuiet P l.toArray (fun w' => ∃ u : Kept w, w' = u.W) (fun a' => ∀ w', (∃ u : Kept w, w' = u.W) → Q .normal a' w') l a) : (Code.region id l.toArray true).wpIn (Fence.wide.inRound l0) m P Q a w := by
  simp only [Region.lexB, Bool.and_eq_true] at hB
  refine wpIn_region_any hm (wpAnyIn_of_quiet (noDefer_spec hD) (Q := fun a' => ∀ w', (∃ u : Kept w, w' = u.W) → Q .normal a' w') (fun _ w' hw' h => h w' hw') _ _ _ _ (kept_drew w) ?_)
  have := wpAnyQ_lex (C := fun w' => ∃ u : Kept w, w' = u.W) (md := .any) hB.1 l 0 (Array.replicate l.toArray.size false) a (by simp) (by simpa using hB.2) h
  simpa using this
/-- Q at the region's plain end alone -/
def OnlyN (Q : Exit → Act → World → Prop) : Exit → Act → World → Prop
  | .normal, a, w => Q .normal a w
  | _, _, _ => False
theorem OnlyN.normal {Q : Exit → Act → World → Prop} {a : Act} {w : World} (h : Q .normal a w) : OnlyN Q .normal a w := h
theorem OnlyN.out {Q : Exit → Act → World → Prop} (h : LetsOut (OnlyN Q)) : False := by
  obtain ⟨_, _, h⟩ := h
  exact h
theorem wpOpIn_of_wpOp {Q : Exit → Act → World → Prop} {i : Nat} {a : Act} {K K' : Act → World → Prop} {w : World} (hnd : ∀ o, ops[i]? = some o → ∀ c, o.op ≠ .defer c) (h : ∀ a w, K a w → K' a w) (hh : wpOp P ops (OnlyN Q) i K a w) :
    wpOpIn (Fence.wide.inRound l0) m P ops Q i K' a w := by
  unfold wpOp at hh
  unfold wpOpIn
  split
  · rename_i ho; simp only [ho] at hh; exact h _ _ hh
  · rename_i o ho
    simp only [ho] at hh
    split
    · rename_i hw
      simp only [hw, if_true] at hh
      rcases hh with hh | ⟨_, hh⟩
      · refine ⟨fun f _ => trivial, ?_⟩
        rw [Oper.semAt_eq _ _ _ (hnd o ho)]
        unfold Oper.wp at hh
        generalize (execOp a.eval o).run P w = r at hh ⊢
        cases r with
        | ok nx v' =>
          cases nx <;> simp only [Oper.upon] at hh <;> simp only [Oper.uponIn]
          case value u => exact h _ _ hh
          case skip => exact h _ _ hh
          case defer d => exact h _ _ hh
          case enter f args =>
            refine ⟨fun hd => by simp [Fence.wide, Fence.inRound] at hd, callsIn_round (hh.mono fun e w'' he => ?_)⟩
            cases e with
            | returned v => exact h _ _ he
            | panicked c => exact he.elim
            | outgrown => exact (OnlyN.out he).elim
          case row row args =>
            refine ⟨fun hd => by simp [Fence.wide, Fence.inRound] at hd, fun c cs _ => ?_⟩
            obtain ⟨v, w', r, s⟩ := hh c cs
            exact ⟨v, w', h _ _ r, stepsIn_wide.2 s⟩
        | halt x v' => cases x <;> simp only [Oper.upon] at hh <;> exact hh.elim
      · exact (OnlyN.out hh).elim
    · rename_i hw
      simp only [hw] at hh
      exact ⟨fun f _ => trivial, h _ _ hh⟩
theorem wpAnyIn_of_any {Q : Exit → Act → World → Prop} (hnd : ∀ (i : Nat) (o : Oper), ops[i]? = some o → ∀ c, o.op ≠ .defer c) :
    ∀ (fuel : Nat) (listed : Array Bool) (a : Act) (w : World), wpAny P md ops (OnlyN Q) fuel listed a w → wpAnyIn (Fence.wide.inRound l0) m P md ops Q fuel listed a w
  | 0, _, _, _, h => ⟨h.1, h.2⟩
  | fuel + 1, _, _, _, h => ⟨fun h0 => h.1 h0, fun i hi => wpOpIn_of_wpOp (hnd i) (fun a' w' h' => wpAnyIn_of_any hnd fuel _ a' w' h') (h.2 i hi)⟩
theorem wpIn_region_held {S : World → Prop} {id : Nat} {w : World} {Q : Exit → Act → World → Prop} {a : Act} {l : List Oper} (hm : P.follows .mixedOrders = true) (hD : noDefer l = true) (hS : S w.drew)
    (h : S w.drew → wpAnyH P .any l.toArray (OnlyN Q) S l.toArray.size (Array.replicate l.toArray.size false) a w.drew) : (Code.region id l.toArray true).wpIn (Fence.wide.inRound l0) m P Q a w :=
  wpIn_region_any hm (wpAnyIn_of_any (noDefer_spec hD) _ _ _ _ (wpAny_of_held _ _ _ _ (h hS)))
end
end Go.Proofs.YtdpoagcgglfijaaGreatDoor
