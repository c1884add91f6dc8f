/- The card of FeeTotals, out of its walk. No condition. -/
import Derived.Test.YtgagjpjlnlandaaGreatDoorLf
import Derived.Lib.SmallJoins
import Derived.Test.YtgagjpjlnlandaaGreatDoorFeT
import Derived.Test.YtgagjpjlnlandaaGreatDoorOpC
namespace Go.Proofs.YtgagjpjlnlandaaGreatDoor.feeTotals
open Go.ChangeShapes Go.WideShapes Go.ChangeAt Go.RowKit Go.Deep

set_option maxRecDepth 100000 in
theorem contract (H : Type) (enc : TypeId × Value → H) (W : World) (base : Nat) (args : Array Value) (ds gs : List (DataW H)) (before : List MemPlace)
    (hval : ∀ (j : Nat) t v, Tryz.f10.params[j]? = some t → args[j]? = some v → Value.okWide Tryz.prog W .any base t v)
    (hW : DataW.Whole enc Tryz.prog Tryz.f10.params.toList Rows.feeTotalsSpec.vars false W args.toList ds gs before) (hL : laidMetH Tryz.prog Rows.feeTotalsRow.laid W) :
    Calls Tryz.prog 10 args W fun e W' => ∃ v, e = .returned v ∧ Rows.feeTotalsSpec.post enc Tryz.prog Tryz.f10 false true false false W args v W' := by
  have hg : Gl W := gl_of hL (by kernel_rfl) (by kernel_rfl) (by kernel_rfl)
  refine law_contract (tb := 4) laidOut (by rw [Tryz.params10]; intro t ht; simp at ht; rcases ht with rfl | rfl <;> exact ⟨by kernel_rfl, of_decide_eq_true (by kernel_rfl)⟩) (by kernel_rfl) Tryz.underlying4 rfl ?_ hW ?_
  · rintro rfl
    obtain ⟨p, q, hA, _⟩ := hW
    have hA' : DataW.TrodAll enc Tryz.prog W 0 (fun _ => true) true Tryz.f10.params.toList args.toList ds p := hA
    rw [Tryz.params10] at hA'
    obtain ⟨v0, vs0, d0, ds0, p0, q0, _, rfl, rfl, _, r0⟩ := trodAll_cons hA'
    obtain ⟨v1, vs1, d1, ds1, p1, q1, _, rfl, rfl, _, r1⟩ := trodAll_cons r0
    obtain ⟨_, rfl, _⟩ := trodAll_nil r1
    rfl
  · intro hA _ _
    rw [Tryz.params10] at hA hval
    obtain ⟨v0, vs0, d0, ds0, p0, q0, ha0, rfl, rfl, h0, r0⟩ := trodAll_cons hA
    obtain ⟨v1, vs1, d1, ds1, p1, q1, rfl, rfl, rfl, h1, r1⟩ := trodAll_cons r0
    obtain ⟨rfl, rfl, rfl⟩ := trodAll_nil r1
    obtain rfl : args = #[v0, v1] := by cases args; simp_all
    obtain ⟨A0, c0, l0, rfl, row0, lc0, cm0, big0⟩ := open_chs (hval 0 72 v0 rfl rfl) h0
    obtain ⟨x1, rfl, _, _, z1⟩ := open_int Tryz.underlying5 (hval 1 5 v1 rfl rfl) h1
    have b1 : 0 ≤ x1 ∧ x1 ≤ 255 := by simpa [Lit.wf, IntKind.min, IntKind.max, IntKind.signed, IntKind.bits] using z1
    exact (by
      obtain ⟨p, rfl⟩ : ∃ m : Nat, x1 = (m : Int) := ⟨x1.toNat, by omega⟩
      exact totals_any rfl lc0 cm0 (by omega) (fun s hs => ⟨(big0 s hs).1, (big0 s hs).2.1⟩) W hg row0)

theorem laid_met (os : Os) : laidMet Tryz.prog Rows.feeTotalsRow.laid ((World.laidAll Tryz.prog os Rows.feeTotalsRow.laid).forCall (fun _ _ => 0) ⟨#[], #[.slice none 0 0, .int .u8 0], []⟩).memory :=
  laidMet_laidAll #[.slice none 0 0, .int .u8 0] (by kernel_rfl) (by kernel_rfl)
theorem reads (os : Os) {H : Type} (enc : TypeId × Value → H) : ∃ ds gs places, DataW.whole enc Tryz.prog ((World.laidAll Tryz.prog os Rows.feeTotalsRow.laid).forCall (fun _ _ => 0) ⟨#[], #[.slice none 0 0, .int .u8 0], []⟩).memory Tryz.f10.params.toList Rows.feeTotalsSpec.vars false (#[.slice none 0 0, .int .u8 0] : Array Value).toList 8 = some (ds, gs, places) :=
  ⟨[.nil, .lit (.int .u8 0)], [], [], by kernel_rfl⟩

set_option maxRecDepth 100000 in
theorem lifted (os : Os) (started : os.Started) (H : Type) (enc : TypeId × Value → H) (F : Stop.Interp) :
    ReturnsInHanded {} Tryz.checked os 10 .any ((OpenSpec.ofChange Rows.feeTotalsSpec).preRow enc Tryz.prog Tryz.f10 Rows.feeTotalsRow.domain false Rows.feeTotalsRow.laid) (((OpenSpec.ofChange Rows.feeTotalsSpec).at F).post enc Tryz.prog Tryz.f10 false true false false) := by
  obtain ⟨ds, gs, places, hx⟩ := reads os enc
  refine returnsInHanded_of_row (C := Tryz.checked) (s := OpenSpec.ofChange Rows.feeTotalsSpec) own started (by kernel_rfl) Tryz.func10
    (witness_row_at (enc := enc) (C := Tryz.checked) false (World.laidAll Tryz.prog os Rows.feeTotalsRow.laid) #[.slice none 0 0, .int .u8 0] (World.laidAll_os _ _ _) (by kernel_rfl) (by kernel_rfl) (by kernel_rfl)
      (OpenSpec.preRow_of_cond 8 hx (by kernel_rfl) (fun k hk => by cases hk) (by kernel_rfl) (laid_met os))) ?_
  intro W base args ds gs before hval hW _ _ _ hL _ _
  exact contract H enc W base args ds gs before hval hW hL

theorem closed_0 : OpenClaim.wf (OpenSpec.ofChange (OpenSpec.ofChange Rows.feeTotalsSpec).bare) Rows.feeTotalsRow = true := by kernel_rfl
theorem closed_1 : laidOutB Tryz.pinned.checked.prog = true := by kernel_rfl
theorem closed_2 : mapsRowed Tryz.pinned.checked.prog = true := by kernel_rfl
theorem closed_3 : Tryz.f10.params.all (Tryz.pinned.checked.prog.readableRec ·) = true := by kernel_rfl
theorem closed_4 : namedTie Tryz.pinned.checked.prog Rows.feeTotalsRow.named (OpenSpec.ofChange Rows.feeTotalsSpec).bare.vars = true := by kernel_rfl
theorem closed_5 : (Rows.feeTotalsRow.stops == []) = true := by kernel_rfl
theorem closed_6 : (Tryz.pinned.checked.prog.stops == []) = true := by kernel_rfl
theorem closed_7 : (Rows.feeTotalsRow.knobs == []) = true := by kernel_rfl
theorem closed_8 : (Tryz.pinned.checked.prog.stopKnobs == []) = true := by kernel_rfl
theorem closed_9 : (Rows.feeTotalsRow.inPlace == Tryz.pinned.checked.prog.inPlace 10) = true := by kernel_rfl
theorem closed_10 : (Rows.feeTotalsRow.unfollowed == Tryz.pinned.checked.prog.unfollowed 10) = true := by kernel_rfl
theorem closed_11 : (Rows.feeTotalsRow.recurses == Tryz.pinned.checked.prog.recurses 10) = true := by kernel_rfl
theorem closed_12 : (Rows.feeTotalsRow.named == Tryz.pinned.checked.prog.varsNamed 10) = true := by kernel_rfl
theorem closed_13 : (Rows.feeTotalsRow.maps == (Tryz.f10.params.toList ++ (OpenSpec.ofChange Rows.feeTotalsSpec).bare.plain.varTypes Tryz.pinned.checked.prog).any (Tryz.pinned.checked.prog.mapsRec ·)) = true := by kernel_rfl
theorem closed_14 : (Rows.feeTotalsRow.ifaces == (Tryz.f10.params.toList ++ (OpenSpec.ofChange Rows.feeTotalsSpec).bare.plain.varTypes Tryz.pinned.checked.prog).any (Tryz.pinned.checked.prog.ifacesRec ·)) = true := by kernel_rfl
theorem closed_15 : (Rows.feeTotalsRow.mapsOut == Tryz.pinned.checked.prog.mapsAmong Tryz.f10.resultTypes.toList) = true := by kernel_rfl
theorem closed_16 : (Rows.feeTotalsRow.loops == (Tryz.f10.params.toList ++ (OpenSpec.ofChange Rows.feeTotalsSpec).bare.plain.varTypes Tryz.pinned.checked.prog).any (Tryz.pinned.checked.prog.loopsFrom ·)) = true := by kernel_rfl
theorem closed_17 : (Rows.feeTotalsRow.wideKeys == (Tryz.f10.params.toList ++ (OpenSpec.ofChange Rows.feeTotalsSpec).bare.plain.varTypes Tryz.pinned.checked.prog ++ Tryz.f10.resultTypes.toList).any (Tryz.pinned.checked.prog.wideKeysFrom ·)) = true := by kernel_rfl
theorem closed_18 : (OpenSpec.ofChange Rows.feeTotalsSpec).bare.vars.all (Tryz.pinned.checked.prog.varReadable ·) = true := by kernel_rfl
theorem closed_19 : Tryz.f10.resultTypes.all (fun t => Tryz.pinned.checked.prog.readableRec t && decide (t < Tryz.pinned.checked.prog.types.size)) = true := by kernel_rfl
theorem closed_20 : (Rows.feeTotalsRow.ifacesOut == Tryz.f10.resultTypes.toList.any (Tryz.pinned.checked.prog.ifacesRec ·)) = true := by kernel_rfl
theorem closed_21 : (Rows.feeTotalsRow.loopsOut == Tryz.f10.resultTypes.toList.any (Tryz.pinned.checked.prog.loopsFrom ·)) = true := by kernel_rfl
theorem closed_22 : (Rows.feeTotalsRow.plainKeys == Tryz.pinned.checked.prog.plainKeys) = true := by kernel_rfl
theorem closed_23 : Rows.feeTotalsRow.shortTexts.isNone = true := by kernel_rfl
theorem closed_24 : Tryz.pinned.checked.prog.stopsHeard = true := by kernel_rfl
theorem closed_25 : Tryz.pinned.checked.prog.mayEnter = true := by kernel_rfl
theorem closed_26 : (Rows.feeTotalsRow.lifted == Tryz.pinned.checked.prog.liftsFinal) = true := by kernel_rfl
theorem closed_27 : (Tryz.pinned.checked.prog.make == some Rows.feeTotalsRow.make) = true := by kernel_rfl
theorem closed_28 : (Rows.feeTotalsRow.kinds == (if Rows.feeTotalsRow.domain.isEmpty then [] else Tryz.f10.params.toList.map fun t => match Tryz.pinned.checked.prog.underlying t with | some (.int k) => some k | _ => none)) = true := by kernel_rfl
theorem closed_29 : (Rows.feeTotalsRow.pinned == Rows.feeTotalsRow.pinnedBy) = true := by kernel_rfl
theorem closed_30 : (Rows.feeTotalsRow.veiled == (Tryz.f10.params.toList ++ (OpenSpec.ofChange Rows.feeTotalsSpec).bare.plain.varTypes Tryz.pinned.checked.prog ++ Tryz.f10.resultTypes.toList).any (Tryz.pinned.checked.prog.veiledRec ·)) = true := by kernel_rfl
theorem closed_31 : Rows.feeTotalsRow.veiledFits Tryz.pinned.checked.prog Tryz.f10.params.toList (Tryz.f10.params.toList ++ (OpenSpec.ofChange Rows.feeTotalsSpec).bare.plain.varTypes Tryz.pinned.checked.prog ++ Tryz.f10.resultTypes.toList) = true := by kernel_rfl
set_option maxRecDepth 100000 in
theorem closed_all : joinedFacts Tryz.pinned.checked.prog 10 Tryz.f10 (OpenSpec.ofChange Rows.feeTotalsSpec).bare Rows.feeTotalsRow = true := by
  unfold joinedFacts
  simp only [Bool.and_eq_true]
  exact ⟨⟨⟨⟨⟨⟨⟨⟨⟨⟨⟨⟨⟨⟨⟨⟨⟨⟨⟨⟨⟨⟨⟨⟨⟨⟨⟨⟨⟨⟨⟨closed_0, closed_1⟩, closed_2⟩, closed_3⟩, closed_4⟩, closed_5⟩, closed_6⟩, closed_7⟩, closed_8⟩, closed_9⟩, closed_10⟩, closed_11⟩, closed_12⟩, closed_13⟩, closed_14⟩, closed_15⟩, closed_16⟩, closed_17⟩, closed_18⟩, closed_19⟩, closed_20⟩, closed_21⟩, closed_22⟩, closed_23⟩, closed_24⟩, closed_25⟩, closed_26⟩, closed_27⟩, closed_28⟩, closed_29⟩, closed_30⟩, closed_31⟩

theorem said : Rows.FeeTotalsSaid :=
  OpenClaim.holds_of_cond 10 Tryz.f10 rfl rfl rfl rfl rfl rfl rfl ⟨rfl, rfl, rfl, rfl, rfl⟩ rfl rfl rfl rfl rfl (by kernel_rfl) Tryz.func10 closed_all
    (of_decide_eq_true (by kernel_rfl)) (by unfold Func.isWrapper; first | (rw [if_pos (by decide +kernel)]; kernel_rfl) | (rw [if_neg (by decide +kernel)]; exact ⟨rfl, rfl⟩))
    (fun os started H enc _ F => by rw [OpenClaim.pre_eq_preRow]; exact lifted os started H enc F)

theorem plain (f : FuncId) (fn : Func) (hf : Tryz.pinned.checked.prog.funcNamed "tranche/tranchelaw45.FeeTotals" = some f) (hfn : Tryz.pinned.checked.prog.funcs[f]? = some fn) :
    true = Tryz.pinned.checked.prog.looks [] ∧ ∀ (j : Nat) t, fn.params[j]? = some t → Tryz.pinned.checked.prog.wantsStandIn t = false := by
  obtain rfl : f = 10 := Option.some.inj ((show Tryz.prog.funcNamed "tranche/tranchelaw45.FeeTotals" = some 10 by kernel_rfl).symm.trans hf) |>.symm
  obtain rfl : fn = Tryz.f10 := (Option.some.inj (Tryz.func10.symm.trans hfn)).symm
  refine ⟨by kernel_rfl, fun j t ht => ?_⟩
  rw [Tryz.params10] at ht
  have ht := Array.mem_of_getElem? ht
  simp at ht
  rcases ht with rfl | rfl
  · exact (show Tryz.prog.wantsStandIn 72 = false by kernel_rfl)
  · exact (show Tryz.prog.wantsStandIn 5 = false by kernel_rfl)

theorem card : Rows.FeeTotalsCardSaid :=
  Claim7.holds_tied_plain_at .later [] _ _ _ _ said (fun _ h => by cases h) (by kernel_rfl) (fun _ h => by cases h) feeTotals_row_tie rfl ⟨rfl, rfl⟩ (by kernel_rfl) rfl plain (by kernel_rfl)
end Go.Proofs.YtgagjpjlnlandaaGreatDoor.feeTotals
