/- The card of TopOnePeriod, out of its walk. No condition. -/
import Derived.Test.YtahpbnmbphobgaaGreatDoorLf
import Derived.Lib.SmallJoins
import Derived.Test.YtahpbnmbphobgaaGreatDoorTu
import Derived.Test.YtahpbnmbphobgaaGreatDoorOpT
namespace Go.Proofs.YtahpbnmbphobgaaGreatDoor.topOnePeriod
open Go.ChangeShapes Go.WideShapes Go.ChangeAt Go.RowKit Go.Deep

set_option maxRecDepth 100000 in
theorem contract (H : Type) (enc : TypeId × Value → H) (W : World) (base : Nat) (args : Array Value) (ds gs : List (DataW H)) (before : List MemPlace)
    (hval : ∀ (j : Nat) t v, Tryz.f3.params[j]? = some t → args[j]? = some v → Value.okWide Tryz.prog W .any base t v)
    (hW : DataW.Whole enc Tryz.prog Tryz.f3.params.toList Rows.topOnePeriodSpec.vars false W args.toList ds gs before) (hL : laidMetH Tryz.prog Rows.topOnePeriodRow.laid W) :
    Calls Tryz.prog 3 args W fun e W' => ∃ v, e = .returned v ∧ Rows.topOnePeriodSpec.post enc Tryz.prog Tryz.f3 false true false false W args v W' := by
  have hg : Gl W := gl_of hL (by kernel_rfl) (by kernel_rfl) (by kernel_rfl)
  refine law_contract (tb := 4) laidOut (by rw [Tryz.params3]; intro t ht; simp at ht; rcases ht with rfl | rfl <;> exact ⟨by kernel_rfl, of_decide_eq_true (by kernel_rfl)⟩) (by kernel_rfl) Tryz.underlying4 rfl ?_ hW ?_
  · rintro rfl
    obtain ⟨p, q, hA, _⟩ := hW
    have hA' : DataW.TrodAll enc Tryz.prog W 0 (fun _ => true) true Tryz.f3.params.toList args.toList ds p := hA
    rw [Tryz.params3] at hA'
    obtain ⟨v0, vs0, d0, ds0, p0, q0, _, rfl, rfl, _, r0⟩ := trodAll_cons hA'
    obtain ⟨v1, vs1, d1, ds1, p1, q1, _, rfl, rfl, _, r1⟩ := trodAll_cons r0
    obtain ⟨_, rfl, _⟩ := trodAll_nil r1
    rfl
  · intro hA _ _
    rw [Tryz.params3] at hA hval
    obtain ⟨v0, vs0, d0, ds0, p0, q0, ha0, rfl, rfl, h0, r0⟩ := trodAll_cons hA
    obtain ⟨v1, vs1, d1, ds1, p1, q1, rfl, rfl, rfl, h1, r1⟩ := trodAll_cons r0
    obtain ⟨rfl, rfl, rfl⟩ := trodAll_nil r1
    obtain rfl : args = #[v0, v1] := by cases args; simp_all
    obtain ⟨A0, c0, l0, rfl, row0, lc0, cm0, big0⟩ := open_pts (hval 0 22 v0 rfl rfl) h0
    obtain ⟨x1, rfl, _, _, z1⟩ := open_int Tryz.underlying5 (hval 1 5 v1 rfl rfl) h1
    have b1 : 0 ≤ x1 ∧ x1 ≤ 255 := by simpa [Lit.wf, IntKind.min, IntKind.max, IntKind.signed, IntKind.bits] using z1
    exact law_any (fun s hs => big0 s hs) b1.1 (by omega) hg row0

theorem laid_met (os : Os) : laidMet Tryz.prog Rows.topOnePeriodRow.laid ((World.laidAll Tryz.prog os Rows.topOnePeriodRow.laid).forCall (fun _ _ => 0) ⟨#[], #[.slice none 0 0, .int .u8 0], []⟩).memory :=
  laidMet_laidAll #[.slice none 0 0, .int .u8 0] (by kernel_rfl) (by kernel_rfl)
theorem reads (os : Os) {H : Type} (enc : TypeId × Value → H) : ∃ ds gs places, DataW.whole enc Tryz.prog ((World.laidAll Tryz.prog os Rows.topOnePeriodRow.laid).forCall (fun _ _ => 0) ⟨#[], #[.slice none 0 0, .int .u8 0], []⟩).memory Tryz.f3.params.toList Rows.topOnePeriodSpec.vars false (#[.slice none 0 0, .int .u8 0] : Array Value).toList 8 = some (ds, gs, places) :=
  ⟨[.nil, .lit (.int .u8 0)], [], [], by kernel_rfl⟩

set_option maxRecDepth 100000 in
theorem lifted (os : Os) (started : os.Started) (H : Type) (enc : TypeId × Value → H) (F : Stop.Interp) :
    ReturnsInHanded {} Tryz.checked os 3 .any ((OpenSpec.ofChange Rows.topOnePeriodSpec).preRow enc Tryz.prog Tryz.f3 Rows.topOnePeriodRow.domain false Rows.topOnePeriodRow.laid) (((OpenSpec.ofChange Rows.topOnePeriodSpec).at F).post enc Tryz.prog Tryz.f3 false true false false) := by
  obtain ⟨ds, gs, places, hx⟩ := reads os enc
  refine returnsInHanded_of_row (C := Tryz.checked) (s := OpenSpec.ofChange Rows.topOnePeriodSpec) own started (by kernel_rfl) Tryz.func3
    (witness_row_at (enc := enc) (C := Tryz.checked) false (World.laidAll Tryz.prog os Rows.topOnePeriodRow.laid) #[.slice none 0 0, .int .u8 0] (World.laidAll_os _ _ _) (by kernel_rfl) (by kernel_rfl) (by kernel_rfl)
      (OpenSpec.preRow_of_cond 8 hx (by kernel_rfl) (fun k hk => by cases hk) (by kernel_rfl) (laid_met os))) ?_
  intro W base args ds gs before hval hW _ _ _ hL _ _
  exact contract H enc W base args ds gs before hval hW hL

theorem closed_0 : OpenClaim.wf (OpenSpec.ofChange (OpenSpec.ofChange Rows.topOnePeriodSpec).bare) Rows.topOnePeriodRow = true := by kernel_rfl
theorem closed_1 : laidOutB Tryz.pinned.checked.prog = true := by kernel_rfl
theorem closed_2 : mapsRowed Tryz.pinned.checked.prog = true := by kernel_rfl
theorem closed_3 : Tryz.f3.params.all (Tryz.pinned.checked.prog.readableRec ·) = true := by kernel_rfl
theorem closed_4 : namedTie Tryz.pinned.checked.prog Rows.topOnePeriodRow.named (OpenSpec.ofChange Rows.topOnePeriodSpec).bare.vars = true := by kernel_rfl
theorem closed_5 : (Rows.topOnePeriodRow.stops == []) = true := by kernel_rfl
theorem closed_6 : (Tryz.pinned.checked.prog.stops == []) = true := by kernel_rfl
theorem closed_7 : (Rows.topOnePeriodRow.knobs == []) = true := by kernel_rfl
theorem closed_8 : (Tryz.pinned.checked.prog.stopKnobs == []) = true := by kernel_rfl
theorem closed_9 : (Rows.topOnePeriodRow.inPlace == Tryz.pinned.checked.prog.inPlace 3) = true := by kernel_rfl
theorem closed_10 : (Rows.topOnePeriodRow.unfollowed == Tryz.pinned.checked.prog.unfollowed 3) = true := by kernel_rfl
theorem closed_11 : (Rows.topOnePeriodRow.recurses == Tryz.pinned.checked.prog.recurses 3) = true := by kernel_rfl
theorem closed_12 : (Rows.topOnePeriodRow.named == Tryz.pinned.checked.prog.varsNamed 3) = true := by kernel_rfl
theorem closed_13 : (Rows.topOnePeriodRow.maps == (Tryz.f3.params.toList ++ (OpenSpec.ofChange Rows.topOnePeriodSpec).bare.plain.varTypes Tryz.pinned.checked.prog).any (Tryz.pinned.checked.prog.mapsRec ·)) = true := by kernel_rfl
theorem closed_14 : (Rows.topOnePeriodRow.ifaces == (Tryz.f3.params.toList ++ (OpenSpec.ofChange Rows.topOnePeriodSpec).bare.plain.varTypes Tryz.pinned.checked.prog).any (Tryz.pinned.checked.prog.ifacesRec ·)) = true := by kernel_rfl
theorem closed_15 : (Rows.topOnePeriodRow.mapsOut == Tryz.pinned.checked.prog.mapsAmong Tryz.f3.resultTypes.toList) = true := by kernel_rfl
theorem closed_16 : (Rows.topOnePeriodRow.loops == (Tryz.f3.params.toList ++ (OpenSpec.ofChange Rows.topOnePeriodSpec).bare.plain.varTypes Tryz.pinned.checked.prog).any (Tryz.pinned.checked.prog.loopsFrom ·)) = true := by kernel_rfl
theorem closed_17 : (Rows.topOnePeriodRow.wideKeys == (Tryz.f3.params.toList ++ (OpenSpec.ofChange Rows.topOnePeriodSpec).bare.plain.varTypes Tryz.pinned.checked.prog ++ Tryz.f3.resultTypes.toList).any (Tryz.pinned.checked.prog.wideKeysFrom ·)) = true := by kernel_rfl
theorem closed_18 : (OpenSpec.ofChange Rows.topOnePeriodSpec).bare.vars.all (Tryz.pinned.checked.prog.varReadable ·) = true := by kernel_rfl
theorem closed_19 : Tryz.f3.resultTypes.all (fun t => Tryz.pinned.checked.prog.readableRec t && decide (t < Tryz.pinned.checked.prog.types.size)) = true := by kernel_rfl
theorem closed_20 : (Rows.topOnePeriodRow.ifacesOut == Tryz.f3.resultTypes.toList.any (Tryz.pinned.checked.prog.ifacesRec ·)) = true := by kernel_rfl
theorem closed_21 : (Rows.topOnePeriodRow.loopsOut == Tryz.f3.resultTypes.toList.any (Tryz.pinned.checked.prog.loopsFrom ·)) = true := by kernel_rfl
theorem closed_22 : (Rows.topOnePeriodRow.plainKeys == Tryz.pinned.checked.prog.plainKeys) = true := by kernel_rfl
theorem closed_23 : Rows.topOnePeriodRow.shortTexts.isNone = true := by kernel_rfl
theorem closed_24 : Tryz.pinned.checked.prog.stopsHeard = true := by kernel_rfl
theorem closed_25 : Tryz.pinned.checked.prog.mayEnter = true := by kernel_rfl
theorem closed_26 : (Rows.topOnePeriodRow.lifted == Tryz.pinned.checked.prog.liftsFinal) = true := by kernel_rfl
theorem closed_27 : (Tryz.pinned.checked.prog.make == some Rows.topOnePeriodRow.make) = true := by kernel_rfl
theorem closed_28 : (Rows.topOnePeriodRow.kinds == (if Rows.topOnePeriodRow.domain.isEmpty then [] else Tryz.f3.params.toList.map fun t => match Tryz.pinned.checked.prog.underlying t with | some (.int k) => some k | _ => none)) = true := by kernel_rfl
theorem closed_29 : (Rows.topOnePeriodRow.pinned == Rows.topOnePeriodRow.pinnedBy) = true := by kernel_rfl
theorem closed_30 : (Rows.topOnePeriodRow.veiled == (Tryz.f3.params.toList ++ (OpenSpec.ofChange Rows.topOnePeriodSpec).bare.plain.varTypes Tryz.pinned.checked.prog ++ Tryz.f3.resultTypes.toList).any (Tryz.pinned.checked.prog.veiledRec ·)) = true := by kernel_rfl
theorem closed_31 : Rows.topOnePeriodRow.veiledFits Tryz.pinned.checked.prog Tryz.f3.params.toList (Tryz.f3.params.toList ++ (OpenSpec.ofChange Rows.topOnePeriodSpec).bare.plain.varTypes Tryz.pinned.checked.prog ++ Tryz.f3.resultTypes.toList) = true := by kernel_rfl
set_option maxRecDepth 100000 in
theorem closed_all : joinedFacts Tryz.pinned.checked.prog 3 Tryz.f3 (OpenSpec.ofChange Rows.topOnePeriodSpec).bare Rows.topOnePeriodRow = true := by
  unfold joinedFacts
  simp only [Bool.and_eq_true]
  exact ⟨⟨⟨⟨⟨⟨⟨⟨⟨⟨⟨⟨⟨⟨⟨⟨⟨⟨⟨⟨⟨⟨⟨⟨⟨⟨⟨⟨⟨⟨⟨closed_0, closed_1⟩, closed_2⟩, closed_3⟩, closed_4⟩, closed_5⟩, closed_6⟩, closed_7⟩, closed_8⟩, closed_9⟩, closed_10⟩, closed_11⟩, closed_12⟩, closed_13⟩, closed_14⟩, closed_15⟩, closed_16⟩, closed_17⟩, closed_18⟩, closed_19⟩, closed_20⟩, closed_21⟩, closed_22⟩, closed_23⟩, closed_24⟩, closed_25⟩, closed_26⟩, closed_27⟩, closed_28⟩, closed_29⟩, closed_30⟩, closed_31⟩

theorem said : Rows.TopOnePeriodSaid :=
  OpenClaim.holds_of_cond 3 Tryz.f3 rfl rfl rfl rfl rfl rfl rfl ⟨rfl, rfl, rfl, rfl, rfl⟩ rfl rfl rfl rfl rfl (by kernel_rfl) Tryz.func3 closed_all
    (of_decide_eq_true (by kernel_rfl)) (by unfold Func.isWrapper; first | (rw [if_pos (by decide +kernel)]; kernel_rfl) | (rw [if_neg (by decide +kernel)]; exact ⟨rfl, rfl⟩))
    (fun os started H enc _ F => by rw [OpenClaim.pre_eq_preRow]; exact lifted os started H enc F)

theorem plain (f : FuncId) (fn : Func) (hf : Tryz.pinned.checked.prog.funcNamed "tranche/tranchetop.TopOnePeriod" = some f) (hfn : Tryz.pinned.checked.prog.funcs[f]? = some fn) :
    true = Tryz.pinned.checked.prog.looks [] ∧ ∀ (j : Nat) t, fn.params[j]? = some t → Tryz.pinned.checked.prog.wantsStandIn t = false := by
  obtain rfl : f = 3 := Option.some.inj ((show Tryz.prog.funcNamed "tranche/tranchetop.TopOnePeriod" = some 3 by kernel_rfl).symm.trans hf) |>.symm
  obtain rfl : fn = Tryz.f3 := (Option.some.inj (Tryz.func3.symm.trans hfn)).symm
  refine ⟨by kernel_rfl, fun j t ht => ?_⟩
  rw [Tryz.params3] at ht
  have ht := Array.mem_of_getElem? ht
  simp at ht
  rcases ht with rfl | rfl
  · exact (show Tryz.prog.wantsStandIn 22 = false by kernel_rfl)
  · exact (show Tryz.prog.wantsStandIn 5 = false by kernel_rfl)

theorem card : Rows.TopOnePeriodCardSaid :=
  Claim7.holds_tied_plain_at .later [] _ _ _ _ said (fun _ h => by cases h) (by kernel_rfl) (fun _ h => by cases h) topOnePeriod_row_tie rfl ⟨rfl, rfl⟩ (by kernel_rfl) rfl plain (by kernel_rfl)
end Go.Proofs.YtahpbnmbphobgaaGreatDoor.topOnePeriod
