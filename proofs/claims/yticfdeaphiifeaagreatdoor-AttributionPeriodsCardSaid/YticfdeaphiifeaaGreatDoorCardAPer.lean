/- The card of AttributionPeriods, out of its walk. No condition. -/
import Derived.Lib.SmallJoins
import Derived.Test.YticfdeaphiifeaaGreatDoorLf
import Derived.Test.YticfdeaphiifeaaGreatDoorLaw48q
set_option maxRecDepth 100000
namespace Go.Proofs.YticfdeaphiifeaaGreatDoor.attributionPeriods
open Go.ChangeShapes Go.WideShapes Go.ChangeAt Go.RowKit Go.Deep
theorem contract (H : Type) (enc : TypeId × Value → H) (W : World) (base : Nat) (args : Array Value) (ds gs : List (DataW H)) (before : List MemPlace)
  (hval : ∀ (j : Nat) t v, Tryz.f4.params[j]? = some t → args[j]? = some v → Value.okWide Tryz.prog W .any base t v)
  (hW : DataW.Whole enc Tryz.prog Tryz.f4.params.toList Rows.attributionPeriodsSpec.vars false W args.toList ds gs before) (hL : laidMetH Tryz.prog Rows.attributionPeriodsRow.laid W) :
  Calls Tryz.prog 4 args W fun e W' => ∃ v, e = .returned v ∧ Rows.attributionPeriodsSpec.post enc Tryz.prog Tryz.f4 false true false false W args v W' := by
 have hg : Gl W := gl_of hL (by kernel_rfl) (by kernel_rfl) (by kernel_rfl)
 refine law_contract (tb := 4) laidOut (by rw [Tryz.params4]; intro t ht; simp at ht; rcases ht with rfl <;> exact ⟨by kernel_rfl, of_decide_eq_true (by kernel_rfl)⟩) (by kernel_rfl) Tryz.underlying4 rfl ?_ hW ?_
 ·rintro rfl
  obtain ⟨p, q, hA, _⟩ := hW
  have hA' : DataW.TrodAll enc Tryz.prog W 0 (fun _ => true) true Tryz.f4.params.toList args.toList ds p := hA
  rw [Tryz.params4] at hA'
  obtain ⟨v0, vs0, d0, ds0, p0, q0, _, rfl, rfl, _, r0⟩ := trodAll_cons hA'
  obtain ⟨_, rfl, _⟩ := trodAll_nil r0
  rfl
 ·intro hA _ _
  rw [Tryz.params4] at hA hval
  obtain ⟨v0, vs0, d0, ds0, p0, q0, ha0, rfl, rfl, h0, r0⟩ := trodAll_cons hA
  obtain ⟨rfl, rfl, rfl⟩ := trodAll_nil r0
  obtain rfl : args = #[v0] := by cases args; simp_all
  obtain ⟨A0, c0, l0, rfl, row0, lc0, cm0, big0⟩ := open_nest (hval 0 22 v0 rfl rfl) h0
  exact periods48_any W rfl (by omega) big0 row0 hg
theorem laid_met (os : Os) : laidMet Tryz.prog Rows.attributionPeriodsRow.laid ((World.laidAll Tryz.prog os Rows.attributionPeriodsRow.laid).forCall (fun _ _ => 0) ⟨#[], #[.slice none 0 0], []⟩).memory :=
 laidMet_laidAll #[.slice none 0 0] (by kernel_rfl) (by kernel_rfl)
theorem reads (os : Os) {H : Type} (enc : TypeId × Value → H) : ∃ ds gs places, DataW.whole enc Tryz.prog ((World.laidAll Tryz.prog os Rows.attributionPeriodsRow.laid).forCall (fun _ _ => 0) ⟨#[], #[.slice none 0 0], []⟩).memory Tryz.f4.params.toList Rows.attributionPeriodsSpec.vars false (#[.slice none 0 0] : Array Value).toList 8 = some (ds, gs, places) :=
 ⟨[.nil], [], [], by kernel_rfl⟩
theorem lifted (os : Os) (started : os.Started) (H : Type) (enc : TypeId × Value → H) (F : Stop.Interp) :
  ReturnsInHanded {} Tryz.checked os 4 .any ((OpenSpec.ofChange Rows.attributionPeriodsSpec).preRow enc Tryz.prog Tryz.f4 Rows.attributionPeriodsRow.domain false Rows.attributionPeriodsRow.laid) (((OpenSpec.ofChange Rows.attributionPeriodsSpec).at F).post enc Tryz.prog Tryz.f4 false true false false) := by
 obtain ⟨ds, gs, places, hx⟩ := reads os enc
 refine returnsInHanded_of_row (C := Tryz.checked) (s := OpenSpec.ofChange Rows.attributionPeriodsSpec) own started (by kernel_rfl) Tryz.func4
  (witness_row_at (enc := enc) (C := Tryz.checked) false (World.laidAll Tryz.prog os Rows.attributionPeriodsRow.laid) #[.slice none 0 0] (World.laidAll_os _ _ _) (by kernel_rfl) (by kernel_rfl) (by kernel_rfl)
   (OpenSpec.preRow_of_cond 8 hx (by kernel_rfl) (fun k hk => by cases hk) (by kernel_rfl) (laid_met os))) ?_
 intro W base args ds gs before hval hW _ _ _ hL _ _
 exact contract H enc W base args ds gs before hval hW hL
theorem closed_0 : OpenClaim.wf (OpenSpec.ofChange (OpenSpec.ofChange Rows.attributionPeriodsSpec).bare) Rows.attributionPeriodsRow = true := by kernel_rfl
theorem closed_1 : laidOutB Tryz.pinned.checked.prog = true := by kernel_rfl
theorem closed_2 : mapsRowed Tryz.pinned.checked.prog = true := by kernel_rfl
theorem closed_3 : Tryz.f4.params.all (Tryz.pinned.checked.prog.readableRec ·) = true := by kernel_rfl
theorem closed_4 : namedTie Tryz.pinned.checked.prog Rows.attributionPeriodsRow.named (OpenSpec.ofChange Rows.attributionPeriodsSpec).bare.vars = true := by kernel_rfl
theorem closed_5 : (Rows.attributionPeriodsRow.stops == []) = true := by kernel_rfl
theorem closed_6 : (Tryz.pinned.checked.prog.stops == []) = true := by kernel_rfl
theorem closed_7 : (Rows.attributionPeriodsRow.knobs == []) = true := by kernel_rfl
theorem closed_8 : (Tryz.pinned.checked.prog.stopKnobs == []) = true := by kernel_rfl
theorem closed_9 : (Rows.attributionPeriodsRow.inPlace == Tryz.pinned.checked.prog.inPlace 4) = true := by kernel_rfl
theorem closed_10 : (Rows.attributionPeriodsRow.unfollowed == Tryz.pinned.checked.prog.unfollowed 4) = true := by kernel_rfl
theorem closed_11 : (Rows.attributionPeriodsRow.recurses == Tryz.pinned.checked.prog.recurses 4) = true := by kernel_rfl
theorem closed_12 : (Rows.attributionPeriodsRow.named == Tryz.pinned.checked.prog.varsNamed 4) = true := by kernel_rfl
theorem closed_13 : (Rows.attributionPeriodsRow.maps == (Tryz.f4.params.toList ++ (OpenSpec.ofChange Rows.attributionPeriodsSpec).bare.plain.varTypes Tryz.pinned.checked.prog).any (Tryz.pinned.checked.prog.mapsRec ·)) = true := by kernel_rfl
theorem closed_14 : (Rows.attributionPeriodsRow.ifaces == (Tryz.f4.params.toList ++ (OpenSpec.ofChange Rows.attributionPeriodsSpec).bare.plain.varTypes Tryz.pinned.checked.prog).any (Tryz.pinned.checked.prog.ifacesRec ·)) = true := by kernel_rfl
theorem closed_15 : (Rows.attributionPeriodsRow.mapsOut == Tryz.pinned.checked.prog.mapsAmong Tryz.f4.resultTypes.toList) = true := by kernel_rfl
theorem closed_16 : (Rows.attributionPeriodsRow.loops == (Tryz.f4.params.toList ++ (OpenSpec.ofChange Rows.attributionPeriodsSpec).bare.plain.varTypes Tryz.pinned.checked.prog).any (Tryz.pinned.checked.prog.loopsFrom ·)) = true := by kernel_rfl
theorem closed_17 : (Rows.attributionPeriodsRow.wideKeys == (Tryz.f4.params.toList ++ (OpenSpec.ofChange Rows.attributionPeriodsSpec).bare.plain.varTypes Tryz.pinned.checked.prog ++ Tryz.f4.resultTypes.toList).any (Tryz.pinned.checked.prog.wideKeysFrom ·)) = true := by kernel_rfl
theorem closed_18 : (OpenSpec.ofChange Rows.attributionPeriodsSpec).bare.vars.all (Tryz.pinned.checked.prog.varReadable ·) = true := by kernel_rfl
theorem closed_19 : Tryz.f4.resultTypes.all (fun t => Tryz.pinned.checked.prog.readableRec t && decide (t < Tryz.pinned.checked.prog.types.size)) = true := by kernel_rfl
theorem closed_20 : (Rows.attributionPeriodsRow.ifacesOut == Tryz.f4.resultTypes.toList.any (Tryz.pinned.checked.prog.ifacesRec ·)) = true := by kernel_rfl
theorem closed_21 : (Rows.attributionPeriodsRow.loopsOut == Tryz.f4.resultTypes.toList.any (Tryz.pinned.checked.prog.loopsFrom ·)) = true := by kernel_rfl
theorem closed_22 : (Rows.attributionPeriodsRow.plainKeys == Tryz.pinned.checked.prog.plainKeys) = true := by kernel_rfl
theorem closed_23 : Rows.attributionPeriodsRow.shortTexts.isNone = true := by kernel_rfl
theorem closed_24 : Tryz.pinned.checked.prog.stopsHeard = true := by kernel_rfl
theorem closed_25 : Tryz.pinned.checked.prog.mayEnter = true := by kernel_rfl
theorem closed_26 : (Rows.attributionPeriodsRow.lifted == Tryz.pinned.checked.prog.liftsFinal) = true := by kernel_rfl
theorem closed_27 : (Tryz.pinned.checked.prog.make == some Rows.attributionPeriodsRow.make) = true := by kernel_rfl
theorem closed_28 : (Rows.attributionPeriodsRow.kinds == (if Rows.attributionPeriodsRow.domain.isEmpty then [] else Tryz.f4.params.toList.map fun t => match Tryz.pinned.checked.prog.underlying t with | some (.int k) => some k | _ => none)) = true := by kernel_rfl
theorem closed_29 : (Rows.attributionPeriodsRow.pinned == Rows.attributionPeriodsRow.pinnedBy) = true := by kernel_rfl
theorem closed_30 : (Rows.attributionPeriodsRow.veiled == (Tryz.f4.params.toList ++ (OpenSpec.ofChange Rows.attributionPeriodsSpec).bare.plain.varTypes Tryz.pinned.checked.prog ++ Tryz.f4.resultTypes.toList).any (Tryz.pinned.checked.prog.veiledRec ·)) = true := by kernel_rfl
theorem closed_31 : Rows.attributionPeriodsRow.veiledFits Tryz.pinned.checked.prog Tryz.f4.params.toList (Tryz.f4.params.toList ++ (OpenSpec.ofChange Rows.attributionPeriodsSpec).bare.plain.varTypes Tryz.pinned.checked.prog ++ Tryz.f4.resultTypes.toList) = true := by kernel_rfl
theorem closed_all : joinedFacts Tryz.pinned.checked.prog 4 Tryz.f4 (OpenSpec.ofChange Rows.attributionPeriodsSpec).bare Rows.attributionPeriodsRow = true := by
 unfold joinedFacts
 simp only [Bool.and_eq_true]
 exact ⟨⟨⟨⟨⟨⟨⟨⟨⟨⟨⟨⟨⟨⟨⟨⟨⟨⟨⟨⟨⟨⟨⟨⟨⟨⟨⟨⟨⟨⟨⟨closed_0, closed_1⟩, closed_2⟩, closed_3⟩, closed_4⟩, closed_5⟩, closed_6⟩, closed_7⟩, closed_8⟩, closed_9⟩, closed_10⟩, closed_11⟩, closed_12⟩, closed_13⟩, closed_14⟩, closed_15⟩, closed_16⟩, closed_17⟩, closed_18⟩, closed_19⟩, closed_20⟩, closed_21⟩, closed_22⟩, closed_23⟩, closed_24⟩, closed_25⟩, closed_26⟩, closed_27⟩, closed_28⟩, closed_29⟩, closed_30⟩, closed_31⟩
theorem said : Rows.AttributionPeriodsSaid :=
 OpenClaim.holds_of_cond 4 Tryz.f4 rfl rfl rfl rfl rfl rfl rfl ⟨rfl, rfl, rfl, rfl, rfl⟩ rfl rfl rfl rfl rfl (by kernel_rfl) Tryz.func4 closed_all
  (of_decide_eq_true (by kernel_rfl)) (by unfold Func.isWrapper; first | (rw [if_pos (by decide +kernel)]; kernel_rfl) | (rw [if_neg (by decide +kernel)]; exact ⟨rfl, rfl⟩))
  (fun os started H enc _ F => by rw [OpenClaim.pre_eq_preRow]; exact lifted os started H enc F)
theorem plain (f : FuncId) (fn : Func) (hf : Tryz.pinned.checked.prog.funcNamed "tranche/tranchelaw48.AttributionPeriods" = some f) (hfn : Tryz.pinned.checked.prog.funcs[f]? = some fn) :
  true = Tryz.pinned.checked.prog.looks [] ∧ ∀ (j : Nat) t, fn.params[j]? = some t → Tryz.pinned.checked.prog.wantsStandIn t = false := by
 obtain rfl : f = 4 := Option.some.inj ((show Tryz.prog.funcNamed "tranche/tranchelaw48.AttributionPeriods" = some 4 by kernel_rfl).symm.trans hf) |>.symm
 obtain rfl : fn = Tryz.f4 := (Option.some.inj (Tryz.func4.symm.trans hfn)).symm
 refine ⟨by kernel_rfl, fun j t ht => ?_⟩
 rw [Tryz.params4] at ht
 have ht := Array.mem_of_getElem? ht
 simp at ht
 rcases ht with rfl
 ·exact (show Tryz.prog.wantsStandIn 22 = false by kernel_rfl)
theorem card_wf : Rows.attributionPeriodsRow.wfByText (OpenSpec.ofChange Rows.attributionPeriodsSpec) = true := by kernel_rfl
theorem card_main : Tryz.pinned.checked.prog.mainIs = some (Rows.attributionPeriodsCard.stood.harness.1, Rows.attributionPeriodsCard.stood.harness.2.toList) := by kernel_rfl
theorem card_goes : false = Rows.attributionPeriodsRow.goesBy Tryz.pinned.checked.prog := by kernel_rfl
theorem card : Rows.AttributionPeriodsCardSaid :=
 Claim7.holds_tied_plain_at .later [] _ _ _ _ said (fun _ h => by cases h) card_wf (fun _ h => by cases h) attributionPeriods_row_tie rfl ⟨rfl, rfl⟩ card_main rfl plain card_goes
end Go.Proofs.YticfdeaphiifeaaGreatDoor.attributionPeriods
