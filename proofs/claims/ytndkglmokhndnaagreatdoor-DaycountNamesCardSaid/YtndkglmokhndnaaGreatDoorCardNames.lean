/- The card of DaycountNames, out of its walk. No condition. -/
import Derived.Test.YtndkglmokhndnaaGreatDoorLf
import Derived.Lib.SmallJoins
import Derived.Test.YtndkglmokhndnaaGreatDoorDn
namespace Go.Proofs.YtndkglmokhndnaaGreatDoor.daycountNames
open Go.ChangeShapes Go.WideShapes Go.ChangeAt Go.RowKit Go.Deep

set_option maxRecDepth 100000 in
theorem contract (H : Type) (enc : TypeId × Value → H) (W : World) (base : Nat) (args : Array Value) (ds gs : List (DataW H)) (before : List MemPlace)
    (hval : ∀ (j : Nat) t v, Tryz.f13.params[j]? = some t → args[j]? = some v → Value.okWide Tryz.prog W .any base t v)
    (hW : DataW.Whole enc Tryz.prog Tryz.f13.params.toList Rows.daycountNamesSpec.vars false W args.toList ds gs before) (hL : laidMetH Tryz.prog Rows.daycountNamesRow.laid W) :
    Calls Tryz.prog 13 args W fun e W' => ∃ v, e = .returned v ∧ Rows.daycountNamesSpec.post enc Tryz.prog Tryz.f13 false true false false W args v W' := by
  have hg : Gl W := gl_of hL (by kernel_rfl) (by kernel_rfl) (by kernel_rfl)
  refine law_contract (tb := 4) laidOut (by rw [Tryz.params13]; intro t ht; simp at ht; rcases ht with rfl | rfl <;> exact ⟨by kernel_rfl, of_decide_eq_true (by kernel_rfl)⟩) (by kernel_rfl) Tryz.underlying4 rfl ?_ hW ?_
  · rintro rfl
    obtain ⟨p, q, hA, _⟩ := hW
    have hA' : DataW.TrodAll enc Tryz.prog W 0 (fun _ => true) true Tryz.f13.params.toList args.toList ds p := hA
    rw [Tryz.params13] at hA'
    obtain ⟨v0, vs0, d0, ds0, p0, q0, _, rfl, rfl, _, r0⟩ := trodAll_cons hA'
    obtain ⟨v1, vs1, d1, ds1, p1, q1, _, rfl, rfl, _, r1⟩ := trodAll_cons r0
    obtain ⟨_, rfl, _⟩ := trodAll_nil r1
    rfl
  · intro hA _ _
    rw [Tryz.params13] at hA hval
    obtain ⟨v0, vs0, d0, ds0, p0, q0, ha0, rfl, rfl, h0, r0⟩ := trodAll_cons hA
    obtain ⟨v1, vs1, d1, ds1, p1, q1, rfl, rfl, rfl, h1, r1⟩ := trodAll_cons r0
    obtain ⟨rfl, rfl, rfl⟩ := trodAll_nil r1
    obtain rfl : args = #[v0, v1] := by cases args; simp_all
    obtain ⟨x0, rfl, _, _, z0⟩ := open_int Tryz.underlying3 (hval 0 3 v0 rfl rfl) h0
    have b0 : -9223372036854775808 ≤ x0 ∧ x0 ≤ 9223372036854775807 := by simpa [Lit.wf, IntKind.min, IntKind.max, IntKind.signed, IntKind.bits] using z0
    obtain ⟨x1, rfl, _, _, z1⟩ := Go.ChangeMaps.open_string Tryz.underlying9 (hval 1 9 v1 rfl rfl) h1
    exact names08_any x0 x1 W b0.1 b0.2 z1 hg

theorem laid_met (os : Os) : laidMet Tryz.prog Rows.daycountNamesRow.laid ((World.laidAll Tryz.prog os Rows.daycountNamesRow.laid).forCall (fun _ _ => 0) ⟨#[], #[.int .i64 0, .string ⟨#[]⟩], []⟩).memory :=
  laidMet_laidAll #[.int .i64 0, .string ⟨#[]⟩] (by kernel_rfl) (by kernel_rfl)
theorem reads (os : Os) {H : Type} (enc : TypeId × Value → H) : ∃ ds gs places, DataW.whole enc Tryz.prog ((World.laidAll Tryz.prog os Rows.daycountNamesRow.laid).forCall (fun _ _ => 0) ⟨#[], #[.int .i64 0, .string ⟨#[]⟩], []⟩).memory Tryz.f13.params.toList Rows.daycountNamesSpec.vars false (#[.int .i64 0, .string ⟨#[]⟩] : Array Value).toList 8 = some (ds, gs, places) :=
  ⟨[.lit (.int .i64 0), .lit (.string [])], [], [], by kernel_rfl⟩

set_option maxRecDepth 100000 in
theorem lifted (os : Os) (started : os.Started) (H : Type) (enc : TypeId × Value → H) (F : Stop.Interp) :
    ReturnsInHanded {} Tryz.checked os 13 .any ((OpenSpec.ofChange Rows.daycountNamesSpec).preRow enc Tryz.prog Tryz.f13 Rows.daycountNamesRow.domain false Rows.daycountNamesRow.laid) (((OpenSpec.ofChange Rows.daycountNamesSpec).at F).post enc Tryz.prog Tryz.f13 false true false false) := by
  obtain ⟨ds, gs, places, hx⟩ := reads os enc
  refine returnsInHanded_of_row (C := Tryz.checked) (s := OpenSpec.ofChange Rows.daycountNamesSpec) own started (by kernel_rfl) Tryz.func13
    (witness_row_at (enc := enc) (C := Tryz.checked) false (World.laidAll Tryz.prog os Rows.daycountNamesRow.laid) #[.int .i64 0, .string ⟨#[]⟩] (World.laidAll_os _ _ _) (by kernel_rfl) (by kernel_rfl) (by kernel_rfl)
      (OpenSpec.preRow_of_cond 8 hx (by kernel_rfl) (fun k hk => by cases hk) (by kernel_rfl) (laid_met os))) ?_
  intro W base args ds gs before hval hW _ _ _ hL _ _
  exact contract H enc W base args ds gs before hval hW hL

theorem closed_0 : OpenClaim.wf (OpenSpec.ofChange (OpenSpec.ofChange Rows.daycountNamesSpec).bare) Rows.daycountNamesRow = true := by kernel_rfl
theorem closed_1 : laidOutB Tryz.pinned.checked.prog = true := by kernel_rfl
theorem closed_2 : mapsRowed Tryz.pinned.checked.prog = true := by kernel_rfl
theorem closed_3 : Tryz.f13.params.all (Tryz.pinned.checked.prog.readableRec ·) = true := by kernel_rfl
theorem closed_4 : namedTie Tryz.pinned.checked.prog Rows.daycountNamesRow.named (OpenSpec.ofChange Rows.daycountNamesSpec).bare.vars = true := by kernel_rfl
theorem closed_5 : (Rows.daycountNamesRow.stops == []) = true := by kernel_rfl
theorem closed_6 : (Tryz.pinned.checked.prog.stops == []) = true := by kernel_rfl
theorem closed_7 : (Rows.daycountNamesRow.knobs == []) = true := by kernel_rfl
theorem closed_8 : (Tryz.pinned.checked.prog.stopKnobs == []) = true := by kernel_rfl
theorem closed_9 : (Rows.daycountNamesRow.inPlace == Tryz.pinned.checked.prog.inPlace 13) = true := by kernel_rfl
theorem closed_10 : (Rows.daycountNamesRow.unfollowed == Tryz.pinned.checked.prog.unfollowed 13) = true := by kernel_rfl
theorem closed_11 : (Rows.daycountNamesRow.recurses == Tryz.pinned.checked.prog.recurses 13) = true := by kernel_rfl
theorem closed_12 : (Rows.daycountNamesRow.named == Tryz.pinned.checked.prog.varsNamed 13) = true := by kernel_rfl
theorem closed_13 : (Rows.daycountNamesRow.maps == (Tryz.f13.params.toList ++ (OpenSpec.ofChange Rows.daycountNamesSpec).bare.plain.varTypes Tryz.pinned.checked.prog).any (Tryz.pinned.checked.prog.mapsRec ·)) = true := by kernel_rfl
theorem closed_14 : (Rows.daycountNamesRow.ifaces == (Tryz.f13.params.toList ++ (OpenSpec.ofChange Rows.daycountNamesSpec).bare.plain.varTypes Tryz.pinned.checked.prog).any (Tryz.pinned.checked.prog.ifacesRec ·)) = true := by kernel_rfl
theorem closed_15 : (Rows.daycountNamesRow.mapsOut == Tryz.pinned.checked.prog.mapsAmong Tryz.f13.resultTypes.toList) = true := by kernel_rfl
theorem closed_16 : (Rows.daycountNamesRow.loops == (Tryz.f13.params.toList ++ (OpenSpec.ofChange Rows.daycountNamesSpec).bare.plain.varTypes Tryz.pinned.checked.prog).any (Tryz.pinned.checked.prog.loopsFrom ·)) = true := by kernel_rfl
theorem closed_17 : (Rows.daycountNamesRow.wideKeys == (Tryz.f13.params.toList ++ (OpenSpec.ofChange Rows.daycountNamesSpec).bare.plain.varTypes Tryz.pinned.checked.prog ++ Tryz.f13.resultTypes.toList).any (Tryz.pinned.checked.prog.wideKeysFrom ·)) = true := by kernel_rfl
theorem closed_18 : (OpenSpec.ofChange Rows.daycountNamesSpec).bare.vars.all (Tryz.pinned.checked.prog.varReadable ·) = true := by kernel_rfl
theorem closed_19 : Tryz.f13.resultTypes.all (fun t => Tryz.pinned.checked.prog.readableRec t && decide (t < Tryz.pinned.checked.prog.types.size)) = true := by kernel_rfl
theorem closed_20 : (Rows.daycountNamesRow.ifacesOut == Tryz.f13.resultTypes.toList.any (Tryz.pinned.checked.prog.ifacesRec ·)) = true := by kernel_rfl
theorem closed_21 : (Rows.daycountNamesRow.loopsOut == Tryz.f13.resultTypes.toList.any (Tryz.pinned.checked.prog.loopsFrom ·)) = true := by kernel_rfl
theorem closed_22 : (Rows.daycountNamesRow.plainKeys == Tryz.pinned.checked.prog.plainKeys) = true := by kernel_rfl
theorem closed_23 : Rows.daycountNamesRow.shortTexts.isNone = true := by kernel_rfl
theorem closed_24 : Tryz.pinned.checked.prog.stopsHeard = true := by kernel_rfl
theorem closed_25 : Tryz.pinned.checked.prog.mayEnter = true := by kernel_rfl
theorem closed_26 : (Rows.daycountNamesRow.lifted == Tryz.pinned.checked.prog.liftsFinal) = true := by kernel_rfl
theorem closed_27 : (Tryz.pinned.checked.prog.make == some Rows.daycountNamesRow.make) = true := by kernel_rfl
theorem closed_28 : (Rows.daycountNamesRow.kinds == (if Rows.daycountNamesRow.domain.isEmpty then [] else Tryz.f13.params.toList.map fun t => match Tryz.pinned.checked.prog.underlying t with | some (.int k) => some k | _ => none)) = true := by kernel_rfl
theorem closed_29 : (Rows.daycountNamesRow.pinned == Rows.daycountNamesRow.pinnedBy) = true := by kernel_rfl
theorem closed_30 : (Rows.daycountNamesRow.veiled == (Tryz.f13.params.toList ++ (OpenSpec.ofChange Rows.daycountNamesSpec).bare.plain.varTypes Tryz.pinned.checked.prog ++ Tryz.f13.resultTypes.toList).any (Tryz.pinned.checked.prog.veiledRec ·)) = true := by kernel_rfl
theorem closed_31 : Rows.daycountNamesRow.veiledFits Tryz.pinned.checked.prog Tryz.f13.params.toList (Tryz.f13.params.toList ++ (OpenSpec.ofChange Rows.daycountNamesSpec).bare.plain.varTypes Tryz.pinned.checked.prog ++ Tryz.f13.resultTypes.toList) = true := by kernel_rfl
set_option maxRecDepth 100000 in
theorem closed_all : joinedFacts Tryz.pinned.checked.prog 13 Tryz.f13 (OpenSpec.ofChange Rows.daycountNamesSpec).bare Rows.daycountNamesRow = true := by
  unfold joinedFacts
  simp only [Bool.and_eq_true]
  exact ⟨⟨⟨⟨⟨⟨⟨⟨⟨⟨⟨⟨⟨⟨⟨⟨⟨⟨⟨⟨⟨⟨⟨⟨⟨⟨⟨⟨⟨⟨⟨closed_0, closed_1⟩, closed_2⟩, closed_3⟩, closed_4⟩, closed_5⟩, closed_6⟩, closed_7⟩, closed_8⟩, closed_9⟩, closed_10⟩, closed_11⟩, closed_12⟩, closed_13⟩, closed_14⟩, closed_15⟩, closed_16⟩, closed_17⟩, closed_18⟩, closed_19⟩, closed_20⟩, closed_21⟩, closed_22⟩, closed_23⟩, closed_24⟩, closed_25⟩, closed_26⟩, closed_27⟩, closed_28⟩, closed_29⟩, closed_30⟩, closed_31⟩

theorem said : Rows.DaycountNamesSaid :=
  OpenClaim.holds_of_cond 13 Tryz.f13 rfl rfl rfl rfl rfl rfl rfl ⟨rfl, rfl, rfl, rfl, rfl⟩ rfl rfl rfl rfl rfl (by kernel_rfl) Tryz.func13 closed_all
    (of_decide_eq_true (by kernel_rfl)) (by unfold Func.isWrapper; first | (rw [if_pos (by decide +kernel)]; kernel_rfl) | (rw [if_neg (by decide +kernel)]; exact ⟨rfl, rfl⟩))
    (fun os started H enc _ F => by rw [OpenClaim.pre_eq_preRow]; exact lifted os started H enc F)

theorem plain (f : FuncId) (fn : Func) (hf : Tryz.pinned.checked.prog.funcNamed "tranche/tranchelaw08.DaycountNames" = some f) (hfn : Tryz.pinned.checked.prog.funcs[f]? = some fn) :
    true = Tryz.pinned.checked.prog.looks [] ∧ ∀ (j : Nat) t, fn.params[j]? = some t → Tryz.pinned.checked.prog.wantsStandIn t = false := by
  obtain rfl : f = 13 := Option.some.inj ((show Tryz.prog.funcNamed "tranche/tranchelaw08.DaycountNames" = some 13 by kernel_rfl).symm.trans hf) |>.symm
  obtain rfl : fn = Tryz.f13 := (Option.some.inj (Tryz.func13.symm.trans hfn)).symm
  refine ⟨by kernel_rfl, fun j t ht => ?_⟩
  rw [Tryz.params13] at ht
  have ht := Array.mem_of_getElem? ht
  simp at ht
  rcases ht with rfl | rfl
  · exact (show Tryz.prog.wantsStandIn 3 = false by kernel_rfl)
  · exact (show Tryz.prog.wantsStandIn 9 = false by kernel_rfl)

theorem card : Rows.DaycountNamesCardSaid :=
  Claim7.holds_tied_plain_at .later [] _ _ _ _ said (fun _ h => by cases h) (by kernel_rfl) (fun _ h => by cases h) daycountNames_row_tie rfl ⟨rfl, rfl⟩ (by kernel_rfl) rfl plain (by kernel_rfl)
end Go.Proofs.YtndkglmokhndnaaGreatDoor.daycountNames
