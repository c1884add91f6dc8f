/- The card of FeeFees, out of its walk. No condition. -/
import Derived.Test.YtgagjpjlnlandaaGreatDoorLf
import Derived.Lib.SmallJoins
import Derived.Test.YtgagjpjlnlandaaGreatDoorFeF
import Derived.Test.YtgagjpjlnlandaaGreatDoorOpF
namespace Go.Proofs.YtgagjpjlnlandaaGreatDoor.feeFees
open Go.ChangeShapes Go.WideShapes Go.ChangeAt Go.RowKit Go.Deep

set_option maxRecDepth 100000 in
theorem contract (H : Type) (enc : TypeId × Value → H) (W : World) (base : Nat) (args : Array Value) (ds gs : List (DataW H)) (before : List MemPlace)
    (hval : ∀ (j : Nat) t v, Tryz.f7.params[j]? = some t → args[j]? = some v → Value.okWide Tryz.prog W .any base t v)
    (hW : DataW.Whole enc Tryz.prog Tryz.f7.params.toList Rows.feeFeesSpec.vars false W args.toList ds gs before) (hL : laidMetH Tryz.prog Rows.feeFeesRow.laid W) :
    Calls Tryz.prog 7 args W fun e W' => ∃ v, e = .returned v ∧ Rows.feeFeesSpec.post enc Tryz.prog Tryz.f7 false true false false W args v W' := by
  have hg : Gl W := gl_of hL (by kernel_rfl) (by kernel_rfl) (by kernel_rfl)
  refine law_contract (tb := 4) laidOut (by rw [Tryz.params7]; intro t ht; simp at ht; rcases ht with rfl | rfl | rfl | rfl <;> exact ⟨by kernel_rfl, of_decide_eq_true (by kernel_rfl)⟩) (by kernel_rfl) Tryz.underlying4 rfl ?_ hW ?_
  · rintro rfl
    obtain ⟨p, q, hA, _⟩ := hW
    have hA' : DataW.TrodAll enc Tryz.prog W 0 (fun _ => true) true Tryz.f7.params.toList args.toList ds p := hA
    rw [Tryz.params7] at hA'
    obtain ⟨v0, vs0, d0, ds0, p0, q0, _, rfl, rfl, _, r0⟩ := trodAll_cons hA'
    obtain ⟨v1, vs1, d1, ds1, p1, q1, _, rfl, rfl, _, r1⟩ := trodAll_cons r0
    obtain ⟨v2, vs2, d2, ds2, p2, q2, _, rfl, rfl, _, r2⟩ := trodAll_cons r1
    obtain ⟨v3, vs3, d3, ds3, p3, q3, _, rfl, rfl, _, r3⟩ := trodAll_cons r2
    obtain ⟨v4, vs4, d4, ds4, p4, q4, _, rfl, rfl, _, r4⟩ := trodAll_cons r3
    obtain ⟨_, rfl, _⟩ := trodAll_nil r4
    rfl
  · intro hA _ _
    rw [Tryz.params7] at hA hval
    obtain ⟨v0, vs0, d0, ds0, p0, q0, ha0, rfl, rfl, h0, r0⟩ := trodAll_cons hA
    obtain ⟨v1, vs1, d1, ds1, p1, q1, rfl, rfl, rfl, h1, r1⟩ := trodAll_cons r0
    obtain ⟨v2, vs2, d2, ds2, p2, q2, rfl, rfl, rfl, h2, r2⟩ := trodAll_cons r1
    obtain ⟨v3, vs3, d3, ds3, p3, q3, rfl, rfl, rfl, h3, r3⟩ := trodAll_cons r2
    obtain ⟨v4, vs4, d4, ds4, p4, q4, rfl, rfl, rfl, h4, r4⟩ := trodAll_cons r3
    obtain ⟨rfl, rfl, rfl⟩ := trodAll_nil r4
    obtain rfl : args = #[v0, v1, v2, v3, v4] := by cases args; simp_all
    obtain ⟨⟨mn0, md0, pn0, pd0, ct0⟩, rfl, big0⟩ := open_terms (hval 0 54 v0 rfl rfl) h0
    obtain ⟨x1, rfl, _, _, z1⟩ := Go.ChangeMaps.open_string Tryz.underlying32 (hval 1 32 v1 rfl rfl) h1
    obtain ⟨x2, rfl, _, _, z2⟩ := Go.ChangeMaps.open_string Tryz.underlying32 (hval 2 32 v2 rfl rfl) h2
    obtain ⟨c0, c1, y0, y1, m, rfl, rfl, rfl, hy0, hy1⟩ := Joins.open_agg2 Tryz.underlying34 (by kernel_rfl) (by kernel_rfl) (hval 3 34 v3 rfl rfl) h3
    obtain ⟨x3a, e0, _, z3a⟩ := DataW.trod_string Tryz.underlying32 hy0
    obtain ⟨x3b, e1, _, z3b⟩ := DataW.trod_string Tryz.underlying32 hy1
    simp at e0 e1
    subst e0 e1
    obtain ⟨c0, c1, y0, y1, m, rfl, rfl, rfl, hy0, hy1⟩ := Joins.open_agg2 Tryz.underlying56 (by kernel_rfl) (by kernel_rfl) (hval 4 56 v4 rfl rfl) h4
    obtain ⟨x4a, e0, _, _⟩ := DataW.trod_int Tryz.underlying43 hy0
    obtain ⟨x4b, e1, _, _⟩ := DataW.trod_int Tryz.underlying43 hy1
    simp at e0 e1
    subst e0 e1
    exact fees_any big0 z1 z2 z3a z3b W hg

theorem laid_met (os : Os) : laidMet Tryz.prog Rows.feeFeesRow.laid ((World.laidAll Tryz.prog os Rows.feeFeesRow.laid).forCall (fun _ _ => 0) ⟨#[], #[.agg #[.string ⟨#[]⟩, .string ⟨#[]⟩, .string ⟨#[]⟩, .string ⟨#[]⟩, .int .i64 0], .string ⟨#[]⟩, .string ⟨#[]⟩, .agg #[.string ⟨#[]⟩, .string ⟨#[]⟩], .agg #[.int .i64 0, .int .i64 0]], []⟩).memory :=
  laidMet_laidAll #[.agg #[.string ⟨#[]⟩, .string ⟨#[]⟩, .string ⟨#[]⟩, .string ⟨#[]⟩, .int .i64 0], .string ⟨#[]⟩, .string ⟨#[]⟩, .agg #[.string ⟨#[]⟩, .string ⟨#[]⟩], .agg #[.int .i64 0, .int .i64 0]] (by kernel_rfl) (by kernel_rfl)
theorem reads (os : Os) {H : Type} (enc : TypeId × Value → H) : ∃ ds gs places, DataW.whole enc Tryz.prog ((World.laidAll Tryz.prog os Rows.feeFeesRow.laid).forCall (fun _ _ => 0) ⟨#[], #[.agg #[.string ⟨#[]⟩, .string ⟨#[]⟩, .string ⟨#[]⟩, .string ⟨#[]⟩, .int .i64 0], .string ⟨#[]⟩, .string ⟨#[]⟩, .agg #[.string ⟨#[]⟩, .string ⟨#[]⟩], .agg #[.int .i64 0, .int .i64 0]], []⟩).memory Tryz.f7.params.toList Rows.feeFeesSpec.vars false (#[.agg #[.string ⟨#[]⟩, .string ⟨#[]⟩, .string ⟨#[]⟩, .string ⟨#[]⟩, .int .i64 0], .string ⟨#[]⟩, .string ⟨#[]⟩, .agg #[.string ⟨#[]⟩, .string ⟨#[]⟩], .agg #[.int .i64 0, .int .i64 0]] : Array Value).toList 8 = some (ds, gs, places) :=
  ⟨[.agg [.agg [.lit (.string []), .lit (.string [])], .agg [.lit (.string []), .lit (.string [])], .lit (.int .i64 0)], .lit (.string []), .lit (.string []), .agg [.lit (.string []), .lit (.string [])], .agg [.lit (.int .i64 0), .lit (.int .i64 0)]], [], [], by kernel_rfl⟩

set_option maxRecDepth 100000 in
theorem lifted (os : Os) (started : os.Started) (H : Type) (enc : TypeId × Value → H) (F : Stop.Interp) :
    ReturnsInHanded {} Tryz.checked os 7 .any ((OpenSpec.ofChange Rows.feeFeesSpec).preRow enc Tryz.prog Tryz.f7 Rows.feeFeesRow.domain false Rows.feeFeesRow.laid) (((OpenSpec.ofChange Rows.feeFeesSpec).at F).post enc Tryz.prog Tryz.f7 false true false false) := by
  obtain ⟨ds, gs, places, hx⟩ := reads os enc
  refine returnsInHanded_of_row (C := Tryz.checked) (s := OpenSpec.ofChange Rows.feeFeesSpec) own started (by kernel_rfl) Tryz.func7
    (witness_row_at (enc := enc) (C := Tryz.checked) false (World.laidAll Tryz.prog os Rows.feeFeesRow.laid) #[.agg #[.string ⟨#[]⟩, .string ⟨#[]⟩, .string ⟨#[]⟩, .string ⟨#[]⟩, .int .i64 0], .string ⟨#[]⟩, .string ⟨#[]⟩, .agg #[.string ⟨#[]⟩, .string ⟨#[]⟩], .agg #[.int .i64 0, .int .i64 0]] (World.laidAll_os _ _ _) (by kernel_rfl) (by kernel_rfl) (by kernel_rfl)
      (OpenSpec.preRow_of_cond 8 hx (by kernel_rfl) (fun k hk => by cases hk) (by kernel_rfl) (laid_met os))) ?_
  intro W base args ds gs before hval hW _ _ _ hL _ _
  exact contract H enc W base args ds gs before hval hW hL

theorem closed_0 : OpenClaim.wf (OpenSpec.ofChange (OpenSpec.ofChange Rows.feeFeesSpec).bare) Rows.feeFeesRow = true := by kernel_rfl
theorem closed_1 : laidOutB Tryz.pinned.checked.prog = true := by kernel_rfl
theorem closed_2 : mapsRowed Tryz.pinned.checked.prog = true := by kernel_rfl
theorem closed_3 : Tryz.f7.params.all (Tryz.pinned.checked.prog.readableRec ·) = true := by kernel_rfl
theorem closed_4 : namedTie Tryz.pinned.checked.prog Rows.feeFeesRow.named (OpenSpec.ofChange Rows.feeFeesSpec).bare.vars = true := by kernel_rfl
theorem closed_5 : (Rows.feeFeesRow.stops == []) = true := by kernel_rfl
theorem closed_6 : (Tryz.pinned.checked.prog.stops == []) = true := by kernel_rfl
theorem closed_7 : (Rows.feeFeesRow.knobs == []) = true := by kernel_rfl
theorem closed_8 : (Tryz.pinned.checked.prog.stopKnobs == []) = true := by kernel_rfl
theorem closed_9 : (Rows.feeFeesRow.inPlace == Tryz.pinned.checked.prog.inPlace 7) = true := by kernel_rfl
theorem closed_10 : (Rows.feeFeesRow.unfollowed == Tryz.pinned.checked.prog.unfollowed 7) = true := by kernel_rfl
theorem closed_11 : (Rows.feeFeesRow.recurses == Tryz.pinned.checked.prog.recurses 7) = true := by kernel_rfl
theorem closed_12 : (Rows.feeFeesRow.named == Tryz.pinned.checked.prog.varsNamed 7) = true := by kernel_rfl
theorem closed_13 : (Rows.feeFeesRow.maps == (Tryz.f7.params.toList ++ (OpenSpec.ofChange Rows.feeFeesSpec).bare.plain.varTypes Tryz.pinned.checked.prog).any (Tryz.pinned.checked.prog.mapsRec ·)) = true := by kernel_rfl
theorem closed_14 : (Rows.feeFeesRow.ifaces == (Tryz.f7.params.toList ++ (OpenSpec.ofChange Rows.feeFeesSpec).bare.plain.varTypes Tryz.pinned.checked.prog).any (Tryz.pinned.checked.prog.ifacesRec ·)) = true := by kernel_rfl
theorem closed_15 : (Rows.feeFeesRow.mapsOut == Tryz.pinned.checked.prog.mapsAmong Tryz.f7.resultTypes.toList) = true := by kernel_rfl
theorem closed_16 : (Rows.feeFeesRow.loops == (Tryz.f7.params.toList ++ (OpenSpec.ofChange Rows.feeFeesSpec).bare.plain.varTypes Tryz.pinned.checked.prog).any (Tryz.pinned.checked.prog.loopsFrom ·)) = true := by kernel_rfl
theorem closed_17 : (Rows.feeFeesRow.wideKeys == (Tryz.f7.params.toList ++ (OpenSpec.ofChange Rows.feeFeesSpec).bare.plain.varTypes Tryz.pinned.checked.prog ++ Tryz.f7.resultTypes.toList).any (Tryz.pinned.checked.prog.wideKeysFrom ·)) = true := by kernel_rfl
theorem closed_18 : (OpenSpec.ofChange Rows.feeFeesSpec).bare.vars.all (Tryz.pinned.checked.prog.varReadable ·) = true := by kernel_rfl
theorem closed_19 : Tryz.f7.resultTypes.all (fun t => Tryz.pinned.checked.prog.readableRec t && decide (t < Tryz.pinned.checked.prog.types.size)) = true := by kernel_rfl
theorem closed_20 : (Rows.feeFeesRow.ifacesOut == Tryz.f7.resultTypes.toList.any (Tryz.pinned.checked.prog.ifacesRec ·)) = true := by kernel_rfl
theorem closed_21 : (Rows.feeFeesRow.loopsOut == Tryz.f7.resultTypes.toList.any (Tryz.pinned.checked.prog.loopsFrom ·)) = true := by kernel_rfl
theorem closed_22 : (Rows.feeFeesRow.plainKeys == Tryz.pinned.checked.prog.plainKeys) = true := by kernel_rfl
theorem closed_23 : Rows.feeFeesRow.shortTexts.isNone = true := by kernel_rfl
theorem closed_24 : Tryz.pinned.checked.prog.stopsHeard = true := by kernel_rfl
theorem closed_25 : Tryz.pinned.checked.prog.mayEnter = true := by kernel_rfl
theorem closed_26 : (Rows.feeFeesRow.lifted == Tryz.pinned.checked.prog.liftsFinal) = true := by kernel_rfl
theorem closed_27 : (Tryz.pinned.checked.prog.make == some Rows.feeFeesRow.make) = true := by kernel_rfl
theorem closed_28 : (Rows.feeFeesRow.kinds == (if Rows.feeFeesRow.domain.isEmpty then [] else Tryz.f7.params.toList.map fun t => match Tryz.pinned.checked.prog.underlying t with | some (.int k) => some k | _ => none)) = true := by kernel_rfl
theorem closed_29 : (Rows.feeFeesRow.pinned == Rows.feeFeesRow.pinnedBy) = true := by kernel_rfl
theorem closed_30 : (Rows.feeFeesRow.veiled == (Tryz.f7.params.toList ++ (OpenSpec.ofChange Rows.feeFeesSpec).bare.plain.varTypes Tryz.pinned.checked.prog ++ Tryz.f7.resultTypes.toList).any (Tryz.pinned.checked.prog.veiledRec ·)) = true := by kernel_rfl
theorem closed_31 : Rows.feeFeesRow.veiledFits Tryz.pinned.checked.prog Tryz.f7.params.toList (Tryz.f7.params.toList ++ (OpenSpec.ofChange Rows.feeFeesSpec).bare.plain.varTypes Tryz.pinned.checked.prog ++ Tryz.f7.resultTypes.toList) = true := by kernel_rfl
set_option maxRecDepth 100000 in
theorem closed_all : joinedFacts Tryz.pinned.checked.prog 7 Tryz.f7 (OpenSpec.ofChange Rows.feeFeesSpec).bare Rows.feeFeesRow = true := by
  unfold joinedFacts
  simp only [Bool.and_eq_true]
  exact ⟨⟨⟨⟨⟨⟨⟨⟨⟨⟨⟨⟨⟨⟨⟨⟨⟨⟨⟨⟨⟨⟨⟨⟨⟨⟨⟨⟨⟨⟨⟨closed_0, closed_1⟩, closed_2⟩, closed_3⟩, closed_4⟩, closed_5⟩, closed_6⟩, closed_7⟩, closed_8⟩, closed_9⟩, closed_10⟩, closed_11⟩, closed_12⟩, closed_13⟩, closed_14⟩, closed_15⟩, closed_16⟩, closed_17⟩, closed_18⟩, closed_19⟩, closed_20⟩, closed_21⟩, closed_22⟩, closed_23⟩, closed_24⟩, closed_25⟩, closed_26⟩, closed_27⟩, closed_28⟩, closed_29⟩, closed_30⟩, closed_31⟩

theorem said : Rows.FeeFeesSaid :=
  OpenClaim.holds_of_cond 7 Tryz.f7 rfl rfl rfl rfl rfl rfl rfl ⟨rfl, rfl, rfl, rfl, rfl⟩ rfl rfl rfl rfl rfl (by kernel_rfl) Tryz.func7 closed_all
    (of_decide_eq_true (by kernel_rfl)) (by unfold Func.isWrapper; first | (rw [if_pos (by decide +kernel)]; kernel_rfl) | (rw [if_neg (by decide +kernel)]; exact ⟨rfl, rfl⟩))
    (fun os started H enc _ F => by rw [OpenClaim.pre_eq_preRow]; exact lifted os started H enc F)

theorem plain (f : FuncId) (fn : Func) (hf : Tryz.pinned.checked.prog.funcNamed "tranche/tranchelaw45.FeeFees" = some f) (hfn : Tryz.pinned.checked.prog.funcs[f]? = some fn) :
    true = Tryz.pinned.checked.prog.looks [] ∧ ∀ (j : Nat) t, fn.params[j]? = some t → Tryz.pinned.checked.prog.wantsStandIn t = false := by
  obtain rfl : f = 7 := Option.some.inj ((show Tryz.prog.funcNamed "tranche/tranchelaw45.FeeFees" = some 7 by kernel_rfl).symm.trans hf) |>.symm
  obtain rfl : fn = Tryz.f7 := (Option.some.inj (Tryz.func7.symm.trans hfn)).symm
  refine ⟨by kernel_rfl, fun j t ht => ?_⟩
  rw [Tryz.params7] at ht
  have ht := Array.mem_of_getElem? ht
  simp at ht
  rcases ht with rfl | rfl | rfl | rfl
  · exact (show Tryz.prog.wantsStandIn 54 = false by kernel_rfl)
  · exact (show Tryz.prog.wantsStandIn 32 = false by kernel_rfl)
  · exact (show Tryz.prog.wantsStandIn 34 = false by kernel_rfl)
  · exact (show Tryz.prog.wantsStandIn 56 = false by kernel_rfl)

theorem card : Rows.FeeFeesCardSaid :=
  Claim7.holds_tied_plain_at .later [] _ _ _ _ said (fun _ h => by cases h) (by kernel_rfl) (fun _ h => by cases h) feeFees_row_tie rfl ⟨rfl, rfl⟩ (by kernel_rfl) rfl plain (by kernel_rfl)
end Go.Proofs.YtgagjpjlnlandaaGreatDoor.feeFees
