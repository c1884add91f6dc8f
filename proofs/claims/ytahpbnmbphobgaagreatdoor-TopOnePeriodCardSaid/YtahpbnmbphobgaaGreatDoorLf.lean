/- Integer: what a row's listed variables give: the table of powers, the library's error. No condition. Integer: what turns a law's walk into its contract. No condition. -/
import Derived.Test.YtahpbnmbphobgaaGreatDoorCards
import Derived.Test.YtahpbnmbphobgaaGreatDoorTie
import Derived.Test.YtahpbnmbphobgaaGreatDoorAw
import Derived.ProofKit
import Derived.OpenShut
import Derived.Deep.DeepHandedRow
import Derived.Lib.LaidTab
import Derived.Lib.LaidU8
import Derived.LaidLaws
import Derived.Lay
import Derived.ChangeMaps5
namespace Go.Proofs.YtahpbnmbphobgaaGreatDoor
open Go.ChangeShapes Go.WideShapes Go.ChangeAt Go.RowKit Go.Deep

theorem own : ownKnob Tryz.prog.godebug = none := by kernel_rfl
theorem gPow : Tryz.prog.globalNamed "internal/strconv.uint64pow10" = some 2 := by kernel_rfl
theorem gPowT : (Tryz.prog.globals[2]?).map (·.type) = some 302 := by kernel_rfl
theorem gErr : Tryz.prog.globalNamed "strconv.ErrRange" = some 1 := by kernel_rfl
theorem gErrT : (Tryz.prog.globals[1]?).map (·.type) = some 165 := by kernel_rfl
theorem gl_of {W : World} {l : List (String × DataW Unit)} (h : laidMetH Tryz.prog l W) (hh : (l.all fun x => x.2.handleName?.isNone) = true)
    (h1 : (l.filter fun x => x.1 == "internal/strconv.uint64pow10") = [("internal/strconv.uint64pow10", Lib.tabData .u64 Lib.pow10Tab)]) (h2 : (l.filter fun x => x.1 == "strconv.ErrRange") = [("strconv.ErrRange", Rows.laid_strconv_ErrRange)]) : Gl W := by
  rw [MakeChecks.laidMetH_plain _ _ _ hh] at h
  refine ⟨?_, ?_⟩
  · have := laidMet.filter (fun x => x.1 == "internal/strconv.uint64pow10") h
    rw [h1] at this
    exact Lib.tabIs_of_head (rest := []) (n := 20) (e := 123) gPow gPowT (by kernel_rfl) (by kernel_rfl) (by kernel_rfl) (by kernel_rfl) this
  · have := laidMet.filter (fun x => x.1 == "strconv.ErrRange") h
    rw [h2] at this
    obtain ⟨ps, ⟨g, t, cs, fuel, p, q, hg, ht, hv, hd, _, _⟩, _⟩ := this
    obtain rfl := Option.some.inj (gErr.symm.trans hg)
    obtain rfl := Option.some.inj (gErrT.symm.trans ht)
    obtain ⟨_, u, v, hcs, _, _⟩ := iface_of_trod Tryz.underlying165 hd
    refine ⟨u, v, ?_⟩
    rw [hv]
    obtain ⟨l⟩ := cs
    simp at hcs
    rw [hcs]
end Go.Proofs.YtahpbnmbphobgaaGreatDoor
namespace Go.Proofs.YtahpbnmbphobgaaGreatDoor
open Go.ChangeShapes Go.WideShapes Go.ChangeAt Go.RowKit Go.Deep
theorem laidOut : laidOutB Tryz.prog = true := by kernel_rfl
section
variable {H : Type} {enc : TypeId × Value → H} {P : Program} {w : World} {base : Nat} {spare : Nat → Bool} {held : Bool}
theorem post_of_below {f : Func} {s : ChangeSpec} {apart fresh handsOn again : Bool} {W W' : World} {args : Array Value} {v : Value} {ds gs : List (DataW H)} {before pa pv : List MemPlace}
    (hW : DataW.Whole enc P f.params.toList s.vars apart W args.toList ds gs before)
    (hres : ∀ (b : Nat) (sp : Nat → Bool) (hd : Bool), DataW.TrodAll enc P W' b sp hd f.resultTypes.toList (v.resultList f.resultTypes.size) (s.fn H (ds ++ gs)).results [])
    (hargs : ∀ sp : Nat → Bool, (∀ p ∈ before, sp p.block = true) → DataW.TrodAll enc P W' 0 sp true f.params.toList args.toList (s.fn H (ds ++ gs)).args pa)
    (hvars : ∀ sp : Nat → Bool, (∀ p ∈ before, sp p.block = true) → DataW.TrodVars enc P W' sp s.vars (s.fn H (ds ++ gs)).vars pv)
    (hps : before = pa ++ pv) (hb : Below W.heap.size W W')
    (hok : ∀ (j : Nat) (t : TypeId) (r : Value), f.resultTypes[j]? = some t → (v.resultList f.resultTypes.size)[j]? = some r → Value.okWide P W' .any 0 t r) :
    s.post enc P f apart fresh handsOn again W args v W' := by
  have hlt : ∀ p ∈ before, p.block < W.heap.size := fun p hp => hW.lt p hp
  have hold : ∀ p ∈ before, (fun b => decide (b < W.heap.size)) p.block = true := fun p hp => by simpa using hlt p hp
  refine ⟨ds, gs, before, [], pa, pv, hW, hres _ _ _, hargs _ hold, hvars _ hold, World.keptBut_mono (fun p hp => ⟨hp, ?_⟩) (hb.frame (· ∈ before)), fun _ => ?_⟩
  · rw [hps, List.mem_append] at hp
    exact Or.inr hp
  · obtain ⟨_, _, _, _, _, hz, hn⟩ := hW
    refine ⟨hok, _, _, ([] ++ pa) ++ pv, ⟨[] ++ pa, pv, trodAll_append (hargs _ (fun _ _ => rfl)) (hres _ _ _), hvars _ (fun _ _ => rfl), rfl, ?_, ?_⟩, ?_⟩
    · intro b off hp
      have hin : MemPlace.cell b off ∈ before := by rw [hps]; simpa using hp
      rw [hb.frozen (hlt _ hin)]
      exact hz b off hin
    · intro ha
      have := hn ha
      rw [hps] at this
      simpa using this
    · intro p hp _
      rw [hps]
      simpa using hp

/-- below the heap's old size nothing has turned: all arguments read as they did -/
theorem trodAll_stays (hl : laidOutB P = true) {W W' : World} (hb : Below W.heap.size W W') {sp : Nat → Bool} : ∀ (ts : List TypeId) (vs : List Value) (ds : List (DataW H)) (ps : List MemPlace),
    (∀ t ∈ ts, P.readableRec t = true ∧ t < P.types.size) → DataW.TrodAll enc P W 0 (fun _ => true) true ts vs ds ps → (∀ x ∈ ps, x.block < W.heap.size) → (∀ x ∈ ps, sp x.block = true) →
    DataW.TrodAll enc P W' 0 sp true ts vs ds ps := by
  intro ts
  induction ts with
  | nil =>
    intro vs ds ps _ h _ _
    obtain ⟨rfl, rfl, rfl⟩ := trodAll_nil h
    exact trodAll_mk0
  | cons t ts ih =>
    intro vs ds ps ht h hlt hsp
    obtain ⟨v, vs', d, ds', p, q, rfl, rfl, rfl, h1, h2⟩ := trodAll_cons h
    refine trodAll_cons_mk ?_ (ih vs' ds' q (fun u hu => ht u (List.mem_cons_of_mem _ hu)) h2 (fun x hx => hlt x (List.mem_append_right _ hx)) (fun x hx => hsp x (List.mem_append_right _ hx)))
    exact WideElems.Trod_stays hl (ht t (List.mem_cons_self)).1 (ht t (List.mem_cons_self)).2 h1 (fun x hx => hb.same (hlt x (List.mem_append_left _ hx))) (fun x hx => hsp x (List.mem_append_left _ hx))

/-- A LAW's CONTRACT OUT OF ITS CORE: the call returns true and turns nothing that lay before it -/
theorem law_contract {fn : Func} {s : ChangeSpec} {tb : TypeId} {f : FuncId} (hl : laidOutB P = true) (hts : ∀ t ∈ fn.params.toList, P.readableRec t = true ∧ t < P.types.size)
    (hrt : fn.resultTypes = #[tb]) (hub : P.underlying tb = some .bool) (hv : s.vars = [])
    {W : World} {args : Array Value} {ds gs : List (DataW H)} {before : List MemPlace}
    (hspec : gs = [] → s.fn H (ds ++ gs) = { results := [.lit (.bool true)], args := ds })
    (hW : DataW.Whole enc P fn.params.toList s.vars false W args.toList ds gs before)
    (core : DataW.TrodAll enc P W 0 (fun _ => true) true fn.params.toList args.toList ds before → gs = [] → (∀ x ∈ before, x.block < W.heap.size) → Calls P f args W fun e W' => e = .returned (.bool true) ∧ Below W.heap.size W W') :
    Calls P f args W fun e W' => ∃ v, e = .returned v ∧ s.post enc P fn false true false false W args v W' := by
  have hW' := hW
  have hlt : ∀ p ∈ before, p.block < W.heap.size := fun p hp => hW.lt p hp
  obtain ⟨p, q, hA, hV, hbe, hfz, hnd⟩ := hW
  rw [hv] at hV
  obtain ⟨rfl, rfl⟩ := trodVars_none hV
  rw [List.append_nil] at hbe
  subst hbe
  refine (core hA rfl hlt).mono fun e W' ⟨he, hb⟩ => ⟨_, he, ?_⟩
  refine post_of_below (pa := before) (pv := []) hW' ?_ ?_ ?_ (by simp) hb (ok_one hrt rfl (okWide_bool_mk hub _))
  · intro b sp hd
    rw [hspec rfl, hrt]
    exact trodAll_mk1 (shut_bool hub true)
  · intro sp hsp
    rw [hspec rfl]
    exact trodAll_stays hl hb _ _ _ _ hts hA hlt hsp
  · intro sp hsp
    rw [hspec rfl, hv]
    rfl
end
end Go.Proofs.YtahpbnmbphobgaaGreatDoor
