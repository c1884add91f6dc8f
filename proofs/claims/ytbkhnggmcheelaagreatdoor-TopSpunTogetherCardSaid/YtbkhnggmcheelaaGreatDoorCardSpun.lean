/- TopSpunTogether: The card of TopSpunTogether. Conditions: bounded sizes; variables as laid. -/
import Derived.Test.YtbkhnggmcheelaaGreatDoorGbj
import Derived.Test.YtbkhnggmcheelaaGreatDoorOpl
set_option maxRecDepth 100000
namespace Go.Proofs.YtbkhnggmcheelaaGreatDoor.topSpunTogether
open Go.ChangeShapes Go.WideShapes Go.ChangeAt Go.RowKit Go.Deep
theorem contract (H:Type)(enc:TypeId×Value->H)(W:World)(base:Nat)(args:Array Value)(ds gs:List (DataW H))(before:List MemPlace)
 (hval:∀(j:Nat) t v,Tryz.f3.params[j]? =some t->args[j]? =some v->Value.okWide Tryz.prog W .any base t v)
 (hW:DataW.Whole enc Tryz.prog Tryz.f3.params.toList Rows.topSpunTogetherSpec.vars false W args.toList ds gs before) (hL:laidMetH Tryz.prog Rows.topSpunTogetherRow.laid W):
 Calls Tryz.prog 3 args W fun e W'=>∃v,e= .returned v/\Rows.topSpunTogetherSpec.post enc Tryz.prog Tryz.f3 false true false false W args v W':=by
 have hg:Gl W:=gl_of hL (by kernel_rfl) (by kernel_rfl) (by kernel_rfl) (by kernel_rfl);refine zt (tb:=4) laidOut (by rw[Tryz.params3];intro t ht;simp at ht;rcases ht with rfl|rfl|rfl|rfl<;>exact⟨by kernel_rfl,of_decide_eq_true (by kernel_rfl)⟩) (by kernel_rfl) Tryz.underlying4 rfl ?_ hW ?_
 ·rintro rfl
  obtain⟨p,q,hA,_⟩:=hW;have hA':DataW.TrodAll enc Tryz.prog W 0 (fun _=>true) true Tryz.f3.params.toList args.toList ds p:=hA;rw[Tryz.params3]at hA';obtain⟨v0,vs0,d0,ds0,p0,q0,_,rfl,rfl,_,r0⟩:=trodAll_cons hA';obtain⟨v1,vs1,d1,ds1,p1,q1,_,rfl,rfl,_,r1⟩:=trodAll_cons r0;obtain⟨v2,vs2,d2,ds2,p2,q2,_,rfl,rfl,_,r2⟩:=trodAll_cons r1;obtain⟨v3,vs3,d3,ds3,p3,q3,_,rfl,rfl,_,r3⟩:=trodAll_cons r2;obtain⟨_,rfl,_⟩:=trodAll_nil r3;rfl
 ·intro hA _ _
  rw[Tryz.params3]at hA hval;obtain⟨v0,vs0,d0,ds0,p0,q0,ha0,rfl,rfl,h0,r0⟩:=trodAll_cons hA;obtain⟨v1,vs1,d1,ds1,p1,q1,rfl,rfl,rfl,h1,r1⟩:=trodAll_cons r0;obtain⟨v2,vs2,d2,ds2,p2,q2,rfl,rfl,rfl,h2,r2⟩:=trodAll_cons r1;obtain⟨v3,vs3,d3,ds3,p3,q3,rfl,rfl,rfl,h3,r3⟩:=trodAll_cons r2;obtain⟨rfl,rfl,rfl⟩:=trodAll_nil r3;obtain rfl:args= #[v0,v1,v2,v3]:=by cases args;simp_all
  obtain⟨A0,c0,l0,rfl,row0,lc0,cm0,big0⟩:=ae0 (hval 0 22 v0 rfl rfl) h0;obtain⟨f1,lp1,lo1,rfl,bf1,cp1,ep1,eo1,zp1,zo1,fw1⟩:=ae1 (hval 1 30 v1 rfl rfl) h1;obtain⟨x2,rfl,_,_,z2⟩:=Go.ChangeMaps.open_string Tryz.underlying9 (hval 2 9 v2 rfl rfl) h2;obtain⟨x3,rfl,_,_,z3⟩:=Go.ChangeMaps.open_string Tryz.underlying24 (hval 3 24 v3 rfl rfl) h3;exact ahJ f1 x2 x3 rfl (by omega) big0 bf1 cp1 ep1 eo1 zp1 zo1 z2 z3 W hg ⟨row0,fw1⟩
theorem aiA (os:Os):laidMet Tryz.prog Rows.topSpunTogetherRow.laid ((World.laidAll Tryz.prog os Rows.topSpunTogetherRow.laid).forCall (fun _ _=>0) ⟨#[], #[.slice none 0 0,.agg #[.string ⟨#[]⟩,.int .i64 0,.bool false,.int .i64 0,.int .i64 0,.string ⟨#[]⟩,.string ⟨#[]⟩,.string ⟨#[]⟩,.string ⟨#[]⟩,.string ⟨#[]⟩,.string ⟨#[]⟩,.string ⟨#[]⟩,.string ⟨#[]⟩,.string ⟨#[]⟩,.string ⟨#[]⟩,.string ⟨#[]⟩,.string ⟨#[]⟩,.string ⟨#[]⟩,.slice none 0 0,.slice none 0 0,.int .i64 0],.string ⟨#[]⟩,.string ⟨#[]⟩],[]⟩).memory :=
 laidMet_laidAll #[.slice none 0 0,.agg #[.string ⟨#[]⟩,.int .i64 0,.bool false,.int .i64 0,.int .i64 0,.string ⟨#[]⟩,.string ⟨#[]⟩,.string ⟨#[]⟩,.string ⟨#[]⟩,.string ⟨#[]⟩,.string ⟨#[]⟩,.string ⟨#[]⟩,.string ⟨#[]⟩,.string ⟨#[]⟩,.string ⟨#[]⟩,.string ⟨#[]⟩,.string ⟨#[]⟩,.string ⟨#[]⟩,.slice none 0 0,.slice none 0 0,.int .i64 0],.string ⟨#[]⟩,.string ⟨#[]⟩] (by kernel_rfl) (by kernel_rfl)
theorem reads (os:Os){H:Type}(enc:TypeId×Value->H):∃ds gs places,DataW.whole enc Tryz.prog ((World.laidAll Tryz.prog os Rows.topSpunTogetherRow.laid).forCall (fun _ _=>0) ⟨#[], #[.slice none 0 0,.agg #[.string ⟨#[]⟩,.int .i64 0,.bool false,.int .i64 0,.int .i64 0,.string ⟨#[]⟩,.string ⟨#[]⟩,.string ⟨#[]⟩,.string ⟨#[]⟩,.string ⟨#[]⟩,.string ⟨#[]⟩,.string ⟨#[]⟩,.string ⟨#[]⟩,.string ⟨#[]⟩,.string ⟨#[]⟩,.string ⟨#[]⟩,.string ⟨#[]⟩,.string ⟨#[]⟩,.slice none 0 0,.slice none 0 0,.int .i64 0],.string ⟨#[]⟩,.string ⟨#[]⟩],[]⟩).memory Tryz.f3.params.toList Rows.topSpunTogetherSpec.vars false (#[.slice none 0 0,.agg #[.string ⟨#[]⟩,.int .i64 0,.bool false,.int .i64 0,.int .i64 0,.string ⟨#[]⟩,.string ⟨#[]⟩,.string ⟨#[]⟩,.string ⟨#[]⟩,.string ⟨#[]⟩,.string ⟨#[]⟩,.string ⟨#[]⟩,.string ⟨#[]⟩,.string ⟨#[]⟩,.string ⟨#[]⟩,.string ⟨#[]⟩,.string ⟨#[]⟩,.string ⟨#[]⟩,.slice none 0 0,.slice none 0 0,.int .i64 0],.string ⟨#[]⟩,.string ⟨#[]⟩]:Array Value).toList 8=some (ds,gs,places):=
 ⟨[.nil,.agg [.lit (.string []),.lit (.int .i64 0),.lit (.bool false),.lit (.int .i64 0),.lit (.int .i64 0),.lit (.string []),.lit (.string []),.lit (.string []),.lit (.string []),.lit (.string []),.lit (.string []),.lit (.string []),.agg [.lit (.string []),.lit (.string [])],.agg [.lit (.string []),.lit (.string [])],.agg [.lit (.string []),.lit (.string [])],.nil,.nil,.lit (.int .i64 0)],.lit (.string []),.lit (.string [])],[],[],by kernel_rfl⟩
theorem lifted (os:Os)(started:os.Started)(H:Type)(enc:TypeId×Value->H)(F:Stop.Interp):
 ReturnsInHanded {} Tryz.checked os 3 .any ((OpenSpec.ofChange Rows.topSpunTogetherSpec).preRow enc Tryz.prog Tryz.f3 Rows.topSpunTogetherRow.domain false Rows.topSpunTogetherRow.laid) (((OpenSpec.ofChange Rows.topSpunTogetherSpec).at F).post enc Tryz.prog Tryz.f3 false true false false):=by
 obtain⟨ds,gs,places,hx⟩:=reads os enc;refine returnsInHanded_of_row (C:=Tryz.checked) (s:=OpenSpec.ofChange Rows.topSpunTogetherSpec) own started (by kernel_rfl) Tryz.func3
  (witness_row_at (enc:=enc) (C:=Tryz.checked) false (World.laidAll Tryz.prog os Rows.topSpunTogetherRow.laid) #[.slice none 0 0,.agg #[.string ⟨#[]⟩,.int .i64 0,.bool false,.int .i64 0,.int .i64 0,.string ⟨#[]⟩,.string ⟨#[]⟩,.string ⟨#[]⟩,.string ⟨#[]⟩,.string ⟨#[]⟩,.string ⟨#[]⟩,.string ⟨#[]⟩,.string ⟨#[]⟩,.string ⟨#[]⟩,.string ⟨#[]⟩,.string ⟨#[]⟩,.string ⟨#[]⟩,.string ⟨#[]⟩,.slice none 0 0,.slice none 0 0,.int .i64 0],.string ⟨#[]⟩,.string ⟨#[]⟩] (World.laidAll_os _ _ _) (by kernel_rfl) (by kernel_rfl) (by kernel_rfl)
   (OpenSpec.preRow_of_cond 8 hx (by kernel_rfl) (fun k hk=>by cases hk) (by kernel_rfl) (aiA os))) ?_
 intro W base args ds gs before hval hW _ _ _ hL _ _;exact contract H enc W base args ds gs before hval hW hL
theorem aju:OpenClaim.wf (OpenSpec.ofChange (OpenSpec.ofChange Rows.topSpunTogetherSpec).bare) Rows.topSpunTogetherRow=true:=by kernel_rfl
theorem ajt:laidOutB Tryz.pinned.checked.prog =true:=by kernel_rfl
theorem ajs:mapsRowed Tryz.pinned.checked.prog =true:=by kernel_rfl
theorem ajr:Tryz.f3.params.all (Tryz.pinned.checked.prog.readableRec ·)=true:=by kernel_rfl
theorem ajq:namedTie Tryz.pinned.checked.prog Rows.topSpunTogetherRow.named (OpenSpec.ofChange Rows.topSpunTogetherSpec).bare.vars =true:=by kernel_rfl
theorem ajp:(Rows.topSpunTogetherRow.stops== [])=true:=by kernel_rfl
theorem ajo:(Tryz.pinned.checked.prog.stops == [])=true:=by kernel_rfl
theorem ajn:(Rows.topSpunTogetherRow.knobs== [])=true:=by kernel_rfl
theorem ajm:(Tryz.pinned.checked.prog.stopKnobs == [])=true:=by kernel_rfl
theorem ajl:(Rows.topSpunTogetherRow.inPlace==Tryz.pinned.checked.prog.inPlace 3)=true:=by kernel_rfl
theorem agI:(Rows.topSpunTogetherRow.unfollowed==Tryz.pinned.checked.prog.unfollowed 3)=true:=by kernel_rfl
theorem agH:(Rows.topSpunTogetherRow.recurses==Tryz.pinned.checked.prog.recurses 3)=true:=by kernel_rfl
theorem agG:(Rows.topSpunTogetherRow.named==Tryz.pinned.checked.prog.varsNamed 3)=true:=by kernel_rfl
theorem agF:(Rows.topSpunTogetherRow.maps==(Tryz.f3.params.toList ++(OpenSpec.ofChange Rows.topSpunTogetherSpec).bare.plain.varTypes Tryz.pinned.checked.prog).any (Tryz.pinned.checked.prog.mapsRec ·))=true:=by kernel_rfl
theorem agE:(Rows.topSpunTogetherRow.ifaces==(Tryz.f3.params.toList ++(OpenSpec.ofChange Rows.topSpunTogetherSpec).bare.plain.varTypes Tryz.pinned.checked.prog).any (Tryz.pinned.checked.prog.ifacesRec ·))=true:=by kernel_rfl
theorem agD:(Rows.topSpunTogetherRow.mapsOut==Tryz.pinned.checked.prog.mapsAmong Tryz.f3.resultTypes.toList)=true:=by kernel_rfl
theorem agC:(Rows.topSpunTogetherRow.loops==(Tryz.f3.params.toList ++(OpenSpec.ofChange Rows.topSpunTogetherSpec).bare.plain.varTypes Tryz.pinned.checked.prog).any (Tryz.pinned.checked.prog.loopsFrom ·))=true:=by kernel_rfl
theorem agB:(Rows.topSpunTogetherRow.wideKeys==(Tryz.f3.params.toList ++(OpenSpec.ofChange Rows.topSpunTogetherSpec).bare.plain.varTypes Tryz.pinned.checked.prog ++Tryz.f3.resultTypes.toList).any (Tryz.pinned.checked.prog.wideKeysFrom ·))=true:=by kernel_rfl
theorem agA:(OpenSpec.ofChange Rows.topSpunTogetherSpec).bare.vars.all (Tryz.pinned.checked.prog.varReadable ·)=true:=by kernel_rfl
theorem agz:Tryz.f3.resultTypes.all (fun t=>Tryz.pinned.checked.prog.readableRec t&&decide (t<Tryz.pinned.checked.prog.types.size))=true:=by kernel_rfl
theorem agy:(Rows.topSpunTogetherRow.ifacesOut==Tryz.f3.resultTypes.toList.any (Tryz.pinned.checked.prog.ifacesRec ·))=true:=by kernel_rfl
theorem agx:(Rows.topSpunTogetherRow.loopsOut==Tryz.f3.resultTypes.toList.any (Tryz.pinned.checked.prog.loopsFrom ·))=true:=by kernel_rfl
theorem agw:(Rows.topSpunTogetherRow.plainKeys==Tryz.pinned.checked.prog.plainKeys)=true:=by kernel_rfl
theorem agv:Rows.topSpunTogetherRow.shortTexts.isNone=true:=by kernel_rfl
theorem agu:Tryz.pinned.checked.prog.stopsHeard =true:=by kernel_rfl
theorem agt:Tryz.pinned.checked.prog.mayEnter =true:=by kernel_rfl
theorem ags:(Rows.topSpunTogetherRow.lifted==Tryz.pinned.checked.prog.liftsFinal)=true:=by kernel_rfl
theorem agr:(Tryz.pinned.checked.prog.make ==some Rows.topSpunTogetherRow.make)=true:=by kernel_rfl
theorem agq:(Rows.topSpunTogetherRow.kinds==(if Rows.topSpunTogetherRow.domain.isEmpty then []else Tryz.f3.params.toList.map fun t=>match Tryz.pinned.checked.prog.underlying t with|some (.int k)=>some k|_=>none))=true:=by kernel_rfl
theorem agp:(Rows.topSpunTogetherRow.pinned==Rows.topSpunTogetherRow.pinnedBy)=true:=by kernel_rfl
theorem agn:(Rows.topSpunTogetherRow.veiled==(Tryz.f3.params.toList ++(OpenSpec.ofChange Rows.topSpunTogetherSpec).bare.plain.varTypes Tryz.pinned.checked.prog ++Tryz.f3.resultTypes.toList).any (Tryz.pinned.checked.prog.veiledRec ·))=true:=by kernel_rfl
theorem agm:Rows.topSpunTogetherRow.veiledFits Tryz.pinned.checked.prog Tryz.f3.params.toList (Tryz.f3.params.toList ++(OpenSpec.ofChange Rows.topSpunTogetherSpec).bare.plain.varTypes Tryz.pinned.checked.prog ++Tryz.f3.resultTypes.toList)=true:=by kernel_rfl
theorem adH:joinedFacts Tryz.pinned.checked.prog 3 Tryz.f3 (OpenSpec.ofChange Rows.topSpunTogetherSpec).bare Rows.topSpunTogetherRow=true:=by
 unfold joinedFacts;simp only[amC];exact⟨⟨⟨⟨⟨⟨⟨⟨⟨⟨⟨⟨⟨⟨⟨⟨⟨⟨⟨⟨⟨⟨⟨⟨⟨⟨⟨⟨⟨⟨⟨aju,ajt⟩,ajs⟩,ajr⟩,ajq⟩,ajp⟩,ajo⟩,ajn⟩,ajm⟩,ajl⟩,agI⟩,agH⟩,agG⟩,agF⟩,agE⟩,agD⟩,agC⟩,agB⟩,agA⟩,agz⟩,agy⟩,agx⟩,agw⟩,agv⟩,agu⟩,agt⟩,ags⟩,agr⟩,agq⟩,agp⟩,agn⟩,agm⟩
theorem said:Rows.TopSpunTogetherSaid:=
 OpenClaim.holds_of_cond 3 Tryz.f3 rfl rfl rfl rfl rfl rfl rfl ⟨rfl,rfl,rfl,rfl,rfl⟩ rfl rfl rfl rfl rfl (by kernel_rfl) Tryz.func3 adH
  (of_decide_eq_true (by kernel_rfl)) (by unfold Func.isWrapper;first|(rw[if_pos (by decide+kernel)];kernel_rfl)|(rw[if_neg (by decide+kernel)];exact⟨rfl,rfl⟩))
  (fun os started H enc _ F=>by rw[OpenClaim.pre_eq_preRow];exact lifted os started H enc F)
theorem plain (f:FuncId)(fn:Func)(hf:Tryz.pinned.checked.prog.funcNamed "tranche/tranchetop.TopSpunTogether" =some f)(hfn:Tryz.pinned.checked.prog.funcs[f]? =some fn):
 true=Tryz.pinned.checked.prog.looks []/\∀(j:Nat) t,fn.params[j]? =some t->Tryz.pinned.checked.prog.wantsStandIn t=false:=by
 obtain rfl:f=3:=anj ((show Tryz.prog.funcNamed "tranche/tranchetop.TopSpunTogether" =some 3 by kernel_rfl).symm.trans hf)|>.symm
 obtain rfl:fn=Tryz.f3:=(anj (Tryz.func3.symm.trans hfn)).symm;refine⟨by kernel_rfl,fun j t ht=>?_⟩;rw[Tryz.params3]at ht;have ht:=Array.mem_of_getElem? ht;simp at ht;rcases ht with rfl|rfl|rfl|rfl
 ·exact(show Tryz.prog.wantsStandIn 22=false by kernel_rfl)
 ·exact(show Tryz.prog.wantsStandIn 30=false by kernel_rfl)
 ·exact(show Tryz.prog.wantsStandIn 9=false by kernel_rfl)
 ·exact(show Tryz.prog.wantsStandIn 24=false by kernel_rfl)
theorem card:Rows.TopSpunTogetherCardSaid:=
 Claim7.holds_tied_plain_at .later [] _ _ _ _ said (fun _ h=>by cases h) (by kernel_rfl) (fun _ h=>by cases h) topSpunTogether_row_tie rfl ⟨rfl,rfl⟩ (by kernel_rfl) rfl plain (by kernel_rfl)
end Go.Proofs.YtbkhnggmcheelaaGreatDoor.topSpunTogether
