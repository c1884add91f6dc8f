/- TopSpunTogether: Facts. Conditions: bounded sizes; variables as laid. -/
import Derived.Test.YtbkhnggmcheelaaGreatDoorFk6
import Derived.Test.YtbkhnggmcheelaaGreatDoorT48
set_option linter.unusedSectionVars false
set_option linter.unusedSimpArgs false
set_option linter.unusedVariables false
set_option maxHeartbeats 4000000
set_option maxRecDepth 1000000
namespace Go.Proofs.YtbkhnggmcheelaaGreatDoor
open Proofs.Tryz
section
open Go.RowKit Go.Shelf Dec QQ SP Go.Proofs.Q.Ev
structure KSp where
 has:List Nat
 lim:List (Nat×Bool×Bool)
 code:Bool
def ksp (n:Nat):KSp:=
 match n with
 |3=>⟨[0,4,5,6],[(4,true,false),(5,false,false),(6,false,false)],false⟩
 |4=>⟨[0,4,5,6,10],[(4,true,false),(5,false,false),(6,false,false)],false⟩
 |5=>⟨[0,7],[(7,true,false)],false⟩
 |7=>⟨[1,2,4,5],[(4,true,false),(5,true,false)],true⟩
 |8=>⟨[0,7,8],[(7,false,false),(8,true,false)],false⟩
 |9=>⟨[0,1,7,8,9],[(7,false,false),(8,true,false),(9,false,true)],false⟩
 |10=>⟨[0,11],[],false⟩
 |11=>⟨[0,3,12],[],false⟩
 |12=>⟨[0,1,4,7,8],[(4,true,false),(7,false,false),(8,true,false)],false⟩
 |13=>⟨[0,7],[(7,true,false)],false⟩
 |14=>⟨[0,7],[(7,false,false)],false⟩
 |15=>⟨[0,7],[(7,false,false)],false⟩
 |16=>⟨[1,2,8],[(8,true,false)],true⟩
 |_=>⟨[2,5],[(5,true,false)],false⟩
def alj (H:Heap)(es:List (Value×AV))(x:Nat×Bool×Bool):Bool:=
 match je (.int .i64 (x.1:Int)) es with
 |some (.func f [.ptr c1 0,.ptr c2 0])=>Nat.beq f 171&&(match H.get c1,H.get c2 with
  |some (.cells [.lit (.bool P)] _ true),some (.cells [.lit (.bool Q)] _ true)=>P==x.2.1&&Q==x.2.2
  |_,_=>false)
 |_=>false
def alb (H:Heap)(m:AV)(l:List (Nat×Bool×Bool)):Bool:=
 match m with
 | .map nm=>match H.get nm with
  |some (.map es)=>es.all (fun e=>match e.1 with| .int .i64 _=>true|_=>false)&&l.all (alj H es)
  |_=>false
 | .lit (.map none)=>l.isEmpty
 |_=>false
def kindOk (H:Heap)(v:AV)(d:KSp):Bool:=
 match v with
 | .agg [.lit (.string _),.lit (.int .i64 _),.lit (.bool b0),.lit (.bool b1),.lit (.bool b2),.lit (.bool b3),.lit (.bool b4),.lit (.bool b5),.lit (.bool b6),.lit (.bool b7),.lit (.bool b8),.lit (.bool b9),.lit (.bool b10),.lit (.bool b11),.lit (.bool b12),m,.lit (.bool c)]=>
  (b0==d.has.contains 0&&b1==d.has.contains 1&&b2==d.has.contains 2&&b3==d.has.contains 3&&b4==d.has.contains 4&&b5==d.has.contains 5&&b6==d.has.contains 6&&b7==d.has.contains 7&&b8==d.has.contains 8&&b9==d.has.contains 9&&b10==d.has.contains 10&&b11==d.has.contains 11&&b12==d.has.contains 12&&c==d.code)&&alb H m d.lim
 |_=>false
def afB (r:Res):Bool:=
 match r with
 |some (.map n,H,_)=>match H.get n with
  |some (.map es)=>es.all (fun e=>match e.1 with| .int .i64 k=>decide (1<=k)&&decide (k<=18)|_=>false)&&(List.range 18).all fun i=>match je (.int .i64 ((i+1:Nat):Int)) es with
   |some v=>kindOk H v (ksp (i+1))
   |none=>false
  |_=>false
 |_=>false
noncomputable def orcK:bZ:=ajD (aad prog) ak4 1000 64 [111]
theorem runK:afB (xW (aad prog) orcK 1000 60 (.func 53 []) [] .leaf 1000)=true:=by decide+kernel
end
section
open Go.RowKit Go.Shelf Dec QQ SP Go.Proofs.Q.Ev
attribute [local instance] lJ
theorem aba {cx:Cx}{G:World->Prop}{orc:bZ}(hc:CxOK cx)(ho:bU cx G orc){f:FuncId}{args:List Value}{v:AV}{lf k nx hi:Nat}{H':Heap}
 (hfi:(cx.fn f).isSome =true) (he:xW cx orc lf k (.func f []) (args.map .lit) .leaf nx=some (v,H',hi)) (w:World) (hG:∀w',Below w.heap.size w w'->G w'):Calls cx.P f args.toArray w fun e w'=>∃(E:Env) (D:Nat->Prop),e= .returned (aj E v)/\HW (fun _=>False) w E D H' w'/\Below w.heap.size w w':=by
 let E:Env:=fun _=>⟨0,0⟩
 have h0:HW (fun _=>False) w E (fun _=>False) .leaf w:=⟨fun n o h=>(by cases h),fun n m o o' h=>(by cases h),fun n o h=>(by cases h),fun n o h=>(by cases h),Fr.refl _ _⟩;obtain⟨_,nxt,hrun,hpost⟩:=qF (lf:=lf) hc ho k (fun _=>False) w (fun w' hf=>hG w' hf.below) none _ _ _ _ _ _ _ he E (fun _=>False) w h0 (by trivial) (fun u hu=>by obtain⟨x,_,rfl⟩:=amN.1 hu;trivial) (fun _ _ _ h=>h);have hargs:((args.map AV.lit).map (aj E)).toArray =args.toArray:=by rw[jf]
 obtain⟨fi,hfi⟩:=Option.isSome_iff_exists.1 hfi;have hinv:=dK (w:=w) hc hfi #[] args.toArray;rw[hargs,show aj E (.func f [])= .func (.func f) #[] #[]from rfl,hinv]at hrun;cases hrun;have hpost':CallsIn Fence.wide 0 cx.P f (args.toArray++ #[]) w _:=hpost;rw[Array.append_empty]at hpost';refine(callsIn_wide.1 hpost').mono ?_;rintro e w' ⟨u,rfl,_,E',rfl,_,h',_⟩;exact⟨E',_,rfl,h',h'.fr.below⟩
theorem xg {t kt et:TypeId}(ht:((aad prog).ti t).map (·.desc)=some (.map kt et)){ki:TI}(hk:(aad prog).ti kt=some ki)(hd:zw ki.desc (.int .i64 0)=true){u:World}{b:Nat}{ents:Array MapEntry}{clk:Nat}{E:Env}{es:List (Value×AV)}
 (hb:u.heap[b]? =some (.map ents clk)) (hm:amo E es ents clk) {n:Int} (ha:ag7 (.int .i64 n) es=true) (ok:Bool) (z:Value) (hz:(zeroValue et).run prog u= .ok z u):
 (Instr.lookup t (.map (some b)) (.int .i64 n) ok).run prog u= .ok (match je (.int .i64 n) es with|some v=>if ok then .tuple #[aj E v,.bool true]else aj E v|none=>if ok then .tuple #[z,.bool false]else z) u:=by
 have hc:CxOK (aad prog):=oQ mixed;have hd':zw ki.desc (.int .i64 n)=true:=by
  revert hd;unfold zw;generalize ki.desc=d;cases d<;>simp
 cases hti:(aad prog).ti t with
 |none=>rw[hti]at ht;cases ht
 |some ti=>
  rw[hti]at ht;have hdesc:ti.desc= .map kt et:=by simpa using ht
  have hq:∀q,(Instr.findKey kt (.int .i64 n) ents.toList).run prog u= .ok q u->(Instr.lookup t (.map (some b)) (.int .i64 n) ok).run prog u=(do
   let (v,ok')<-match q with
    |some (_,v)=>Pure.pure (v,true)
    |none=>Pure.pure (<-zeroValue et,false)
   Pure.pure (if ok then .tuple #[v,.bool ok']else v):Sem Value).run prog u:=fun q hq=>by
   have hu:=Go.Proofs.Q.Ev.run_underlying (w:=u) hc hti;rw[hdesc]at hu;have hck:=run_checkKey (w:=u) (e:=ents.isEmpty) hc hk hd';have hu':(underlying t).run prog u= .ok (.map kt et) u:=hu;have hck':(Instr.checkKey ents.isEmpty 10000 kt (.int .i64 n)).run prog u= .ok () u:=hck;unfold Instr.lookup;simp only[amF,hu',amz,Go.Proofs.Q.Ev.run_getObj_map hb,hck',hq,amM];cases q<;>rfl
  rcases find_ok (w:=u) hc hk hd' hm ha with ⟨i,e,v,h1,h2,h3,h4,h5,h6⟩|⟨h1,h2,h3⟩
  ·rw[hq _ h6,h3]
   simp only[amF,amz,amM,h4]
  ·rw[hq _ h3,h1]
   simp only[amF,amz,amM,hz]
def Betw (base:Nat)(w u:World):Prop:=∀k,base<=k->k<w.heap.size->u.heap[k]? =w.heap[k]?
theorem afK {w0 w u:World}{E:Env}{D:Nat->Prop}{H:Heap}(h:HW (fun _=>False) w0 E D H w){n:Nat}{es:List (Value×AV)}(hn:H.get n=some (.map es))(hb:Betw w0.heap.size w u):∃ents clk,u.heap[(E n).b]? =some (.map ents clk)/\amo E es ents clk:=by
 obtain⟨ents,clk,h1,h2⟩:=h.obj n _ hn;exact⟨ents,clk,(hb _ ((h.own n _ hn).resolve_left id) (amA.1 h1).1).trans h1,h2⟩
theorem ab8 {w0 w:World}{E:Env}{D:Nat->Prop}{H:Heap}(h:HW (fun _=>False) w0 E D H w){n:Nat}{v:Value}{t:TypeId}(hn:H.get n=some (.cells [.lit v] t true)):w0.heap.size<=(E n).b /\Bx w (E n).b #[v]:=by
 obtain⟨c,h1,_,_,h4,h5⟩:=h.obj n _ hn;have h6:=h4 rfl;have h7:=h5 0 (.lit v) rfl;refine⟨(h.own n _ hn).resolve_left id,t,?_⟩;rw[h1];have:c= #[v]:=by
  have hs:c.size=1:=h6;apply Array.ext_getElem?;intro i;by_cases hi:i=0
  ·subst hi;exact h7
  ·rw[Array.getElem?_eq_none (by omega),Array.getElem?_eq_none (by simp;omega)]
 rw[this]
theorem xm {es:List (Value×AV)}(h:(es.all fun e=>match e.1 with| .int .i64 _=>true|_=>false)=true)(n:Int):ag7 (.int .i64 n) es=true:=by
 unfold ag7;rw[amU]at h⊢
 intro e he;have:=h e he;split at this
 ·rename_i k hk
  rw[hk];rfl
 ·cases this
theorem afC {es:List (Value×AV)}(h:(es.all fun e=>match e.1 with| .int .i64 k=>decide (1<=k)&&decide (k<=18)|_=>false)=true){n:Int}(hn:¬(1<=n/\n<=18)):je (.int .i64 n) es=none:=by
 cases hf:je (.int .i64 n) es with
 |none=>rfl
 |some v=>
  have:=amU.1 h _ (gV hf);dsimp only at this;simp only[amC,decide_eq_true_eq]at this;exact absurd this hn
theorem ajZ {es:List (Value×AV)}(h:(es.all fun e=>match e.1 with| .int .i64 k=>decide (1<=k)&&decide (k<=18)|_=>false)=true):(es.all fun e=>match e.1 with| .int .i64 _=>true|_=>false)=true:=by
 rw[amU]at h⊢
 intro e he;have:=h e he;split at this
 ·rfl
 ·cases this
theorem tiInt:∃ki,(aad prog).ti 3=some ki/\zw ki.desc (.int .i64 0)=true:=by
 have h:((aad prog).ti 3).map (fun i=>zw i.desc (.int .i64 0))=some true:=by kernel_rfl
 cases hk:(aad prog).ti 3 with
 |none=>rw[hk]at h;cases h
 |some ki=>rw[hk]at h;exact⟨ki,rfl,by simpa using h⟩
def LimB (base:Nat)(w:World)(mv:Value)(i:Nat)(P Q:Bool):Prop:=∃b1 b2,base<=b1/\base<=b2/\acB w b1 b2 P Q/\∀u,Betw base w u->(Instr.lookup 129 mv (.int .i64 (i:Int)) false).run prog u= .ok (.func (.func 171) #[] #[.pointer (some ⟨b1,0,none⟩),.pointer (some ⟨b2,0,none⟩)]) u
theorem lim_at {w0 w:World}{E:Env}{D:Nat->Prop}{H:Heap}(h:HW (fun _=>False) w0 E D H w){nm:Nat}{es:List (Value×AV)}(hn:H.get nm=some (.map es))(hk:(es.all fun e=>match e.1 with| .int .i64 _=>true|_=>false)=true){x:Nat×Bool×Bool}(hx:alj H es x=true):LimB w0.heap.size w (.map (some (E nm).b)) x.1 x.2.1 x.2.2:=by
 unfold alj at hx;split at hx
 ·rename_i f c1 c2 hf
  obtain⟨hx1,hx2⟩:=(amC _ _).mp hx;have hff:f=171:=amE hx1;split at hx2
  ·rename_i P t1 Q t2 g1 g2
   obtain⟨hp,hq⟩:=(amC _ _).mp hx2;have hp':P=x.2.1:=by simpa using hp
   have hq':Q=x.2.2:=by simpa using hq
   refine⟨(E c1).b,(E c2).b,(ab8 h g1).1,(ab8 h g2).1,⟨by rw[<-hp'];exact(ab8 h g1).2,by rw[<-hq'];exact(ab8 h g2).2⟩,fun u hu=>?_⟩;obtain⟨ents,clk,hb,hm⟩:=afK h hn hu;obtain⟨ki,hki,hkd⟩:=tiInt;have:=xg (t:=129) (kt:=3) (et:=200) (by kernel_rfl) hki hkd hb hm (n:=(x.1:Int)) (xm hk _) false .nilFunc (by kernel_rfl);rw[this,hf,hff];rfl
  ·cases hx2
 ·cases hx
def KindAt (base:Nat)(w:World)(mv:Value)(n:Int):Prop:=
 ∃(d:Knd) (nm:Value) (is:Bool),nm.oneCell'=true/\(∀u,Betw base w u->(Instr.lookup 133 mv (.int .i64 n) true).run prog u= .ok (.tuple #[ajY d nm,.bool is]) u)/\
  (is=true->1<=n/\n<=18/\(∀i,d.h i=(ksp n.toNat).has.contains i)/\d.code=(ksp n.toNat).code /\∀x∈(ksp n.toNat).lim,LimB base w nm x.1 x.2.1 x.2.2)/\(is=false->¬(1<=n/\n<=18))
theorem alp {w0 w:World}{E:Env}{D:Nat->Prop}{H:Heap}(h:HW (fun _=>False) w0 E D H w){v:AV}{sp:KSp}(hk:kindOk H v sp=true):∃(d:Knd) (nm:Value),aj E v=ajY d nm/\(∀i,d.h i=sp.has.contains i)/\d.code=sp.code/\nm.oneCell'=true/\∀x∈sp.lim,LimB w0.heap.size w nm x.1 x.2.1 x.2.2:=by
 unfold kindOk at hk;split at hk
 ·rename_i wd cl b0 b1 b2 b3 b4 b5 b6 b7 b8 b9 b10 b11 b12 m c
  obtain⟨h1,h2⟩:=(amC _ _).mp hk;simp only[amC,beq_iff_eq]at h1;obtain⟨⟨⟨⟨⟨⟨⟨⟨⟨⟨⟨⟨⟨e0,e1⟩,e2⟩,e3⟩,e4⟩,e5⟩,e6⟩,e7⟩,e8⟩,e9⟩,e10⟩,e11⟩,e12⟩,ec⟩:=h1;refine⟨⟨wd,cl,fun i=>sp.has.contains i,sp.code⟩,aj E m,?_,fun i=>rfl,rfl,?_,?_⟩
  ·rw[e0,e1,e2,e3,e4,e5,e6,e7,e8,e9,e10,e11,e12,ec]
   rfl
  ·unfold alb at h2
   split at h2
   ·rfl
   ·rfl
   ·cases h2
  ·intro x hx
   unfold alb at h2;split at h2
   ·rename_i nm
    split at h2
    ·rename_i es hes
     obtain⟨g1,g2⟩:=(amC _ _).mp h2;exact lim_at h hes g1 (amU.1 g2 x hx)
    ·cases h2
   ·have:sp.lim=[]:=List.isEmpty_iff.1 h2
    rw[this]at hx;cases hx
   ·cases h2
 ·cases hk
theorem zu (w:World)(hg:Gl w):Calls prog 53 #[] w fun e w'=>∃mv,e= .returned mv/\(∀n,KindAt w.heap.size w' mv n)/\Below w.heap.size w w':=by
 have hr:=runK;generalize hres:xW (aad prog) orcK 1000 60 (.func 53 []) [] .leaf 1000=r at hr;unfold afB at hr;split at hr
 ·rename_i nm H hi
  split at hr
  ·rename_i es hes
   obtain⟨h1,h2⟩:=(amC _ _).mp hr;refine(aba (G:=Gl) (args:=[]) (oQ mixed) (@acu lJ _ _ _ _ (@oQ lJ _ mixed) (@abR lJ _ _) _ _) (by decide+kernel) hres w (fun w' hb=>hg.below hb)).mono ?_;rintro e w' ⟨E,D,rfl,hw,hb⟩;refine⟨_,rfl,fun n=>?_,hb⟩;obtain⟨ki,hki,hkd⟩:=tiInt;have hz:∀u:World,(zeroValue 131).run prog u= .ok (ajY ⟨⟨#[]⟩,0,fun _=>false,false⟩ (.map none)) u:=fun u=>by kernel_rfl
   by_cases hn:1<=n/\n<=18
   ·have h3:=amU.1 h2 (n.toNat-1) (List.mem_range.2 (by omega))
    have e1:((n.toNat-1+1:Nat):Int)=n:=by omega
    have e2:n.toNat-1+1=n.toNat:=by omega
    rw[e1,e2]at h3;split at h3
    ·rename_i v hv
     obtain⟨d,nm',q1,q2,q3,q5,q4⟩:=alp hw h3;refine⟨d,nm',true,q5,fun u hu=>?_,fun _=>⟨hn.1,hn.2,q2,q3,q4⟩,fun h=>by cases h⟩;obtain⟨ents,clk,hb',hm⟩:=afK hw hes hu;have:=xg (t:=133) (kt:=3) (et:=131) (by kernel_rfl) hki hkd hb' hm (n:=n) (xm (ajZ h1) _) true _ (hz u);rw[hv]at this;rw[<-q1];exact this
    ·cases h3
   ·refine⟨⟨⟨#[]⟩,0,fun _=>false,false⟩,.map none,false,rfl,fun u hu=>?_,(fun h=>by cases h),fun _=>hn⟩
    obtain⟨ents,clk,hb',hm⟩:=afK hw hes hu;have:=xg (t:=133) (kt:=3) (et:=131) (by kernel_rfl) hki hkd hb' hm (n:=n) (xm (ajZ h1) _) true _ (hz u);rw[afC h1 hn]at this;exact this
  ·cases hr
 ·cases hr
end
section
open Go.RowKit Go.Shelf Dec QQ SP
attribute [local go_sem] Oper.semAt_some
attribute [-go_sem] loadVar
attribute [local go_sem] afr
theorem eqPk0 (A:Option Addr)(n c:Nat):Ret 108 #[.slice A n c,.slice none 0 0] (.bool (decide (n=0))):=by
 intro w hg;have hs:=St.refl hg;by_cases h:n=0
 ·subst h
  go_enter func108,ntmps108
  go_wp2_with fail
  go_loopw [13] (fun s wr=>s= .int .i64 0/\St w wr) (fun s _=>0)
  case atStart=>exact⟨rfl,hs⟩
  case round=>
   obtain⟨rfl,hs⟩:=hrel
   go_wp2_with fail
   go_ret
   exact⟨rfl,hs.2⟩
 ·have q:((n:Int) !=0)=true:=by simpa using(by omega:(n:Int)≠0)
  have q1:((n:Int)==0)=false:=by simpa using(by omega:(n:Int)≠0)
  have q2:¬(n:Int)=0:=by omega
  rw[am1 h]
  go_enter func108,ntmps108
  go_wp2_with fail
  go_ret
  exact⟨rfl,hs.2⟩
theorem eqOt0 (A:Option Addr)(n c:Nat):Ret 109 #[.slice A n c,.slice none 0 0] (.bool (decide (n=0))):=by
 intro w hg;have hs:=St.refl hg;by_cases h:n=0
 ·subst h
  go_enter func109,ntmps109
  go_wp2_with fail
  go_loopw [13] (fun s wr=>s= .int .i64 0/\St w wr) (fun s _=>0)
  case atStart=>exact⟨rfl,hs⟩
  case round=>
   obtain⟨rfl,hs⟩:=hrel
   go_wp2_with fail
   go_ret
   exact⟨rfl,hs.2⟩
 ·have q:((n:Int) !=0)=true:=by simpa using(by omega:(n:Int)≠0)
  have q1:((n:Int)==0)=false:=by simpa using(by omega:(n:Int)≠0)
  have q2:¬(n:Int)=0:=by omega
  rw[am1 h]
  go_enter func109,ntmps109
  go_wp2_with fail
  go_ret
  exact⟨rfl,hs.2⟩
def fC (f:Fct):Bool:=(f.day==0)&&((f.kind==0)&&((f.ins.toList.isEmpty)&&((f.oth.toList.isEmpty)&&((f.cur.toList.isEmpty)&&((f.tgt.toList.isEmpty)&&((f.q.toList.isEmpty)&&((f.a.toList.isEmpty)&&((f.fee.toList.isEmpty)&&((f.pn.toList.isEmpty&&f.pd.toList.isEmpty)&&((f.rn.toList.isEmpty&&f.rd.toList.isEmpty)&&((f.sn.toList.isEmpty&&f.sd.toList.isEmpty)&&((decide (f.np=0))&&((decide (f.no=0))&&((f.cho==0)))))))))))))))
abbrev gA (f:Fct):Array Value:= #[.string f.key,.int .i64 f.st,.bool true,.int .i64 0,.int .i64 0,.string ⟨#[]⟩,.string ⟨#[]⟩,.string ⟨#[]⟩,.string ⟨#[]⟩,.string ⟨#[]⟩,.string ⟨#[]⟩,.string ⟨#[]⟩,.string ⟨#[]⟩,.string ⟨#[]⟩,.string ⟨#[]⟩,.string ⟨#[]⟩,.string ⟨#[]⟩,.string ⟨#[]⟩,.slice none 0 0,.slice none 0 0,.int .i64 0]
end
end Go.Proofs.YtbkhnggmcheelaaGreatDoor
