/- TopSpunTogether: Integer. Conditions: bounded sizes; variables as laid. -/
import Derived.Test.YtbkhnggmcheelaaGreatDoorCards
import Derived.Test.YtbkhnggmcheelaaGreatDoorTie
import Derived.Deep.DeepHandedRow
import Derived.Lib.LaidU8
import Derived.Lay
import Derived.Test.YtbkhnggmcheelaaGreatDoorIe
import Derived.Handy
set_option maxHeartbeats 4000000
set_option maxRecDepth 100000
namespace Go.Proofs.YtbkhnggmcheelaaGreatDoor
open Proofs.Tryz
section
open Go.ChangeShapes Go.WideShapes Go.ChangeAt Go.RowKit Go.Deep
theorem own:ownKnob prog.godebug =none:=by kernel_rfl
theorem gPow:prog.globalNamed "internal/strconv.uint64pow10" =some 0:=by kernel_rfl
theorem gPowT:(prog.globals[0]?).map (·.type)=some 314:=by kernel_rfl
theorem gErr:prog.globalNamed "strconv.ErrRange" =some 2:=by kernel_rfl
theorem gErrT:(prog.globals[2]?).map (·.type)=some 181:=by kernel_rfl
theorem gSyn:prog.globalNamed "strconv.ErrSyntax" =some 1:=by kernel_rfl
theorem gSynT:(prog.globals[1]?).map (·.type)=some 181:=by kernel_rfl
theorem gl_of {W:World}{l:List (String×DataW Unit)}(h:laidMetH prog l W)(hh:(l.all fun x=>x.2.handleName?.isNone)=true)
 (h1:(l.filter fun x=>x.1== "internal/strconv.uint64pow10")=[("internal/strconv.uint64pow10",Lib.tabData .u64 Lib.pow10Tab)]) (h2:(l.filter fun x=>x.1== "strconv.ErrRange")=[("strconv.ErrRange",Rows.laid_strconv_ErrRange)])
 (h3:(l.filter fun x=>x.1== "strconv.ErrSyntax")=[("strconv.ErrSyntax",Rows.laid_strconv_ErrSyntax)]):Gl W:=by
 rw[MakeChecks.laidMetH_plain _ _ _ hh]at h;refine⟨?_,?_⟩
 ·have:=laidMet.filter (fun x=>x.1== "internal/strconv.uint64pow10") h
  rw[h1]at this;exact Lib.tabIs_of_head (rest:=[]) (n:=20) (e:=179) gPow gPowT (by kernel_rfl) (by kernel_rfl) (by kernel_rfl) (by kernel_rfl) this
 ·have e1:=laidMet.filter (fun x=>x.1== "strconv.ErrRange") h
  have e2:=laidMet.filter (fun x=>x.1== "strconv.ErrSyntax") h;rw[h2]at e1;rw[h3]at e2;obtain⟨ps,⟨g,t,cs,fuel,p,q,hg,ht,hv,hd,_,_⟩,_⟩:=e1;obtain⟨ps',⟨g',t',cs',fuel',p',q',hg',ht',hv',hd',_,_⟩,_⟩:=e2;obtain rfl:=anj (gErr.symm.trans hg);obtain rfl:=anj (gErrT.symm.trans ht);obtain rfl:=anj (gSyn.symm.trans hg');obtain rfl:=anj (gSynT.symm.trans ht');obtain⟨_,u,v,hcs,_,_⟩:=iface_of_trod underlying181 hd;obtain⟨_,u',v',hcs',_,_⟩:=iface_of_trod underlying181 hd';refine⟨u,v,?_,u',v',?_⟩
  ·rw[hv]
   obtain⟨l⟩:=cs;simp at hcs;rw[hcs]
  ·rw[hv']
   obtain⟨l⟩:=cs';simp at hcs';rw[hcs']
theorem laidOut:laidOutB prog =true:=by kernel_rfl
section
variable {H:Type} {enc:TypeId×Value->H} {P:Program} {w:World} {base:Nat} {spare:Nat->Bool} {held:Bool}
theorem wJ {f:Func}{s:ChangeSpec}{apart fresh handsOn again:Bool}{W W':World}{args:Array Value}{v:Value}{ds gs:List (DataW H)}{before pa pv:List MemPlace}
 (hW:DataW.Whole enc P f.params.toList s.vars apart W args.toList ds gs before)
 (hres:∀(b:Nat) (sp:Nat->Bool) (hd:Bool),DataW.TrodAll enc P W' b sp hd f.resultTypes.toList (v.resultList f.resultTypes.size) (s.fn H (ds++gs)).results [])
 (hargs:∀sp:Nat->Bool,(∀p∈before,sp p.block=true)->DataW.TrodAll enc P W' 0 sp true f.params.toList args.toList (s.fn H (ds++gs)).args pa)
 (hvars:∀sp:Nat->Bool,(∀p∈before,sp p.block=true)->DataW.TrodVars enc P W' sp s.vars (s.fn H (ds++gs)).vars pv)
 (hps:before=pa++pv) (hb:Below W.heap.size W W')
 (hok:∀(j:Nat) (t:TypeId) (r:Value),f.resultTypes[j]? =some t->(v.resultList f.resultTypes.size)[j]? =some r->Value.okWide P W' .any 0 t r):
 s.post enc P f apart fresh handsOn again W args v W':=by
 have hlt:∀p∈before,p.block<W.heap.size:=fun p hp=>hW.lt p hp
 have hold:∀p∈before,(fun b=>decide (b<W.heap.size)) p.block=true:=fun p hp=>by simpa using hlt p hp
 refine⟨ds,gs,before,[],pa,pv,hW,hres _ _ _,hargs _ hold,hvars _ hold,World.keptBut_mono (fun p hp=>⟨hp,?_⟩) (hb.frame (· ∈before)),fun _=>?_⟩
 ·rw[hps,ane]at hp
  exact Or.inr hp
 ·obtain⟨_,_,_,_,_,hz,hn⟩:=hW
  refine⟨hok,_,_,([]++pa)++pv,⟨[]++pa,pv,trodAll_append (hargs _ (fun _ _=>rfl)) (hres _ _ _),hvars _ (fun _ _=>rfl),rfl,?_,?_⟩,?_⟩
  ·intro b off hp
   have hin:MemPlace.cell b off∈before:=by rw[hps];simpa using hp
   rw[hb.frozen (hlt _ hin)];exact hz b off hin
  ·intro ha
   have:=hn ha;rw[hps]at this;simpa using this
  ·intro p hp _
   rw[hps];simpa using hp
theorem vV (hl:laidOutB P=true){W W':World}(hb:Below W.heap.size W W'){sp:Nat->Bool}:∀(ts:List TypeId) (vs:List Value) (ds:List (DataW H)) (ps:List MemPlace),
 (∀t∈ts,P.readableRec t=true/\t<P.types.size)->DataW.TrodAll enc P W 0 (fun _=>true) true ts vs ds ps->(∀x∈ps,x.block<W.heap.size)->(∀x∈ps,sp x.block=true)->
 DataW.TrodAll enc P W' 0 sp true ts vs ds ps:=by
 intro ts
 induction ts with
 |nil=>
  intro vs ds ps _ h _ _;obtain⟨rfl,rfl,rfl⟩:=trodAll_nil h;exact trodAll_mk0
 |cons t ts ih=>
  intro vs ds ps ht h hlt hsp;obtain⟨v,vs',d,ds',p,q,rfl,rfl,rfl,h1,h2⟩:=trodAll_cons h;refine trodAll_cons_mk ?_ (ih vs' ds' q (fun u hu=>ht u (amL _ hu)) h2 (fun x hx=>hlt x (List.mem_append_right _ hx)) (fun x hx=>hsp x (List.mem_append_right _ hx)));exact WideElems.Trod_stays hl (ht t (amJ)).1 (ht t (amJ)).2 h1 (fun x hx=>hb.same (hlt x (List.mem_append_left _ hx))) (fun x hx=>hsp x (List.mem_append_left _ hx))
theorem zt {fn:Func}{s:ChangeSpec}{tb:TypeId}{f:FuncId}(hl:laidOutB P=true)(hts:∀t∈fn.params.toList,P.readableRec t=true/\t<P.types.size)
 (hrt:fn.resultTypes= #[tb]) (hub:P.underlying tb=some .bool) (hv:s.vars=[])
 {W:World} {args:Array Value} {ds gs:List (DataW H)} {before:List MemPlace}
 (hspec:gs=[]->s.fn H (ds++gs)= {results:=[.lit (.bool true)],args:=ds})
 (hW:DataW.Whole enc P fn.params.toList s.vars false W args.toList ds gs before)
 (core:DataW.TrodAll enc P W 0 (fun _=>true) true fn.params.toList args.toList ds before->gs=[]->(∀x∈before,x.block<W.heap.size)->Calls P f args W fun e W'=>e= .returned (.bool true)/\Below W.heap.size W W'):
 Calls P f args W fun e W'=>∃v,e= .returned v/\s.post enc P fn false true false false W args v W':=by
 have hW':=hW;have hlt:∀p∈before,p.block<W.heap.size:=fun p hp=>hW.lt p hp
 obtain⟨p,q,hA,hV,hbe,hfz,hnd⟩:=hW;rw[hv]at hV;obtain⟨rfl,rfl⟩:=trodVars_none hV;rw[List.append_nil]at hbe;subst hbe;refine(core hA rfl hlt).mono fun e W' ⟨he,hb⟩=>⟨_,he,?_⟩
 refine wJ (pa:=before) (pv:=[]) hW' ?_ ?_ ?_ (by simp) hb (ok_one hrt rfl (okWide_bool_mk hub _))
 ·intro b sp hd
  rw[hspec rfl,hrt];exact trodAll_mk1 (shut_bool hub true)
 ·intro sp hsp
  rw[hspec rfl];exact vV hl hb _ _ _ _ hts hA hlt hsp
 ·intro sp hsp
  rw[hspec rfl,hv];rfl
end
end
section
open Go.RowKit Go.Shelf Dec
theorem aF (s:BA):s.toList=bytes s:=by
 unfold bytes;rw[ByteArray.toList_eq]
end
end Go.Proofs.YtbkhnggmcheelaaGreatDoor
namespace QQ
def rat (n d:Int):Rat:=if d=0 then(n:Rat)else(n:Rat)/(d:Rat)
theorem mO (n:Int):rat n 0=(n:Rat):=if_pos rfl
theorem dL {n d:Int}(h:d≠0):rat n d=(n:Rat)/(d:Rat):=if_neg h
theorem fM {n d:Int}(h:d≠0):rat n d=Rat.divInt n d:=by rw[dL h,Rat.divInt_eq_div]
theorem aav (n:Int):rat n 1=(n:Rat):=by rw[dL (by decide)];show (n:Rat)/1=n;grind
theorem bI {d:Int}(h:d≠0):(d:Rat)≠0:=by
 intro e;exact h (Rat.intCast_inj.1 (by rw[e];rfl))
theorem aeH (n d:Int)(h:d≠0):rat (-n) (-d)=rat n d:=by
 rw[dL h,dL (by omega)];have:=bI h;rw[Rat.intCast_neg,Rat.intCast_neg]
 grind
theorem acg (n:Int)(d:Int)(m:Int):m.fdiv (Nat.gcd n.natAbs d.natAbs:Nat)=m/(Int.gcd d n:Nat):=by
 rw[Int.fdiv_eq_ediv_of_nonneg _ (Int.natCast_nonneg _)];show _=m/((Nat.gcd d.natAbs n.natAbs:Nat):Int);rw[Nat.gcd_comm]
theorem aeG {n d:Int}(h:0<d):(rat n d).num =n.fdiv (Nat.gcd n.natAbs d.natAbs:Nat):=by
 rw[fM (by omega),Rat.num_divInt,Int.sign_eq_one_of_pos h,Int.one_mul,acg]
theorem aeJ {n d:Int}(h:0<d):((rat n d).den :Int)=d.fdiv (Nat.gcd n.natAbs d.natAbs:Nat):=by
 rw[fM (by omega),Rat.den_divInt,if_neg (by omega),acg];rw[Int.natCast_ediv];congr 1;omega
theorem bO (q:Rat):rat q.num q.den=q:=by
 rw[fM (by have:=q.den_nz;omega),Rat.num_divInt_den]
theorem rat_le {n d:Int}:(rat n d).num.natAbs <=n.natAbs/\(d≠0->(rat n d).den <=d.natAbs)/\(d=0->(rat n d).den =1):=by
 by_cases h:d=0
 ·subst h
  rw[mO];exact⟨by simp,by simp,by simp⟩
 ·refine⟨?_,fun _=>?_,fun e=>absurd e h⟩
  ·rw[fM h,Rat.num_divInt]
   refine amG (Int.natAbs_ediv_le_natAbs _ _) ?_;rw[Int.natAbs_mul]
   have:d.sign.natAbs≤1:=by rcases Int.lt_trichotomy d 0 with h1|h1|h1
                            ·rw[Int.sign_eq_neg_one_of_neg h1];decide
                            ·exact absurd h1 h
                            ·rw[Int.sign_eq_one_of_pos h1];decide
   calc d.sign.natAbs*n.natAbs<=1*n.natAbs:=Nat.mul_le_mul_right _ this
    _=n.natAbs:=Nat.one_mul _
  ·rw[fM h,Rat.den_divInt,if_neg h]
   exact Nat.div_le_self _ _
theorem akF {a b c d:Int}(hb:b≠0)(hd:d≠0):rat (a*d+c*b) (b*d)=rat a b+rat c d:=by
 have h1:=bI hb;have h2:=bI hd;rw[dL hb,dL hd,dL (Int.mul_ne_zero hb hd)];rw[Rat.intCast_add,anc,anc,anc]
 grind
theorem akD {a b c d:Int}(hb:b≠0)(hd:d≠0):rat (a*d-c*b) (b*d)=rat a b-rat c d:=by
 have h1:=bI hb;have h2:=bI hd;rw[dL hb,dL hd,dL (Int.mul_ne_zero hb hd)];rw[Rat.intCast_sub,anc,anc,anc]
 grind
theorem aeI {a b c d:Int}(hb:b≠0)(hd:d≠0):rat (a*c) (b*d)=rat a b*rat c d:=by
 have h1:=bI hb;have h2:=bI hd;rw[dL hb,dL hd,dL (Int.mul_ne_zero hb hd)];rw[anc,anc]
 grind
theorem akE {a b c d:Int}(hb:b≠0)(hc:c≠0)(hd:d≠0):rat (a*d) (b*c)=rat a b/rat c d:=by
 have h1:=bI hb;have h2:=bI hd;have h3:=bI hc;rw[dL hb,dL hd,dL (Int.mul_ne_zero hb hc)];rw[anc,anc]
 grind
theorem rat_ne {c d:Int}(hc:c≠0):rat c d≠0:=by
 have h3:=bI hc;by_cases hd:d=0
 ·subst hd;rw[mO];exact h3
 ·have h2:=bI hd
  rw[dL hd]
  grind
theorem rE {c d:Int}:rat c d=0↔c=0:=by
 refine⟨fun h=>Decidable.byContradiction fun hc=>rat_ne hc h,fun h=>?_⟩;subst h;unfold rat;split
 ·rfl
 ·show (0:Rat)/(d:Rat)=0;rw[Rat.div_def,Rat.zero_mul]
def il (x y:Rat):Int:=if x<y then-1 else if x=y then 0 else 1
theorem ajh {x y:Rat}:il x y<0↔x<y:=by
 unfold il;split
 ·simp[*]
 ·split<;>simp[*]
theorem rP (x y:Rat):(x-y).num <0↔x<y:=by
 have h:(x-y).num <0↔¬0<=x-y:=by rw[<-Rat.num_nonneg];omega
 rw[h]
 grind
theorem yV (x y:Rat):(x-y).num =0↔x=y:=by
 rw[Rat.num_eq_zero]
 grind
theorem ama (x y:Rat):(if (x-y).num <0 then-1 else if (x-y).num =0 then 0 else 1:Int)=il x y:=by
 unfold il;simp only[rP,yV]
theorem agl {a b c d:Int}(hb:0<b)(hd:0<d):(if a*d<c*b then-1 else if a*d=c*b then 0 else 1:Int)=il (rat a b) (rat c d):=by
 have h1:(0:Rat)<(b:Rat):=Rat.intCast_pos.2 hb;have h2:(0:Rat)<(d:Rat):=Rat.intCast_pos.2 hd;have e1:a*d<c*b↔rat a b<rat c d:=by
  rw[dL (by omega),dL (by omega),Rat.div_lt_iff h1, <-Rat.intCast_lt_intCast,anc,anc];have:(c:Rat)/d*b=c*b/d:=by grind
  rw[this,Rat.lt_div_iff h2]
 have e2:a*d=c*b↔rat a b=rat c d:=by
  rw[dL (by omega),dL (by omega), <-Rat.intCast_inj,anc,anc]
  grind
 unfold il;simp only[e1,e2]
theorem jb {n d:Int}(h:d≠0):n.fdiv d=(rat n d).floor :=by
 rcases Int.lt_trichotomy d 0 with h1|h1|h1
 ·rw[<-Int.neg_fdiv_neg, <-aeH _ _ h]
  rw[Int.fdiv_eq_ediv_of_nonneg _ (by omega)];have hm:=fM (n:= -n) (d:= -d) (by omega);obtain⟨m,hm2⟩:∃m:Nat, -d=m:=⟨(-d).toNat,by omega⟩;rw[hm2]at hm⊢
  rw[hm];apply Int.le_antisymm
  ·rw[Rat.le_floor_iff,Rat.divInt_eq_div]
   have hp:(0:Rat)<((m:Int):Rat):=Rat.intCast_pos.2 (by omega);rw[<-Rat.not_lt,Rat.div_lt_iff hp,Rat.not_lt, <-anc,Rat.intCast_le_intCast];exact Int.ediv_mul_le _ (by omega)
  ·have:(Rat.divInt (-n) m).floor <(-n)/(m:Int)+1:=by
    rw[Rat.floor_lt_iff,Rat.divInt_eq_div];have hp:(0:Rat)<((m:Int):Rat):=Rat.intCast_pos.2 (by omega);rw[Rat.div_lt_iff hp, <-anc,Rat.intCast_lt_intCast];exact Int.lt_ediv_add_one_mul_self _ (by omega)
   omega
 ·exact absurd h1 h
 ·rw[Int.fdiv_eq_ediv_of_nonneg _ (by omega)]
  have hm:=fM (n:=n) (d:=d) (by omega);rw[hm];have hp:(0:Rat)<(d:Rat):=Rat.intCast_pos.2 (by omega);apply Int.le_antisymm
  ·rw[Rat.le_floor_iff,Rat.divInt_eq_div]
   rw[<-Rat.not_lt,Rat.div_lt_iff hp,Rat.not_lt, <-anc,Rat.intCast_le_intCast];exact Int.ediv_mul_le _ (by omega)
  ·have:(Rat.divInt n d).floor <n/d+1:=by
    rw[Rat.floor_lt_iff,Rat.divInt_eq_div];rw[Rat.div_lt_iff hp, <-anc,Rat.intCast_lt_intCast];exact Int.lt_ediv_add_one_mul_self _ (by omega)
   omega
def bP (k:Nat)(q:Rat):Prop:=q.num.natAbs<10^k/\q.den<10^k
theorem rG {k m:Nat}(h:k<=m):10^k<=10^m:=Nat.pow_le_pow_right (by omega) h
theorem bP.mono {k m:Nat}{q:Rat}(h:bP k q)(hk:k<=m):bP m q:=⟨amS h.1 (rG hk),amS h.2 (rG hk)⟩
theorem bP.rat {k m:Nat}{n d:Int}(hn:n.natAbs<10^k)(hd:d.natAbs<10^m)(hm:1<=m):bP (max k m) (rat n d):=by
 have h:=rat_le (n:=n) (d:=d);refine⟨amS (Nat.lt_of_le_of_lt h.1 hn) (rG (by omega)),?_⟩;by_cases e:d=0
 ·rw[h.2.2 e]
  have:=rG (show 1<=max k m by omega);omega
 ·exact amS (Nat.lt_of_le_of_lt (h.2.1 e) hd) (rG (by omega))
theorem bP.int {k:Nat}{z:Int}(h:z.natAbs<10^k)(hk:1<=k):bP k (z:Rat):=by
 refine⟨h,?_⟩;have:=rG hk;simp;omega
theorem al5 (q:Rat):1<=q.den:=Nat.pos_of_ne_zero q.den_nz
theorem bP.of_rat {k m:Nat}{q:Rat}{n d:Int}(e:q=QQ.rat n d)(hn:n.natAbs<10^k)(hd:d.natAbs<10^m)(hm:m<=k)(h1:1<=m):bP k q:=by
 rw[e];exact(bP.rat hn hd h1).mono (by omega)
theorem mY {a b k m:Nat}(ha:a<10^k)(hb:b<10^m):a*b<10^(k+m):=by
 rw[Nat.pow_add];exact Nat.mul_lt_mul_of_lt_of_le ha (Nat.le_of_lt hb) (Nat.pow_pos (by omega))
theorem bP.pos {k:Nat}{q:Rat}(h:bP k q):1<=k:=by
 rcases Nat.lt_or_ge k 1 with h1|h1
 ·have h2:=h.2
  have h3:=al5 q;obtain rfl:k=0:=by omega
  simp at h2;omega
 ·exact h1
theorem nz (q:Rat):(q.den:Int)≠0:=by have:=q.den_nz;omega
theorem bP.mul {k m:Nat}{p q:Rat}(h:bP k p)(h2:bP m q):bP (k+m) (p*q):=by
 refine bP.of_rat (n:=p.num*q.num) (d:=p.den*q.den) (k:=k+m) (m:=k+m) ?_ ?_ ?_ ano (by have:=h.pos;omega)
 ·rw[aeI (nz p) (nz q),bO,bO]
 ·rw[Int.natAbs_mul];exact mY h.1 h2.1
 ·rw[Int.natAbs_mul];exact mY h.2 h2.2
theorem bP.add {k m:Nat}{p q:Rat}(h:bP k p)(h2:bP m q):bP (k+m+1) (p+q):=by
 refine bP.of_rat (n:=p.num*q.den+q.num*p.den) (d:=p.den*q.den) (k:=k+m+1) (m:=k+m) ?_ ?_ ?_ (by omega) (by have:=h.pos;omega)
 ·rw[akF (nz p) (nz q),bO,bO]
 ·have a1:=mY h.1 h2.2
  have a2:=mY h2.1 h.2;rw[Nat.add_comm m k]at a2;have:=Int.natAbs_add_le (p.num*q.den) (q.num*p.den);rw[Int.natAbs_mul,Int.natAbs_mul,Int.natAbs_natCast,Int.natAbs_natCast]at this;rw[anb];omega
 ·rw[Int.natAbs_mul];exact mY h.2 h2.2
theorem bP.neg {k:Nat}{q:Rat}(h:bP k q):bP k (-q):=by
 refine⟨?_,h.2⟩;rw[Rat.neg_num,Int.natAbs_neg];exact h.1
theorem bP.sub {k m:Nat}{p q:Rat}(h:bP k p)(h2:bP m q):bP (k+m+1) (p-q):=by
 rw[Rat.sub_eq_add_neg];exact h.add h2.neg
theorem bP.inv {k:Nat}{q:Rat}(h:bP k q):bP k q⁻¹:=by
 have hp:=rG h.pos;refine⟨?_,?_⟩
 ·rw[Rat.num_inv,Int.natAbs_mul,Int.natAbs_natCast]
  have:q.num.sign.natAbs<=1:=by
   rcases Int.lt_trichotomy q.num 0 with h1|h1|h1
   ·rw[Int.sign_eq_neg_one_of_neg h1];decide
   ·rw[h1];decide
   ·rw[Int.sign_eq_one_of_pos h1];decide
  exact Nat.lt_of_le_of_lt (amG (Nat.mul_le_mul_right _ this) (by omega)) h.2
 ·rw[Rat.den_inv]
  split
  ·omega
  ·exact h.1
theorem bP.div {k m:Nat}{p q:Rat}(h:bP k p)(h2:bP m q):bP (k+m) (p/q):=by
 rw[Rat.div_def];exact h.mul h2.inv
end QQ
namespace Go.Proofs.YtbkhnggmcheelaaGreatDoor
open Proofs.Tryz
section
open Go.RowKit Go.Shelf Dec QQ
def frN (q:Rat):BA:=ae q.num
def frD (q:Rat):BA:=if q.den=1 then⟨#[]⟩else ae q.den
def bV (n d:BA):Rat:=rat (ah n) (ah d)
def FV (n d:BA):Value:=.agg #[.string n,.string d]
def FR (q:Rat):Value:=.agg #[.string (frN q),.string (frD q)]
theorem aiR:frN 0=⟨#[]⟩:=by decide+kernel
theorem aiS:frD 0=⟨#[]⟩:=rfl
theorem aaw (q:Rat):bV (frN q) (frD q)=q:=by
 unfold bV frN frD;by_cases h:q.den=1
 ·rw[if_pos h,aK]
  have:=bO q;rw[h]at this;show rat q.num 0=q;rw[mO];rw[<-aav];exact this
 ·rw[if_neg h,aK,aK,bO]
def Vq (n d:BA)(q:Rat):Prop:=bV n d=q/\n.size<=100000/\d.size<=100000
theorem Vq.arg {n d:BA}(h:n.size<=100000)(h2:d.size<=100000):Vq n d (bV n d):=⟨rfl,h,h2⟩
theorem bP.sizes {k:Nat}{q:Rat}(h:bP k q):(frN q).size <=k+1/\(frD q).size <=k+1:=by
 refine⟨qX h.1,?_⟩;unfold frD;split
 ·exact Nat.zero_le _
 ·exact qX (by have:=h.2;omega)
theorem Vq.fr {k:Nat}{q:Rat}(h:bP k q)(hk:k<=99999):Vq (frN q) (frD q) q:=by
 have:=bP.sizes h;exact⟨aaw q,by omega,by omega⟩
theorem bP.arg {n d:BA}{k:Nat}(h:n.size<=k)(h2:d.size<=k)(hk:1<=k):bP k (bV n d):=by
 have:=bP.rat (Fit.val h) (Fit.val h2) hk;rwa[Nat.max_self]at this
section
variable {P:Program} {ops:Array Oper} {md:Region.Mode} {C:World->Prop}
def bY (P:Program)(md:Region.Mode)(ops:Array Oper)(C:World->Prop)(n:Nat)(L:Array Bool->Act->Prop):Nat->Array Bool->Act->Prop
 |0,s,a=>L s a
 |f+1,s,a=>Region.ready md ops s≠ []/\∀i∈Region.ready md ops s,i<n/\qOp P ops C i (bY P md ops C n L f (s.setIfInBounds i true)) a
theorem bY.sound {n g:Nat}{L:Array Bool->Act->Prop}{Q:Exit->Act->World->Prop}(hL:∀s a w,C w->L s a->wpAny P md ops Q g s a w):
 ∀(f:Nat) (s:Array Bool) (a:Act) (w:World),C w->bY P md ops C n L f s a->wpAny P md ops Q (f+g) s a w
 |0,s,a,w,hw,h=>by rw[am5];exact hL s a w hw h
 |f+1,s,a,w,hw,h=>by
  rw[Nat.succ_add];exact⟨fun h0=>absurd h0 h.1,fun i hi=>wpOp_of_qOp hw (fun a' w' hw' h'=>bY.sound hL f _ a' w' hw' h') (h.2 i hi).2⟩
theorem bY.first {n i:Nat}{oi:Oper}{v:Value}{L:Array Bool->Act->Prop}(hi:ops[i]? =some oi)(hns:Region.noSelect ops=true)
 (hs:Region.sinkB md ops n=true) (hc:Region.chainB md ops n=true) (hn:n<ops.size) (hin:i<n)
 (hend:∀s a,L s a->∀j∈Region.ready md ops s,n<=j):
 ∀(f:Nat) (s:Array Bool) (a:Act),HeadInv md ops n s->
  (∀j oj,ops[j]? =some oj->j≠i->s.getD j true=false->(∀e∈oj.after,Region.binds md e=true->e.on≠i)->oi.apart ops oj=true)->
  i∈Region.ready md ops s->YieldsIn P ops C oi v a->
  bY P md ops C n L f (s.setIfInBounds i true) (a.put oi.dst v)->bY P md ops C n L (f+1) s a:=by
 intro f
 induction f with
 |zero=>
  intro s a inv _ hr hy H;refine⟨List.ne_nil_of_mem hr,fun j hj=>?_⟩;have hlow:j<n:=Nat.lt_of_not_le fun h=>tail_waits hs hc hn inv _ i rfl hin (mem_ready.1 hr).1 j h hj
  refine⟨hlow,?_⟩;by_cases e:j=i
  ·subst e;exact hy.qOp hi H
  ·exact absurd (hend _ _ H j (ready_mono hj e)) (Nat.not_le_of_lt hlow)
 |succ f ih=>
  intro s a inv hfree hr hy H;have hun:=(mem_ready.1 hr).1;refine⟨List.ne_nil_of_mem hr,fun j hj=>?_⟩;have hlow:j<n:=Nat.lt_of_not_le fun h=>tail_waits hs hc hn inv _ i rfl hin hun j h hj
  refine⟨hlow,?_⟩;by_cases e:j=i
  ·subst e;exact hy.qOp hi H
  ·obtain⟨hju,oj,hoj,hall⟩:=mem_ready.1 hj
   have hno:∀x∈oj.after,Region.binds md x=true->x.on≠i:=by
    intro x hx hb hxi;have:=hall x hx hb;rw[hxi,getD_both hun]at this;cases this
   have step:=qOp_put hoj (hfree j oj hoj e hju hno) (fun cs b=>Region.noSelect_spec hns i oi cs b hi) (fun cs b=>Region.noSelect_spec hns j oj cs b hoj) hy (H.2 j (ready_mono hj e)).2;refine qOp_mono (fun a' h3=>ih _ a' (inv.set hj hlow) ?_ (ready_mono hr (Ne.symm e)) h3.1 (by rw[Array.setIfInBounds_comm _ _ e];exact h3.2)) step;intro k ok hk hki hku hkn;refine hfree k ok hk hki ?_ hkn;by_cases hjk:j=k
   ·subst hjk;exact hju
   ·rwa[getD_set_ne true hjk]at hku
theorem bY.lex {n g:Nat}{R:Act->Prop}(hns:Region.noSelect ops=true)(hs:Region.sinkB md ops n=true)(hc:Region.chainB md ops n=true)(hn:n<ops.size):
 ∀(l:List Oper) (k:Nat) (s:Array Bool) (a:Act),(∀j,j<l.length->l[j]? =ops[k+j]?)->k+l.length=n->HeadInv md ops n s->
 Region.lexHead md ops g l.length k s=true->wpQuiet P ops C R l a->
 bY P md ops C n (fun s' a'=>Region.seqB md ops g n s'=true/\R a') l.length s a:=by
 intro l
 induction l with
 |nil=>
  intro k s a _ hk _ hB h;obtain rfl:k=n:=hk;exact⟨hB,h⟩
 |cons o l ih=>
  intro k s a hl hk inv hB h;have h0:ops[k]? =some o:=(hl 0 (Nat.succ_pos _)).symm;rw[amT]at hk hB;rw[Region.lexHead,amC,amC]at hB;have hr:k∈Region.ready md ops s:=List.contains_iff_mem.1 hB.1.1;have hq:qOp P ops C k (wpQuiet P ops C R l) a:=by unfold qOp;rw[h0];exact h
  obtain⟨v,hy,hK⟩:=yieldsIn_of_qOp h0 hq;refine bY.first h0 hns hs hc hn (by omega) (fun s' a' h'=>seqB_ready h'.1) l.length s a inv (Region.free_spec h0 hB.1.2) hr hy ?_;refine ih (k+1) _ _ (fun j hj=>?_) (by omega) (inv.set hr (by omega)) hB.2 hK;have:=hl (j+1) (by rw[amT];omega);rw[List.getElem?_cons_succ]at this;rw[this];congr 1;omega
end
structure Kept (w:World) where
 W:World
 low:Below w.heap.size w W
instance kept_some (w:World):Nonempty (Kept w):=⟨⟨w,am3 _ _⟩⟩
section
variable {P:Program} {w:World}
theorem Kept.cell (u:Kept w){p:Addr}(h:p.block<w.heap.size):u.W.cell? p=w.cell? p:=u.low.cell h
theorem Kept.cell_of {p:Addr}{v:Value}(h:w.cell? p=some v)(u:Kept w):u.W.cell? p=some v:=by rw[u.cell (block_lt_of_cell h)];exact h
theorem jZ (w:World):∃u:Kept w,{w with drawn:=w.drawn+1}=u.W:=⟨⟨{w with drawn:=w.drawn+1},⟨rfl,rfl,rfl,am4 _,fun _ _=>rfl⟩⟩,rfl⟩
theorem ax {id:Nat}{Q:Exit->Act->World->Prop}{a:Act}{l:List Oper}(hm:P.follows .mixedOrders =true)(hB:Region.lexB .any l.toArray=true)
 (h:wpQuiet P l.toArray (fun w'=>∃u:Kept w,w'=u.W) (fun a'=>∀w',(∃u:Kept w,w'=u.W)->Q .normal a' w') l a):(Code.region id l.toArray true).wp P Q a w:=
 wp_region_quiet (C:=fun w'=>∃u:Kept w,w'=u.W) hm hB (jZ w) (by simpa using h)
theorem bA {id:Nat}{Q:Exit->Act->World->Prop}{a:Act}{l:List Oper}(n:Nat)(hm:P.follows .mixedOrders =true)(hB:Region.lexTailB .any l.toArray n=true)
 (h:wpQuiet P l.toArray (fun w'=>∃u:Kept w,w'=u.W) (fun a'=>∀w',(∃u:Kept w,w'=u.W)->wpList P l.toArray Q (l.drop n) a' w') (l.take n) a):(Code.region id l.toArray true).wp P Q a w:=by
 simp only[Region.lexTailB,amC,decide_eq_true_eq]at hB;obtain⟨⟨⟨⟨hns,hn⟩,hs⟩,hc⟩,hlex⟩:=hB;have hn':n<l.length:=hn;have htl:(l.take n).length =n:=by rw[amO];omega
 have hdl:(l.drop n).length =l.toArray.size-n:=by rw[am8];rfl
 have inv0:HeadInv .any l.toArray n (Array.replicate l.toArray.size false):=
  ⟨by simp,fun j oj _ hl=>(by rw[getD_replicate_false]at hl;cases hl),fun t _ ht=>getD_in (by simpa using ht) (getD_replicate_false _ _)⟩
 have H:=bY.lex (md:=.any) (g:=l.toArray.size-n) hns hs hc hn (l.take n) 0 _ a (fun j hj=>by
  rw[htl]at hj;simp[hj]) (by rw[htl];exact am5 n) inv0 (by rw[htl];exact hlex) h
 have H2:=bY.sound (Q:=Q) (g:=l.toArray.size-n) (fun s a' w' hw hL=>by
  have:=wpAny_of_seq (md:=.any) (Q':=Q) (l.drop n) n s a' w' (fun j=>by simp[List.getElem?_drop]) (by rw[hdl];exact hL.1) (hL.2 w' hw);rwa[hdl]at this) _ _ _ _ (jZ w) H
 rw[htl,show n+(l.toArray.size-n)=l.toArray.size by omega]at H2;exact wp_region_any hm H2
end
end
section
open Go.RowKit Go.Shelf Dec
def Ret (f:FuncId)(args:Array Value)(V:Value):Prop:=∀w,Gl w->Calls prog f args w fun e w'=>e= .returned V/\Below w.heap.size w w'
def St (w0 w:World):Prop:=Gl w0/\Below w0.heap.size w0 w
section
variable {w0 w w':World} {f:FuncId} {args:Array Value} {V:Value}
theorem St.refl (h:Gl w):St w w:=⟨h,am3 _ _⟩
theorem St.gl (h:St w0 w):Gl w:=h.1.below h.2
theorem St.on (h:St w0 w)(hb:Below w.heap.size w w'):St w0 w':=⟨h.1,h.2.trans (hb.mono h.2.size)⟩
theorem St.alloc (h:St w0 w)(o:Obj):St w0 (w.alloc o):=h.on ((am3 _ _).alloc ano o)
theorem St.drew (h:St w0 w):St w0 w.drew:=h.on (am3 _ w).drew
theorem St.drewN (h:St w0 w)(n:Nat):St w0 (w.drewN n):=h.on (below_drewN _ _ _)
theorem St.kept (h:St w0 w)(u:Kept w):St w0 u.W:=h.on u.low
theorem St.set (h:St w0 w){b:Nat}(hb:w0.heap.size<=b)(i:Nat)(v:Value):St w0 (w.setCell ⟨b,i,none⟩ v):=⟨h.1,h.2.setCell hb v⟩
theorem Ret.step {Q:Ending->World->Prop}(h:Ret f args V)(hs:St w0 w)(k:∀w',St w0 w'->Below w.heap.size w w'->Q (.returned V) w'):Calls prog f args w Q:=
 (h w hs.gl).mono fun _ w' ⟨he,hb⟩=>he▸k w' (hs.on hb) hb
theorem Ret.kept (h:Ret f args V)(hs:St w0 w){u:Kept w}:Calls prog f args u.W fun e w''=>e= .returned V/\∃u':Kept w,w''=u'.W:=
 (h u.W (hs.gl.below u.low)).mono fun _ w' ⟨he,hb⟩=>⟨he,⟨⟨w',u.low.trans (hb.mono u.low.size)⟩,rfl⟩⟩
def Bx (w:World)(b:Nat)(cs:Array Value):Prop:=∃T,w.heap[b]? =some (.cells cs T (0,0))
theorem Bx.lt {b:Nat}{cs:Array Value}(h:Bx w b cs):b<w.heap.size:=by obtain⟨T,h⟩:=h;exact(amA.1 h).1
theorem Bx.cell {b:Nat}{cs:Array Value}(h:Bx w b cs){i:Nat}{v:Value}(hi:cs[i]? =some v):w.cell? ⟨b,i,none⟩=some v:=by obtain⟨T,h⟩:=h;simp[World.cell?,h,hi]
theorem Bx.frozen {b:Nat}{cs:Array Value}(h:Bx w b cs)(i:Nat):w.frozen? ⟨b,i,none⟩=false:=by obtain⟨T,h⟩:=h;simp[World.frozen?,h]
theorem Bx.on {b:Nat}{cs:Array Value}(h:Bx w b cs)(hb:Below w.heap.size w w'):Bx w' b cs:=by obtain⟨T,h'⟩:=h;exact⟨T,(hb.block b (amA.1 h').1).trans h'⟩
theorem Bx.new (w:World)(cs:Array Value)(T:TypeId):Bx (w.alloc (.cells cs T)) w.heap.size cs:=⟨T,bJ w _⟩
theorem Bx.new1 (w:World)(o:Obj)(cs:Array Value)(T:TypeId):Bx ((w.alloc o).alloc (.cells cs T)) (w.heap.size+1) cs:=by have:=Bx.new (w.alloc o) cs T;rwa[amD]at this
theorem Bx.new2 (w:World)(o o':Obj)(cs:Array Value)(T:TypeId):Bx (((w.alloc o).alloc o').alloc (.cells cs T)) (w.heap.size+2) cs:=by have:=Bx.new1 (w.alloc o) o' cs T;rwa[amD]at this
theorem Bx.drew {b:Nat}{cs:Array Value}(h:Bx w b cs):Bx w.drew b cs:=h.on (am3 _ w).drew
theorem Bx.kept {b:Nat}{cs:Array Value}(h:Bx w b cs)(u:Kept w):Bx u.W b cs:=h.on u.low
theorem Bx.keeps {b:Nat}{cs:Array Value}(h:Bx w b cs){i:Nat}{v:Value}(hi:cs[i]? =some v)(u:Kept w):u.W.cell? ⟨b,i,none⟩=some v:=(h.kept u).cell hi
theorem Bx.c{b:Nat}{cs:Array Value}(h:Bx w b cs)(i:Nat)(v:Value)(hi:cs[i]? =some v):w.cell? ⟨b,i,none⟩=some v:=h.cell hi
theorem Bx.k{b:Nat}{cs:Array Value}(h:Bx w b cs)(i:Nat)(v:Value)(hi:cs[i]? =some v)(u:Kept w):u.W.cell? ⟨b,i,none⟩=some v:=h.keeps hi u
theorem Bx.alloc {b:Nat}{cs:Array Value}(h:Bx w b cs)(o:Obj):Bx (w.alloc o) b cs:=h.on ((am3 _ _).alloc ano o)
theorem Bx.set {b:Nat}{cs:Array Value}(h:Bx w b cs)(i:Nat)(v:Value):Bx (w.setCell ⟨b,i,none⟩ v) b (cs.setIfInBounds i v):=by
 obtain⟨T,h⟩:=h;refine⟨T,?_⟩;simp[World.setCell,Array.getElem?_modify,h]
theorem Bx.other {b c:Nat}{cs:Array Value}(h:Bx w b cs)(hc:b≠c)(i:Nat)(v:Value):Bx (w.setCell ⟨c,i,none⟩ v) b cs:=by
 obtain⟨T,h⟩:=h;exact⟨T,(amR w _ v b hc).trans h⟩
end
end
section
open Go.RowKit Go.Shelf Dec
section
variable {a b:BA} {x y:Int}
theorem abq (h1:Vs a x)(h2:Vs b y):Ret 14 #[.string a,.string b] (.string (ae (x+y))):=fun w hg=>AddV h1 h2 w hg
theorem ahs (h1:Vs a x)(h2:Vs b y):Ret 39 #[.string a,.string b] (.string (ae (x-y))):=fun w hg=>SubV h1 h2 w hg
theorem ajN (h1:Vs a x)(h2:Vs b y):Ret 79 #[.string a,.string b] (.string (ae (x*y))):=fun w hg=>MulV h1 h2 w hg
theorem NegR (h1:Vs a x):Ret 148 #[.string a] (.string (ae (-x))):=fun w hg=>NegV h1 w hg
theorem aab (h1:Vs a x)(h2:Vs b y):Ret 29 #[.string a,.string b] (.int .i64 (dW x y)):=fun w _=>CmpV h1 h2 w
theorem ams (h1:Vs a x)(h2:Vs b y)(hy:y≠0):Ret 150 #[.string a,.string b] (.tuple #[.string (ae (x.fdiv y)),.string (ae (x.fmod y)),.int .i64 0]):=fun w hg=>DivN h1 h2 hy w hg
theorem GcdR (h1:Vs a x)(h2:Vs b y):Ret 149 #[.string a,.string b] (.string (ae (Nat.gcd x.natAbs y.natAbs:Nat))):=fun w hg=>GcdV h1 h2 w hg
theorem CanR (h1:Vs a x):Ret 180 #[.string a] (.string (ae x)):=fun w _=>CanV h1 w
theorem amv (h1:a.size<=1000000):Ret 121 #[.string a] (.int .i64 (chk a)):=fun w _=>agK a w (by omega)
end
end
section
open Go.RowKit Go.Shelf Dec QQ
theorem lW {x y:Int}:decide (dW x y<0)=decide (x<y):=by
 unfold dW;split
 ·simp[*]
 ·split<;>simp[*]
theorem aa9 {x y:Int}:(dW x y==0)=decide (x=y):=by
 unfold dW;split
 ·simp;omega
 ·split<;>simp[*]
theorem aca {x y:Int}(h:y≠0):((Nat.gcd x.natAbs y.natAbs:Nat):Int)≠0:=by
 have:0<Nat.gcd x.natAbs y.natAbs:=Nat.gcd_pos_of_pos_right _ (by omega);omega
theorem Vs.can' {a:BA}{x z:Int}(h:Vs a x)(hz:z.natAbs<=x.natAbs)(hs:a.size<=999999):Vs (ae z) z:=
 Vs.can (k:=999999) (Nat.lt_of_le_of_lt hz (by have:=Fit.val (a:=a) hs;rw[h.1]at this;exact this)) ano
theorem Vs.gcd {b:BA}{x y:Int}(h:Vs b y)(hb:b.size<=999999)(hy:y≠0):Vs (ae (Nat.gcd x.natAbs y.natAbs:Nat)) (Nat.gcd x.natAbs y.natAbs:Nat):=
 h.can' (by rw[Int.natAbs_natCast];exact Nat.le_of_dvd (by omega) (Nat.gcd_dvd_right _ _)) hb
theorem ry {n d:BA}{x y:Int}(h1:Vs n x)(h2:Vs d y)(s1:n.size<=999999)(s2:d.size<=999999)(hy:y≠0):
 Ret 84 #[.string n,.string d] (.tuple #[.string (ae (rat x y).num),.string (ae (rat x y).den)]):=by
 intro w hg;have hs:=St.refl hg;have K1:=aab h2 Vs.nil;by_cases hneg:y<0
 ·have q:decide (dW y 0<0)=true:=by rw[lW];simpa using hneg
  have v1:Vs (ae (-x)) (-x):=h1.can' (by omega) s1;have v2:Vs (ae (-y)) (-y):=h2.can' (by omega) s2;have K2:=NegR h1;have K3:=NegR h2;have K4:=GcdR v1 v2;have v3:Vs (ae (Nat.gcd (-x).natAbs (-y).natAbs :Nat)) (Nat.gcd (-x).natAbs (-y).natAbs :Nat):=h2.can' (by rw[Int.natAbs_natCast];exact amG (Nat.le_of_dvd (by omega) (Nat.gcd_dvd_right _ _)) (by omega)) s2;have K5:=ams v1 v3 (aca (by omega));have K6:=ams v2 v3 (aca (by omega));have e1:=amy (aeG (n:= -x) (d:= -y) (by omega));have e2:=amy (aeJ (n:= -x) (d:= -y) (by omega));rw[aeH x y hy]at e1 e2;rw[<-e1.o]at K5;rw[<-e2.o]at K6;generalize ae (rat x y).num =rn at*
  generalize ae (rat x y).den =rd at*
  clear e1 e2;generalize ae (Nat.gcd (-x).natAbs (-y).natAbs :Nat)=g at*
  generalize dW y 0=c at*
  generalize ae (-x)=m at*
  generalize ae (-y)=k at*
  go_enter func84,ntmps84
  go_wp2_with fail
  refine K1.step hs ?_;intro w1 hs _
  go_wp2_with fail
  refine K2.step hs ?_;intro w1 hs _
  go_wp2_with fail
  refine K3.step hs ?_;intro w1 hs _
  go_wp2_with fail
  refine K4.step hs ?_;intro w1 hs _
  go_wp2_with fail
  refine K5.step hs ?_;intro w1 hs _
  go_wp2_with fail
  refine K6.step hs ?_;intro w1 hs _
  go_wp2_with fail
  go_ret2
  exact⟨rfl,hs.2⟩
 ·have q:decide (dW y 0<0)=false:=by rw[lW];simpa using hneg
  have K4:=GcdR h1 h2;have v3:=h2.gcd (x:=x) s2 hy;have K5:=ams h1 v3 (aca hy);have K6:=ams h2 v3 (aca hy);have e1:=amy (aeG (n:=x) (d:=y) (by omega));have e2:=amy (aeJ (n:=x) (d:=y) (by omega));rw[<-e1.o]at K5;rw[<-e2.o]at K6;generalize ae (rat x y).num =rn at*
  generalize ae (rat x y).den =rd at*
  clear e1 e2;generalize ae (Nat.gcd x.natAbs y.natAbs:Nat)=g at*
  generalize dW y 0=c at*
  go_enter func84,ntmps84
  go_wp2_with fail
  refine K1.step hs ?_;intro w1 hs _
  go_wp2_with fail
  refine K4.step hs ?_;intro w1 hs _
  go_wp2_with fail
  refine K5.step hs ?_;intro w1 hs _
  go_wp2_with fail
  refine K6.step hs ?_;intro w1 hs _
  go_wp2_with fail
  go_ret2
  exact⟨rfl,hs.2⟩
def dn (d:BA):BA:=if ah d=0 then⟨#[49]⟩else d
theorem uj (d:BA):ah (dn d)≠0:=by
 unfold dn;split
 ·decide
 ·assumption
theorem nE (n d:BA):rat (ah n) (ah (dn d))=bV n d:=by
 unfold dn bV;split
 ·rename_i h
  rw[h,mO];exact aav _
 ·rfl
theorem xM (d:BA):(dn d).size <=d.size+1:=by
 unfold dn;split
 ·show 1<=_;omega
 ·omega
theorem aka (z:Int)(s:BA)(x:Int)(hx:ae x=s):((ae z).toList ==s.toList)=decide (z=x):=by
 by_cases h:z=x
 ·subst h
  rw[hx,am2 rfl];simp
 ·rw[am1 h,beq_eq_false_iff_ne]
  intro e;rw[aF,aF]at e;have e2:ah (ae z)=ah s:=by unfold ah;rw[e]
  rw[<-hx,aK,aK]at e2;exact h e2
theorem one_eq (z:Int):((ae z).toList == [49])=decide (z=1):=by have:=aka z ⟨#[49]⟩ 1 (by decide+kernel);rwa[aF ⟨#[49]⟩]at this
theorem nil_eq (z:Int):((ae z).toList == [])=decide (z=0):=by have:=aka z ⟨#[]⟩ 0 (by decide+kernel);rwa[aF ⟨#[]⟩]at this
theorem dZ {n d:BA}(s2:d.size<=999999):
 Ret 78 #[FV n d] (.tuple #[.string n,.string (dn d)]):=by
 intro w hg;unfold FV;have hs:=St.refl hg;have K1:=aab (Vs.arg (s:=d) (by omega)) Vs.nil;have q:(dW (ah d) 0==0)=decide (ah d=0):=aa9;have e:dn d=if ah d=0 then⟨#[49]⟩else d:=rfl
 by_cases h:ah d=0
 ·rw[if_pos h]at e
  rw[am2 h]at q;rw[e];clear e h;generalize dW (ah d) 0=c at*
  go_enter func78,ntmps78
  go_wp2_with fail
  refine K1.step (hs.alloc _) ?_;intro w1 hs hb;have x0:=((Bx.new w #[.string n,.string d] 26).on hb).cell (i:=0) rfl
  go_wp2_with fail
  go_ret2
  exact⟨rfl,hs.2⟩
 ·rw[if_neg h]at e
  rw[am1 h]at q;rw[e];clear e h;generalize dW (ah d) 0=c at*
  go_enter func78,ntmps78
  go_wp2_with fail
  refine K1.step (hs.alloc _) ?_;intro w1 hs hb;have x0:=((Bx.new w #[.string n,.string d] 26).on hb).cell (i:=0) rfl;have x1:=((Bx.new w #[.string n,.string d] 26).on hb).cell (i:=1) rfl
  go_wp2_with fail
  go_quiet (fail)
  go_wp2_with fail
  go_ret2
  exact⟨rfl,(hs.drewN _).2⟩
theorem nu {n d:BA}{x y:Int}(h1:Vs n x)(h2:Vs d y)(s1:n.size<=999999)(s2:d.size<=999999)(hy:y≠0):
 Ret 32 #[.string n,.string d] (FR (rat x y)):=by
 intro w hg;have hs:=St.refl hg;have K1:=ry h1 h2 s1 s2 hy;have e:=one_eq ((rat x y).den :Int);have e2:frD (rat x y)=if (rat x y).den =1 then⟨#[]⟩else ae (rat x y).den :=rfl
 unfold FR frN;generalize ae (rat x y).num =rn at*
 generalize ae (rat x y).den =rd at*
 by_cases h:(rat x y).den =1
 ·rw[am2 (by omega:((rat x y).den :Int)=1)]at e
  rw[if_pos h]at e2;rw[e2];clear e2 h
  go_enter func32,ntmps32
  go_wp2_with fail
  refine K1.step (hs.alloc _) ?_;intro w1 hs hb;have hx:=(Bx.new w #[.string ⟨#[]⟩,.string ⟨#[]⟩] 26).on hb;have x0:=hx.c 0 (.string ⟨#[]⟩) rfl;have x1:=hx.c 1 (.string ⟨#[]⟩) rfl;have f0:=hx.frozen 0;have f1:=hx.frozen 1
  go_wp2_with fail
  have hx2:=(hx.set 0 (.string rn)).set 1 (.string ⟨#[]⟩);have y0:=hx2.c 0 (.string rn) rfl;have y1:=hx2.c 1 (.string ⟨#[]⟩) rfl;have hs2:=(hs.set (b:=w.heap.size) ano 0 (.string rn)).set (b:=w.heap.size) ano 1 (.string ⟨#[]⟩);exact bodyPost_ret (v:=.agg #[.string rn,.string ⟨#[]⟩]) (by simp[results,results32,go_sem,y0,y1]) rfl ⟨rfl,hs2.2⟩
 ·rw[am1 (by omega:¬((rat x y).den :Int)=1)]at e
  rw[if_neg h]at e2;rw[e2];clear e2 h
  go_enter func32,ntmps32
  go_wp2_with fail
  refine K1.step (hs.alloc _) ?_;intro w1 hs hb;have hx:=(Bx.new w #[.string ⟨#[]⟩,.string ⟨#[]⟩] 26).on hb;have x0:=hx.c 0 (.string ⟨#[]⟩) rfl;have x1:=hx.c 1 (.string ⟨#[]⟩) rfl;have f0:=hx.frozen 0;have f1:=hx.frozen 1
  go_wp2_with fail
  have hx2:=(hx.set 0 (.string rn)).set 1 (.string rd);have y0:=hx2.c 0 (.string rn) rfl;have y1:=hx2.c 1 (.string rd) rfl;have hs2:=(hs.set (b:=w.heap.size) ano 0 (.string rn)).set (b:=w.heap.size) ano 1 (.string rd);exact bodyPost_ret (v:=.agg #[.string rn,.string rd]) (by simp[results,results32,go_sem,y0,y1]) rfl ⟨rfl,hs2.2⟩
end
section
open Go.RowKit Go.Shelf Dec
def leapN (y:Nat):Bool:=(y%4==0&& !(y%100==0))||y%400==0
def agU (y:Nat):Nat:=365*(y-1900)+((y-1)/4+(y-1)/400-(y-1)/100)-460
def lenN (y m:Nat):Nat:=if m=2/\leapN y=true then 29 else [0,31,28,31,30,31,30,31,31,30,31,30,31].getD m 0
def cumN (y:Nat):Nat->Nat
 |0=>0
 |m+1=>cumN y m+lenN y m
def yFrom (n:Nat):Nat->Nat->Nat
 |0,y=>y
 |k+1,y=>if agU (y+1)<=n then yFrom n k (y+1)else y
def mFrom (y r:Nat):Nat->Nat->Nat
 |0,m=>m
 |k+1,m=>if cumN y (m+1)<=r then mFrom y r k (m+1)else m
def yN (n:Nat):Nat:=yFrom n 300 1900
def mN (n:Nat):Nat:=mFrom (yN n) (n-agU (yN n)) 12 1
def dN (n:Nat):Nat:=n-agU (yN n)-cumN (yN n) (mN n)+1
open QQ
def eN (n:Nat):Int:=360*(yN n:Int)+30*(mN n:Int)+(min (dN n) 30:Nat)
end
section
open Go.RowKit
def ais (c:UInt8):Bool:=(decide (97<=c.toNat)&&decide (c.toNat<=122))||(decide (48<=c.toNat)&&decide (c.toNat<=57))||c.toNat==95
def aG (s:BA):Bool:=decide (0<s.size)&&decide (s.size<=16)&&s.data.toList.all ais
def xS (s:BA)(i:Nat):Nat:=(s.data.toList.getD i 0).toNat
def aaL (x:Nat):Bool:=(decide (97<=x)&&decide (x<=122))||(decide (48<=x)&&decide (x<=57))||x==95
theorem mX (x:Nat):aaL x=true↔(97<=x/\x<=122)\/(48<=x/\x<=57)\/x=95:=by
 unfold aaL;simp only[Bool.or_eq_true,amC,decide_eq_true_eq,beq_iff_eq];omega
theorem ac8 (x:Nat):(97<=x/\x<=122)\/(48<=x/\x<=57)\/x=95\/x<48\/(57<x/\x<97/\x≠95)\/122<x:=by omega
theorem aiq {s:BA}(h:∀i,i<s.size->aaL (xS s i)=true):s.data.toList.all ais=true:=by
 rw[amU];intro c hc;obtain⟨i,hi,rfl⟩:=List.mem_iff_getElem.1 hc;have:=h i (by simpa using hi);unfold xS at this;rw[List.getD_eq_getElem?_getD,amB hi]at this;exact this
theorem aio {s:BA}{i:Nat}(hi:i<s.size)(h:aaL (xS s i)=false):s.data.toList.all ais=false:=by
 rw[List.all_eq_false];have hi2:i<s.data.toList.length:=by simpa using hi
 refine⟨s.data.toList[i],List.getElem_mem hi2,?_⟩;unfold xS at h;rw[List.getD_eq_getElem?_getD,amB hi2]at h;rw[Bool.not_eq_true];exact h
theorem ain {s:BA}(h0:0<s.size)(h1:s.size<=16)(h:∀i,i<s.size->aaL (xS s i)=true):aG s=true:=by
 unfold aG;rw[am2 h0,am2 h1,aiq h];rfl
theorem ak5 {s:BA}{i:Nat}(hi:i<s.size)(h:aaL (xS s i)=false):aG s=false:=by
 unfold aG;rw[aio hi h,Bool.and_false]
theorem tu (w:World)(e:TypeId)(s:BA):Below w.heap.size w (Lib.bytesWorld w e s):=
 ⟨by simp[Lib.bytesWorld,World.freeze,World.alloc,World.drew, -World.alloc_eq, -World.drew_eq],by simp[Lib.bytesWorld,World.freeze,World.alloc,World.drew, -World.alloc_eq, -World.drew_eq],by simp[Lib.bytesWorld,World.freeze,World.alloc,World.drew, -World.alloc_eq, -World.drew_eq],by rw[Lib.bytesWorld_size];omega,fun j hj=>Lib.bytesWorld_at_old w e s j hj⟩
theorem aip (s:BA)(hs:s.size<=4611686018427387904)(w:World):Calls prog 51 #[.string s] w fun e w'=>e= .returned (.bool (aG s))/\Below w.heap.size w w':=by
 by_cases h0:s.size=0
 ·have hn:aG s=false:=by unfold aG;rw[am1 (by omega)];rfl
  have q:((s.size:Int)==0)=true:=by rw[h0];rfl
  rw[hn];clear hn h0
  go_enter func51,ntmps51
  go_wp2_with fail
  go_ret
  exact⟨rfl,am3 _ _⟩
 have q0:((s.size:Int)==0)=false:=by rw[beq_eq_false_iff_ne];omega
 by_cases h16:16<s.size
 ·have hn:aG s=false:=by unfold aG;rw[am1 (by omega:¬s.size<=16),Bool.and_false];rfl
  have q:decide ((16:Int)<(s.size:Int))=true:=am2 (by omega);have qn:decide (16<s.size)=true:=am2 h16;rw[hn];clear hn h0 h16
  go_enter func51,ntmps51
  go_wp2_with fail
  go_ret
  exact⟨rfl,am3 _ _⟩
 have q16:decide ((16:Int)<(s.size:Int))=false:=am1 (by omega);have q16n:decide (16<s.size)=false:=am1 h16;have hcv:=Lib.run_convert_string_bytes (P:=prog) w 9 186 5 s underlying9 underlying186 underlying5;have HY:=amy (fun h=>ain (s:=s) (by omega) (by omega) h);have HNO:=amy (fun i hi=>ak5 (s:=s) (i:=i) hi);have HBL:=amy (tu w 5 s);have HCELL:=amy (fun j hj=>Lib.bytesWorld_cell w 5 s j hj);generalize Lib.bytesWorld w 5 s=W at*
 generalize grownCap w s.size 0 5=cap at*
 generalize w.heap.size=B at*
 clear h0 h16
 go_enter func51,ntmps51
 go_wp2_with fail
 go_loopw [16] (fun t wr=>∃k:Nat,k<=s.size/\t= .int .i64 (k:Int)/\wr=W/\Hid (∀i,i<k->aaL (xS s i)=true)) (fun t _=>(s.size-intOf t).toNat)
 case atStart=>exact⟨0,by omega,rfl,rfl,fun i h=>by omega⟩
 case round=>
  obtain⟨k,hk,rfl,rfl,HP⟩:=hrel;by_cases hkn:k=s.size
  ·subst hkn
   have q:decide ((s.size:Int)<(s.size:Int))=false:=am1 (by omega)
   go_wp2_with fail
   go_ret
   exact⟨by rw[HY.o HP.o];rfl,HBL.o⟩
  have q:decide ((k:Int)<(s.size:Int))=true:=am2 (by omega);have qn:decide (k<s.size)=true:=am2 (by omega);have hks:k<s.size:=by omega
  have x0:=HCELL.o k hks;have hpB:B<wr.heap.size:=block_lt_of_cell x0;have HB:=amy (HNO.o k hks);obtain⟨x,hx⟩:=eX (xS s k);change wr.cell? _=some (.int .u8 ((xS s k:Nat):Int))at x0;rw[hx]at x0 HB;have HX:=amy hx;have HBF:Hid (¬((97<=x/\x<=122)\/(48<=x/\x<=57)\/x=95)->aG s=false):=fun h=>HB.o (by rw[<-Bool.not_eq_true,mX];exact h)
  clear hx hkn HB;rcases ac8 x with hx0|hx1|hx2|hx3|hx4|hx5
  ·have hc:97<=x/\x<=122:=hx0
   have lt97:decide ((x:Int)<97)=false:=by simp;omega
   have lt97n:decide (x<97)=false:=by simp;omega
   have gt122:decide ((122:Int)<(x:Int))=false:=by simp;omega
   have gt122n:decide (122<x)=false:=by simp;omega
   have HC:=amy hc;clear hc hx0
   go_wp2_with fail
   go_roundw
   case rel=>exact⟨k+1,by omega,by go_num,trivial,fun i hi=>by
    by_cases e:i=k
    ·subst e;rw[HX.o];exact(mX x).2 (by have:=HC.o;omega)
    ·exact HP.o i (by omega)⟩
   case measure=>simp[intOf];omega
  ·have hc:48<=x/\x<=57:=hx1
   have lt97:decide ((x:Int)<97)=true:=by simp;omega
   have lt97n:decide (x<97)=true:=by simp;omega
   have lt48:decide ((x:Int)<48)=false:=by simp;omega
   have lt48n:decide (x<48)=false:=by simp;omega
   have gt57:decide ((57:Int)<(x:Int))=false:=by simp;omega
   have gt57n:decide (57<x)=false:=by simp;omega
   have HC:=amy hc;clear hc hx1
   go_wp2_with fail
   go_roundw
   case rel=>exact⟨k+1,by omega,by go_num,trivial,fun i hi=>by
    by_cases e:i=k
    ·subst e;rw[HX.o];exact(mX x).2 (by have:=HC.o;omega)
    ·exact HP.o i (by omega)⟩
   case measure=>simp[intOf];omega
  ·have hc:x=95:=hx2
   have lt97:decide ((x:Int)<97)=true:=by simp;omega
   have lt97n:decide (x<97)=true:=by simp;omega
   have lt48:decide ((x:Int)<48)=false:=by simp;omega
   have lt48n:decide (x<48)=false:=by simp;omega
   have gt57:decide ((57:Int)<(x:Int))=true:=by simp;omega
   have gt57n:decide (57<x)=true:=by simp;omega
   have ne95:((x:Int) !=95)=false:=by simp;omega
   have ne95n:(x !=95)=false:=by simp;omega
   have HC:=amy hc;clear hc hx2
   go_wp2_with fail
   go_roundw
   case rel=>exact⟨k+1,by omega,by go_num,trivial,fun i hi=>by
    by_cases e:i=k
    ·subst e;rw[HX.o];exact(mX x).2 (by have:=HC.o;omega)
    ·exact HP.o i (by omega)⟩
   case measure=>simp[intOf];omega
  ·have hc:x<48:=hx3
   have lt97:decide ((x:Int)<97)=true:=by simp;omega
   have lt97n:decide (x<97)=true:=by simp;omega
   have lt48:decide ((x:Int)<48)=true:=by simp;omega
   have lt48n:decide (x<48)=true:=by simp;omega
   have ne95:((x:Int) !=95)=true:=by simp;omega
   have ne95n:(x !=95)=true:=by simp;omega
   have HC:=amy hc;clear hc hx3
   go_wp2_with fail
   go_ret
   exact⟨by rw[HBF.o (by have:=HC.o;omega)];rfl,HBL.o⟩
  ·have hc:57<x/\x<97/\x≠95:=hx4
   have lt97:decide ((x:Int)<97)=true:=by simp;omega
   have lt97n:decide (x<97)=true:=by simp;omega
   have lt48:decide ((x:Int)<48)=false:=by simp;omega
   have lt48n:decide (x<48)=false:=by simp;omega
   have gt57:decide ((57:Int)<(x:Int))=true:=by simp;omega
   have gt57n:decide (57<x)=true:=by simp;omega
   have ne95:((x:Int) !=95)=true:=by simp;omega
   have ne95n:(x !=95)=true:=by simp;omega
   have HC:=amy hc;clear hc hx4
   go_wp2_with fail
   go_ret
   exact⟨by rw[HBF.o (by have:=HC.o;omega)];rfl,HBL.o⟩
  ·have hc:122<x:=hx5
   have lt97:decide ((x:Int)<97)=false:=by simp;omega
   have lt97n:decide (x<97)=false:=by simp;omega
   have gt122:decide ((122:Int)<(x:Int))=true:=by simp;omega
   have gt122n:decide (122<x)=true:=by simp;omega
   have lt48:decide ((x:Int)<48)=false:=by simp;omega
   have lt48n:decide (x<48)=false:=by simp;omega
   have gt57:decide ((57:Int)<(x:Int))=true:=by simp;omega
   have gt57n:decide (57<x)=true:=by simp;omega
   have ne95:((x:Int) !=95)=true:=by simp;omega
   have ne95n:(x !=95)=true:=by simp;omega
   have HC:=amy hc;clear hc hx5
   go_wp2_with fail
   go_ret
   exact⟨by rw[HBF.o (by have:=HC.o;omega)];rfl,HBL.o⟩
end
end Go.Proofs.YtbkhnggmcheelaaGreatDoor
