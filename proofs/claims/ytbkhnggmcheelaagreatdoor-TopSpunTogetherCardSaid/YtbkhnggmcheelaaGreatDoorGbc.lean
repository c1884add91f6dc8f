/- TopSpunTogether: A split and the split that undoes it. Conditions: bounded sizes; variables as laid. -/
import Derived.Test.YtbkhnggmcheelaaGreatDoorGbb
set_option linter.unnecessarySimpa false
set_option linter.unusedSimpArgs false
set_option linter.unusedVariables false
namespace Go.Proofs.YtbkhnggmcheelaaGreatDoor
section
open Go.RowKit Go.Shelf Dec QQ SP
theorem ag8:∀(l:List Lt) (seen:List BA),adW seen l=0↔(∀x∈l,nN x=0)/\(∀x∈l,∀i∈seen,i≠x.id)/\(l.map (·.id)).Nodup :=by
 intro l
 induction l with
 |nil=>intro seen;simp[adW]
 |cons x l ih=>
  intro seen;have ih':=ih (x.id::seen);rw[zY];cases h1:(nN x !=0)with
  |true=>
   have h:nN x≠0:=by simpa using h1
   simp only[cond_true];constructor
   ·intro e;exact absurd e h
   ·intro e;exact absurd (e.1 x (by simp)) h
  |false=>
   have h:nN x=0:=by simpa using h1
   cases h2:(seen.any fun i=>eqB i x.id)with
   |true=>
    obtain⟨i,hi,he⟩:=List.any_eq_true.1 h2;simp only[cond_true,cond_false];constructor
    ·intro e;exact absurd e (by decide)
    ·intro e;exact absurd (dH.1 he) (e.2.1 x (by simp) i hi)
   |false=>
    have hs:∀i∈seen,i≠x.id:=fun i hi e=>by
     have:=List.any_eq_false.1 h2 i hi;exact this (dH.2 e)
    simp only[cond_false,ih',anf,ann,List.nodup_cons,amN,forall_eq_or_imp];constructor
    ·rintro⟨a,b,c⟩
     refine⟨⟨h,a⟩,⟨hs,fun y hy=>(b y hy).2⟩,?_,c⟩;rintro⟨y,hy,e⟩;exact(b y hy).1 e.symm
    ·rintro⟨⟨_,a⟩,⟨_,b⟩,c,d⟩
     exact⟨a,fun y hy=>⟨fun e=>c ⟨y,hy,e.symm⟩,b y hy⟩,d⟩
theorem bH (l:List Lt):aN l=0↔l.length<=1000/\(∀x∈l,nN x=0)/\(l.map (·.id)).Nodup :=by
 unfold aN;by_cases h:1000<l.length
 ·rw[am2 h]
  simp only[cond_true];constructor
  ·intro e;exact absurd e (by decide)
  ·intro e;omega
 ·rw[am1 h]
  simp only[cond_false,ag8];constructor
  ·rintro⟨a,_,c⟩;exact⟨by omega,a,c⟩
  ·rintro⟨_,a,c⟩;exact⟨a,fun _ _ i hi=>(by cases hi),c⟩
theorem nA (x:Lt):nN x=0↔adT x.id=true/\aG x.ins=true/\sP x.acq=true/\sP x.opn=true/\¬x.opn<x.acq/\chk x.q=0/\chk x.c=0/\chk x.u=0/\¬dW (ah x.q) 0<=0/\¬dW (ah x.c) 0<0/\(nlB x.u=true\/eqB x.u x.q=true):=by
 have hb:∀(c:Bool) (n:Int) (r:Int),n≠0->((bif c then n else r)=0↔c=false/\r=0):=fun c n r hn=>by
  cases c
  ·simp
  ·simp[hn]
 unfold nN;simp only[hb _ 23 _ (by decide),hb _ 13 _ (by decide),hb _ 8 _ (by decide),hb _ 1 _ (by decide),hb _ 2 _ (by decide),Bool.not_eq_false',decide_eq_false_iff_not,bne_eq_false_iff_eq,and_true,Bool.and_eq_false_iff,Bool.not_eq_eq_eq_not,Bool.not_false,Bool.not_not]
theorem acX {α:Type}(l:List α)(k:Nat)(x:α):(jm l k [x]).Perm (l++ [x]):=by
 have h:(jm l k [x])=l.take k++x::l.drop k:=rfl;rw[h];refine List.perm_middle.trans ?_;rw[List.take_append_drop];exact(List.perm_append_singleton x l).symm
theorem vM.perm {l L:List Lt}{x:Lt}(h:vM l x L):L.Perm (l++ [x]):=by
 obtain⟨k,_,rfl,_⟩:=h;exact acX l k x
theorem OpnAll.perm {L xs M:List Lt}(h:OpnAll L xs M):M.Perm (L++xs):=by
 induction h with
 |nil=>simp
 |snoc _ _ ho ih=>rw[<-List.append_assoc];exact ho.perm.trans (ih.append_right _)
theorem ahO {I:BA}{l L:List Lt}{x:Lt}(h:vM l x L)(hx:x.ins=I):ak I L=ak I l++ [x]:=by
 obtain⟨k,hk,rfl,hd⟩:=h;have e:∀y∈l.drop k,¬(eqB y.ins I=true):=fun y hy=>by rw[<-hx];simp[hd y hy]
 have e0:ak I (l.drop k)=[]:=by
  unfold ak;exact List.filter_eq_nil_iff.2 e
 have e1:ak I l=ak I (l.take k):=by
  conv=>lhs;rw[<-List.take_append_drop k l]
  unfold ak at e0⊢
  rw[List.filter_append,e0,List.append_nil]
 have hxx:eqB x.ins I=true:=dH.2 hx;unfold jm;rw[e1];unfold ak at e0⊢
 rw[List.filter_append,List.filter_append,e0,List.append_nil];simp[hxx]
theorem OpnAll.sel {I:BA}{L xs M:List Lt}(h:OpnAll L xs M)(hx:∀x∈xs,x.ins=I):ak I M=ak I L++xs:=by
 induction h with
 |nil=>simp
 |snoc _ _ ho ih=>rw[ahO ho (hx _ (by simp)),ih (fun y hy=>hx y (by simp[hy])),List.append_assoc]
theorem aeo (I:BA)(l:List Lt):ak I (dC I l)=[]:=by
 unfold ak dC;rw[List.filter_filter,List.filter_eq_nil_iff];intro y _;cases eqB y.ins I<;>simp
theorem zl {l L:List Lt}(h:aN l=0)(hs:L.Sublist l):aN L=0:=by
 obtain⟨a,b,c⟩:=(bH l).1 h;exact(bH L).2 ⟨amG hs.length_le a,fun x hx=>b x (hs.subset hx),(hs.map _).nodup c⟩
theorem uU {l L:List Lt}(h:l.Perm L):aN l=0↔aN L=0:=by
 rw[bH,bH,h.length_eq,(h.map (·.id)).nodup_iff];refine and_congr_right fun _=>and_congr_left fun _=>⟨fun a x hx=>a x (h.mem_iff.2 hx),fun a x hx=>a x (h.mem_iff.1 hx)⟩
theorem uM {l:List Lt}{x:Lt}:kR l x=0↔aN l=0/\nN x=0/\(∀y∈l,y.id≠x.id)/\l.length<1000:=by
 unfold kR;by_cases h1:aN l=0
 ·by_cases h2:nN x=0
  ·cases h3:(l.any fun y=>eqB y.id x.id)with
   |true=>
    obtain⟨y,hy,he⟩:=List.any_eq_true.1 h3;have h1':(aN l !=0)=false:=by simp[h1]
    have h2':(nN x !=0)=false:=by simp[h2]
    rw[h1',h2'];simp only[cond_true,cond_false];constructor
    ·intro e;exact absurd e (by decide)
    ·intro e;exact absurd (dH.1 he) (e.2.2.1 y hy)
   |false=>
    have h4:∀y∈l,y.id≠x.id:=fun y hy e=>List.any_eq_false.1 h3 y hy (dH.2 e)
    have h1':(aN l !=0)=false:=by simp[h1]
    have h2':(nN x !=0)=false:=by simp[h2]
    rw[h1',h2'];simp only[cond_false];by_cases h5:1000<=l.length
    ·rw[am2 h5]
     simp only[cond_true];constructor
     ·intro e;exact absurd e (by decide)
     ·intro e;omega
    ·rw[am1 h5]
     simp only[cond_false];exact⟨fun _=>⟨h1,h2,h4,by omega⟩,fun _=>trivial⟩
  ·have h1':(aN l !=0)=false:=by simp[h1]
   have h2':(nN x !=0)=true:=by simp[h2]
   rw[h1',h2'];simp only[cond_true,cond_false];exact⟨fun e=>absurd e h2,fun e=>absurd e.2.1 h2⟩
 ·have h1':(aN l !=0)=true:=by simp[h1]
  rw[h1'];simp only[cond_true];exact⟨fun e=>absurd e (by decide),fun e=>absurd e.1 h1⟩
theorem uT {l:List Lt}{x:Lt}(h:kR l x=0):aN (l++ [x])=0:=by
 obtain⟨a,b,c,d⟩:=uM.1 h;obtain⟨_,e,f⟩:=(bH l).1 a;refine(bH _).2 ⟨by simp;omega,fun y hy=>?_,?_⟩
 ·rcases ane.1 hy with h|h
  ·exact e y h
  ·rw[List.mem_singleton.1 h];exact b
 ·rw[List.map_append,List.nodup_append]
  refine⟨f,by simp,?_⟩;intro i hi j hj e;obtain⟨y,hy,rfl⟩:=amN.1 hi;simp at hj;exact c y hy (e.trans hj)
theorem OpnAll.ok {L xs M:List Lt}(h:OpnAll L xs M)(hL:aN L=0):aN M=0:=by
 induction h with
 |nil=>exact hL
 |snoc _ he ho _=>exact(uU ho.perm).2 (uT he)
theorem OpnAll.next {L xs M:List Lt}{x:Lt}(h:OpnAll L xs M)(hL:aN L=0)(hx:nN x=0)(hid:∀y∈L++xs,y.id≠x.id)(hlen:L.length+xs.length<1000):kR M x=0:=by
 refine uM.2 ⟨h.ok hL,hx,fun y hy=>hid y (h.perm.mem_iff.1 hy),?_⟩;rw[h.perm.length_eq,am0];exact hlen
theorem aaJ:∀k:Nat,k<1000->aim (ae ((k:Int)+1))=true:=by decide+kernel
theorem xx (cause:BA)(k:Nat):(idS cause k).data.toList =cause.data.toList++(47::(ae (k:Int)).data.toList):=by
 unfold idS;simp
theorem alx {cause:BA}{i j:Nat}(h:idS cause i=idS cause j):i=j:=by
 have:=congrArg (fun s:BA=>s.data.toList) h;simp only[xx,List.append_cancel_left_eq,List.cons.injEq,true_and]at this;have h2:ae (i:Int)=ae (j:Int):=bytes_inj this;have:=ajA h2;omega
theorem zy (l r:List UInt8)(c:UInt8)(h:∀x∈l,x≠c):Lib.indexByte (l++c::r) c=l.length:=by
 induction l with
 |nil=>simp[Lib.indexByte]
 |cons x l ih=>
  have hx:(x==c)=false:=by simpa using h x (by simp)
  have:=ih (fun y hy=>h y (by simp[hy]));have h0:((l.length:Int)== -1)=false:=by simpa using(by omega:(l.length:Int)≠ -1)
  simp only[List.cons_append,Lib.indexByte,hx,this,h0,amT];simp
theorem air {c:UInt8}(h:ais c=true):c≠47:=by
 rintro rfl;exact absurd h (by decide)
theorem aiH {cause:BA}(hc:aG cause=true){k:Nat}(h:k<1000):adT (idS cause (k+1))=true:=by
 have hall:∀x∈cause.data.toList,x≠47:=fun x hx=>air (amU.1 (by unfold aG at hc;simp only[amC]at hc;exact hc.2) x hx)
 have hi:iB (idS cause (k+1)) 47=(cause.data.toList.length:Int):=by
  unfold iB;rw[xx];exact zy _ _ _ hall
 have ea:aa7 (idS cause (k+1)) 47=cause:=by
  unfold aa7;rw[hi,am2 (by omega)];apply bytes_inj;unfold bytes;simp[idS]
 have ez:xP (idS cause (k+1)) 47=ae ((k:Int)+1):=by
  unfold xP;rw[hi,am2 (by omega)];apply bytes_inj;unfold bytes;have hsz:(idS cause (k+1)).size =(idS cause (k+1)).data.toList.length :=by simp
  have hl:=xx cause (k+1);simp only[cond_true,ByteArray.data_extract,Array.toList_extract,List.extract_eq_take_drop,hsz];rw[hl];have e1:((cause.data.toList.length:Int).toNat +1)=(cause.data.toList++ [47]).length :=by simp
  have e2:cause.data.toList++47::(ae ((k+1:Nat):Int)).data.toList =(cause.data.toList++ [47])++(ae ((k+1:Nat):Int)).data.toList :=by simp
  rw[e1,e2,List.drop_left];rw[amK (by simp;omega)];rfl
 unfold adT;rw[ea,ez,hc,aaJ k h];rfl
theorem adr {S p q:Int}(hS:0<S)(h1: -S<S*p-S*q)(h2:S*p-S*q<S):p=q:=by
 rw[<-Int.mul_sub]at h1 h2;have a:p-q<1:=by
  rcases Int.lt_or_le (p-q) 1 with h|h
  ·exact h
  ·have:=Int.mul_le_mul_of_nonneg_left h (Int.le_of_lt hS)
   omega
 have b: -1<p-q:=by
  rcases Int.lt_or_le (-1) (p-q)with h|h
  ·exact h
  ·have:=Int.mul_le_mul_of_nonneg_left h (Int.le_of_lt hS)
   omega
 omega
theorem acQ {T:Int}{ws ps:List Int}(h:WOk ws)(hl:ps.length=ws.length)(he:∀i,i<ws.length->T*at0 ws i=ws.sum*at0 ps i):tV T ws=ps:=by
 refine anl fun i=>?_
 by_cases hi:i<ws.length
 ·have hs:i<(tV T ws).length :=by rw[dz];exact hi
  have hp:i<ps.length:=by omega
  rw[iF hs,iF hp];have hn:=aej T h hi;rw[he i hi]at hn;rw[adr h.pos hn.1 hn.2]
 ·rw[amW (by rw[dz];omega),amW (by omega)]
theorem kK {t:BA}{ws:List BA}{ps:List Int}(ht:chk t=0)(h0:0<ws.length)(hm:ws.length<=1000)(hw:∀w∈ws,chk w=0/\0<=ah w)(hl:ps.length=ws.length)
 (he:∀i,i<ws.length->ah t*at0 (iv ws) i=(iv ws).sum *at0 ps i) (hz:(iv ws).sum =0->∀x∈ps,x=0):dX t ws=ps:=by
 have hnn:∀x∈iv ws,0<=x:=fun x hx=>by
  obtain⟨w,hw',rfl⟩:=amN.1 hx;exact(hw w hw').2
 unfold dX;by_cases hs:(iv ws).sum =0
 ·have:alE t ws≠0:=fun e=>by
   have:=(qH.1 e).ok.pos;omega
  rw[if_pos this];refine(List.eq_replicate_iff.2 ⟨hl,hz hs⟩).symm
 ·have hp:0<(iv ws).sum :=by
   have:=aea hnn;omega
  have ha:AlOk t ws:=⟨h0,hm,ht,hw,⟨hnn,hp⟩⟩;rw[if_neg (by rw[qH.2 ha];exact fun h=>h rfl)];exact acQ ha.ok (by rw[aQ];exact hl) (fun i hi=>he i (by rwa[aQ]at hi))
theorem eT:∀ {l:List Int},(∀x∈l,0<=x)->l.sum=0->∀x∈l,x=0
 | [],_,_,x,hx=>by cases hx
 |y::l,h,hs,x,hx=>by
  have h1:=h y (by simp);have h2:=aea (fun z hz=>h z (amL _ hz):∀z∈l,0<=z);rw[List.sum_cons]at hs;rcases anf.1 hx with rfl|h3
  ·omega
  ·exact eT (fun z hz=>h z (amL _ hz)) (by omega) x h3
theorem gK (z:Int):chk (ae z)=0:=by unfold chk;rw[aK,if_pos rfl]
theorem ag1 {f:Int->Int}{l:List Int}{i:Nat}(h:i<l.length):at0 (l.map f) i=f (at0 l i):=iE (by rw[amP,iF h];rfl)
theorem vZ (N:Int)(l:List Int):(l.map (N* ·)).sum =N*l.sum:=by
 induction l with
 |nil=>simp
 |cons x l ih=>simp[ih,Int.mul_add]
def afN (m:MapS)(old:List Lt)(ns ms fs:List Int):List Lt:=(List.range old.length).map fun k=>frL m old[k]! k ns[k]! ms[k]! fs[k]!
theorem dS (m:MapS)(old:List Lt)(ns ms fs:List Int):(afN m old ns ms fs).length =old.length:=by simp[afN]
theorem lM {m:MapS}{old:List Lt}{ns ms fs:List Int}{k:Nat}{x:Lt}(h:old[k]? =some x):(afN m old ns ms fs)[k]? =some (frL m x k ns[k]! ms[k]! fs[k]!):=by
 obtain⟨hk,e⟩:=amH.1 h;unfold afN;rw[amP,List.getElem?_range hk];simp only[Option.map_some];rw[getElem!_pos old k hk,e]
theorem qy {m:MapS}{old:List Lt}{ns ms fs:List Int}{y:Lt}(h:y∈afN m old ns ms fs):∃k x,old[k]? =some x/\y=frL m x k ns[k]! ms[k]! fs[k]! :=by
 obtain⟨k,hk⟩:=List.mem_iff_getElem?.1 h;have hl:k<old.length:=by
  have:=(amH.1 hk).1;rwa[dS]at this
 refine⟨k,old[k],amB hl,?_⟩;rw[lM (amB hl)]at hk;injection hk with hk
 exact hk.symm
theorem xA {m:MapS}{old:List Lt}{ns ms fs:List Int}:∀y∈afN m old ns ms fs,y.ins=m.oth:=by
 intro y hy;obtain⟨k,x,_,rfl⟩:=qy hy;rfl
theorem aj2 {m:MapS}{old:List Lt}{ns ms fs:List Int}(hl:ns.length=old.length):(afN m old ns ms fs).map (·.q)=ns.map ae:=by
 refine anl fun k=>?_
 rw[amP,amP];by_cases hk:k<old.length
 ·rw[lM (amB hk),amB (by omega:k<ns.length)]
  simp only[Option.map_some,frL];rw[getElem!_pos ns k (by omega)]
 ·rw[amW (by rw[dS];omega),amW (by omega)]
  rfl
theorem aj3 {m:MapS}{old:List Lt}{ns ms:List Int}(hl:ms.length=old.length):(afN m old ns ms (List.replicate old.length 0)).map (·.c)=ms.map ae:=by
 refine anl fun k=>?_
 rw[amP,amP];by_cases hk:k<old.length
 ·rw[lM (amB hk),amB (by omega:k<ms.length)]
  simp only[Option.map_some,frL];rw[getElem!_pos ms k (by omega),getElem!_pos (List.replicate old.length 0) k (by simpa using hk)];simp
 ·rw[amW (by rw[dS];omega),amW (by omega)]
  rfl
def mqL (m:MapS)(l:List Lt):List BA:=(ak m.ins l).map (·.q)
def mcL (m:MapS)(l:List Lt):List BA:=(ak m.ins l).map (·.c)
def zg (m:MapS)(l:List Lt)(z:Int):List Int:=dX (ae z) (mqL m l)
theorem iC {I:BA}{l:List Lt}{x:Lt}(h:x∈ak I l):x∈l/\x.ins=I:=by
 obtain⟨a,b⟩:=List.mem_filter.1 h;exact⟨a,dH.1 b⟩
theorem wD (I:BA)(l:List Lt):(ak I l).length <=l.length:=List.length_filter_le _ _
structure Fine (old:List Lt):Prop where
 n:old.length<=1000
 q:∀x∈old,chk x.q=0/\0<ah x.q
 c:∀x∈old,chk x.c=0/\0<=ah x.c
theorem iM {l:List Lt}(h:aN l=0)(I:BA):Fine (ak I l):=by
 obtain⟨a,b,_⟩:=(bH l).1 h;refine⟨amG (wD _ _) a,fun x hx=>?_,fun x hx=>?_⟩
 ·obtain⟨_,_,_,_,_,h6,_,_,h9,_,_⟩:=(nA x).1 (b x (iC hx).1)
  refine⟨h6,?_⟩;unfold dW at h9;omega
 ·obtain⟨_,_,_,_,_,_,h7,_,_,h10,_⟩:=(nA x).1 (b x (iC hx).1)
  refine⟨h7,?_⟩;unfold dW at h10;omega
section
variable {old:List Lt}
theorem Fine.wq (h:Fine old):∀w∈old.map (·.q),chk w=0/\0<=ah w:=fun w hw=>by
 obtain⟨x,hx,rfl⟩:=amN.1 hw;exact⟨(h.q x hx).1,Int.le_of_lt (h.q x hx).2⟩
theorem Fine.wc (h:Fine old):∀w∈old.map (·.c),chk w=0/\0<=ah w:=fun w hw=>by
 obtain⟨x,hx,rfl⟩:=amN.1 hw;exact h.c x hx
theorem aaU {ws:List BA}(h:∀w∈ws,chk w=0/\0<=ah w):∀x∈iv ws,0<=x:=fun x hx=>by
 obtain⟨w,hw,rfl⟩:=amN.1 hx;exact(h w hw).2
theorem agP {xs:List Int}(h:∀x∈xs,0<=x):∀w∈xs.map ae,chk w=0/\0<=ah w:=fun w hw=>by
 obtain⟨x,hx,rfl⟩:=amN.1 hw;rw[aK];exact⟨gK x,h x hx⟩
end
theorem af8 {ws:List BA}(h0:0<ws.length)(hm:ws.length<=1000)(hw:∀w∈ws,chk w=0/\0<=ah w):dX (ae (iv ws).sum) ws=iv ws:=
 kK (gK _) h0 hm hw (aQ ws) (fun i _=>by rw[aK]) (fun h=>eT (aaU hw) h)
theorem aci {ws:List BA}(h0:0<ws.length)(hm:ws.length<=1000)(hw:∀w∈ws,chk w=0/\0<=ah w):dX ⟨#[]⟩ ws=List.replicate ws.length 0:=
 kK (by decide+kernel) h0 hm hw (by simp) (fun i hi=>by
  rw[abr,Int.zero_mul,iE (x:=0) (by rw[List.getElem?_replicate,if_pos hi]),Int.mul_zero]) (fun _ x hx=>List.eq_of_mem_replicate hx)
theorem adx {ws:List BA}(N:Int)(h0:0<ws.length)(hm:ws.length<=1000)(hw:∀w∈ws,chk w=0/\0<=ah w):dX (ae (N*(iv ws).sum)) ws=(iv ws).map (N* ·):=
 kK (gK _) h0 hm hw (by simp[aQ]) (fun i hi=>by
  rw[aK,ag1 (by rw[aQ];exact hi),Int.mul_assoc,Int.mul_left_comm]) (fun h x hx=>by
   obtain⟨y,hy,rfl⟩:=amN.1 hx;rw[eT (aaU hw) h y hy,Int.mul_zero])
theorem af9 {xs:List Int}(N:Int)(hN:1<=N)(h0:0<xs.length)(hm:xs.length<=1000)(hw:∀x∈xs,0<=x):dX (ae xs.sum) ((xs.map (N* ·)).map ae)=xs:=
 kK (gK _) (by simpa using h0) (by simpa using hm) (agP fun x hx=>by
  obtain⟨y,hy,rfl⟩:=amN.1 hx;exact Int.mul_nonneg (by omega) (hw y hy)) (by simp) (fun i hi=>by
  have hi':i<xs.length:=by simpa using hi
  rw[aK,nC,ag1 hi',vZ];rw[Int.mul_left_comm,Int.mul_assoc]) (fun h x hx=>by
   rw[nC,vZ]at h;have:xs.sum=0:=by
    rcases Int.mul_eq_zero.1 h with h|h
    ·omega
    ·exact h
   exact eT hw this x hx)
section
variable {m1 m2:MapS} {l R1 R2:List Lt} {I:BA} {N:Int}
theorem afS (hl:aN l=0)(h1:m1.ins=I)(h0:ak I l≠ []):zg m1 l (N*(iv ((ak I l).map (·.q))).sum)=(iv ((ak I l).map (·.q))).map (N* ·):=by
 subst h1;have hf:=iM hl m1.ins;exact adx N (by rw[am6];exact List.length_pos_iff.2 h0) (by rw[am6];exact hf.n) hf.wq
theorem xJ (I:BA)(l:List Lt):(dC I l).length +(ak I l).length =l.length:=by
 unfold dC ak
 induction l with
 |nil=>rfl
 |cons x l ih=>
  cases hx:eqB x.ins I<;>simp[List.filter_cons,hx]<;>omega
end
end
section
open Go.RowKit Go.Shelf Dec QQ SP
def lessL:List Int->Nat->List Lt->List Lt
 |_,_,[]=>[]
 |ms,i,x::l=>ja x ms[i]! ::lessL ms (i+1) l
theorem aau {I:BA}{ms:List Int}:∀(l:List Lt) (i:Nat),ak I (eu I ms i l)=lessL ms i (ak I l)
 | [],i=>rfl
 |x::l,i=>by
  cases hx:eqB x.ins I with
  |true=>
   show ak I (bif eqB x.ins I then ja x ms[i]! ::eu I ms (i+1) l else x::eu I ms i l)=_;rw[hx];show ak I (ja x ms[i]! ::eu I ms (i+1) l)=_;rw[qY (show eqB (ja x ms[i]!).ins I=true from hx),qY hx,aau l (i+1)];rfl
  |false=>
   show ak I (bif eqB x.ins I then ja x ms[i]! ::eu I ms (i+1) l else x::eu I ms i l)=_;rw[hx];show ak I (x::eu I ms i l)=_;rw[lv hx,lv hx,aau l i]
theorem mM {I J:BA}(hne:J≠I){ms:List Int}:∀(l:List Lt) (i:Nat),ak J (eu I ms i l)=ak J l
 | [],i=>rfl
 |x::l,i=>by
  cases hx:eqB x.ins I with
  |true=>
   have hj:eqB x.ins J=false:=by
    cases h:eqB x.ins J with
    |false=>rfl
    |true=>exact absurd ((dH.1 h).symm.trans (dH.1 hx)) hne
   show ak J (bif eqB x.ins I then ja x ms[i]! ::eu I ms (i+1) l else x::eu I ms i l)=_;rw[hx];show ak J (ja x ms[i]! ::eu I ms (i+1) l)=_;rw[lv (show eqB (ja x ms[i]!).ins J=false from hj),lv hj,mM hne l (i+1)]
  |false=>
   show ak J (bif eqB x.ins I then ja x ms[i]! ::eu I ms (i+1) l else x::eu I ms i l)=_;rw[hx];show ak J (x::eu I ms i l)=_;cases hj:eqB x.ins J with
   |true=>rw[qY hj,qY hj,mM hne l i]
   |false=>rw[lv hj,lv hj,mM hne l i]
theorem afw (ms:List Int):∀(l:List Lt) (i:Nat),(lessL ms i l).map (·.q)=l.map (·.q)
 | [],i=>rfl
 |x::l,i=>by
  show x.q::(lessL ms (i+1) l).map (·.q)=_;rw[afw ms l (i+1)];rfl
theorem afx:∀(l:List Lt) (ms:List Int) (i:Nat),ms.length=i+l.length->(iv ((lessL ms i l).map (·.c))).sum +(ms.drop i).sum =(iv (l.map (·.c))).sum
 | [],ms,i,h=>by
  rw[List.drop_eq_nil_of_le (by simpa using Nat.le_of_eq h)];rfl
 |x::l,ms,i,h=>by
  rw[amT]at h;have hi:i<ms.length:=by omega
  have ih:=afx l ms (i+1) (by omega);have e:ms.drop i=ms[i]::ms.drop (i+1):=List.drop_eq_getElem_cons hi;have e1:(lessL ms i (x::l)).map (·.c)=ae (ah x.c-ms[i]!)::(lessL ms (i+1) l).map (·.c):=rfl;rw[e,e1,List.sum_cons,ann];unfold iv at ih⊢
  rw[ann,ann,List.sum_cons,List.sum_cons,aK,getElem!_pos ms i hi];omega
def eH (m:MapS)(l:List Lt)(M:Int):List Int:=dX (ae M) (mcL m l)
def iZ (m:MapS)(l:List Lt)(M:Int):List Int:=dX ⟨#[]⟩ ((eH m l M).map ae)
def bD (m:MapS)(l:List Lt)(z M:Int):List Lt:=afN m (ak m.ins l) (zg m l z) (eH m l M) (iZ m l M)
def acV (m:MapS)(l:List Lt)(M:Int):List Lt:=eu m.ins (eH m l M) 0 l
structure MapFineK (m:MapS) (l:List Lt) (z M:Int) (R:List Lt):Prop where
 none:ak m.ins l=[]->R=l
 some:ak m.ins l≠ []->(∀x∈bD m l z M,∀y∈l,y.id≠x.id)/\OpnAll (acV m l M) (bD m l z M) R
end
end Go.Proofs.YtbkhnggmcheelaaGreatDoor
