/- A split and the split that undoes it: plain facts on lists of lots. No program in sight; no condition. -/
import Derived.Lib.IndexLaws
import Derived.Test.YtjknklinhegdoaaGreatDoorGap
import Derived.Test.YtjknklinhegdoaaGreatDoorGbd
set_option linter.unnecessarySimpa false
set_option linter.unusedSimpArgs false
set_option linter.unusedVariables false
namespace Go.Proofs.YtjknklinhegdoaaGreatDoor
open Go.RowKit Go.Shelf Dec QQ SP
theorem af3:∀(l:List Lt) (seen:List ByteArray),ac5 seen l=0↔(∀x∈l,mD x=0)∧(∀x∈l,∀i∈seen,i≠x.id)∧(l.map (·.id)).Nodup :=by
 intro l
 induction l with
 |nil=>intro seen;simp[ac5]
 |cons x l ih=>
  intro seen;have ih':=ih (x.id::seen);rw[yK];cases h1:(mD x !=0)with
  |true=>
   have h:mD x≠0:=by simpa using h1
   simp only[cond_true];constructor
   ·intro e;exact absurd e h
   ·intro e;exact absurd (e.1 x (by simp)) h
  |false=>
   have h:mD x=0:=by simpa using h1
   cases h2:(seen.any fun i=>eqB i x.id)with
   |true=>
    obtain⟨i,hi,he⟩:=List.any_eq_true.1 h2;simp only[cond_true,cond_false];constructor
    ·intro e;exact absurd e (by decide)
    ·intro e;exact absurd (gI.1 he) (e.2.1 x (by simp) i hi)
   |false=>
    have hs:∀i∈seen,i≠x.id:=fun i hi e=>by
     have:=List.any_eq_false.1 h2 i hi;exact this (gI.2 e)
    simp only[cond_false,ih',List.mem_cons,List.map_cons,List.nodup_cons,alq,forall_eq_or_imp];constructor
    ·rintro⟨a,b,c⟩
     refine⟨⟨h,a⟩,⟨hs,fun y hy=>(b y hy).2⟩,?_,c⟩;rintro⟨y,hy,e⟩;exact(b y hy).1 e.symm
    ·rintro⟨⟨_,a⟩,⟨_,b⟩,c,d⟩
     exact⟨a,fun y hy=>⟨fun e=>c ⟨y,hy,e.symm⟩,b y hy⟩,d⟩
theorem bQ (l:List Lt):aL l=0↔l.length≤1000∧(∀x∈l,mD x=0)∧(l.map (·.id)).Nodup :=by
 unfold aL;by_cases h:1000<l.length
 ·rw[alI h]
  simp only[cond_true];constructor
  ·intro e;exact absurd e (by decide)
  ·intro e;omega
 ·rw[alH h]
  simp only[cond_false,af3];constructor
  ·rintro⟨a,_,c⟩;exact⟨by omega,a,c⟩
  ·rintro⟨_,a,c⟩;exact⟨a,fun _ _ i hi=>(by cases hi),c⟩
theorem lT (x:Lt):mD x=0↔ac2 x.id=true∧aG x.ins=true∧qQ x.acq=true∧qQ x.opn=true∧¬x.opn<x.acq∧chk x.q=0∧chk x.c=0∧chk x.u=0∧¬fA (aj x.q) 0≤0∧¬fA (aj x.c) 0<0∧(nlB x.u=true∨eqB x.u x.q=true):=by
 have hb:∀(c:Bool) (n:Int) (r:Int),n≠0→((bif c then n else r)=0↔c=false∧r=0):=fun c n r hn=>by
  cases c
  ·simp
  ·simp[hn]
 unfold mD;simp only[hb _ 23 _ (by decide),hb _ 13 _ (by decide),hb _ 8 _ (by decide),hb _ 1 _ (by decide),hb _ 2 _ (by decide),Bool.not_eq_false',decide_eq_false_iff_not,bne_eq_false_iff_eq,and_true,Bool.and_eq_false_iff,Bool.not_eq_eq_eq_not,Bool.not_false,Bool.not_not]
theorem ab5 {α:Type}(l:List α)(k:Nat)(x:α):(ji l k [x]).Perm (l++ [x]):=by
 have h:(ji l k [x])=l.take k++x::l.drop k:=rfl;rw[h];refine List.perm_middle.trans ?_;rw[List.take_append_drop];exact(List.perm_append_singleton x l).symm
theorem yM.perm {l L:List Lt}{x:Lt}(h:yM l x L):L.Perm (l++ [x]):=by
 obtain⟨k,_,rfl,_⟩:=h;exact ab5 l k x
theorem OpnAll.perm {L xs M:List Lt}(h:OpnAll L xs M):M.Perm (L++xs):=by
 induction h with
 |nil=>simp
 |snoc _ _ ho ih=>rw[←List.append_assoc];exact ho.perm.trans (ih.append_right _)
theorem agI {I:ByteArray}{l L:List Lt}{x:Lt}(h:yM l x L)(hx:x.ins=I):av I L=av I l++ [x]:=by
 obtain⟨k,hk,rfl,hd⟩:=h;have e:∀y∈l.drop k,¬(eqB y.ins I=true):=fun y hy=>by rw[←hx];simp[hd y hy]
 have e0:av I (l.drop k)=[]:=by
  unfold av;exact List.filter_eq_nil_iff.2 e
 have e1:av I l=av I (l.take k):=by
  conv=>lhs;rw[←List.take_append_drop k l]
  unfold av at e0⊢
  rw[List.filter_append,e0,List.append_nil]
 have hxx:eqB x.ins I=true:=gI.2 hx;unfold ji;rw[e1];unfold av at e0⊢
 rw[List.filter_append,List.filter_append,e0,List.append_nil];simp[hxx]
theorem OpnAll.sel {I:ByteArray}{L xs M:List Lt}(h:OpnAll L xs M)(hx:∀x∈xs,x.ins=I):av I M=av I L++xs:=by
 induction h with
 |nil=>simp
 |snoc _ _ ho ih=>rw[agI ho (hx _ (by simp)),ih (fun y hy=>hx y (by simp[hy])),List.append_assoc]
theorem adt (I:ByteArray)(l:List Lt):av I (dw I l)=[]:=by
 unfold av dw;rw[List.filter_filter,List.filter_eq_nil_iff];intro y _;cases eqB y.ins I<;>simp
theorem xK {l L:List Lt}(h:aL l=0)(hs:L.Sublist l):aL L=0:=by
 obtain⟨a,b,c⟩:=(bQ l).1 h;exact(bQ L).2 ⟨ali hs.length_le a,fun x hx=>b x (hs.subset hx),(hs.map _).nodup c⟩
theorem acl {l L:List Lt}(h:l.Perm L):aL l=0↔aL L=0:=by
 rw[bQ,bQ,h.length_eq,(h.map (·.id)).nodup_iff];refine and_congr_right fun _=>and_congr_left fun _=>⟨fun a x hx=>a x (h.mem_iff.2 hx),fun a x hx=>a x (h.mem_iff.1 hx)⟩
theorem tF {l:List Lt}{x:Lt}:mP l x=0↔aL l=0∧mD x=0∧(∀y∈l,y.id≠x.id)∧l.length<1000:=by
 unfold mP;by_cases h1:aL l=0
 ·by_cases h2:mD x=0
  ·cases h3:(l.any fun y=>eqB y.id x.id)with
   |true=>
    obtain⟨y,hy,he⟩:=List.any_eq_true.1 h3;have h1':(aL l !=0)=false:=by simp[h1]
    have h2':(mD x !=0)=false:=by simp[h2]
    rw[h1',h2'];simp only[cond_true,cond_false];constructor
    ·intro e;exact absurd e (by decide)
    ·intro e;exact absurd (gI.1 he) (e.2.2.1 y hy)
   |false=>
    have h4:∀y∈l,y.id≠x.id:=fun y hy e=>List.any_eq_false.1 h3 y hy (gI.2 e)
    have h1':(aL l !=0)=false:=by simp[h1]
    have h2':(mD x !=0)=false:=by simp[h2]
    rw[h1',h2'];simp only[cond_false];by_cases h5:1000≤l.length
    ·rw[alI h5]
     simp only[cond_true];constructor
     ·intro e;exact absurd e (by decide)
     ·intro e;omega
    ·rw[alH h5]
     simp only[cond_false];exact⟨fun _=>⟨h1,h2,h4,by omega⟩,fun _=>trivial⟩
  ·have h1':(aL l !=0)=false:=by simp[h1]
   have h2':(mD x !=0)=true:=by simp[h2]
   rw[h1',h2'];simp only[cond_true,cond_false];exact⟨fun e=>absurd e h2,fun e=>absurd e.2.1 h2⟩
 ·have h1':(aL l !=0)=true:=by simp[h1]
  rw[h1'];simp only[cond_true];exact⟨fun e=>absurd e (by decide),fun e=>absurd e.1 h1⟩
theorem ack {l:List Lt}{x:Lt}(h:mP l x=0):aL (l++ [x])=0:=by
 obtain⟨a,b,c,d⟩:=tF.1 h;obtain⟨_,e,f⟩:=(bQ l).1 a;refine(bQ _).2 ⟨by simp;omega,fun y hy=>?_,?_⟩
 ·rcases List.mem_append.1 hy with h|h
  ·exact e y h
  ·rw[List.mem_singleton.1 h];exact b
 ·rw[List.map_append,List.nodup_append]
  refine⟨f,by simp,?_⟩;intro i hi j hj e;obtain⟨y,hy,rfl⟩:=alq.1 hi;simp at hj;exact c y hy (e.trans hj)
theorem OpnAll.ok {L xs M:List Lt}(h:OpnAll L xs M)(hL:aL L=0):aL M=0:=by
 induction h with
 |nil=>exact hL
 |snoc _ he ho _=>exact(acl ho.perm).2 (ack he)
theorem OpnAll.next {L xs M:List Lt}{x:Lt}(h:OpnAll L xs M)(hL:aL L=0)(hx:mD x=0)(hid:∀y∈L++xs,y.id≠x.id)(hlen:L.length+xs.length<1000):mP M x=0:=by
 refine tF.2 ⟨h.ok hL,hx,fun y hy=>hid y (h.perm.mem_iff.1 hy),?_⟩;rw[h.perm.length_eq,alG];exact hlen
theorem zH:∀k:Nat,k<1000→ahi (ag ((k:Int)+1))=true:=by decide+kernel
theorem vH (cause:ByteArray)(k:Nat):(idS cause k).data.toList =cause.data.toList++(47::(ag (k:Int)).data.toList):=by
 unfold idS;simp
theorem akg {cause:ByteArray}{i j:Nat}(h:idS cause i=idS cause j):i=j:=by
 have:=congrArg (fun s:ByteArray=>s.data.toList) h;simp only[vH,List.append_cancel_left_eq,List.cons.injEq,true_and]at this;have h2:ag (i:Int)=ag (j:Int):=bytes_inj this;have:=air h2;omega
theorem xS (l r:List UInt8)(c:UInt8)(h:∀x∈l,x≠c):Lib.indexByte (l++c::r) c=l.length:=by
 induction l with
 |nil=>simp[Lib.indexByte]
 |cons x l ih=>
  have hx:(x==c)=false:=by simpa using h x (by simp)
  have:=ih (fun y hy=>h y (by simp[hy]));have h0:((l.length:Int)== -1)=false:=by simpa using(by omega:(l.length:Int)≠ -1)
  simp only[List.cons_append,Lib.indexByte,hx,this,h0,aly];simp
theorem ahn {c:UInt8}(h:aho c=true):c≠47:=by
 rintro rfl;exact absurd h (by decide)
theorem ahE {cause:ByteArray}(hc:aG cause=true){k:Nat}(h:k<1000):ac2 (idS cause (k+1))=true:=by
 have hall:∀x∈cause.data.toList,x≠47:=fun x hx=>ahn (alz.1 (by unfold aG at hc;simp only[ale]at hc;exact hc.2) x hx)
 have hi:iB (idS cause (k+1)) 47=(cause.data.toList.length:Int):=by
  unfold iB;rw[vH];exact xS _ _ _ hall
 have ea:aag (idS cause (k+1)) 47=cause:=by
  unfold aag;rw[hi,alI (by omega)];apply bytes_inj;unfold bytes;simp[idS]
 have ez:vZ (idS cause (k+1)) 47=ag ((k:Int)+1):=by
  unfold vZ;rw[hi,alI (by omega)];apply bytes_inj;unfold bytes;have hsz:(idS cause (k+1)).size =(idS cause (k+1)).data.toList.length :=by simp
  have hl:=vH cause (k+1);simp only[cond_true,ByteArray.data_extract,Array.toList_extract,List.extract_eq_take_drop,hsz];rw[hl];have e1:((cause.data.toList.length:Int).toNat +1)=(cause.data.toList++ [47]).length :=by simp
  have e2:cause.data.toList++47::(ag ((k+1:Nat):Int)).data.toList =(cause.data.toList++ [47])++(ag ((k+1:Nat):Int)).data.toList :=by simp
  rw[e1,e2,List.drop_left];rw[aln (by simp;omega)];rfl
 unfold ac2;rw[ea,ez,hc,zH k h];rfl
theorem acy {S p q:Int}(hS:0<S)(h1: -S<S*p-S*q)(h2:S*p-S*q<S):p=q:=by
 rw[←Int.mul_sub]at h1 h2;have a:p-q<1:=by
  rcases Int.lt_or_le (p-q) 1 with h|h
  ·exact h
  ·have:=Int.mul_le_mul_of_nonneg_left h (Int.le_of_lt hS)
   omega
 have b: -1<p-q:=by
  rcases Int.lt_or_le (-1) (p-q)with h|h
  ·exact h
  ·have:=Int.mul_le_mul_of_nonneg_left h (Int.le_of_lt hS)
   omega
 omega
theorem abZ {T:Int}{ws ps:List Int}(h:WOk ws)(hl:ps.length=ws.length)(he:∀i,i<ws.length→T*at0 ws i=ws.sum*at0 ps i):wP T ws=ps:=by
 refine List.ext_getElem? fun i=>?_
 by_cases hi:i<ws.length
 ·have hs:i<(wP T ws).length :=by rw[dI];exact hi
  have hp:i<ps.length:=by omega
  rw[iK hs,iK hp];have hn:=adq T h hi;rw[he i hi]at hn;rw[acy h.pos hn.1 hn.2]
 ·rw[alB (by rw[dI];omega),alB (by omega)]
theorem jP {t:ByteArray}{ws:List ByteArray}{ps:List Int}(ht:chk t=0)(h0:0<ws.length)(hm:ws.length≤1000)(hw:∀w∈ws,chk w=0∧0≤aj w)(hl:ps.length=ws.length)
 (he:∀i,i<ws.length→aj t*at0 (iv ws) i=(iv ws).sum *at0 ps i) (hz:(iv ws).sum =0→∀x∈ps,x=0):dM t ws=ps:=by
 have hnn:∀x∈iv ws,0≤x:=fun x hx=>by
  obtain⟨w,hw',rfl⟩:=alq.1 hx;exact(hw w hw').2
 unfold dM;by_cases hs:(iv ws).sum =0
 ·have:alE t ws≠0:=fun e=>by
   have:=(wF.1 e).ok.pos;omega
  rw[if_pos this];refine(List.eq_replicate_iff.2 ⟨hl,hz hs⟩).symm
 ·have hp:0<(iv ws).sum :=by
   have:=adi hnn;omega
  have ha:AlOk t ws:=⟨h0,hm,ht,hw,⟨hnn,hp⟩⟩;rw[if_neg (by rw[wF.2 ha];exact fun h=>h rfl)];exact abZ ha.ok (by rw[aP];exact hl) (fun i hi=>he i (by rwa[aP]at hi))
theorem fD:∀ {l:List Int},(∀x∈l,0≤x)→l.sum=0→∀x∈l,x=0
 | [],_,_,x,hx=>by cases hx
 |y::l,h,hs,x,hx=>by
  have h1:=h y (by simp);have h2:=adi (fun z hz=>h z (alo _ hz):∀z∈l,0≤z);rw[List.sum_cons]at hs;rcases List.mem_cons.1 hx with rfl|h3
  ·omega
  ·exact fD (fun z hz=>h z (alo _ hz)) (by omega) x h3
theorem pg (z:Int):chk (ag z)=0:=by unfold chk;rw[aW,if_pos rfl]
theorem qV {s:ByteArray}(h:chk s=0):ag (aj s)=s:=by
 unfold chk at h;split at h
 ·next e=>exact e.symm
 ·cases h
theorem afZ {f:Int→Int}{l:List Int}{i:Nat}(h:i<l.length):at0 (l.map f) i=f (at0 l i):=gU (by rw[als,iK h];rfl)
theorem abD {l:List Int}{i:Nat}(h:i<l.length):l[i]! =at0 l i:=by
 rw[getElem!_pos l i h];exact(gU (ald h)).symm
theorem uE (N:Int)(l:List Int):(l.map (N* ·)).sum =N*l.sum:=by
 induction l with
 |nil=>simp
 |cons x l ih=>simp[ih,Int.mul_add]
def ahM (m:MapS)(old:List Lt)(ns ms fs:List Int):List Lt:=(List.range old.length).map fun k=>frL m old[k]! k ns[k]! ms[k]! fs[k]!
theorem eH (m:MapS)(old:List Lt)(ns ms fs:List Int):(ahM m old ns ms fs).length =old.length:=by simp[ahM]
theorem kM {m:MapS}{old:List Lt}{ns ms fs:List Int}{k:Nat}{x:Lt}(h:old[k]? =some x):(ahM m old ns ms fs)[k]? =some (frL m x k ns[k]! ms[k]! fs[k]!):=by
 obtain⟨hk,e⟩:=alj.1 h;unfold ahM;rw[als,List.getElem?_range hk];simp only[Option.map_some];rw[getElem!_pos old k hk,e]
theorem abh {m:MapS}{old:List Lt}{ns ms fs:List Int}{y:Lt}(h:y∈ahM m old ns ms fs):∃k x,old[k]? =some x∧y=frL m x k ns[k]! ms[k]! fs[k]! :=by
 obtain⟨k,hk⟩:=List.mem_iff_getElem?.1 h;have hl:k<old.length:=by
  have:=(alj.1 hk).1;rwa[eH]at this
 refine⟨k,old[k],ald hl,?_⟩;rw[kM (ald hl)]at hk;injection hk with hk
 exact hk.symm
theorem ahL {m:MapS}{old:List Lt}{ns ms fs:List Int}:∀y∈ahM m old ns ms fs,y.ins=m.oth:=by
 intro y hy;obtain⟨k,x,_,rfl⟩:=abh hy;rfl
theorem frsL_q {m:MapS}{old:List Lt}{ns ms fs:List Int}(hl:ns.length=old.length):(ahM m old ns ms fs).map (·.q)=ns.map ag:=by
 refine List.ext_getElem? fun k=>?_
 rw[als,als];by_cases hk:k<old.length
 ·rw[kM (ald hk),ald (by omega:k<ns.length)]
  simp only[Option.map_some,frL];rw[getElem!_pos ns k (by omega)]
 ·rw[alB (by rw[eH];omega),alB (by omega)]
  rfl
theorem frsL_c {m:MapS}{old:List Lt}{ns ms:List Int}(hl:ms.length=old.length):(ahM m old ns ms (List.replicate old.length 0)).map (·.c)=ms.map ag:=by
 refine List.ext_getElem? fun k=>?_
 rw[als,als];by_cases hk:k<old.length
 ·rw[kM (ald hk),ald (by omega:k<ms.length)]
  simp only[Option.map_some,frL];rw[getElem!_pos ms k (by omega),getElem!_pos (List.replicate old.length 0) k (by simpa using hk)];simp
 ·rw[alB (by rw[eH];omega),alB (by omega)]
  rfl
def mqL (m:MapS)(l:List Lt):List ByteArray:=(av m.ins l).map (·.q)
def mcL (m:MapS)(l:List Lt):List ByteArray:=(av m.ins l).map (·.c)
def rR (m:MapS)(l:List Lt)(z:Int):List Int:=dM (ag z) (mqL m l)
def rF (m:MapS)(l:List Lt):List Int:=dM (ag (iv (mcL m l)).sum) (mcL m l)
def rE (m:MapS)(l:List Lt):List Int:=dM ⟨#[]⟩ ((rF m l).map ag)
def bD (m:MapS)(l:List Lt)(z:Int):List Lt:=ahM m (av m.ins l) (rR m l z) (rF m l) (rE m l)
structure MapFine (m:MapS) (l:List Lt) (z:Int) (R:List Lt):Prop where
 none:av m.ins l=[]→R=l
 some:av m.ins l≠ []→(∀x∈bD m l z,∀y∈l,y.id≠x.id)∧OpnAll (dw m.ins l) (bD m l z) R
theorem iM {I:ByteArray}{l:List Lt}{x:Lt}(h:x∈av I l):x∈l∧x.ins=I:=by
 obtain⟨a,b⟩:=List.mem_filter.1 h;exact⟨a,gI.1 b⟩
theorem uI (I:ByteArray)(l:List Lt):(av I l).length ≤l.length:=List.length_filter_le _ _
structure Fine (old:List Lt):Prop where
 n:old.length≤1000
 q:∀x∈old,chk x.q=0∧0<aj x.q
 c:∀x∈old,chk x.c=0∧0≤aj x.c
theorem ib {l:List Lt}(h:aL l=0)(I:ByteArray):Fine (av I l):=by
 obtain⟨a,b,_⟩:=(bQ l).1 h;refine⟨ali (uI _ _) a,fun x hx=>?_,fun x hx=>?_⟩
 ·obtain⟨_,_,_,_,_,h6,_,_,h9,_,_⟩:=(lT x).1 (b x (iM hx).1)
  refine⟨h6,?_⟩;unfold fA at h9;omega
 ·obtain⟨_,_,_,_,_,_,h7,_,_,h10,_⟩:=(lT x).1 (b x (iM hx).1)
  refine⟨h7,?_⟩;unfold fA at h10;omega
section
variable {old:List Lt}
theorem Fine.wq (h:Fine old):∀w∈old.map (·.q),chk w=0∧0≤aj w:=fun w hw=>by
 obtain⟨x,hx,rfl⟩:=alq.1 hw;exact⟨(h.q x hx).1,Int.le_of_lt (h.q x hx).2⟩
theorem Fine.wc (h:Fine old):∀w∈old.map (·.c),chk w=0∧0≤aj w:=fun w hw=>by
 obtain⟨x,hx,rfl⟩:=alq.1 hw;exact h.c x hx
theorem aco {ws:List ByteArray}(h:∀w∈ws,chk w=0∧0≤aj w):∀x∈iv ws,0≤x:=fun x hx=>by
 obtain⟨w,hw,rfl⟩:=alq.1 hx;exact(h w hw).2
theorem afP {xs:List Int}(h:∀x∈xs,0≤x):∀w∈xs.map ag,chk w=0∧0≤aj w:=fun w hw=>by
 obtain⟨x,hx,rfl⟩:=alq.1 hw;rw[aW];exact⟨pg x,h x hx⟩
end
theorem ae8 {ws:List ByteArray}(h0:0<ws.length)(hm:ws.length≤1000)(hw:∀w∈ws,chk w=0∧0≤aj w):dM (ag (iv ws).sum) ws=iv ws:=
 jP (pg _) h0 hm hw (aP ws) (fun i _=>by rw[aW]) (fun h=>fD (aco hw) h)
theorem abt {ws:List ByteArray}(h0:0<ws.length)(hm:ws.length≤1000)(hw:∀w∈ws,chk w=0∧0≤aj w):dM ⟨#[]⟩ ws=List.replicate ws.length 0:=
 jP (by decide+kernel) h0 hm hw (by simp) (fun i hi=>by
  rw[aay,Int.zero_mul,gU (x:=0) (by rw[List.getElem?_replicate,if_pos hi]),Int.mul_zero]) (fun _ x hx=>List.eq_of_mem_replicate hx)
theorem acF {ws:List ByteArray}(N:Int)(h0:0<ws.length)(hm:ws.length≤1000)(hw:∀w∈ws,chk w=0∧0≤aj w):dM (ag (N*(iv ws).sum)) ws=(iv ws).map (N* ·):=
 jP (pg _) h0 hm hw (by simp[aP]) (fun i hi=>by
  rw[aW,afZ (by rw[aP];exact hi),Int.mul_assoc,Int.mul_left_comm]) (fun h x hx=>by
   obtain⟨y,hy,rfl⟩:=alq.1 hx;rw[fD (aco hw) h y hy,Int.mul_zero])
theorem ae9 {xs:List Int}(N:Int)(hN:1≤N)(h0:0<xs.length)(hm:xs.length≤1000)(hw:∀x∈xs,0≤x):dM (ag xs.sum) ((xs.map (N* ·)).map ag)=xs:=
 jP (pg _) (by simpa using h0) (by simpa using hm) (afP fun x hx=>by
  obtain⟨y,hy,rfl⟩:=alq.1 hx;exact Int.mul_nonneg (by omega) (hw y hy)) (by simp) (fun i hi=>by
  have hi':i<xs.length:=by simpa using hi
  rw[aW,xQ,afZ hi',uE];rw[Int.mul_left_comm,Int.mul_assoc]) (fun h x hx=>by
   rw[xQ,uE]at h;have:xs.sum=0:=by
    rcases Int.mul_eq_zero.1 h with h|h
    ·omega
    ·exact h
   exact fD hw this x hx)
def ahw (x:Lt):ByteArray×ByteArray×Int×Int:=(x.q,x.c,x.acq,x.opn)
section
variable {m1 m2:MapS} {l R1 R2:List Lt} {I:ByteArray} {N:Int}
theorem aeS (hl:aL l=0)(h1:m1.ins=I)(h0:av I l≠ []):rR m1 l (N*(iv ((av I l).map (·.q))).sum)=(iv ((av I l).map (·.q))).map (N* ·):=by
 subst h1;have hf:=ib hl m1.ins;exact acF N (by rw[List.length_map];exact List.length_pos_iff.2 h0) (by rw[List.length_map];exact hf.n) hf.wq
theorem vM (hl:aL l=0)(h1:m1.ins=I)(h0:av I l≠ []):rF m1 l=iv ((av I l).map (·.c)):=by
 subst h1;have hf:=ib hl m1.ins;exact ae8 (by simpa[mcL]using List.length_pos_iff.2 h0) (by simpa[mcL]using hf.n) hf.wc
theorem zY (hl:aL l=0)(h1:m1.ins=I)(h0:av I l≠ []):rE m1 l=List.replicate (av I l).length 0:=by
 have hf:=ib hl I;unfold rE;rw[vM hl h1 h0,abt (by simpa[aP]using List.length_pos_iff.2 h0) (by simpa[aP]using hf.n) (afP (aco hf.wc))];simp[aP]
theorem oQ {m:MapS}{z:Int}{R:List Lt}(h:MapFine m l z R)(hi:m.ins=I)(ho:m.oth=I)(h0:av I l≠ []):av I R=bD m l z:=by
 subst hi;have:=(h.some h0).2.sel (I:=m.ins) (fun x hx=>(ahL x hx).trans ho);rw[this,adt,List.nil_append]
theorem iF {m:MapS}{z:Int}{R:List Lt}(h:MapFine m l z R)(hl:aL l=0):aL R=0:=by
 by_cases h0:av m.ins l=[]
 ·rw[h.none h0];exact hl
 ·exact(h.some h0).2.ok (xK hl List.filter_sublist)
theorem nE (hl:aL l=0)(h1:m1.ins=I)(ho:m1.oth=I)(h:MapFine m1 l (N*(iv ((av I l).map (·.q))).sum) R1)(h0:av I l≠ []):
 (av I R1).map (·.q)=((iv ((av I l).map (·.q))).map (N* ·)).map ag∧(av I R1).map (·.c)=(iv ((av I l).map (·.c))).map ag∧av I R1≠ []:=by
 have e:=oQ h h1 ho h0;rw[e];unfold bD;rw[aeS hl h1 h0,vM hl h1 h0,zY hl h1 h0,h1];refine⟨frsL_q (by simp[aP]),frsL_c (by simp[aP]),fun h2=>?_⟩;have:=congrArg List.length h2;rw[eH]at this;exact h0 (alC this)
theorem ab2 (hl:aL l=0)(h1:m1.ins=I)(ho:m1.oth=I)(h:MapFine m1 l (N*(iv ((av I l).map (·.q))).sum) R1)(h0:av I l≠ []):(iv ((av I R1).map (·.q))).sum =N*(iv ((av I l).map (·.q))).sum :=by
 rw[(nE hl h1 ho h h0).1,xQ,uE]
theorem aaF (hN:1≤N)(hl:aL l=0)(h1:m1.ins=I)(ho:m1.oth=I)(h2:m2.ins=I)(h:MapFine m1 l (N*(iv ((av I l).map (·.q))).sum) R1)(h0:av I l≠ []):rR m2 R1 (iv ((av I l).map (·.q))).sum =iv ((av I l).map (·.q)):=by
 have hf:=ib hl I;unfold rR mqL;rw[h2,(nE hl h1 ho h h0).1];exact ae9 N hN (by simpa[aP]using List.length_pos_iff.2 h0) (by simpa[aP]using hf.n) (aco hf.wq)
theorem agK (hl:aL l=0)(h1:m1.ins=I)(ho:m1.oth=I)(h2:m2.ins=I)(h:MapFine m1 l (N*(iv ((av I l).map (·.q))).sum) R1)(h0:av I l≠ []):rF m2 R1=iv ((av I l).map (·.c)):=by
 have hq:=nE hl h1 ho h h0;rw[vM (iF h hl) h2 hq.2.2,hq.2.1,xQ]
theorem agJ (hl:aL l=0)(h1:m1.ins=I)(ho:m1.oth=I)(h2:m2.ins=I)(h:MapFine m1 l (N*(iv ((av I l).map (·.q))).sum) R1)(h0:av I l≠ []):rE m2 R1=List.replicate (av I R1).length 0:=by
 have hq:=nE hl h1 ho h h0;exact zY (iF h hl) h2 hq.2.2
theorem zS (hl:aL l=0)(h1:m1.ins=I)(ho:m1.oth=I)(h:MapFine m1 l (N*(iv ((av I l).map (·.q))).sum) R1)(h0:av I l≠ []):(av I R1).length =(av I l).length :=by
 have e:=oQ h h1 ho h0;rw[e];unfold bD;rw[eH,h1]
theorem wS (hN:1≤N)(hl:aL l=0)(h1:m1.ins=I)(ho:m1.oth=I)(h2:m2.ins=I)(h:MapFine m1 l (N*(iv ((av I l).map (·.q))).sum) R1)(h0:av I l≠ []){k:Nat}{x:Lt}(hx:(av I l)[k]? =some x):
 (bD m2 R1 (iv ((av I l).map (·.q))).sum)[k]? =some ⟨idS m2.cause (k+1),m2.oth,x.acq,x.opn,x.q,x.c,x.q⟩:=by
 have hf:=ib hl I;obtain⟨hk,ex⟩:=alj.1 hx;have e:=oQ h h1 ho h0;have hm:=alk hx;have hy:(av I R1)[k]? =some (frL m1 x k (rR m1 l (N*(iv ((av I l).map (·.q))).sum))[k]! (rF m1 l)[k]! (rE m1 l)[k]!):=by
  rw[e];unfold bD;exact kM (by rw[h1];exact hx)
 have hfr:=kM (m:=m2) (old:=av m2.ins R1) (ns:=rR m2 R1 (iv ((av I l).map (·.q))).sum) (ms:=rF m2 R1) (fs:=rE m2 R1) (by rw[h2];exact hy);unfold bD;rw[hfr];have eq:(rR m2 R1 (iv ((av I l).map (·.q))).sum)[k]! =aj x.q:=by
  rw[aaF hN hl h1 ho h2 h h0,abD (by simpa[aP]using hk)];exact zT (by rw[als,hx];rfl)
 have ec:(rF m2 R1)[k]! =aj x.c:=by
  rw[agK hl h1 ho h2 h h0,abD (by simpa[aP]using hk)];exact zT (by rw[als,hx];rfl)
 have ef:(rE m2 R1)[k]! =0:=by
  rw[agJ hl h1 ho h2 h h0,getElem!_pos _ k (by simpa[zS hl h1 ho h h0]using hk)];simp
 rw[eq,ec,ef];simp only[frL,Int.sub_zero,qV (hf.q x hm).1,qV (hf.c x hm).1]
theorem wL (hN:1≤N)(hl:aL l=0)(h1:m1.ins=I)(ho:m1.oth=I)(h2:m2.ins=I)(ho2:m2.oth=I)(h:MapFine m1 l (N*(iv ((av I l).map (·.q))).sum) R1)
 (h':MapFine m2 R1 (iv ((av I l).map (·.q))).sum R2):(av I R2).map ahw=(av I l).map ahw:=by
 by_cases h0:av I l=[]
 ·have e1:=h.none (by rw[h1];exact h0)
  subst e1;rw[h'.none (by rw[h2];exact h0)]
 ·have hq:=nE hl h1 ho h h0
  rw[oQ h' h2 ho2 hq.2.2];refine List.ext_getElem? fun k=>?_
  rw[als,als];by_cases hk:k<(av I l).length
  ·rw[wS hN hl h1 ho h2 h h0 (ald hk),ald hk]
   rfl
  ·rw[alB (by unfold bD;rw[eH,h2,zS hl h1 ho h h0];omega),alB (by omega)]
theorem abr (I:ByteArray)(l:List Lt):(dw I l).length +(av I l).length =l.length:=by
 unfold dw av
 induction l with
 |nil=>rfl
 |cons x l ih=>
  cases hx:eqB x.ins I<;>simp[List.filter_cons,hx]<;>omega
theorem uA (hN:1≤N)(hl:aL l=0)(h1:m1.ins=I)(ho:m1.oth=I)(h2:m2.ins=I)(ho2:m2.oth=I)(hc:aG m2.cause=true)(h:MapFine m1 l (N*(iv ((av I l).map (·.q))).sum) R1)
 (h0:av I R1≠ []) (hid:∀x∈bD m2 R1 (iv ((av I l).map (·.q))).sum,∀y∈R1,y.id≠x.id) {k:Nat} {M:List Lt} {x:Lt} (hx:(bD m2 R1 (iv ((av I l).map (·.q))).sum)[k]? =some x)
 (hM:OpnAll (dw I R1) ((bD m2 R1 (iv ((av I l).map (·.q))).sum).take k) M):mP M x=0:=by
 have h00:av I l≠ []:=fun e=>by
  have e1:=h.none (by rw[h1];exact e);subst e1;exact h0 e
 have hR:=iF h hl;have hlen:k<(av I R1).length :=by
  have:=(alj.1 hx).1;unfold bD at this;rwa[eH,h2]at this
 have hk:k<(av I l).length :=by rw[←zS hl h1 ho h h00];exact hlen
 have hn:(av I l).length ≤1000:=(ib hl I).n;have at':=fun j (hj:j<(av I l).length)=>wS hN hl h1 ho h2 h h00 (ald hj)
 have ex:=(Option.some.inj (hx.symm.trans (at' k hk)));have hxm:x∈bD m2 R1 (iv ((av I l).map (·.q))).sum :=alk hx;have hlx:mD x=0:=by
  have hm:=iM (List.getElem_mem hk);obtain⟨a1,a2,a3,a4,a5,a6,a7,a8,a9,a10,a11⟩:=(lT _).1 (((bQ l).1 hl).2.1 _ hm.1);rw[ex];exact(lT _).2 ⟨ahE hc (by omega),by rw[hm.2]at a2;show aG m2.oth=true;rw[ho2];exact a2,a3,a4,a5,a6,a7,a6,a9,a10,.inr (gI.2 rfl)⟩
 refine hM.next (xK hR List.filter_sublist) hlx ?_ ?_
 ·intro y hy
  rcases List.mem_append.1 hy with hy|hy
  ·exact hid x hxm y (List.mem_filter.1 hy).1
  ·obtain⟨j,hj⟩:=List.mem_iff_getElem?.1 hy
   have hjk:j<k:=by
    have:=(alj.1 hj).1;rw[alr]at this;omega
   rw[alF,if_pos hjk,at' j (by omega)]at hj;injection hj with hj
   subst hj;rw[ex];intro e;have:=akg e;omega
 ·have:=abr I R1
  have h1000:=((bQ R1).1 hR).1;rw[alr];omega
end
end Go.Proofs.YtjknklinhegdoaaGreatDoor
