/- TopSpunTogether: What is spun off and exchanged back. Conditions: bounded sizes; variables as laid. -/
import Derived.Test.YtbkhnggmcheelaaGreatDoorMa
set_option linter.unusedSimpArgs false
set_option linter.unusedVariables false
set_option maxHeartbeats 4000000
set_option maxRecDepth 100000
namespace Go.Proofs.YtbkhnggmcheelaaGreatDoor
open Proofs.Tryz
section
open Go.RowKit Go.Shelf Dec QQ SP
theorem sK (t:BA)(ws:List BA):(dX t ws).length =ws.length:=by
 unfold dX;split<;>simp[dz,aQ]
theorem aiU (k:Nat):Fit k 0:=Nat.pow_pos (by decide)
theorem agV {xs:List Int}{k i:Nat}(h:∀x∈xs,Fit k x):Fit k xs[i]! :=by
 by_cases hi:i<xs.length
 ·rw[getElem!_pos xs i hi];exact h _ (List.getElem_mem hi)
 ·rw[getElem!_neg xs i hi];exact aiU k
theorem ajc {T:Int}{ws:List BA}{k:Nat}(hT:Fit k T)(h0:0<=T)(hw:∀s∈ws,s.size<=k):∀x∈dX (ae T) ws,Fit (k+k+2) x:=by
 intro x hx;unfold dX at hx;split at hx
 ·rw[List.eq_of_mem_replicate hx];exact aiU _
 ·rw[aK]at hx
  unfold tV at hx;rw[if_neg (by omega)]at hx;exact aeO hT (jM hw) x hx
theorem wF {I:BA}{ms:List Int}{y:Lt}:∀(l:List Lt) (i:Nat),y∈eu I ms i l->∃x∈l,y=x\/∃j:Nat,y=ja x ms[j]!
 | [],i,h=>by cases h
 |x::l,i,h=>by
  have h':y∈(bif eqB x.ins I then ja x ms[i]! ::eu I ms (i+1) l else x::eu I ms i l):=h;cases hx:eqB x.ins I with
  |true=>
   rw[hx]at h';rcases anf.1 h' with e|e
   ·exact⟨x,amJ,.inr ⟨i,e⟩⟩
   ·obtain⟨u,hu,hor⟩:=wF l (i+1) e
    exact⟨u,amL _ hu,hor⟩
  |false=>
   rw[hx]at h';rcases anf.1 h' with e|e
   ·exact⟨x,amJ,.inl e⟩
   ·obtain⟨u,hu,hor⟩:=wF l i e
    exact⟨u,amL _ hu,hor⟩
theorem ad1 {f:Fct}(h:PnOk f)(hd:f.rd=⟨#[]⟩):bV f.rn f.rd=((ah f.rn:Int):Rat)/\1<=ah f.rn:=by
 have e:bV f.rn f.rd=((ah f.rn:Int):Rat):=by rw[hd];unfold bV;rw[abr,mO]
 refine⟨e,?_⟩;have h0:=h.r0;rw[e]at h0;have:(0:Int)<ah f.rn:=by
  rw[show (0:Rat)=((0:Int):Rat)from rfl]at h0;exact Rat.intCast_lt_intCast.1 h0
 omega
def za (f:Fct)(l:List Lt):Int:=pO 1 (bV f.sn f.sd*((iv ((ak f.ins l).map (·.c))).sum :Rat))
section
variable {f:Fct} {l:List Lt}
theorem acn (hl:aN l=0)(hq:∀x∈l,x.q.size<=13/\x.c.size<=13)(I:BA):Fit 16 (iv ((ak I l).map (·.c))).sum /\Fit 16 (iv ((ak I l).map (·.q))).sum :=by
 have hf:=iM hl I;refine⟨iH (jM (k:=13) fun s hs=>?_) (by rw[aQ,am6];exact hf.n),iH (jM (k:=13) fun s hs=>?_) (by rw[aQ,am6];exact hf.n)⟩
 ·obtain⟨x,hx,rfl⟩:=amN.1 hs
  exact(hq x (iC hx).1).2
 ·obtain⟨x,hx,rfl⟩:=amN.1 hs
  exact(hq x (iC hx).1).1
theorem afm (hl:aN l=0)(hq:∀x∈l,x.q.size<=13/\x.c.size<=13)(z1:f.sn.size<=13)(z2:f.sd.size<=13):Fit 30 (za f l):=
 aat 1 ((bP.arg (k:=13) z1 z2 (by decide)).mul (ig (acn hl hq f.ins).1 (by decide)))
theorem yZ (h:PnOk f)(hl:aN l=0):0<=za f l:=by
 refine rnd_nn ?_;have h1:0<=(iv ((ak f.ins l).map (·.c))).sum :=by
  have:∀L:List Int,(∀x∈L,0<=x)->0<=L.sum:=fun L=>by
   induction L with
   |nil=>intro _;exact Int.le_refl 0
   |cons a L ih=>intro h;rw[List.sum_cons];have:=h a amJ;have:=ih fun x hx=>h x (amL _ hx);omega
  exact this _ (aaU (iM hl f.ins).wc)
 exact Rat.mul_nonneg h.s0 (by rw[show (0:Rat)=((0:Int):Rat)from rfl];exact Rat.intCast_le_intCast.2 h1)
theorem aj9 (h:PnOk f)(hl:aN l=0)(hq:∀x∈l,x.q.size<=13/\x.c.size<=13)(z1:f.sn.size<=13)(z2:f.sd.size<=13):∀x∈eH (cZ f) l (za f l),Fit 62 x:=
 ajc (afm hl hq z1 z2) (yZ h hl) (fun s hs=>by
  obtain⟨x,hx,rfl⟩:=amN.1 hs;have:=(hq x (iC hx).1).2;omega)
theorem alI (h:PnOk f)(hl:aN l=0):∀x∈iZ (cZ f) l (za f l),x=0:=by
 by_cases h0:ak f.ins l=[]
 ·intro x hx
  have e:eH (cZ f) l (za f l)=[]:=amX (by rw[jX];show (ak f.ins l).length =0;rw[h0];rfl);have e2:iZ (cZ f) l (za f l)=[]:=amX (by unfold iZ;rw[sK,e];rfl);rw[e2]at hx;cases hx
 ·rw[zh hl (yZ h hl) (show ak (cZ f).ins l≠ []from h0)]
  exact fun x hx=>List.eq_of_mem_replicate hx
theorem aiJ (h:PnOk f)(hz:f.le)(hd:f.rd=⟨#[]⟩)(hk:f.key.size<=24)(hi:f.oth.size<=24)(z1:f.rn.size<=13)(z2:f.pn.size<=13)(z3:f.pd.size<=13)(z4:f.sn.size<=13)(z5:f.sd.size<=13)(hl:aN l=0)(hq:∀x∈l,x.q.size<=13/\x.c.size<=13)(hb:∀x∈l,x.le 1000):
 MapHypK (cZ f) l (ah f.rn*(iv ((ak f.ins l).map (·.q))).sum) (za f l):=by
 obtain⟨e,hN⟩:=ad1 h hd;have hfn:Fit 13 (ah f.rn):=Fit.val z1;have hf:=iM hl f.ins;have hC:=aj9 h hl hq z4 z5;have hF:=alI h hl;have hNz:∀x∈zg (cZ f) l (ah f.rn*(iv ((ak f.ins l).map (·.q))).sum),x≠0/\Fit 60 x:=by
  intro x hx;by_cases h0:ak f.ins l=[]
  ·rw[show zg (cZ f) l (ah f.rn*(iv ((ak f.ins l).map (·.q))).sum)=[]from amX (by unfold zg;rw[sK];show ((ak f.ins l).map _).length =0;rw[h0];rfl)]at hx
   cases hx
  ·have A:=afS (m1:=cZ f) (I:=f.ins) (N:=ah f.rn) hl rfl h0
   rw[A]at hx;obtain⟨y,hy,rfl⟩:=amN.1 hx;obtain⟨s,hs,rfl⟩:=amN.1 hy;obtain⟨u,hu,rfl⟩:=amN.1 hs;have h1:=(hf.q u hu).2;have h2:Fit 13 (ah u.q):=Fit.val (hq u (iC hu).1).1;refine⟨?_,(hfn.mul h2).mono (by omega)⟩;have:=Int.mul_pos (show (0:Int)<ah f.rn by omega) h1;omega
 refine⟨ak7 h hz,⟨_,_,_,Vq.arg (by show f.rn.size<=_;omega) (by show f.rd.size<=_;rw[hd];decide),?_,Vq.arg (by show f.pn.size<=_;omega) (by show f.pd.size<=_;omega),bP.arg (by show f.pn.size<=_;omega) (by show f.pd.size<=_;omega) (by decide),Vq.arg (by show f.sn.size<=_;omega) (by show f.sd.size<=_;omega),bP.arg (by show f.sn.size<=_;omega) (by show f.sd.size<=_;omega) (by decide),rfl,?_⟩,(afm hl hq z4 z5).mono (by omega),fun x hx=>(hC x hx).mono (by omega),fun x hx=>by rw[hF x hx];exact aiU _,fun x hx=>(hNz x hx).1,?_,?_,?_,?_⟩
 ·exact bP.arg (by show f.rn.size<=_;omega) (by show f.rd.size<=_;rw[hd];decide) (by decide)
 ·show ((iv ((ak f.ins l).map (·.q))).sum :Rat)*bV f.rn f.rd=_
  rw[e,anc,Rat.mul_comm]
 ·intro h0
  have h3:=vY (I:=f.ins) hl h0;have:=Int.mul_pos (show (0:Int)<ah f.rn by omega) h3;omega
 ·intro y hy
  obtain⟨k,x,hk0,rfl⟩:=qy hy;have hk2:k<1000:=amS (amH.1 hk0).1 hf.n;have hkf:Fit 5 ((k+1:Nat):Int):=by show ((k+1:Nat):Int).natAbs <10^5;omega
  have hNk:=agV (i:=k) (fun x hx=>(hNz x hx).2);have hMk:=agV (i:=k) hC;have hFk:(iZ (cZ f) l (za f l))[k]! =0:=by
   by_cases hi:k<(iZ (cZ f) l (za f l)).length
   ·rw[getElem!_pos _ k hi];exact hF _ (List.getElem_mem hi)
   ·rw[getElem!_neg _ k hi];rfl
  have s1:=hNk.size;have s2:(ae ((eH (cZ f) l (za f l))[k]! -(iZ (cZ f) l (za f l))[k]!)).size <=63:=by
   rw[hFk,Int.sub_zero];exact hMk.size
  have s3:=hkf.size;refine⟨?_,by show f.oth.size<=100;omega,by show (ae _).size <=1000;omega,by show (ae _).size <=1000;omega,by show (ae _).size <=1000;omega⟩;show (f.key++⟨#[47]⟩++ae ((k+1:Nat):Int)).size <=100;rw[ByteArray.size_append,ByteArray.size_append];have:(⟨#[47]⟩:BA).size =1:=rfl;omega
 ·intro y hy
  obtain⟨x,hx,rfl|⟨j,rfl⟩⟩:=wF l 0 hy
  ·exact hb _ hx
  ·have hx0:=hb x hx
   have hMk:=agV (i:=j) hC;have hs:=(Fit.sub ((Fit.val (hq x hx).2).mono (show 13<=62 by omega)) hMk).size;exact⟨hx0.id,hx0.ins,hx0.q,by show (ae _).size <=1000;omega,hx0.u⟩
 ·by_cases h0:ak f.ins l=[]
  ·have e:dX ⟨#[]⟩ (mqL (cZ f) l)=[]:=amX (by rw[sK];show ((ak f.ins l).map _).length =0;rw[h0];rfl)
   rw[e];intro x hx;cases hx
  ·have h1:0<(mqL (cZ f) l).length :=by unfold mqL;rw[am6];exact List.length_pos_iff.2 h0
   rw[aci h1 (by unfold mqL;rw[am6];exact hf.n) hf.wq];exact fun x hx=>by rw[List.eq_of_mem_replicate hx];exact aiU _
def exT (f:Fct)(value:BA):Ot:=⟨f.ins,frN (1/bV f.rn f.rd),frD (1/bV f.rn f.rd),⟨#[]⟩,⟨#[]⟩,value,⟨#[]⟩⟩
def exF (f:Fct)(key:BA)(O:Option Addr):Fct:={key:=key,st:=0,canc:=false,day:=f.day,kind:=10,ins:=f.oth,oth:=⟨#[]⟩,cur:=⟨#[]⟩,tgt:=⟨#[]⟩,q:=⟨#[]⟩,a:=⟨#[]⟩,fee:=⟨#[]⟩,pn:=⟨#[]⟩,pd:=⟨#[]⟩,rn:=⟨#[]⟩,rd:=⟨#[]⟩,sn:=⟨#[]⟩,sd:=⟨#[]⟩,P:=none,np:=0,cp:=0,O:=O,no:=1,co:=1,cho:=0}
theorem afF (z1:f.rn.size<=13)(hd:f.rd=⟨#[]⟩):bP 14 (1/bV f.rn f.rd):=(fit1.div (bP.arg (k:=13) z1 (by rw[hd];decide) (by decide))).mono (by omega)
theorem exF_le {key value:BA}{O:Option Addr}(hk:key.size<=24)(hi:f.ins.size<=24)(ho:f.oth.size<=24)(hv:value.size<=10)(z1:f.rn.size<=13)(hd:f.rd=⟨#[]⟩):FcI (exF f key O) [] [exT f value]:=by
 have s0:(⟨#[]⟩:BA).size <=100:=by decide
 have s2:=bP.sizes (afF z1 hd);refine⟨⟨by show key.size<=100;omega,by show f.oth.size<=100;omega,s0,s0,s0,s0,s0,s0,s0,s0,s0,s0,s0,s0⟩,rfl,rfl,by show (0:Nat)<=100;omega,by show (1:Nat)<=100;omega,by show (0:Nat)<=0;omega,fun p hp=>(by cases hp),fun t ht=>?_⟩;rw[List.mem_singleton.1 ht];exact⟨by show f.ins.size<=100;omega,by show (frN _).size <=100;omega,by show (frD _).size <=100;omega,s0,s0,by show value.size<=100;omega,s0⟩
theorem ajx (q:Rat):vI (frN q) (frD q)=0:=by unfold vI;rw[if_pos ⟨by rw[aaw],by rw[aaw]⟩]
theorem ak6 {s:BA}(h:aG s=true):(s.toList== [])=false:=by
 unfold aG at h;simp only[amC,decide_eq_true_eq]at h;cases hq:(s.toList== [])with
 |false=>rfl
 |true=>
  have h2:s.toList=[]:=by simpa using hq
  rw[aF]at h2;have:=h.1.1;rw[bR,h2]at this;exact absurd this (by decide)
theorem aiI {key value:BA}{O:Option Addr}{R:List Lt}(h:PnOk f)(hd:f.rd=⟨#[]⟩)(hv:value.size<=10)(hk:key.size<=24)(hi:f.ins.size<=24)(z1:f.rn.size<=13)(z4:f.sn.size<=13)(z5:f.sd.size<=13)(hl:aN l=0)(hq:∀x∈l,x.q.size<=13/\x.c.size<=13)
 (hJ0:ak f.oth l=[]) (h0:ak f.ins l≠ []) (hR:MapFineK (cZ f) l (ah f.rn*(iv ((ak f.ins l).map (·.q))).sum) (za f l) R):
 MgHyp (exF f key O) (exT f value) R (1/bV f.rn f.rd) (bV value ⟨#[]⟩) (iv ((ak f.ins l).map (·.q))).sum (iv ((ak f.ins l).map (·.q))):=by
 obtain⟨e,hN⟩:=ad1 h hd;have hM:=yZ h hl;have hf:=iM hl f.ins;have hS:=vY hl h0;have hsq:=aeh (m:=cZ f) (I:=f.ins) (J:=f.oth) (N:=ah f.rn) hl hM rfl rfl h.ne hJ0 h0 hR;have hsc:=aei (m:=cZ f) (I:=f.ins) (J:=f.oth) (N:=ah f.rn) hl hM rfl rfl h.ne hJ0 h0 hR;have hqs:=mF (m:=cZ f) (I:=f.ins) (J:=f.oth) (N:=ah f.rn) hl hM rfl rfl h.ne hJ0 h0 hR;have hfn:Fit 13 (ah f.rn):=Fit.val z1;have h1f:=afF (f:=f) z1 hd;have hC:=aj9 h hl hq z4 z5;have hcl:(eH (cZ f) l (za f l)).length <=1000:=by rw[jX];exact hf.n
 have hqf:=(acn hl hq f.ins).2;refine⟨ak6 h.ins,rfl,rfl,Vq.fr h1f (by omega),ajx _,h1f.mono (by omega),?_,Vq.arg (n:=value) (d:=⟨#[]⟩) (by omega) (by decide),bP.arg (n:=value) (d:=⟨#[]⟩) (k:=1000) (by omega) (by decide) (by decide),?_,?_,?_,?_,hqf.mono (by omega),by omega,?_,?_,?_,?_,?_⟩
 ·rw[e,Rat.div_def,Rat.one_mul]
  exact Rat.inv_pos.2 (by rw[show (0:Rat)=((0:Int):Rat)from rfl];exact Rat.intCast_lt_intCast.2 (by omega))
 ·show ((iP f.oth R:Int):Rat)*(1/bV f.rn f.rd)=_
  have hN0:((ah f.rn:Int):Rat)≠0:=fun e0=>by
   have:ah f.rn=0:=Rat.intCast_inj.1 (e0.trans (show (0:Rat)=((0:Int):Rat)from rfl));omega
  rw[hsq,e,anc,Rat.div_def,Rat.one_mul,Rat.mul_comm ((ah f.rn:Int):Rat),Rat.mul_assoc,Rat.mul_inv_cancel _ hN0,Rat.mul_one]
 ·show 0<=iP f.oth R
  rw[hsq];exact Int.mul_nonneg (by omega) (by omega)
 ·show Fit 1010 (iP f.oth R)
  rw[hsq];exact(hfn.mul hqf).mono (by omega)
 ·show Fit 1010 (iw f.oth R)
  rw[hsc];exact(iH hC hcl).mono (by omega)
 ·exact back_n (m:=cZ f) (I:=f.ins) (J:=f.oth) hN hl hM rfl rfl h.ne hJ0 h0 hR
 ·exact back_c (m:=cZ f) (I:=f.ins) (J:=f.oth) (N:=ah f.rn) hl hM rfl rfl h.ne hJ0 h0 hR
 ·intro x hx
  obtain⟨s,hs,rfl⟩:=amN.1 hx;obtain⟨u,hu,rfl⟩:=amN.1 hs;have:=(hf.q u hu).2;omega
 ·intro x hx
  have hm:x.c∈(ak f.oth R).map (·.c):=amN.2 ⟨x,hx,rfl⟩;rw[hqs.2.1]at hm;obtain⟨v,_,e2⟩:=amN.1 hm;rw[<-e2];exact gK v
 ·intro y hy
  obtain⟨k,x,hk0,rfl⟩:=qy hy;have hkl:k<(ak f.oth R).length :=(amH.1 hk0).1;have hk2:k<1000:=by have:=hqs.2.2.2;have:=hf.n;omega
  have hkf:Fit 5 ((k+1:Nat):Int):=by show ((k+1:Nat):Int).natAbs <10^5;omega
  have hNk:Fit 13 (iv ((ak f.ins l).map (·.q)))[k]! :=agV (jM (k:=13) fun s hs=>by
   obtain⟨u,hu,rfl⟩:=amN.1 hs;exact(hq u (iC hu).1).1)
  have hMk:Fit 62 (iv ((ak f.oth R).map (·.c)))[k]! :=agV (fun v hv=>by
   rw[hqs.2.1,nC]at hv;exact hC v hv)
  have hzk:(List.replicate (ak f.oth R).length (0:Int))[k]! =0:=by
   rw[getElem!_pos _ k (by simpa using hkl)];simp
  have s1:=hNk.size;have s2:(ae ((iv ((ak f.oth R).map (·.c)))[k]! -(List.replicate (ak f.oth R).length (0:Int))[k]!)).size <=63:=by
   rw[hzk,Int.sub_zero];exact hMk.size
  have s3:=hkf.size;refine⟨?_,by show f.ins.size<=100;omega,by show (ae _).size <=1000;omega,by show (ae _).size <=1000;exact amG s2 (by omega),by show (ae _).size <=1000;omega⟩;show (key++⟨#[47]⟩++ae ((k+1:Nat):Int)).size <=100;rw[ByteArray.size_append,ByteArray.size_append];have:(⟨#[47]⟩:BA).size =1:=rfl;omega
theorem aiV {z M:Int}{m:MapS}{R:List Lt}(hh:MapHypK m l z M)(h:MapFineK m l z M R)(hb:∀x∈l,x.le 1000):∀x∈R,x.le 1000:=by
 intro x hx;by_cases h0:ak m.ins l=[]
 ·rw[h.none h0]at hx;exact hb x hx
 ·rcases ane.1 ((h.some h0).2.perm.mem_iff.1 hx)with h|h
  ·exact hh.rd x h
  ·exact hh.fr x h
end
end
section
open Go.RowKit Go.Shelf Dec QQ SP
section
variable {f:Fct} {l R R2:List Lt} {key value:BA} {O:Option Addr}
theorem aak {er:Int}(h:PnOk f)(hd:f.rd=⟨#[]⟩)(hl:aN l=0)(hJ0:ak f.oth l=[])(hR:MapFineK (cZ f) l (ah f.rn*(iv ((ak f.ins l).map (·.q))).sum) (za f l) R)
 (hE:iy (exF f key O) [] [exT f value]=0) (hF:MgFail (exF f key O) (exT f value) R (iv ((ak f.ins l).map (·.q))) er):False:=by
 obtain⟨e,hN⟩:=ad1 h hd;have h0:ak f.ins l≠ []:=fun e0=>by
  have:=hR.none (show ak (cZ f).ins l=[]from e0);have h2:=hF.old;rw[this]at h2;exact h2 hJ0
 obtain⟨k,M,x,hx,hM,hne,hno⟩:=hF.no;exact hno (hne.symm.trans (afY (m:=cZ f) (I:=f.ins) (J:=f.oth) hN hl (yZ h hl) rfl rfl h.ne hJ0 h0 hR rfl rfl (aiX hE) h.ins hF.ids hx hM))
theorem ahI (h:PnOk f)(hd:f.rd=⟨#[]⟩)(hl:aN l=0)(hJ0:ak f.oth l=[])(hR:MapFineK (cZ f) l (ah f.rn*(iv ((ak f.ins l).map (·.q))).sum) (za f l) R)
 (h1:ak (exF f key O).ins R=[]->R2=R) (h2:ak (exF f key O).ins R≠ []->(∀x∈dO (exF f key O) (exT f value) R (iv ((ak f.ins l).map (·.q))),∀y∈R,y.id≠x.id)/\OpnAll (dC (exF f key O).ins R) (dO (exF f key O) (exT f value) R (iv ((ak f.ins l).map (·.q)))) R2):
 iP f.ins R2=iP f.ins l+iP f.ins l/\iw f.ins R2=iw f.ins l/\ak f.oth R2=[]/\aN R2=0:=by
 by_cases h0:ak f.ins l=[]
 ·have e:=hR.none (show ak (cZ f).ins l=[]from h0)
  have e2:=h1 (by rw[e];exact hJ0);rw[e2,e];refine⟨?_,rfl,hJ0,hl⟩;unfold iP;rw[h0];rfl
 ·have hM:=yZ h hl
  have hqs:=mF (m:=cZ f) (I:=f.ins) (J:=f.oth) (N:=ah f.rn) hl hM rfl rfl h.ne hJ0 h0 hR;obtain⟨_,ho⟩:=h2 hqs.2.2.1;exact⟨end_q (m:=cZ f) (I:=f.ins) (J:=f.oth) hl hM rfl rfl h.ne hJ0 h0 hR rfl rfl ho,end_c (m:=cZ f) (I:=f.ins) (J:=f.oth) hl hM rfl rfl h.ne hJ0 h0 hR rfl rfl ho,end_j h.ne rfl ho,ho.ok (zl (ww hl hR) List.filter_sublist)⟩
theorem akq (hb:∀x∈R,x.le 1000){r v:Rat}{N:Int}{ns:List Int}(h1:ak (exF f key O).ins R=[]->R2=R)(h2:ak (exF f key O).ins R≠ []->OpnAll (dC (exF f key O).ins R) (dO (exF f key O) (exT f value) R ns) R2)
 (hm:ak (exF f key O).ins R≠ []->MgHyp (exF f key O) (exT f value) R r v N ns):∀x∈R2,x.le 1000:=by
 intro x hx;by_cases h0:ak (exF f key O).ins R=[]
 ·rw[h1 h0]at hx;exact hb x hx
 ·rcases ane.1 ((h2 h0).perm.mem_iff.1 hx)with h|h
  ·exact hb x (List.mem_filter.1 h).1
  ·exact(hm h0).fr x h
end
end
section
open Go.RowKit Go.Shelf Dec QQ
attribute [local go_sem] Oper.semAt_some
theorem growG (w:World):Calls prog 43 #[.slice none 0 0,.int .i64 0] w fun e w'=>e= .returned (.slice none 0 0)/\w'=w:=by
 go_enter func43,ntmps43
 go_wp2_with fail
 go_ret
 exact⟨rfl,rfl⟩
theorem al9 {bb:Nat}{c:Nat}(w:World)(hb:Bx w bb #[.slice none 0 0,.slice none 0 0]):
 Calls prog 13 #[.slice (some ⟨bb,0,none⟩) 2 c] w fun e w'=>e= .returned (.slice none 0 0)/\Below w.heap.size w w':=by
 have HB:=amy hb;clear hb
 go_enter func13,ntmps13
 go_wp2_with fail
 go_loopw [11,3] (fun s t wr=>Hid (Below w.heap.size w wr)/\t= .int .i64 0/\(s= .int .i64 0\/s= .int .i64 1\/s= .int .i64 2)) (fun s _ _=>(2-intOf s).toNat)
 case atStart=>exact⟨am3 _ _,rfl,.inl rfl⟩
 case round=>
  obtain⟨hW,rfl,rfl|rfl|rfl⟩:=hrel
  ·have x0:=(HB.o.on hW.o).c 0 (.slice none 0 0) rfl
   go_wp2_with fail
   go_roundw
   case rel=>exact⟨hW,by go_num,.inr (.inl rfl)⟩
   case measure=>simp[intOf]
  ·have x1:=(HB.o.on hW.o).c 1 (.slice none 0 0) rfl
   go_wp2_with fail
   go_roundw
   case rel=>exact⟨hW,by go_num,.inr (.inr rfl)⟩
   case measure=>simp[intOf]
  ·have KG:=amy (growG wr)
   go_wp2_with fail
   refine(KG.o).mono ?_;rintro e w1 ⟨rfl,hw1⟩;replace hw1:=hw1.symm;subst hw1;clear KG
   go_wp2_with fail
   go_loopw [27,6] (fun s t wr2=>Hid (Below w.heap.size w wr2)/\t= .slice none 0 0/\(s= .int .i64 0\/s= .int .i64 1\/s= .int .i64 2)) (fun s _ _=>(2-intOf s).toNat)
   case atStart=>exact⟨hW,rfl,.inl rfl⟩
   case round=>
    clear hW;obtain⟨hW,rfl,rfl|rfl|rfl⟩:=hrel
    ·have x0:=(HB.o.on hW.o).c 0 (.slice none 0 0) rfl
     go_wp2_with fail
     go_roundw
     case rel=>exact⟨hW,rfl,.inr (.inl rfl)⟩
     case measure=>simp[intOf]
    ·have x1:=(HB.o.on hW.o).c 1 (.slice none 0 0) rfl
     go_wp2_with fail
     go_roundw
     case rel=>exact⟨hW,rfl,.inr (.inr rfl)⟩
     case measure=>simp[intOf]
    ·go_wp2_with fail
     go_ret
     exact⟨rfl,hW.o⟩
end
section
open Go.RowKit Go.Shelf Dec QQ SP
attribute [local go_sem] Oper.semAt_some
attribute [-go_sem] loadVar storeVar
abbrev ajM (x0 x1 x2 x3:BA):Array Value:= #[.string x0,.string x1,.string x2,.string ⟨#[]⟩,.string ⟨#[]⟩,.string x3,.string ⟨#[]⟩]
abbrev aSu2:Array Value:= #[.string ⟨#[]⟩,.int .i64 0,.bool false,.int .i64 0,.int .i64 0,.string ⟨#[]⟩,.string ⟨#[]⟩,.string ⟨#[]⟩,.string ⟨#[]⟩,.string ⟨#[]⟩,.string ⟨#[]⟩,.string ⟨#[]⟩,.string ⟨#[]⟩,.string ⟨#[]⟩,.string ⟨#[]⟩,.string ⟨#[]⟩,.string ⟨#[]⟩,.string ⟨#[]⟩,.slice none 0 0,.slice none 0 0,.int .i64 0]
theorem lv_spu (t:TypeId)(_:t≠30)(_:t≠40)(a:Addr):loadVar t a=(do if<-isAgg t then pure (.agg (<-loadCells a (<-sizeOf t)))else load a):=rfl
theorem sv_spu (t:TypeId)(_:t≠30)(_:t≠40)(_:t≠26)(a:Addr)(v:Value):storeVar t a v=(do
 if v.cells.size≠(<-sizeOf t)then stuck "storeVar: the value has not the size of the variable"
 storeCells a v.cells.toList):=rfl
attribute [local go_sem] lv_spu sv_spu
theorem TBx.storeF {w:World}{b:Nat}{cs cs':Array Value}{T:TypeId}(h:TBx w b cs T)(hs:cs.size=21)(hs':cs'.size=21)(h1:cs'.all (·.oneCell')=true):(storeVar 30 ⟨b,0,none⟩ (.agg cs')).run prog w= .ok () (w.setRow b cs'):=
 run_storeVar_row (P:=prog) w b T 30 cs cs' h (by rw[hs'];kernel_rfl) (by rw[hs,hs']) h1
theorem TBx.storeQ {w:World}{b:Nat}{cs cs':Array Value}{T:TypeId}(h:TBx w b cs T)(hs:cs.size=2)(hs':cs'.size=2)(h1:cs'.all (·.oneCell')=true):(storeVar 26 ⟨b,0,none⟩ (.agg cs')).run prog w= .ok () (w.setRow b cs'):=
 run_storeVar_row (P:=prog) w b T 26 cs cs' h (by rw[hs'];kernel_rfl) (by rw[hs,hs']) h1
theorem alM (f:Fct)(t:Ot){w:World}{b:Nat}(hP:f.P=none)(hO:f.O=some ⟨b,0,none⟩)(h:Bx w b #[.string t.oth,.string t.rn,.string t.rd,.string t.pn,.string t.pd,.string t.vn,.string t.vd]):FcW f [] [t] w:=
 ⟨fun i v hv=>by simp[av]at hv,by rw[hO];exact Row.of h⟩
structure Uw (f:Fct) (lp:List Pk) (lo:List Ot) (b:Nat) (A:Option Addr) (l:List Lt) (W:World):Prop where
 fb:TBx W b (bK f) 30
 rl:Row W A (av aa l)
 fw:FcW f lp lo W
theorem Uw.on {f:Fct}{lp:List Pk}{lo:List Ot}{b:Nat}{A:Option Addr}{l:List Lt}{W W':World}(h:Uw f lp lo b A l W)(hb:Below W.heap.size W W'):Uw f lp lo b A l W':=⟨h.fb.on hb,h.rl.on hb,h.fw.on hb⟩
theorem aiW (f:Fct):Array.foldl (fun(cs:Array Value) (x:Value×Nat)=>cs.setIfInBounds x.snd x.fst) aSu2 (bK f).zipIdx 0 21=bK f:=by kernel_rfl
theorem alN {f:Fct}:(bK f).all (·.oneCell')=true:=by simp[bK,Value.oneCell']
theorem aaB {base n c:Nat}{W:World}{A:Option Addr}{xs:List Lt}(h:dw aa 62 7 base W (.slice A n c) n xs):Row W A (av aa xs):=by
 obtain⟨A',c',e,hr⟩:=h.row;injection e with e1 _ _
 subst e1;exact hr
theorem afM {f:Fct}{lp:List Pk}{lo:List Ot}(h:grF f lp lo=false)(hlp:lp.length=f.np)(hlo:lo.length=f.no)(hcp:f.np<=f.cp):FcI f lp lo/\f.key.size<=24/\f.ins.size<=24/\f.oth.size<=24/\f.rn.size<=13/\f.pn.size<=13/\f.pd.size<=13/\f.sn.size<=13/\f.sd.size<=13:=by
 unfold grF at h;simp only[Bool.or_eq_false_iff,decide_eq_false_iff_not,List.any_eq_false]at h;obtain⟨⟨⟨⟨h1,h2⟩,h3⟩,h4⟩,h5⟩:=h;obtain⟨⟨⟨⟨⟨⟨⟨⟨⟨⟨a1,a2⟩,a3⟩,a4⟩,a5⟩,a6⟩,a7⟩,a8⟩,a9⟩,a10⟩,a11⟩:=h1;have b9:=gQ a9;have b10:=gQ a10;have b11:=gQ a11;dsimp only at b9 b10 b11;refine⟨⟨⟨by omega,by omega,by omega,by omega,by omega,by omega,by omega,by omega,by omega,by omega,by omega,by omega,by omega,by omega⟩,hlp,hlo,by omega,by omega,hcp,?_,?_⟩,by omega,by omega,by omega,by omega,by omega,by omega,by omega,by omega⟩
 ·intro p hp
  have:=h4 p hp;unfold grP at this;simp at this;omega
 ·intro t ht
  have h:=h5 t ht;unfold grO at h;simp only[Bool.not_eq_true,Bool.or_eq_false_iff,decide_eq_false_iff_not]at h;obtain⟨⟨⟨c1,c2⟩,c3⟩,c4⟩:=h;have d2:=gQ c2;have d3:=gQ c3;have d4:=gQ c4;dsimp only at d2 d3 d4;exact⟨by omega,by omega,by omega,by omega,by omega,by omega,by omega⟩
theorem ado {n:Nat}{l:List Lt}(h:alA n l=false):n<=1002/\∀x∈l,x.q.size<=13/\x.c.size<=13/\x.u.size<=13/\x.id.size<=40/\x.ins.size<=40:=by
 unfold alA at h;rw[Bool.or_eq_false_iff,Bool.or_eq_false_iff,decide_eq_false_iff_not,List.any_eq_false]at h;exact⟨by omega,fun x hx=>afL (by simpa using h.2 x hx)⟩
theorem akG {r:Rat}(h:0<r):quoQ 1 r=1/r/\quoE r=0:=by
 have h0:r≠0:=by grind
 unfold quoQ quoE;rw[if_neg h0,if_neg h0];exact⟨rfl,rfl⟩
theorem ahJ (f:Fct){lp:List Pk}{lo:List Ot}{A:Option Addr}{n c:Nat}{l:List Lt}(key value:BA)(hn:l.length=n)(hm:n<=9223372036854775807)(hz:∀x∈l,x.big)(hf:f.big)(hcp:f.np<=f.cp)(hlp:lp.length=f.np)(hlo:lo.length=f.no)(hzp:∀p∈lp,p.lot.size<=9223372036854775807/\p.q.size<=9223372036854775807)(hzo:∀t∈lo,t.big)(hkey:key.size<=9223372036854775807)(hval:value.size<=9223372036854775807):
 iO (fun w=>Row w A (av aa l)/\FcW f lp lo w) 3 #[.slice A n c,gI f,.string key,.string value] (.bool true):=by
 intro w hg hi;have hs:=((St.refl hg).alloc (.cells (bK f) 30)).alloc (.cells (bK f) 30);have HU:Hid (Uw f lp lo w.heap.size A l ((w.alloc (.cells (bK f) 30)).alloc (.cells (bK f) 30))):=⟨(TBx.new w (bK f) 30).alloc _,hi.1.on hs.2,hi.2.on hs.2⟩;have HB1:Hid (TBx ((w.alloc (.cells (bK f) 30)).alloc (.cells (bK f) 30)) (w.heap.size+1) (bK f) 30):=by
  have:=TBx.new (w.alloc (.cells (bK f) 30)) (bK f) 30;rwa[amD]at this
 have x0:=(TBx.new w (bK f) 30).bx.fact rfl;have KG:=acI f (A:=A) (c:=c) (b:=w.heap.size+1) (c':=1) hn hm hz hf hlp hlo hzp hzo;have KA:=top48R;have hfs:(bK f).size =21:=rfl;have HN:=amy hn;have hFI:=fun h=>afM (f:=f) (lp:=lp) (lo:=lo) h hlp hlo hcp
 have HFI:=amy hFI;obtain⟨bg,hbg⟩:=eX ((alA n l||grF f lp lo));rw[hbg]at KG;have HBG:=amy hbg;have q24:decide ((24:Int)<(key.size:Int))=decide (24<key.size):=by rw[ang];omega
 have q10:decide ((10:Int)<(value.size:Int))=decide (10<value.size):=by rw[ang];omega
 obtain⟨bk,hbk⟩:=eX (decide (24<key.size));obtain⟨bv,hbv⟩:=eX (decide (10<value.size));rw[hbk]at q24;rw[hbv]at q10;have HBK:=amy hbk;have HBV:=amy hbv;clear hn hz hf hlp hlo hzp hzo hcp hi hg hbg hbk hbv hFI;unfold gI
 go_enter func3,ntmps3
 go_wp2_with fail
 rw[aiW];refine KG.step hs ⟨HU.o.rl,HB1.o,HU.o.fw⟩ ?_;intro w1 hs hb1;replace HU:=amy (HU.o.on hb1);clear KG x0 HB1 hb1;cases bg with
 |true=>
  go_wp2_with fail
  refine KA.step hs ?_;intro wA hs hbA
  go_wp2_with fail
  go_ret
  exact⟨rfl,hs.2⟩
 |false=>
 cases bk with
 |true=>
  go_wp2_with fail
  refine KA.step hs ?_;intro wA hs hbA
  go_wp2_with fail
  go_ret
  exact⟨rfl,hs.2⟩
 |false=>
 cases bv with
 |true=>
  go_wp2_with fail
  refine KA.step hs ?_;intro wA hs hbA
  go_wp2_with fail
  go_ret
  exact⟨rfl,hs.2⟩
 |false=>
 have hbg:=HBG.o;rw[Bool.or_eq_false_iff]at hbg;obtain⟨hFI,zk,zi,zo,zrn,zpn,zpd,zsn,zsd⟩:=HFI.o hbg.2;obtain⟨hn2,hzl⟩:=ado hbg.1;have zkey:key.size<=24:=by have:=of_decide_eq_false HBK.o;omega
 have zval:value.size<=10:=by have:=of_decide_eq_false HBV.o;omega
 have HZL:=amy hzl;have HI:=amy hFI;have HSZ:=amy (And.intro zk (And.intro zi (And.intro zo (And.intro zrn (And.intro zpn (And.intro zpd (And.intro zsn (And.intro zsd (And.intro zkey zval)))))))));clear HBG HFI HBK HBV hbg hFI zk zi zo zrn zpn zpd zsn zsd zkey zval hzl;have K2:=uK f HI.o;obtain⟨e1,he1⟩:=eX (ym f lp lo);rw[he1]at K2;have HE1:=amy he1;clear he1;have x0:=HU.o.fb.bx.fact rfl;unfold gI at K2
 go_wp2_with fail
 refine K2.step hs HU.o.fw ?_;intro w2 hs hb2;replace HU:=amy (HU.o.on hb2);clear K2 x0 hb2;by_cases h1:e1=0
 case neg=>
  have q1:(e1 !=0)=true:=by simpa using h1
  have q2:(e1==0)=false:=by simpa using h1
  go_wp2_with fail
  refine KA.step hs ?_;intro wA hs hbA
  go_wp2_with fail
  go_ret
  exact⟨rfl,hs.2⟩
 subst h1;have x15:=HU.o.fb.bx.c 15 (.string f.rd) rfl;by_cases hrd:f.rd=⟨#[]⟩
 case neg=>
  have q0:¬f.rd.toList=[]:=fun e=>hrd (toList_inj (by rw[e,aF];rfl))
  have q1:(f.rd.toList== [])=false:=by simpa using q0
  have q2:(f.rd.toList !=[])=true:=by simpa using q0
  go_wp2_with fail
  refine KA.step hs ?_;intro wA hs hbA
  go_wp2_with fail
  go_ret
  exact⟨rfl,hs.2⟩
 have q0:f.rd.toList=[]:=by rw[hrd,aF];rfl
 have q1:(f.rd.toList== [])=true:=by rw[q0];rfl
 have q2:(f.rd.toList !=[])=false:=by rw[q0];rfl
 have HRD:=amy hrd;clear hrd;have hSP:=akr HE1.o;have HSP:=amy hSP;clear hSP;have x6:=HU.o.fb.bx.c 6 (.string f.oth) rfl;have KJ:=amy (tJ (A:=A) (n:=n) (c:=c) (L:=l) (ins:=f.oth) HN.o (by omega))
 go_wp2_with fail
 refine(KJ.o _ hs.gl HU.o.rl).mono ?_;rintro e w3 ⟨v3,rfl,ho3,hb3⟩;obtain⟨A3,c3,rfl⟩:=bW ho3.2;replace hs:=hs.on hb3;replace HU:=amy (HU.o.on hb3);obtain⟨j0,hj0⟩:=eX ((ak f.oth l).length );rw[hj0];have HJ:=amy hj0;clear KJ x6 x15 ho3 hb3 hj0 q0 q1 q2 q24 q10;by_cases hjz:j0=0
 case neg=>
  have q1:decide (((j0:Nat):Int)>0)=true:=am2 (by omega);have q2:decide ((0:Int)<(j0:Nat))=true:=am2 (by omega);have q3:decide (0<j0)=true:=am2 (by omega)
  go_wp2_with fail
  refine KA.step hs ?_;intro wA hs hbA
  go_wp2_with fail
  go_ret
  exact⟨rfl,hs.2⟩
 have q1:decide (((j0:Nat):Int)>0)=false:=am1 (by omega);have q2:decide ((0:Int)<(j0:Nat))=false:=am1 (by omega);have q3:decide (0<j0)=false:=am1 (by omega);have q4:¬0<j0:=by omega
 have hJ0:ak f.oth l=[]:=List.length_eq_zero_iff.1 (by rw[HJ.o];exact hjz);have HJ0:=amy hJ0;have HJZ:=amy hjz;clear hJ0 hjz;have hzL:∀x∈l,x.le 1000:=fun x hx=>by
  obtain⟨a1,a2,a3,a4,a5⟩:=HZL.o x hx;exact⟨by omega,by omega,by omega,by omega,by omega⟩
 have hqL:∀x∈l,x.q.size<=13/\x.c.size<=13:=fun x hx=>⟨(HZL.o x hx).1,(HZL.o x hx).2.1⟩
 have HZ1:=amy hzL;have HQ1:=amy hqL;have HH1:aN l=0->MapHypK (cZ f) l (ah f.rn*(iv ((ak f.ins l).map (·.q))).sum) (za f l):=fun h=>aiJ HSP.o HI.o.le HRD.o HSZ.o.1 HSZ.o.2.2.1 HSZ.o.2.2.2.1 HSZ.o.2.2.2.2.1 HSZ.o.2.2.2.2.2.1 HSZ.o.2.2.2.2.2.2.1 HSZ.o.2.2.2.2.2.2.2.1 h hqL hzL
 have HH:=amy HH1;have K4:=amy (fun(W:World) (g:Gl W) (r:Row W A (av aa l)) (q:FcW f lp lo W)=>ac1 f HI.o HE1.o (A:=A) (n:=n) (c:=c) HN.o (by omega) hzL HH1 W g r q);clear hzL hqL HH1;obtain⟨z1,hz1⟩:=eX (ah f.rn*(iv ((ak f.ins l).map (·.q))).sum );rw[hz1]at K4;have HZZ:=amy hz1;clear hz1;unfold gI at K4;have x0:=HU.o.fb.bx.fact rfl
 go_wp2_with fail
 refine(K4.o _ hs.gl HU.o.rl HU.o.fw).mono ?_;rintro e w4 ⟨hb4,v4,rfl,vL,vS,vE,er,rfl,o1,o2,o3,hor⟩;have HS4:(storeVar 40 ⟨w4.heap.size,0,none⟩ (.agg #[vL,.slice none 0 0,vS,vE])).run prog (w4.alloc (.cells #[.slice none 0 0,.slice none 0 0,.slice none 0 0,.slice none 0 0] 40))= .ok () (w4.alloc (.cells #[vL,.slice none 0 0,vS,vE] 40)):=by
  rw[TBx.storeR (TBx.new w4 #[.slice none 0 0,.slice none 0 0,.slice none 0 0,.slice none 0 0] 40) rfl rfl (one4 o1 o2 o3),World.setRow_alloc_new]
 have hb5:=bal w4 (.cells #[vL,.slice none 0 0,vS,vE] 40);have H11:Hid (TBx (w4.alloc (.cells #[vL,.slice none 0 0,vS,vE] 40)) w4.heap.size #[vL,.slice none 0 0,vS,vE] 40):=TBx.new _ _ _;replace HU:=amy ((HU.o.on hb4).on hb5);replace hs:=(hs.on hb4).on hb5;have HOR:=amy hor;have HB5:=amy hb5;clear K4 x0 hb4 hb5 o1 o2 o3 hor
 go_wp2_with fail
 obtain⟨W6,hW6⟩:=eX (w4.alloc (.cells #[vL,.slice none 0 0,vS,vE] 40));rw[hW6]at HU H11 HB5 hs⊢
 clear hW6 HS4;have hquo:=akG HSP.o.r0;have KQ:=QuoA (a:=⟨#[49]⟩) (b:=⟨#[]⟩) (c:=f.rn) (d:=f.rd) vq1 (Vq.arg (by have:=HSZ.o.2.2.2.1;omega) (by rw[HRD.o];decide));rw[hquo.1,hquo.2]at KQ;have HKQ:Hid (Ret 9 #[.agg #[.string ⟨#[49]⟩,.string ⟨#[]⟩],.agg #[.string f.rn,.string f.rd]] (.tuple #[.agg #[.string (frN (1/bV f.rn f.rd)),.string (frD (1/bV f.rn f.rd))],.int .i64 0])):=KQ;have HKF:Hid (Ret 10 #[.string ⟨#[49]⟩] (.agg #[.string ⟨#[49]⟩,.string ⟨#[]⟩])):=by
  have:=OfF (a:=⟨#[49]⟩) (x:=1) ⟨by decide,by decide⟩ (by decide);rwa[show ((1:Int):Rat)=1 from rfl,afP]at this
 clear hquo KQ;have hgl:Hid (∀v,Below W6.heap.size W6 v->Gl v):=fun v hv=>hs.gl.below hv
 have hSOK:Hid (∀v,Below W6.heap.size W6 v->v.cell? ⟨w.heap.size,14,none⟩=some (.string f.rn)/\v.cell? ⟨w.heap.size,15,none⟩=some (.string f.rd)):=fun v hv=>⟨(HU.o.fb.on hv).bx.cell (i:=14) rfl,(HU.o.fb.on hv).bx.cell (i:=15) rfl⟩
 have BL0:Hid (Below W6.heap.size W6 W6.drew):=(am3 _ _).drew;have BL0b:Hid (Below W6.heap.size W6 (W6.drew.alloc (.cells #[.string ⟨#[]⟩,.string ⟨#[]⟩] 26))):=BL0.o.alloc BL0.o.size _;have BL0c:Hid (Below W6.heap.size W6 ((W6.alloc (.cells #[.string ⟨#[]⟩,.string ⟨#[]⟩] 26)).drew)):=BL0b.o;have TA0b:Hid (TBx (W6.drew.alloc (.cells #[.string ⟨#[]⟩,.string ⟨#[]⟩] 26)) W6.heap.size #[.string ⟨#[]⟩,.string ⟨#[]⟩] 26):=TBx.new W6.drew _ _;have HS1:Hid (∀v:World,(storeVar 26 ⟨v.heap.size,0,none⟩ (.agg #[.string (frN (1/bV f.rn f.rd)),.string (frD (1/bV f.rn f.rd))])).run prog (v.alloc (.cells #[.string ⟨#[]⟩,.string ⟨#[]⟩] 26))= .ok () (v.alloc (.cells #[.string (frN (1/bV f.rn f.rd)),.string (frD (1/bV f.rn f.rd))] 26))):=fun v=>by
  rw[TBx.storeQ (TBx.new v #[.string ⟨#[]⟩,.string ⟨#[]⟩] 26) rfl rfl (by simp[Value.oneCell']),World.setRow_alloc_new]
 go_cut [11,12]from 62 to 68 (fun s11 s12 wx=>∃bk:Nat,s11= .pointer (some ⟨bk,0,none⟩)/\s12= .int .i64 0/\Hid (Below W6.heap.size W6 wx/\TBx wx bk #[.string (frN (1/bV f.rn f.rd)),.string (frD (1/bV f.rn f.rd))] 26/\W6.heap.size<=bk))
 case first=>
  clear KA
  go_region_held3 (fun v=>v.cell? ⟨w.heap.size,14,none⟩=some (.string f.rn)/\v.cell? ⟨w.heap.size,15,none⟩=some (.string f.rd))
   (first|with_reducible exact hSOK.o _ BL2a.o|with_reducible exact hSOK.o _ BL2b.o|with_reducible exact hSOK.o _ BL2c.o|with_reducible exact hSOK.o _ (BL2a.o.alloc BL2a.o.size _)|with_reducible exact hSOK.o _ (below_setRow BL2b.o ano _)|with_reducible exact hSOK.o _ (below_setRow BL2c.o BL1a.o.size _)|with_reducible exact hSOK.o _ BL1a.o|with_reducible exact hSOK.o _ BL1b.o|with_reducible exact hSOK.o _ (BL1a.o.alloc BL1a.o.size _)|with_reducible exact hSOK.o _ BL0.o|with_reducible exact hSOK.o _ BL0b.o|with_reducible exact hSOK.o _ BL0c.o)
   (first
    |(go_at_call 10;refine(HKF.o W6.drew (hgl.o _ BL0.o)).mono ?_;rintro e w7 ⟨rfl,hb7⟩;have BL1a:Hid (Below W6.heap.size W6 w7):=BL0.o.trans (hb7.mono BL0.o.size);clear hb7)
    |(go_at_call 10;refine(HKF.o (W6.drew.alloc (.cells #[.string ⟨#[]⟩,.string ⟨#[]⟩] 26)) (hgl.o _ BL0b.o)).mono ?_;rintro e w7 ⟨rfl,hb7⟩;have BL1b:Hid (Below W6.heap.size W6 w7):=BL0b.o.trans (hb7.mono BL0b.o.size);have TA1b:=amy (TA0b.o.on hb7);clear hb7)
    |(go_at_call 9;refine(HKQ.o w7 (hgl.o _ BL1a.o)).mono ?_;rintro e w8 ⟨rfl,hb8⟩;have BL2a:Hid (Below W6.heap.size W6 w8):=BL1a.o.trans (hb8.mono BL1a.o.size);have S1:=HS1.o w8;clear hb8)
    |(go_at_call 9;refine(HKQ.o w7 (hgl.o _ BL1b.o)).mono ?_;rintro e w8 ⟨rfl,hb8⟩;have BL2b:Hid (Below W6.heap.size W6 w8):=BL1b.o.trans (hb8.mono BL1b.o.size);have TA2b:=amy (TA1b.o.on hb8);have S1:=TA2b.o.storeQ (cs':= #[.string (frN (1/bV f.rn f.rd)),.string (frD (1/bV f.rn f.rd))]) rfl rfl (by simp[Value.oneCell']);clear hb8)
    |(go_at_call 9;refine(HKQ.o (w7.alloc (.cells #[.string ⟨#[]⟩,.string ⟨#[]⟩] 26)) (hgl.o _ (BL1a.o.alloc BL1a.o.size _))).mono ?_;rintro e w8 ⟨rfl,hb8⟩;have BL2c:Hid (Below W6.heap.size W6 w8):=(BL1a.o.alloc BL1a.o.size _).trans (hb8.mono (BL1a.o.alloc BL1a.o.size _).size);have TA2c:=amy ((TBx.new w7 #[.string ⟨#[]⟩,.string ⟨#[]⟩] 26).on hb8);have S1:=TA2c.o.storeQ (cs':= #[.string (frN (1/bV f.rn f.rd)),.string (frD (1/bV f.rn f.rd))]) rfl rfl (by simp[Value.oneCell']);clear hb8)
    |fail)
  all_goals (go_wp2_with fail;go_meet)
  all_goals first
   |exact⟨_,rfl,rfl,BL2a.o.alloc BL2a.o.size _,TBx.new _ _ _,BL2a.o.size⟩
   |exact⟨_,rfl,rfl,below_setRow BL2b.o ano _,TA2b.o.row _,am4 _⟩
   |exact⟨_,rfl,rfl,below_setRow BL2c.o BL1a.o.size _,TA2c.o.row _,BL1a.o.size⟩
 case rest=>
 obtain⟨bq,rfl,rfl,H1⟩:=hcut;replace hs:=hs.on H1.o.1;replace HU:=amy (HU.o.on H1.o.1);replace H11:=amy (H11.o.on H1.o.1);have HBC:=amy H1.o.1;have HQB:=amy H1.o.2.1;clear hgl hSOK BL0 BL0b BL0c TA0b HS1 HKQ HKF H1;by_cases h3:er=0
 case neg=>
  have q1:(er !=0)=true:=by simpa using h3
  have q2:(er==0)=false:=by simpa using h3
  go_wp2_with fail
  refine KA.step hs ?_;intro wA hs hbA
  go_wp2_with fail
  go_ret
  exact⟨rfl,hs.2⟩
 subst h3;have HG:Hid (aN l=0/\∃R,MapFineK (cZ f) l z1 (za f l) R/\dw aa 62 7 w3.heap.size w4 vL R.length R):=by
  rcases HOR.o with ⟨h0,_,h⟩|h
  ·exact⟨h0,h⟩
  ·exact absurd rfl h
 obtain⟨hl0,R1,hR1,hO1⟩:=HG.o;obtain⟨A1,c1,rfl⟩:=bW hO1.2;rw[<-HZZ.o]at hR1;have HL0:=amy hl0;have HR1:=amy hR1;have HO1:=amy ((hO1.on HB5.o).on HBC.o);clear HG HOR hl0 hR1 hO1 HB5 HBC;have hl1:=ww HL0.o HR1.o;have hy1:=aiV (HH.o HL0.o) HR1.o HZ1.o;have hn1:R1.length<=1000:=((bH R1).1 hl1).1;have HL1:=amy hl1;have HY1:=amy hy1;have HN1:=amy hn1;obtain⟨gF,hgF⟩:=eX (exF f key (some ⟨wc.heap.size,0,none⟩));have HGF:=amy hgF;have hIg:FcI gF [] [exT f value]:=by rw[<-hgF];exact exF_le HSZ.o.2.2.2.2.2.2.2.2.1 HSZ.o.2.1 HSZ.o.2.2.1 HSZ.o.2.2.2.2.2.2.2.2.2 HSZ.o.2.2.2.1 HRD.o
 have hHy:ak gF.ins R1≠ []->MgHyp gF (exT f value) R1 (1/bV f.rn f.rd) (bV value ⟨#[]⟩) (iv ((ak f.ins l).map (·.q))).sum (iv ((ak f.ins l).map (·.q))):=fun h=>by
  rw[<-hgF]at h⊢
  exact aiI HSP.o HRD.o HSZ.o.2.2.2.2.2.2.2.2.2 HSZ.o.2.2.2.2.2.2.2.2.1 HSZ.o.2.1 HSZ.o.2.2.2.1 HSZ.o.2.2.2.2.2.2.1 HSZ.o.2.2.2.2.2.2.2.1 HL0.o HQ1.o HJ0.o (fun e0=>by
   have e:=HR1.o.none (show ak (cZ f).ins l=[]from e0);rw[e]at h;exact h HJ0.o) HR1.o
 have K5:=amy (fun(W:World) (g:Gl W) (r:Row W A1 (av aa R1)) (q:FcW gF [] [exT f value] W)=>adf gF (exT f value) (A:=A1) (n:=R1.length) (c:=c1) (l:=R1) hIg (by rw[<-hgF];rfl) rfl hn1 hl1 hy1 (fun _ h=>hHy h) W g r q);have HHY:=amy hHy;clear hIg hHy hl1 hy1 hn1 hgF HH;have hq0:=HQB.o.bx.c 0 (.string (frN (1/bV f.rn f.rd))) rfl;have hq1:=HQB.o.bx.c 1 (.string (frD (1/bV f.rn f.rd))) rfl;have x3:=HU.o.fb.bx.c 3 (.int .i64 f.day) rfl;have x5:=HU.o.fb.bx.c 5 (.string f.ins) rfl;have x6:=HU.o.fb.bx.c 6 (.string f.oth) rfl;have hgA:bK gF= #[.string key,.int .i64 0,.bool false,.int .i64 f.day,.int .i64 10,.string f.oth,.string ⟨#[]⟩,.string ⟨#[]⟩,.string ⟨#[]⟩,.string ⟨#[]⟩,.string ⟨#[]⟩,.string ⟨#[]⟩,.string ⟨#[]⟩,.string ⟨#[]⟩,.string ⟨#[]⟩,.string ⟨#[]⟩,.string ⟨#[]⟩,.string ⟨#[]⟩,.slice none 0 0,.slice (some ⟨wc.heap.size,0,none⟩) 1 1,.int .i64 0]:=by rw[<-HGF.o];rfl
 have hboA:=bal wc (.cells (ajM f.ins (frN (1/bV f.rn f.rd)) (frD (1/bV f.rn f.rd)) value) 47);have HBO:Hid (TBx (wc.alloc (.cells (ajM f.ins (frN (1/bV f.rn f.rd)) (frD (1/bV f.rn f.rd)) value) 47)) wc.heap.size (ajM f.ins (frN (1/bV f.rn f.rd)) (frD (1/bV f.rn f.rd)) value) 47):=TBx.new _ _ _;have HS6:Hid (∀v:World,(storeVar 30 ⟨v.heap.size,0,none⟩ (.agg (bK gF))).run prog (v.alloc (.cells aSu2 30))= .ok () (v.alloc (.cells (bK gF) 30))):=fun v=>by
  rw[TBx.storeF (TBx.new v aSu2 30) rfl rfl alN,World.setRow_alloc_new]
 have S6:=HS6.o (wc.alloc (.cells (ajM f.ins (frN (1/bV f.rn f.rd)) (frD (1/bV f.rn f.rd)) value) 47));rw[hgA,amD]at S6;have hboB:Below (wc.alloc (.cells (ajM f.ins (frN (1/bV f.rn f.rd)) (frD (1/bV f.rn f.rd)) value) 47)).heap.size (wc.alloc (.cells (ajM f.ins (frN (1/bV f.rn f.rd)) (frD (1/bV f.rn f.rd)) value) 47)) ((wc.alloc (.cells (ajM f.ins (frN (1/bV f.rn f.rd)) (frD (1/bV f.rn f.rd)) value) 47)).alloc (.cells (bK gF) 30)):=bal _ _;have HGB:Hid (TBx ((wc.alloc (.cells (ajM f.ins (frN (1/bV f.rn f.rd)) (frD (1/bV f.rn f.rd)) value) 47)).alloc (.cells (bK gF) 30)) (wc.heap.size+1) (bK gF) 30):=TBx.new1 wc _ _ _;have HWF:Hid (FcW gF [] [exT f value] ((wc.alloc (.cells (ajM f.ins (frN (1/bV f.rn f.rd)) (frD (1/bV f.rn f.rd)) value) 47)).alloc (.cells (bK gF) 30))):=alM gF (exT f value) (by rw[<-HGF.o];rfl) (by rw[<-HGF.o];rfl) (HBO.o.on hboB).bx;have HB67:=amy (hboA.trans (hboB.mono hboA.size));rw[hgA]at HGB HWF HB67;replace HU:=amy (HU.o.on HB67.o);replace H11:=amy (H11.o.on HB67.o);replace HO1:=amy (HO1.o.on HB67.o);replace hs:=hs.on HB67.o;have y0:=H11.o.bx.c 0 (.slice A1 R1.length c1) rfl;have yf:=HGB.o.bx.fact rfl;have hK5:=K5.o;unfold gI at hK5;rw[hgA]at hK5;have HK5:=amy hK5;clear K5 hK5 hgA hboA hboB HBO HS6 HGB HB67 HQB
 go_wp2_with fail
 refine(HK5.o _ hs.gl (aaB HO1.o) HWF.o).mono ?_;rintro e w5 ⟨hb6,v5,rfl,vL2,vS2,vE2,er2,rfl,o1,o2,o3,hor⟩;have HS5:(storeVar 40 ⟨w5.heap.size,0,none⟩ (.agg #[vL2,.slice none 0 0,vS2,vE2])).run prog (w5.alloc (.cells #[.slice none 0 0,.slice none 0 0,.slice none 0 0,.slice none 0 0] 40))= .ok () (w5.alloc (.cells #[vL2,.slice none 0 0,vS2,vE2] 40)):=by
  rw[TBx.storeR (TBx.new w5 #[.slice none 0 0,.slice none 0 0,.slice none 0 0,.slice none 0 0] 40) rfl rfl (one4 o1 o2 o3),World.setRow_alloc_new]
 have hb7:=bal w5 (.cells #[vL2,.slice none 0 0,vS2,vE2] 40);have H13:Hid (TBx (w5.alloc (.cells #[vL2,.slice none 0 0,vS2,vE2] 40)) w5.heap.size #[vL2,.slice none 0 0,vS2,vE2] 40):=TBx.new _ _ _;replace HU:=amy ((HU.o.on hb6).on hb7);replace H11:=amy ((H11.o.on hb6).on hb7);replace hs:=(hs.on hb6).on hb7;have HOR:=amy hor;have HB7:=amy hb7;clear HK5 HWF yf y0 hb6 hb7 o1 o2 o3 hor hq0 hq1 x3 x5 x6 HO1 S6;by_cases h4:er2=0
 case neg=>
  have hor2:er2=1\/er2=5:=by
   rcases HOR.o with ⟨h0,_⟩|h|h|⟨hE,hF⟩
   ·exact absurd h0 h4
   ·exact .inl h
   ·exact .inr h
   ·rw[<-HGF.o]at hE hF
    exact(aak HSP.o HRD.o HL0.o HJ0.o HR1.o hE hF).elim
  clear HOR h4;rcases hor2 with rfl|rfl
  ·go_wp2_with fail
   refine KA.step hs ?_;intro wA hs hbA
   go_wp2_with fail
   go_ret
   exact⟨rfl,hs.2⟩
  ·go_wp2_with fail
   refine KA.step hs ?_;intro wA hs hbA
   go_wp2_with fail
   go_ret
   exact⟨rfl,hs.2⟩
 subst h4;have HG:Hid (∃R2,(ak gF.ins R1=[]->R2=R1)/\(ak gF.ins R1≠ []->(∀x∈dO gF (exT f value) R1 (iv ((ak f.ins l).map (·.q))),∀y∈R1,y.id≠x.id)/\OpnAll (dC gF.ins R1) (dO gF (exT f value) R1 (iv ((ak f.ins l).map (·.q)))) R2)/\∃B,dw aa 62 7 B w5 vL2 R2.length R2):=by
  rcases HOR.o with ⟨_,_,R,h1,h2,h3⟩|h|h|⟨_,hF⟩
  ·exact⟨R,h1,h2,_,h3⟩
  ·cases h
  ·cases h
  ·obtain⟨k,M,x,hx,hM,hne,hno⟩:=hF.no
   exact absurd rfl hno
 obtain⟨R2,h21,h22,BB,hO2⟩:=HG.o;obtain⟨A2,c2,rfl⟩:=bW hO2.2;have hle2:∀x∈R2,x.le 1000:=by
  have hh:=HHY.o;rw[<-HGF.o]at h21 h22 hh;exact akq HY1.o h21 (fun h=>(h22 h).2) hh
 have hend:iP f.ins R2=iP f.ins l+iP f.ins l/\iw f.ins R2=iw f.ins l/\ak f.oth R2=[]/\aN R2=0:=by
  rw[<-HGF.o]at h21 h22;exact ahI HSP.o HRD.o HL0.o HJ0.o HR1.o h21 h22
 have hn2':R2.length<=1000:=((bH R2).1 hend.2.2.2).1;have HO2:=amy (hO2.on HB7.o);have HEND:=amy hend;have HLE2:=amy hle2;have HN2:=amy hn2';have KT1:=amy (mD (A:=A) (c:=c) (ins:=f.ins) HN.o (show n<=1000 by rw[<-HN.o];exact((bH l).1 HL0.o).1) HZ1.o);have KT2:=mD (A:=A2) (n:=R2.length) (c:=c2) (ins:=f.ins) (L:=R2) rfl hn2' hle2;rw[hend.1,hend.2.1]at KT2;have HKT2:=amy KT2;have hfq:Fit 1003 (iP f.ins l):=by
  have:=(wh (ins:=f.ins) HZ1.o (by rw[HN.o];show n<=1000;rw[<-HN.o];exact((bH l).1 HL0.o).1) l.length).1;rwa[amK ano]at this
 have KAD:=amy (abq (Vs.can hfq (by omega)) (Vs.can hfq (by omega)));have KJ:=amy (tJ (A:=A2) (n:=R2.length) (c:=c2) (L:=R2) (ins:=f.oth) rfl (by omega));have HJL:Hid ((ak f.oth R2).length =0):=by show _=_;rw[hend.2.2.1];rfl
 clear HG HOR h21 h22 hO2 hle2 hend hn2' KT2 hfq HL1 HY1 HN1 HHY;obtain⟨sq,hsq⟩:=eX (ae (iP f.ins l));obtain⟨sc,hsc⟩:=eX (ae (iw f.ins l));obtain⟨sd,hsd⟩:=eX (ae (iP f.ins l+iP f.ins l));rw[hsd,hsc]at HKT2;rw[hsq,hsc]at KT1;rw[hsq,hsd]at KAD;clear hsq hsc hsd;have x5:=HU.o.fb.bx.c 5 (.string f.ins) rfl
 go_wp2_with fail
 refine(KT1.o _ hs.gl HU.o.rl).mono ?_;rintro e w8 ⟨rfl,hb8⟩;replace HU:=amy (HU.o.on hb8);replace H11:=amy (H11.o.on hb8);replace H13:=amy (H13.o.on hb8);replace HO2:=amy (HO2.o.on hb8);replace hs:=hs.on hb8;clear x5 KT1 hb8;have x5:=HU.o.fb.bx.c 5 (.string f.ins) rfl;have y0:=H13.o.bx.c 0 (.slice A2 R2.length c2) rfl
 go_wp2_with fail
 refine(HKT2.o _ hs.gl (aaB HO2.o)).mono ?_;rintro e w9 ⟨rfl,hb9⟩;replace HU:=amy (HU.o.on hb9);replace H11:=amy (H11.o.on hb9);replace H13:=amy (H13.o.on hb9);replace HO2:=amy (HO2.o.on hb9);replace hs:=hs.on hb9;clear x5 y0 HKT2 hb9;have y1:=H11.o.bx.c 1 (.slice none 0 0) rfl;have y3:=H13.o.bx.c 1 (.slice none 0 0) rfl;have hbA:=bal w9 (.cells #[.slice none 0 0,.slice none 0 0] 36);have KCC:=amy (al9 (bb:=w9.heap.size) (c:=2) (w9.alloc (.cells #[.slice none 0 0,.slice none 0 0] 36)) (Bx.new _ _ _))
 go_wp2_with fail
 refine(KCC.o).mono ?_;rintro e w10 ⟨rfl,hb10⟩;replace HU:=amy ((HU.o.on hbA).on hb10);replace H13:=amy ((H13.o.on hbA).on hb10);replace HO2:=amy ((HO2.o.on hbA).on hb10);replace hs:=(hs.on hbA).on hb10;clear y1 y3 KCC hbA hb10 H11
 go_wp2_with fail
 have HSS:=amy hs;clear hs
 go_loopw [133] (fun s wr=>s= .int .i64 0/\Hid (Below w10.heap.size w10 wr)) (fun s _=>0)
 case atStart=>exact⟨rfl,am3 _ _⟩
 case round=>
  obtain⟨rfl,HW⟩:=hrel;replace HU:=amy (HU.o.on HW.o);replace H13:=amy (H13.o.on HW.o);replace HO2:=amy (HO2.o.on HW.o);have hs:=HSS.o.on HW.o;clear HSS HW
  go_wp2_with fail
  refine(KAD.o).step hs ?_;intro w11 hs hb11;replace HU:=amy (HU.o.on hb11);replace H13:=amy (H13.o.on hb11);replace HO2:=amy (HO2.o.on hb11);clear KAD hb11;have y0:=H13.o.bx.c 0 (.slice A2 R2.length c2) rfl;have x6:=HU.o.fb.bx.c 6 (.string f.oth) rfl;have qq:∀s:BA,(s.toList==s.toList)=true:=fun s=>by simp
  go_wp2_with fail
  refine(KJ.o _ hs.gl (aaB HO2.o)).mono ?_;rintro e w12 ⟨v12,rfl,ho12,hb12⟩;obtain⟨A12,c12,rfl⟩:=bW ho12.2;replace hs:=hs.on hb12;rw[HJL.o];clear KJ y0 x6 hb12 ho12
  go_wp2_with fail
  refine KA.step hs ?_;intro wA hs hbA
  go_wp2_with fail
  go_ret
  exact⟨rfl,hs.2⟩
end
end Go.Proofs.YtbkhnggmcheelaaGreatDoor
