/- TopSpunTogether: Mappings of lots. Conditions: bounded sizes; variables as laid. -/
import Derived.Test.YtbkhnggmcheelaaGreatDoorGbd
set_option linter.unusedSimpArgs false
set_option linter.unusedVariables false
set_option maxHeartbeats 4000000
set_option maxRecDepth 100000
namespace Go.Proofs.YtbkhnggmcheelaaGreatDoor
open Proofs.Tryz
section
open Go.RowKit Go.Shelf Dec QQ SP
attribute [local go_sem] Oper.semAt_some
attribute [-go_sem] loadVar storeVar
attribute [local go_sem] afs ajQ
abbrev aCa1:Array Value:= #[.string ⟨#[]⟩,.int .i64 0,.string ⟨#[]⟩,.string ⟨#[]⟩,.string ⟨#[]⟩,.string ⟨#[]⟩,.string ⟨#[]⟩,.string ⟨#[]⟩,.string ⟨#[]⟩,.string ⟨#[]⟩,.bool false,.slice none 0 0,.string ⟨#[]⟩,.string ⟨#[]⟩,.string ⟨#[]⟩,.slice none 0 0,.slice none 0 0,.slice none 0 0,.slice none 0 0]
theorem alH (xs:List Int):av aO xs=(xs.map ae).map sv:=by
 unfold av
 induction xs with
 |nil=>rfl
 |cons x xs ih=>rw[List.flatMap_cons,ih];rfl
theorem aas {w:World}{A:Option Addr}{xs:List Int}(h:pW w A xs):Row w A ((xs.map ae).map sv):=by
 have:=h;unfold pW at this;rwa[alH]at this
theorem zV {k:Nat}{xs:List Int}(h:∀x∈xs,Fit k x):∀s∈xs.map ae,s.size<=k+1:=fun s hs=>by
 obtain⟨x,hx,rfl⟩:=amN.1 hs;exact(h x hx).size
theorem ajz {A':Option Addr}{n' c':Nat}{l:List Lt}(m:MapS){r pr sh:Rat}{z M0:Int}(hmo:MOk m)(hn:l.length=n')(hle:aN l=0)(hz:∀x∈l,x.le 1000)(hr:Vq m.rn m.rd r)(hrf:bP 1000 r)(hsh:Vq m.sn m.sd sh)(hshf:bP 1000 sh)(hM:pO 1 (sh*((iv ((ak m.ins l).map (·.c))).sum :Rat))=M0)(hMf:Fit 3900 M0)(hpp:Vq m.pn m.pd pr)(hpf:bP 1000 pr)(hw:((iv ((ak m.ins l).map (·.q))).sum :Rat)*r=(z:Rat))(hms:∀x∈dX (ae M0) ((ak m.ins l).map (·.c)),Fit 3000 x)(hfp:∀x∈dX ⟨#[]⟩ ((ak m.ins l).map (·.q)),Fit 3000 x):
 iO (fun w=>Row w A' (av aa l)) 27 #[.slice A' n' c',mpV m] (.tuple #[.string (ae (iv ((dX ⟨#[]⟩ ((ak m.ins l).map (·.q))).map ae)).sum),.int .i64 0]):=by
 intro w hg hi;have hm:n'<=1000:=by
  rw[<-hn];unfold aN at hle;by_cases h:1000<l.length
  ·rw[am2 h]at hle;cases hle
  ·omega
 have K1:=amy (oh (A:=A') (c:=c') hn (by omega) hz hmo);have K2:=amy (wI (A':=A') (c':=c') m hn hm hz hr hrf hsh hshf hM hMf hpp hpf hw hms);have hqv:(aN l==0)=true:=by rw[hle];rfl
 rw[hqv]at K1;have hs:=(St.refl hg).alloc (.cells (mpA m) 76);have HR:=amy (hi.on ((am3 _ _).alloc ano (.cells (mpA m) 76)));have HX:=amy (TBx.new w (mpA m) 76);have hdl:(dX ⟨#[]⟩ ((ak m.ins l).map (·.q))).length <=1000:=by
  have:(ak m.ins l).length <=l.length:=List.length_filter_le _ _;unfold dX;split<;>simp[dz,aQ]<;>omega
 have hdn:(dX ⟨#[]⟩ ((ak m.ins l).map (·.q))).length =(ak m.ins l).length :=by
  unfold dX;split<;>simp[dz,aQ]
 have HDL:=amy hdl;have HDN:=amy hdn;have HFP:=amy hfp;obtain⟨V,hV⟩:=eX (ae (iv ((dX ⟨#[]⟩ ((ak m.ins l).map (·.q))).map ae)).sum );rw[hV];have HV:=amy hV;clear hn hle hz hr hrf hpp hpf hw hms hmo hqv hi hg hsh hshf hM hMf hV hdl hdn hfp;have k0:=HX.o.bx.mapping rfl;dsimp only[mpV]at*
 go_enter func27,ntmps27
 go_wp2_with fail
 refine(K1.o).step hs HR.o ?_;intro w1 hs hb1;have HR1:=amy (HR.o.on hb1);have HX1:=amy (HX.o.on hb1);clear k0 K1 HX HR hb1;have k0:=HX1.o.bx.mapping rfl
 go_wp2_with fail
 refine(K2.o w1 hs.gl HR1.o).mono ?_;rintro e w2 ⟨v2,rfl,⟨p,rfl,hpm,hpn,hpp,hpa,hpd,hpw,hpp2⟩,hb2⟩;have hs:=hs.on hb2;have KS:=amy (mZ (A:=p.AP) (n:=p.n) (c:=p.cP) (k0:=3001) (ws:=(dX ⟨#[]⟩ ((ak m.ins l).map (·.q))).map ae) (by rw[am6,HDN.o,hpn]) (by rw[hpn, <-HDN.o];exact HDL.o) (by omega) (zV HFP.o));rw[HV.o]at KS;have HRP:=amy (aas hpp2);clear k0 K2 HX1 HR1 hb2 hpw hpp2 hpp hpa hpd hpm hpn;obtain⟨⟨cause,day,ins,oth,rn,rd,sn,sd,pn,pd,keep⟩,A,n,c,parts,an,ad,AN,cN,AM,cM,AF,cF,AP,cP⟩:=p;dsimp only[plV,plA]at*
 have hfd:∀u:World,(Instr.field 155 (.agg #[.string cause,.int .i64 day,.string ins,.string oth,.string rn,.string rd,.string sn,.string sd,.string pn,.string pd,.bool keep,.slice A n c,.string parts,.string an,.string ad,.slice AN n cN,.slice AM n cM,.slice AF n cF,.slice AP n cP]) 7).run prog u= .ok (.slice AP n cP) u:=fun u=>by kernel_rfl
 go_wp2_with fail
 refine(KS.o).step hs HRP.o ?_;intro w3 hs hb3
 go_wp2_with fail
 go_ret2
 exact⟨rfl,hs.2⟩
theorem afl {A':Option Addr}{n' c':Nat}{l:List Lt}(m:MapS){r pr sh:Rat}{z M0:Int}(hmo:MOk m)(hn:l.length=n')(hle:aN l=0)(hz:∀x∈l,x.le 1000)(hr:Vq m.rn m.rd r)(hrf:bP 1000 r)(hsh:Vq m.sn m.sd sh)(hshf:bP 1000 sh)(hM:pO 1 (sh*((iv ((ak m.ins l).map (·.c))).sum :Rat))=M0)(hMf:Fit 3900 M0)(hpp:Vq m.pn m.pd pr)(hpf:bP 1000 pr)(hw:((iv ((ak m.ins l).map (·.q))).sum :Rat)*r=(z:Rat))(hms:∀x∈dX (ae M0) ((ak m.ins l).map (·.c)),Fit 3000 x)(hfs:∀x∈(dX ⟨#[]⟩ ((dX (ae M0) ((ak m.ins l).map (·.c))).map ae)),Fit 3000 x):
 ∃s1 s2 s3,iO (fun w=>Row w A' (av aa l)) 28 #[.slice A' n' c',mpV m] (.tuple #[.string s1,.string s2,.string s3,.int .i64 0]):=by
 refine⟨ae ((iv ((dX (ae M0) ((ak m.ins l).map (·.c))).map ae)).sum -(iv ((dX ⟨#[]⟩ ((dX (ae M0) ((ak m.ins l).map (·.c))).map ae)).map ae)).sum),ae (iv ((dX ⟨#[]⟩ ((dX (ae M0) ((ak m.ins l).map (·.c))).map ae)).map ae)).sum,ae (iw m.ins l-(iv ((dX (ae M0) ((ak m.ins l).map (·.c))).map ae)).sum),?_⟩;intro w hg hi;have hm:n'<=1000:=by
  rw[<-hn];unfold aN at hle;by_cases h:1000<l.length
  ·rw[am2 h]at hle;cases hle
  ·omega
 have K1:=amy (oh (A:=A') (c:=c') hn (by omega) hz hmo);have K2:=amy (wI (A':=A') (c':=c') m hn hm hz hr hrf hsh hshf hM hMf hpp hpf hw hms);have K3:=amy (mD (A:=A') (c:=c') (ins:=m.ins) hn hm hz);have hqv:(aN l==0)=true:=by rw[hle];rfl
 rw[hqv]at K1;have hs:=(St.refl hg).alloc (.cells (mpA m) 76);have HR:=amy (hi.on ((am3 _ _).alloc ano (.cells (mpA m) 76)));have HX:=amy (TBx.new w (mpA m) 76);have hlen:(ak m.ins l).length <=l.length:=List.length_filter_le _ _;have hmn:(dX (ae M0) ((ak m.ins l).map (·.c))).length =(ak m.ins l).length :=by unfold dX;split<;>simp[dz,aQ]
 have hfn:(dX ⟨#[]⟩ ((dX (ae M0) ((ak m.ins l).map (·.c))).map ae)).length =(ak m.ins l).length :=by
  rw[<-hmn];generalize (dX (ae M0) ((ak m.ins l).map (·.c)))=ms;unfold dX;split<;>simp[dz,aQ]
 have hfm:Fit 3004 (iv ((dX (ae M0) ((ak m.ins l).map (·.c))).map ae)).sum :=iH (jM (k:=3001) (zV hms)) (by rw[aQ,am6,hmn];omega);have hff:Fit 3004 (iv ((dX ⟨#[]⟩ ((dX (ae M0) ((ak m.ins l).map (·.c))).map ae)).map ae)).sum :=iH (jM (k:=3001) (zV hfs)) (by rw[aQ,am6,hfn];omega);have hfc:Fit 1003 (iw m.ins l):=by
  have:=(wh (ins:=m.ins) hz (by omega) l.length).2;rwa[amK ano]at this
 have KA:=ahs (Vs.can hfm (by omega)) (Vs.can hff (by omega));have KB:=ahs (Vs.can hfc (by omega)) (Vs.can hfm (by omega));have HMN:=amy hmn;have HFN:=amy hfn;have HMS:=amy hms;have HFS:=amy hfs;have HLN:=amy (show (ak m.ins l).length <=1000 by omega);generalize (dX ⟨#[]⟩ ((dX (ae M0) ((ak m.ins l).map (·.c))).map ae))=fs at*
 generalize (dX (ae M0) ((ak m.ins l).map (·.c)))=ms at*
 clear hn hle hz hr hrf hpp hpf hw hms hmo hqv hi hg hsh hshf hM hMf hmn hfn hfm hff hfc hfs hlen;have k0:=HX.o.bx.mapping rfl;dsimp only[mpV]at*
 generalize ae ((iv (ms.map ae)).sum -(iv (fs.map ae)).sum)=s1 at*
 generalize ae (iw m.ins l-(iv (ms.map ae)).sum)=s3 at*
 go_enter func28,ntmps28
 go_wp2_with fail
 refine(K1.o).step hs HR.o ?_;intro w1 hs hb1;have HR1:=amy (HR.o.on hb1);have HX1:=amy (HX.o.on hb1);clear k0 K1 HX HR hb1;have k0:=HX1.o.bx.mapping rfl
 go_wp2_with fail
 refine(K2.o w1 hs.gl HR1.o).mono ?_;rintro e w2 ⟨v2,rfl,⟨p,rfl,hpm,hpn,hpp,hpa,hpd,hpw,hpp2⟩,hb2⟩;have hps:∀v:World,(storeVar 155 ⟨v.heap.size,0,none⟩ (.agg (plA p))).run prog (v.alloc (.cells aCa1 155))= .ok () (v.alloc (.cells (plA p) 155)):=fun v=>by
  rw[TBx.store (TBx.new v aCa1 155) rfl rfl (by simp[plA,Value.oneCell']),World.setRow_alloc_new]
 have hba:Below w2.heap.size w2 (w2.alloc (.cells (plA p) 155)):=bal _ _;have hs:=(hs.on hb2).on hba;have HR3:=amy ((HR1.o.on hb2).on hba);have HX3:=amy ((HX1.o.on hb2).on hba);have HP3:=amy (TBx.new w2 (plA p) 155);have HRM:=amy (aas (hpw.rm.on hba));have HRF:=amy (aas (hpw.rf.on hba));have KS:=amy (mZ (A:=p.AM) (n:=p.n) (c:=p.cM) (k0:=3001) (ws:=ms.map ae) (by rw[am6,HMN.o,hpn]) (by rw[hpn];exact HLN.o) (by omega) (zV HMS.o));have KF:=amy (mZ (A:=p.AF) (n:=p.n) (c:=p.cF) (k0:=3001) (ws:=fs.map ae) (by rw[am6,HFN.o,hpn]) (by rw[hpn];exact HLN.o) (by omega) (zV HFS.o));generalize ae (iv (ms.map ae)).sum =a1 at*
 obtain⟨a2,ha2⟩:=eX (ae (iv (fs.map ae)).sum );rw[ha2]at KF KA;have HA2:=amy ha2;clear ha2;generalize ae (iw m.ins l)=a3 at*
 unfold plV;clear k0 K2 HX1 HR1 hb2 hpw hpp2 hpp hpa hpd hpm hpn HMS HFS HMN HFN
 go_wp2_with fail
 have k16:=HP3.o.bx.k 16 (.slice p.AM p.n p.cM) rfl;have k17:=HP3.o.bx.k 17 (.slice p.AF p.n p.cF) rfl;have hI1:∀u:Kept (w2.alloc (.cells (plA p) 155)),Row u.W p.AM ((ms.map ae).map sv):=fun u=>HRM.o.on u.low
 have hI2:∀u:Kept (w2.alloc (.cells (plA p) 155)),Row u.W p.AF ((fs.map ae).map sv):=fun u=>HRF.o.on u.low
 refine ax (by kernel_rfl) (by kernel_rfl) ?_
 repeat (go_big_quiet_step (first|(with_reducible exact dY KS.o hs hI1)|(with_reducible exact dY KF.o hs hI2)))
 refine wpQuiet_nil ?_;rintro _ ⟨u1,rfl⟩;have hs:=hs.kept u1;have HR4:=amy (HR3.o.on u1.low);have HX4:=amy (HX3.o.on u1.low);clear k16 k17 hI1 hI2 KS KF HP3 HRM HRF HX3 HR3 hps hba;generalize u1.W=w4 at*
 have x2:=HX4.o.bx.c 2 (.string m.ins) rfl
 go_wp2_with fail
 refine(K3.o).step hs HR4.o ?_;intro w5 hs hb5;clear x2 K3 HX4 HR4 hb5
 go_wp2_with fail
 refine KA.step hs ?_;intro w6 hs hb6
 go_wp2_with fail
 refine KB.step hs ?_;intro w7 hs hb7
 go_wp2_with fail
 refine bodyPost_ret (yD rfl _ _ _) rfl ?_;exact⟨by rw[HA2.o];rfl,hs.2⟩
end
section
open Go.RowKit Go.Shelf Dec QQ SP
def ym (f:Fct)(lp:List Pk)(lo:List Ot):Int:=bif iy f lp lo !=0 then iy f lp lo else bif f.kind !=9 then 7 else 0
def cZ (f:Fct):MapS:=⟨f.key,f.day,f.ins,f.oth,f.rn,f.rd,f.sn,f.sd,f.pn,f.pd,true⟩
theorem akc {c:Bool}{a b:Int}(h:(bif c then a else b)=0)(ha:a≠0):c=false/\b=0:=by
 cases c with
 |true=>exact absurd h ha
 |false=>exact⟨rfl,h⟩
theorem adq {f:Fct}{lp:List Pk}{lo:List Ot}{n:Nat}:∀(m i:Nat),oI f lp lo n m i=0->∀j,i<=j->j<i+m->acb f lp lo n j=0
 |0,i,_,j,h1,h2=>by omega
 |m+1,i,h,j,h1,h2=>by
  have h':(bif acb f lp lo n i !=0 then acb f lp lo n i else oI f lp lo n m (i+1))=0:=h;by_cases e:acb f lp lo n i=0
  ·rw[show (acb f lp lo n i !=0)=false by simpa using e]at h'
   by_cases ej:j=i
   ·rw[ej];exact e
   ·exact adq m (i+1) h' j (by omega) (by omega)
  ·rw[show (acb f lp lo n i !=0)=true by simpa using e]at h'
   exact absurd h' e
theorem ali {P Q:Bool}{a b:BA}(h:pR P Q a b=0):vI a b=0/\0<=bV a b/\(P=true->0<bV a b)/\(Q=true->bV a b<=1):=by
 unfold pR at h;obtain⟨h1,h⟩:=akc h (by decide);obtain⟨_,h⟩:=akc h (by decide);obtain⟨h2,_⟩:=akc h (by decide);have hc:vI a b=0:=by simpa using h1
 rw[Bool.or_eq_false_iff,Bool.or_eq_false_iff,decide_eq_false_iff_not]at h2;have n1:¬bV a b<0:=fun hc=>h2.1 (ajh.2 hc)
 refine⟨hc,Rat.not_lt.1 n1,fun hP=>?_,fun hQ=>?_⟩
 ·subst hP
  have n3:¬il (bV a b) 0=0:=by simpa using h2.2.1
  have n2:bV a b≠0:=fun e=>n3 (by rw[e];decide+kernel)
  grind
 ·subst hQ
  have n3:¬0<il (bV a b) 1:=by simpa using h2.2.2
  refine Rat.not_lt.1 fun hc=>n3 ?_
  unfold il;rw[if_neg (by grind),if_neg (by grind)];decide
structure PnOk (f:Fct):Prop where
 kind:f.kind=9
 key:aG f.key=true
 ins:aG f.ins=true
 oth:aG f.oth=true
 ne:f.oth≠f.ins
 d0: -25567<=f.day
 d1:f.day<=84005
 cp:vI f.pn f.pd=0
 cr:vI f.rn f.rd=0
 cs:vI f.sn f.sd=0
 p0:0<=bV f.pn f.pd
 r0:0<bV f.rn f.rd
 s0:0<=bV f.sn f.sd
 s1:bV f.sn f.sd<=1
theorem aeu {f:Fct}(h:fC f=true):f.kind=0:=by
 unfold fC at h;simp only[amC]at h;simpa using h.2.1
theorem akr {f:Fct}{lp:List Pk}{lo:List Ot}(h:ym f lp lo=0):PnOk f:=by
 have h':(bif iy f lp lo !=0 then iy f lp lo else bif f.kind !=9 then 7 else 0)=0:=h;have h1:iy f lp lo=0:=by
  by_cases e:iy f lp lo=0
  ·exact e
  ·rw[show (iy f lp lo !=0)=true by simpa using e]at h'
   exact absurd h' e
 rw[show (iy f lp lo !=0)=false by simpa using h1]at h';obtain⟨h2,_⟩:=akc (a:=7) (b:=0) h' (by decide);have hk:f.kind=9:=by simpa using h2
 unfold iy at h1;obtain⟨e1,h1⟩:=akc h1 (by decide);obtain⟨e2,h1⟩:=akc h1 (by decide);have hc:f.canc=false:=by
  cases hc:f.canc with
  |false=>rfl
  |true=>
   rw[hc]at h1;simp only[cond_true]at h1;cases hb:fC f with
   |true=>exact absurd ((aeu hb).symm.trans hk) (by decide)
   |false=>rw[hb]at h1;exact absurd h1 (by decide)
 rw[hc]at h1;simp only[cond_false]at h1;obtain⟨e3,h1⟩:=akc h1 (by decide);rw[Bool.or_eq_false_iff,decide_eq_false_iff_not,decide_eq_false_iff_not]at e3;rw[hk]at h1;have h3:oI f lp lo 9 13 0=0:=h1;have f0:(bif aG f.ins then 0 else 23:Int)=0:=adq 13 0 h3 0 (by omega) (by omega);have f1:(bif aG f.oth then(bif eqB f.oth f.ins then 18 else 0)else 23:Int)=0:=adq 13 0 h3 1 (by omega) (by omega);have f7:pR false false f.pn f.pd=0:=adq 13 0 h3 7 (by omega) (by omega);have f8:pR true false f.rn f.rd=0:=adq 13 0 h3 8 (by omega) (by omega);have f9:pR false true f.sn f.sd=0:=adq 13 0 h3 9 (by omega) (by omega);have g1:aG f.oth=true/\f.oth≠f.ins:=by
  cases hi:aG f.oth with
  |false=>rw[hi]at f1;exact absurd (show (23:Int)=0 from f1) (by decide)
  |true=>
   rw[hi]at f1;refine⟨rfl,fun e=>?_⟩;rw[dH.2 e]at f1;exact absurd (show (18:Int)=0 from f1) (by decide)
 refine⟨hk,by simpa using e1,?_,g1.1,g1.2,by omega,by omega,(ali f7).1,(ali f8).1,(ali f9).1,(ali f7).2.1,(ali f8).2.2.1 rfl,(ali f9).2.1,(ali f9).2.2.2 rfl⟩;cases hi:aG f.ins with
 |true=>rfl
 |false=>rw[hi]at f0;exact absurd f0 (by decide)
theorem aiX {f:Fct}{lp:List Pk}{lo:List Ot}(h:iy f lp lo=0):aG f.key=true:=by
 unfold iy at h;obtain⟨e1,_⟩:=akc h (by decide);simpa using e1
theorem ak7 {f:Fct}(h:PnOk f)(hz:f.le):MOk (cZ f) where
 cause:=h.key
 ins:=h.ins
 oth:=h.oth
 day:=by
  show (decide (-25567<=f.day)&&decide (f.day<=84005))=true;rw[am2 h.d0,am2 h.d1];rfl
 cr:=h.cr
 cs:=h.cs
 cp:=h.cp
 zr:=⟨hz.rn,hz.rd⟩
 zs:=⟨hz.sn,hz.sd⟩
 zp:=⟨hz.pn,hz.pd⟩
 pr:=h.r0
 ps:=⟨h.s0,h.s1⟩
 pp:=h.p0
 kp:=fun _=>h.ne
 nk:=fun e=>by cases e
end
section
open Go.RowKit Go.Shelf Dec QQ
theorem ab5:(prog.info? 62).map (·.size)=some 7:=by kernel_rfl
theorem undL:prog.underlying 22=some (.slice 62):=by kernel_rfl
theorem overX (w:World)(a b:Addr)(la ca lb cb:Nat)(hne:a.block≠b.block)(tA tB:TypeId)(kA kB:Nat)
 (hsa:w.shape? a.block=some (tA,kA)) (hsb:w.shape? b.block=some (tB,kB)) (hkB:kB≠0)
 (hfa:w.frozen? a=false) (hfe:w.frozen? {block:=a.block,off:=kA}=false):
 (callFunc 157 #[.slice (some a) la ca,.slice (some b) lb cb]).run prog w= .ok (.value (.bool false)) w:=by
 rw[run_callFunc_extern (fn:=f157) (by kernel_rfl) (by kernel_rfl) (by kernel_rfl) (by kernel_rfl) (e:=Extern.SlicesOverlaps.overlaps #[22,22] #[4]) (by kernel_rfl),
  Lib.run_overlaps_apart w 22 4 62 undL 7 (fun u=>by kernel_rfl) a b la ca lb cb hne tA tB kA kB hsa hsb hkB hfa hfe]
 rfl
theorem zD {w:World}{g k:Nat}{cs:Array Value}{t:TypeId}(h:w.heap[g]? =some (.cells cs t (0,0))):w.frozen? ⟨g,k,none⟩=false:=by
 simp[World.frozen?,h]
theorem abx {w:World}{g:Nat}{cs:Array Value}{t:TypeId}(h:w.heap[g]? =some (.cells cs t (0,0))):w.shape? g=some (t,cs.size):=by
 simp[World.shape?,h]
theorem xU {w:World}{g:Nat}{cs:List Value}{t:TypeId}(h:w.heap[g]? =some (.cells cs.toArray t (0,0))):∀j v,cs[j]? =some v->w.cell? ((⟨g,0,none⟩:Addr).add j)=some v:=by
 intro j v hv;rw[show (⟨g,0,none⟩:Addr).add j=⟨g,j,none⟩by unfold Addr.add;by_cases h:j=0<;>simp[h]];simp[World.cell?,h,hv]
theorem acs {w:World}{g o:Nat}{cs:List Value}{t:TypeId}(h:w.heap[g]? =some (.cells cs.toArray t (0,0))):∀j v,(cs.drop o)[j]? =some v->w.cell? ((⟨g,o,none⟩:Addr).add j)=some v:=by
 intro j v hv;rw[List.getElem?_drop]at hv;rw[Addr.add_mid];simp[World.cell?,h,hv]
theorem nJ {w w1 w2:World}{r:Option Nat}(h1:w.grownBy w1 r)(h2:w1.grownBy w2 r):w.grownBy w2 r:=
 ⟨h2.os.trans h1.os,h2.tape.trans h1.tape,h2.output.trans h1.output,amG h1.size h2.size,fun k hk hr=>(h2.block k (amS hk h1.size) hr).trans (h1.block k hk hr)⟩
theorem ajC {w w1 w2:World}{r:Option Nat}{N:Nat}(h1:w.grownBy w1 r)(h2:w1.grownBy w2 (some N))(hN:w.heap.size<=N):w.grownBy w2 r:=
 ⟨h2.os.trans h1.os,h2.tape.trans h1.tape,h2.output.trans h1.output,amG h1.size h2.size,fun k hk hr=>(h2.block k (amS hk h1.size) (by intro e;injection e;omega)).trans (h1.block k hk hr)⟩
theorem abf (w:World)(g:Nat):w.grownBy w.drew (some g):=⟨rfl,rfl,rfl,am4 _,fun _ _ _=>rfl⟩
theorem aiD {w:World}{g n cap i gy:Nat}{cur xs ys:List Value}{tt:TypeId}(hcur:w.heap[g]? =some (.cells cur.toArray 62 (0,0)))(hnc:n+1<=cap)(hm:n<=1000000)(hcap:cap<=9223372036854775807)(hcs:cur.length=cap*7)
 (hx:cur.take (n*7)=xs) (hi:i<n) (hy:w.heap[gy]? =some (.cells ys.toArray tt (0,0))) (hyl:ys.length=7) (hne:gy≠g) (h1:∀u∈xs,u.oneCell'=true) (h1y:∀u∈ys,u.oneCell'=true):
 Calls prog 96 #[.slice (some ⟨g,0,none⟩) n cap,.int .i64 i,.slice (some ⟨gy,0,none⟩) 1 1] w fun e w'=>
  e= .returned (.slice (some ⟨g,0,none⟩) (n+1) cap)/\w.grownBy w' (some g)/\w'.heap[g]? =some (.cells (splice (splice cur ((i+1)*7) (xs.drop (i*7))) (i*7) ys).toArray 62 (0,0)):=by
 have q1:¬((i:Int)=(n:Int)):=by omega
 have q2:¬((cap:Int)<(n:Int)+1):=by omega
 have hov:∀(u:World) off lb cb,u.heap=w.heap->(callFunc 157 #[.slice (some ⟨gy,0,none⟩) 1 1,.slice (some ⟨g,off,none⟩) lb cb]).run prog u= .ok (.value (.bool false)) u:=fun u off lb cb hu=>
  overX u ⟨gy,0,none⟩ ⟨g,off,none⟩ 1 1 lb cb hne tt 62 ys.toArray.size cur.toArray.size (abx (by rw[hu];exact hy)) (abx (by rw[hu];exact hcur)) (by rw[List.size_toArray,hcs];omega) (zD (by rw[hu];exact hy)) (zD (by rw[hu];exact hy))
 have mixed:prog.follows .mixedOrders =true:=by kernel_rfl
 have hin:i<=n:=by omega
 have htn:((i:Int)+1).toNat =i+1:=by omega
 have hw1:IntKind.i64.wrap ((i:Int)+1)=(i:Int)+1:=by rw[IntKind.wrap_i64];omega
 have hb1:(0:Int)<=(i:Int)+1:=by omega
 have hb2:¬(cap=i+1):=by omega
 have hb3:(i:Int)<=(n:Int)+1:=by omega
 have hb4:¬(cap=i):=by omega
 have hxl:xs.length=n*7:=by rw[<-hx,amO];omega
 have hdl:(xs.drop (i*7)).length =(n-i)*7:=by rw[am8,hxl];omega
 have hdx:xs.drop (i*7)=(cur.drop (i*7)).take ((n-i)*7):=by rw[<-hx,List.drop_take];congr 1;omega
 have hsrc:∀j v,(xs.drop (i*7))[j]? =some v->w.cell? ((⟨g,i*7,none⟩:Addr).add j)=some v:=fun j v hj=>by
  rw[hdx,amZ]at hj;split at hj
  ·exact acs hcur j v hj
  ·cases hj
 obtain⟨Z,hZ⟩:∃Z,Z=xs.drop (i*7):=⟨_,rfl⟩;rw[<-hZ]at hdl hsrc⊢
 have h1Z:∀v∈Z,v.oneCell'=true:=fun v hv=>h1 v (List.mem_of_mem_drop (by rw[<-hZ];exact hv))
 have HC:=amy hcur;have HY:=amy hy;have HX:=amy hx;have HL:=amy hcs;have HD:=amy hdl;have HR:=amy hsrc;clear hcur hy hx hcs hZ hdl hsrc hdx hxl
 go_enter func96,ntmps96
 go_wp2_with (simp only[hov _ _ _ _ rfl])
 go_region_law_o (refine iQ rfl (.tmp 73) (.tmp 76) 22 22 rfl 62 7 undL ab5 (by omega) (some ⟨g,(i+1)*7,none⟩) (some ⟨g,i*7,none⟩) (n-i) (cap-(i+1)) (n+1-i) (cap-i) (by simp[Act.eval,Act.put]) (by simp[Act.eval,Act.put]) g ((i+1)*7) cur 62 HC.o Z (by rw[HD.o];congr 1;simp only[Nat.min_def];split<;>omega) (fun _=>⟨rfl,_,rfl,HR.o⟩) (by rw[HD.o,HL.o];omega) h1Z ?_;intro w2 HS2)
 have hne':some gy≠some g:=fun e=>hne (by injection e)
 have hyw:gy<w.heap.size:=(amA.1 HY.o).1;have HY2:Hid (w2.heap[gy]? =some (.cells ys.toArray tt (0,0))):=(HS2.o.by'.block gy hyw hne').trans HY.o;have HZ:Hid ((splice cur ((i+1)*7) Z).length =cap*7):=by
  show _=_;rw[length_splice _ _ _ (by rw[HD.o,HL.o];omega),HL.o]
 have HN7:Hid (ys.length=Nat.min 1 (n+1-i)*7):=by show _=_;rw[show Nat.min 1 (n+1-i)=1 from Nat.min_eq_left (by omega),hyl]
 obtain⟨w3,hs3,hrun3⟩:=gu (P:=prog) w2 22 22 62 7 undL ab5 (some ⟨g,i*7,none⟩) (some ⟨gy,0,none⟩) (n+1-i) (cap-i) 1 1 g (i*7) (splice cur ((i+1)*7) Z) 62 HS2.o.row ys HN7.o (by omega) (fun _=>⟨rfl,_,rfl,xU HY2.o⟩) (by rw[hyl,HZ.o];omega) h1y;have HS3:=amy hs3;clear hs3
 go_wp2_with fail
 go_ret
 exact⟨rfl,nJ (nJ (abf w g) HS2.o.by') HS3.o.by',HS3.o.row⟩
theorem aiE {w:World}{g n cap i gy:Nat}{cur xs ys:List Value}{tt:TypeId}(hcur:w.heap[g]? =some (.cells cur.toArray 62 (0,0)))(hnc:n<=cap)(hroom:cap<n+1)(hm:n<=1000000)(hcs:cur.length=cap*7)
 (hx:cur.take (n*7)=xs) (hi:i<n) (hy:w.heap[gy]? =some (.cells ys.toArray tt (0,0))) (hyl:ys.length=7) (hne:gy≠g) (h1:∀u∈xs,u.oneCell'=true) (h1y:∀u∈ys,u.oneCell'=true):
 Calls prog 96 #[.slice (some ⟨g,0,none⟩) n cap,.int .i64 i,.slice (some ⟨gy,0,none⟩) 1 1] w fun e w'=>
  ∃G row,e= .returned (.slice (some ⟨w.heap.size,0,none⟩) (n+1) G)/\w.grownBy w' (some g)/\n+1<=G/\G<=maxLen/\row.length=G*7/\row.take (i*7)=xs.take (i*7)/\
   w'.heap[w.heap.size]? =some (.cells (splice (splice row (i*7) ys) ((i+1)*7) (xs.drop (i*7))).toArray 62 (0,0)):=by
 obtain rfl:cap=n:=by omega
 have q1:¬((i:Int)=(cap:Int)):=by omega
 have q2:(cap:Int)<(cap:Int)+1:=by omega
 have mixed:prog.follows .mixedOrders =true:=by kernel_rfl
 have hin:i<=cap:=by omega
 have htn:((i:Int)+1).toNat =i+1:=by omega
 have hw1:IntKind.i64.wrap ((i:Int)+1)=(i:Int)+1:=by rw[IntKind.wrap_i64];omega
 have hb1:(0:Int)<=(i:Int)+1:=by omega
 have hb3:(i:Int)<=(cap:Int)+1:=by omega
 have hb4:¬(cap=i):=by omega
 have hxl:xs.length=cap*7:=by rw[<-hx,amO];omega
 have hdl:(xs.drop (i*7)).length =(cap-i)*7:=by rw[am8,hxl];omega
 have hcx:cur=xs:=by rw[<-hx,amK (by omega)]
 subst hcx;clear hx;obtain⟨i0,hi0,hz0,hz1,hz2⟩:=info_parts aaV;have hold:(Builtin.firstCells i0.size i (.slice (some ⟨g,0,none⟩) i cap)).run prog w.drew= .ok (cur.take (i*7)).toArray w.drew:=by
  rw[hz1];exact run_firstCells_some w.drew 7 i ⟨g,0,none⟩ i cap (cur.take (i*7)) (by rw[amO];omega) (fun j v hj=>by
   rw[amZ]at hj;split at hj
   ·exact xU (w:=w.drew) hcur j v hj
   ·cases hj)
 have hkk:(cap:Int)+1-(i:Int)=((cap+1-i:Nat):Int):=by omega
 have hik:i+(cap+1-i)=cap+1:=by omega
 have hrz:∀ty,(Builtin.append_ #[22,3] ty #[.slice (some ⟨g,0,none⟩) i cap,.int .i64 ((cap:Int)+1-(i:Int))]).run prog w=
  .ok (.slice (some ⟨w.heap.size,0,none⟩) (cap+1) (grownCap w (cap+1) cap 62)) (w.drew.alloc (.cells ((cur.take (i*7)).toArray ++Builtin.zeroCells (ltV default).cells (cap+1-i)++Builtin.zeroCells (ltV default).cells (grownCap w (cap+1) cap 62-(cap+1))) 62)):=fun ty=>by
  have h:=Lib.run_append_grow_zeros w 22 3 ty 62 i0 _ .i64 .i64 undL (by kernel_rfl) hi0 hz0 (some ⟨g,0,none⟩) i cap (cur.take (i*7)) hold (cap+1-i) (by omega) (by omega) (by omega) (by omega) (by rw[hz2];omega) (by rw[hz2,hik];exact growslice_fits hroom (by omega));rw[hik]at h;rw[hkk];exact h
 obtain⟨G,hG⟩:∃G,G=grownCap w (cap+1) cap 62:=⟨_,rfl⟩;have hGn:cap+1<=G:=by rw[hG];exact grownCap_ge w _ _ _
 have hGm:G<=maxLen:=by rw[hG];exact grownCap_le_maxLen w _ _ _ (by unfold maxLen;omega)
 rw[<-hG]at hrz;obtain⟨ROW,hROW⟩:∃ROW:List Value,ROW=cur.take (i*7)++(Builtin.zeroCells (ltV default).cells (cap+1-i)++Builtin.zeroCells (ltV default).cells (G-(cap+1))).toList :=⟨_,rfl⟩;have hRa:(cur.take (i*7)).toArray ++Builtin.zeroCells (ltV default).cells (cap+1-i)++Builtin.zeroCells (ltV default).cells (G-(cap+1))=ROW.toArray:=by rw[hROW];apply Array.toList_inj.1;simp
 have hzl:∀k,(Builtin.zeroCells (ltV default).cells k).size =k*7:=fun k=>by simp[Builtin.zeroCells,Value.cells,ltV,ltA];try omega
 have hRl:ROW.length=G*7:=by rw[hROW];simp[hzl];omega
 have hRt:ROW.take (i*7)=cur.take (i*7):=by rw[hROW,List.take_append_of_le_length (by rw[amO];omega),List.take_take,Nat.min_self]
 rw[hRa]at hrz;obtain⟨W1,hW1⟩:∃W1,W1=w.drew.alloc (.cells ROW.toArray 62):=⟨_,rfl⟩;rw[<-hW1]at hrz;have hgw:g<w.heap.size:=(amA.1 hcur).1;have hyw:gy<w.heap.size:=(amA.1 hy).1;have HB1:Hid (w.grownBy W1 (some g)):=by rw[hW1];exact nJ (abf w g) (World.grownBy_alloc _ _ _)
 have HN1:Hid (W1.heap[w.heap.size]? =some (.cells ROW.toArray 62 (0,0))):=by rw[hW1];exact World.alloc_heap_new w.drew _
 have HC1:Hid (W1.heap[g]? =some (.cells cur.toArray 62 (0,0))):=by rw[hW1];exact(Below.heap_alloc w.drew _ _ hgw).trans hcur
 have HY1:Hid (W1.heap[gy]? =some (.cells ys.toArray tt (0,0))):=by rw[hW1];exact(Below.heap_alloc w.drew _ _ hyw).trans hy
 have hb2:¬(G=i+1):=by omega
 have hb5:¬(G=i):=by omega
 have HRL:=amy hRl;have HRT:=amy hRt;have hGm':G<=9223372036854775807:=by unfold maxLen at hGm;omega
 have HCL:=amy hcs;have HD:=amy hdl;obtain⟨Z,hZ⟩:∃Z,Z=cur.drop (i*7):=⟨_,rfl⟩;have HZ:=amy hZ;have h1Z:∀v∈Z,v.oneCell'=true:=fun v hv=>h1 v (List.mem_of_mem_drop (by rw[<-hZ];exact hv))
 obtain⟨N,hN⟩:∃N,N=w.heap.size:=⟨_,rfl⟩;rw[<-hN]at HN1 hrz hgw hyw⊢
 have HNN:=amy hN;rw[<-hZ]at HD⊢
 replace hN:=Nat.le_of_eq hN;clear hcur hy hcs hold hz0 hi0 hz1 hz2 hkk hik hROW hRa hzl hRl hRt hW1 hG hGm hdl hxl hZ;obtain⟨w2,hs2,hrun2⟩:=gu (P:=prog) W1 22 22 62 7 undL ab5 (some ⟨N,i*7,none⟩) (some ⟨gy,0,none⟩) (cap+1-i) (G-i) 1 1 N (i*7) ROW 62 HN1.o ys (by rw[show Nat.min 1 (cap+1-i)=1 from Nat.min_eq_left (by omega),hyl]) (by omega) (fun _=>⟨rfl,_,rfl,xU HY1.o⟩) (by rw[hyl,HRL.o];omega) h1y;have HS2:=amy hs2;clear hs2
 go_enter func96,ntmps96
 go_wp2_with (at_builtin;refine Lib.wpList_append_run _ rfl _ _ _ _ rfl _ _ rfl rfl _ _ (hrz _) ?_)
 have HC2:Hid (w2.heap[g]? =some (.cells cur.toArray 62 (0,0))):=(HS2.o.by'.block g (amA.1 HC1.o).1 (by intro e;injection e;omega)).trans HC1.o;have HSL:Hid ((splice ROW (i*7) ys).length =G*7):=by
  show _=_;rw[length_splice _ _ _ (by rw[hyl,HRL.o];omega),HRL.o]
 have HSR:Hid (∀j v,Z[j]? =some v->w2.drew.cell? ((⟨g,i*7,none⟩:Addr).add j)=some v):=fun j v hj=>by
  rw[HZ.o]at hj;exact acs (w:=w2.drew) HC2.o j v hj
 go_region_law_o (refine iQ rfl (.tmp 50) (.tmp 53) 22 22 rfl 62 7 undL ab5 (by omega) (some ⟨N,(i+1)*7,none⟩) (some ⟨g,i*7,none⟩) (cap-i) (G-(i+1)) (cap-i) (cap-i) (by simp[Act.eval,Act.put]) (by simp[Act.eval,Act.put]) N ((i+1)*7) (splice ROW (i*7) ys) 62 HS2.o.row Z (by rw[HD.o];congr 1;simp only[Nat.min_def];split<;>omega) (fun _=>⟨rfl,_,rfl,HSR.o⟩) (by rw[HD.o,HSL.o];omega) h1Z ?_;intro w3 HS3)
 go_wp2_with fail
 go_ret
 refine⟨G,ROW,rfl,?_,hGn,by unfold maxLen;omega,HRL.o,HRT.o,HS3.o.row⟩;exact ajC HB1.o (nJ (nJ HS2.o.by' (abf w2 N)) HS3.o.by') (by have:=HNN.o;omega)
theorem alq {w:World}{base n gy:Nat}{v:Value}{xs ys:List Value}{tt:TypeId}(hown:w.ownsRow base 62 7 v n xs)(hb:base<=w.heap.size)(hm:n<=1000000)(hy:w.heap[gy]? =some (.cells ys.toArray tt (0,0)))(hyl:ys.length=7)(h1y:∀u∈ys,u.oneCell'=true):
 Calls prog 96 #[v,.int .i64 n,.slice (some ⟨gy,0,none⟩) 1 1] w fun e w'=>
  ∃v',e= .returned v'/\w.grownBy w' v.ownBlock/\w'.ownsRow base 62 7 v' (n+1) (xs++ys):=by
 have hyr:Reads w w.heap.size 7 (some ⟨gy,0,none⟩) 1 ys:=⟨by omega,fun _=>⟨_,rfl,(amA.1 hy).1,xU hy⟩⟩;obtain⟨i0,hi,hz0,hz1,hz2⟩:=info_parts aaV;have Hi:=amy hi;have Hz0:=amy hz0;have Hz1:=amy hz1;have Hz2:=amy hz2;have HO:=amy hown;have HR:=amy hyr;have h0v:∀u,u=v->(u= .slice none 0 0/\n=0)\/∃g cap,u= .slice (some ⟨g,0,none⟩) n cap/\n<=cap/\cap<=9223372036854775807:=fun u hu=>by
  subst hu;rcases hown.2 with h|⟨g,cap,cur,e1,_,_,e4,e5,_⟩
  ·exact .inl h
  ·exact .inr ⟨g,cap,e1,e4,by unfold maxLen at e5;omega⟩
 clear hi hz0 hz1 hz2 hown hyr hy;rcases h0v v rfl with ⟨rfl,rfl⟩|⟨g,cap,rfl,hnc,hcap⟩
 ·clear h0v
  go_enter func96,ntmps96
  go_wp2_with (at_builtin;refine aB _ rfl (.tmp 23) (.tmp 24) 22 rfl base 62 i0 (.agg #[.string ⟨#[]⟩,.string ⟨#[]⟩,.int .i64 0,.int .i64 0,.string ⟨#[]⟩,.string ⟨#[]⟩,.string ⟨#[]⟩]) 7 96 (by kernel_rfl) Hi.o Hz0.o Hz1.o Hz2.o rfl (by omega) (.slice none 0 0) 0 xs rfl HO.o _ (some ⟨gy,0,none⟩) 1 1 ys rfl HR.o h1y (by unfold maxLen;omega) (by omega) hb ?_;intro v3 w3 hown3 hg3 _;have HO3:=amy hown3;have HG3:=amy hg3;clear hown3 hg3)
  go_ret
  exact⟨_,rfl,HG3.o,HO3.o⟩
 ·clear h0v
  go_enter func96,ntmps96
  go_wp2_with (at_builtin;refine aB _ rfl (.tmp 23) (.tmp 24) 22 rfl base 62 i0 (.agg #[.string ⟨#[]⟩,.string ⟨#[]⟩,.int .i64 0,.int .i64 0,.string ⟨#[]⟩,.string ⟨#[]⟩,.string ⟨#[]⟩]) 7 96 (by kernel_rfl) Hi.o Hz0.o Hz1.o Hz2.o rfl (by omega) (.slice (some ⟨g,0,none⟩) n cap) n xs rfl HO.o _ (some ⟨gy,0,none⟩) 1 1 ys rfl HR.o h1y (by unfold maxLen;omega) (by omega) hb ?_;intro v3 w3 hown3 hg3 _;have HO3:=amy hown3;have HG3:=amy hg3;clear hown3 hg3)
  all_goals (go_ret;exact⟨_,rfl,HG3.o,HO3.o⟩)
theorem insL {w:World}{base n i gy:Nat}{v:Value}{xs ys:List Value}{tt:TypeId}(hown:w.ownsRow base 62 7 v n xs)(hb:base<=w.heap.size)(hi:i<=n)(hm:n<=1000000)(hy:w.heap[gy]? =some (.cells ys.toArray tt (0,0)))(hyl:ys.length=7)(hne:some gy≠v.ownBlock)
 (h1:∀u∈xs,u.oneCell'=true) (h1y:∀u∈ys,u.oneCell'=true):
 Calls prog 96 #[v,.int .i64 i,.slice (some ⟨gy,0,none⟩) 1 1] w fun e w'=>
  ∃v',e= .returned v'/\w.grownBy w' v.ownBlock/\w'.ownsRow base 62 7 v' (n+1) (jm xs (i*7) ys):=by
 have hxl:=hown.1;by_cases hin:i=n
 ·subst hin
  rw[aeN xs ys _ (by omega)];exact alq hown hb hm hy hyl h1y
 have hlt:i<n:=by omega
 rcases hown.2 with ⟨_,h0⟩|⟨g,cap,cur,rfl,hbg,hcur,hnc,hcap,hcs,hx⟩
 ·omega
 have hne':gy≠g:=fun e=>hne (by rw[e];rfl)
 have hcur':w.heap[g]? =some (.cells cur.toList.toArray 62 (0,0)):=by simpa using hcur
 have hlen:cur.toList.length=cap*7:=by simpa using hcs
 have hdl:(xs.drop (i*7)).length =(n-i)*7:=by rw[am8,hxl];omega
 have hpl:(jm xs (i*7) ys).length =(n+1)*7:=by
  unfold jm;rw[am0,am0,amO,hdl,hyl,hxl];omega
 by_cases hr:n+1<=cap
 ·refine(aiD hcur' hr hm (by unfold maxLen at hcap;omega) hlen hx hlt hy hyl hne' h1 h1y).mono ?_
  rintro e w' ⟨rfl,hgr,hrow⟩;refine⟨_,rfl,hgr,hpl,.inr ⟨g,cap,_,rfl,hbg,hrow,hr,hcap,?_,?_⟩⟩
  ·rw[List.size_toArray,length_splice,length_splice,hlen]
   ·rw[hdl,hlen];omega
   ·rw[length_splice _ _ _ (by rw[hdl,hlen];omega),hyl,hlen];omega
  ·rw[List.toList_toArray]
   have:=aan cur.toList xs ys (i*7) (n*7) hx hxl (by omega) (by rw[hyl,hlen];omega);rw[hyl]at this;rw[show (i+1)*7=i*7+7 by omega,show (n+1)*7=n*7+7 by omega];exact this
 ·refine(aiE hcur' hnc (by omega) hm hlen hx hlt hy hyl hne' h1 h1y).mono ?_
  rintro e w' ⟨G,row,rfl,hgr,hG1,hG2,hrl,hrt,hrow⟩;refine⟨_,rfl,hgr,hpl,.inr ⟨_,G,_,rfl,hb,hrow,hG1,hG2,?_,?_⟩⟩
  ·rw[List.size_toArray,length_splice,length_splice,hrl]
   ·rw[hyl,hrl];omega
   ·rw[length_splice _ _ _ (by rw[hyl,hrl];omega),hdl,hrl];omega
  ·rw[List.toList_toArray]
   have:=acP row xs ys (i*7) (n*7) hxl (by omega) hrt (by rw[hyl,hrl];omega);rw[hyl]at this;rw[show (i+1)*7=i*7+7 by omega,show (n+1)*7=n*7+7 by omega];exact this
theorem aiT {l:List Lt}{i:Nat}{x:Lt}(hi:i<=l.length):av aa (jm l i [x])=jm (av aa l) (i*7) (aa x):=by
 have ht:av aa (l.take i)=(av aa l).take (i*7):=by rw[ve aJ,ank]
 have hd:av aa (l.drop i)=(av aa l).drop (i*7):=by
  have e:av aa l=av aa (l.take i)++av aa (l.drop i):=by
   conv=>lhs;rw[<-List.take_append_drop i l]
   unfold av;rw[List.flatMap_append]
  rw[e,List.drop_left' (by rw[sF aJ,amO];omega)]
 unfold jm;rw[<-ht, <-hd];unfold av;rw[List.flatMap_append,List.flatMap_append];simp
end
end Go.Proofs.YtbkhnggmcheelaaGreatDoor
