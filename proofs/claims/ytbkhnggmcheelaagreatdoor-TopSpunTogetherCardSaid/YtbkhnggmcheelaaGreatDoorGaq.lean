/- TopSpunTogether: Slices of picks. Conditions: bounded sizes; variables as laid. -/
import Derived.Test.YtbkhnggmcheelaaGreatDoorGap
set_option linter.unusedSimpArgs false
set_option linter.unusedVariables false
set_option maxHeartbeats 4000000
set_option maxRecDepth 100000
namespace Go.Proofs.YtbkhnggmcheelaaGreatDoor
open Proofs.Tryz
section
open Go.RowKit Go.Shelf Dec QQ SP
structure Pk where
 lot:BA
 q:BA
def dA (s:Pk):List Value:=[.string s.lot,.string s.q]
def pkV (s:Pk):Value:=.agg #[.string s.lot,.string s.q]
theorem ic (s:Pk):(dA s).length =2:=rfl
theorem als {A:Option Addr}{n c:Nat}{l:List Pk}{f:FuncId}{cap:Array Value}{p:Pk->Bool}{I:World->Prop}(hI:adP I)(hn:l.length=n)(hm:n<=4611686018427387904)(hcf:∀(args:Array Value) (u:World),(callFunc f args).run prog u= .ok (.enter f args) u)
 (KF:Hid (∀s∈l,iO I f (#[pkV s]++cap) (.bool (p s)))):
 iO (fun w=>Row w A (av dA l)/\I w) 126 #[.slice A n c,.func (.func f) #[] cap] (.int .i64 (ab7 p l)):=by
 intro w hg hi;have hs:=St.refl hg;have HN:=amy hn;have Hi:=amy hi;have HI:=amy hI;clear hn hi hI
 go_enter func126,ntmps126
 go_wp2_with fail
 go_loopw [8] (fun s wr=>∃k:Nat,k<=n/\s= .int .i64 (k:Int)/\St w wr/\Hid (Row wr A (av dA l)/\I wr)/\Hid (∀i,i<k->∀t,l[i]? =some t->p t=false)) (fun s _=>(n-intOf s).toNat)
 case atStart=>exact⟨0,by omega,rfl,hs,Hi,fun i h=>by omega⟩
 case round=>
  obtain⟨k,hk,rfl,hs,H,HP⟩:=hrel;by_cases hkn:k=n
  ·subst hkn
   have q:decide ((k:Int)<(k:Int))=false:=am1 (by omega);have HE:=amy (zz (p:=p) (l:=l) (fun i hi t ht=>HP.o i (by rw[HN.o]at hi;exact hi) t ht));clear HP
   go_wp2_with fail
   go_ret
   exact⟨by rw[HE.o];rfl,hs.2⟩
  ·have hkl:k<n:=by omega
   have q:decide ((k:Int)<(n:Int))=true:=am2 (by omega);have qn:decide (k<n)=true:=am2 hkl;obtain⟨d,hd⟩:∃d,l[k]? =some d:=⟨l[k]'(by rw[HN.o];exact hkl),by simp⟩;obtain⟨b,o,hA,hb,hcells⟩:=dV (cs:=dA) (m:=2) ic (by decide) H.o.1 hd;subst hA;have KK:=KF.o d (amI hd);have HD:=amy hd;clear hd hkn;obtain⟨pv,hpv⟩:=eX (p d);rw[hpv]at KK;have HPV:=amy hpv;clear hpv;obtain⟨f0,f1⟩:=d;have x0:wr.cell? ⟨b,o+k*2,none⟩=some (.string f0):=hcells 0 _ rfl;have x1:wr.cell? ⟨b,o+k*2+1,none⟩=some (.string f1):=hcells 1 _ rfl;have HC:=amy hcells;clear hcells;dsimp only[pkV]at KK;cases pv with
   |true=>
    have HE:=amy (afJ HD.o HPV.o HP.o)
    go_wp2_with fail
    refine KK.step hs H.o.2 ?_;intro w2 hs hb
    go_wp2_with fail
    go_ret
    exact⟨by rw[HE.o];rfl,hs.2⟩
   |false=>
    go_wp2_with fail
    refine KK.step hs H.o.2 ?_;intro w2 hs hb;have H2:Hid (Row w2 (some ⟨b,o,none⟩) (av dA l)/\I w2):=⟨H.o.1.on hb,HI.o _ _ H.o.2 hb⟩
    go_wp2_with fail
    go_roundw
    case rel=>
     refine⟨k+1,by omega,by go_num,hs,H2,?_⟩;intro i hi t ht;by_cases e:i=k
     ·subst e
      rw[HD.o]at ht;cases ht;exact HPV.o
     ·exact HP.o i (by omega) t ht
    case measure=>simp[intOf];omega
theorem adz {A:Option Addr}{n c:Nat}{l:List Pk}{f:FuncId}{cap:Array Value}{p:Pk->Bool}{I:World->Prop}(hI:adP I)(hn:l.length=n)(hm:n<=4611686018427387904)(hcf:∀(args:Array Value) (u:World),(callFunc f args).run prog u= .ok (.enter f args) u)
 (KF:Hid (∀s∈l,iO I f (#[pkV s]++cap) (.bool (p s)))):
 iO (fun w=>Row w A (av dA l)/\I w) 122 #[.slice A n c,.func (.func f) #[] cap] (.bool (l.any p)):=by
 intro w hg hi;have hs:=St.refl hg;have K:=als (A:=A) (c:=c) hI hn hm hcf KF;have e:=ab6 p l;generalize ab7 p l=r at*
 generalize l.any p=v at*
 have Hi:=amy hi;clear hn hi hI
 go_enter func122,ntmps122
 go_wp2_with fail
 refine K.step hs Hi.o ?_;intro w1 hs _
 go_wp2_with fail
 go_ret
 exact⟨rfl,hs.2⟩
end
section
open Go.RowKit Go.Shelf Dec QQ SP
attribute [local go_sem] Oper.semAt_some
attribute [-go_sem] loadVar
attribute [local go_sem] afr
theorem sZ (P Q:Bool)(w:World):Calls prog 110 #[.bool P,.bool Q] w fun e w'=>e= .returned (.func (.func 171) #[] #[.pointer (some ⟨w.heap.size,0,none⟩),.pointer (some ⟨w.heap.size+1,0,none⟩)])/\acB w' w.heap.size (w.heap.size+1) P Q/\Below w.heap.size w w':=by
 have X:Bx ((w.alloc (.cells #[.bool P] 4)).alloc (.cells #[.bool Q] 4)) w.heap.size #[.bool P]:=((TBx.new w #[.bool P] 4).alloc (.cells #[.bool Q] 4)).bx;have Y:Bx ((w.alloc (.cells #[.bool P] 4)).alloc (.cells #[.bool Q] 4)) (w.heap.size+1) #[.bool Q]:=by
  have:=(TBx.new (w.alloc (.cells #[.bool P] 4)) #[.bool Q] 4).bx;rwa[amD]at this
 have HB:Hid (Below w.heap.size w ((w.alloc (.cells #[.bool P] 4)).alloc (.cells #[.bool Q] 4))):=anp.alloc (by simp) _;have HL:Hid (acB ((w.alloc (.cells #[.bool P] 4)).alloc (.cells #[.bool Q] 4)) w.heap.size (w.heap.size+1) P Q):=⟨X,Y⟩;clear X Y
 go_enter func110,ntmps110
 go_wp2_with fail
 go_ret
 exact⟨rfl,HL.o,HB.o⟩
theorem aeS (s:Pk){b:Nat}{t:Pk}:iO (fun w=>Bx w b #[.string t.lot,.string t.q]) 175 (#[pkV s]++ #[.pointer (some ⟨b,0,none⟩)]) (.bool (eqB s.lot t.lot)):=by
 intro w hg hi;have hs:=(St.refl hg).alloc (.cells #[.string s.lot,.string s.q] 125);have X:=Bx.new w #[.string s.lot,.string s.q] 125;have Y:=hi.on (bal w (.cells #[.string s.lot,.string s.q] 125));have x0:=X.c 0 (.string s.lot) rfl;have y0:=Y.c 0 (.string t.lot) rfl;clear X Y hi hg;unfold eqB pkV
 go_enter func175,ntmps175
 go_wp2_with fail
 go_ret
 exact⟨rfl,hs.2⟩
def pkE (fq:BA)(prev:List Pk)(sum:Int):List Pk->Int
 | []=>bif decide (0<dW sum (ah fq))then 15 else 0
 |p::l=>bif !(adT p.lot)then 23 else bif prev.any (fun s=>eqB s.lot p.lot)then 5 else bif pR true false p.q ⟨#[]⟩ !=0 then pR true false p.q ⟨#[]⟩else pkE fq (prev++ [p]) (sum+ah p.q) l
def yQ (fq:BA)(l:List Pk):Int:=bif decide (64<l.length)then 4 else pkE fq [] 0 l
def pkS (l:List Pk)(k:Nat):Int:=((l.take k).map fun p=>ah p.q).sum
theorem abL {l:List Pk}{k:Nat}{p:Pk}(h:l[k]? =some p):pkS l (k+1)=pkS l k+ah p.q:=by
 unfold pkS;rw[ani,h];simp
theorem akM {l:List Pk}(h:∀p∈l,p.q.size<=100)(hl:l.length<=1000)(k:Nat):Fit 103 (pkS l k):=by
 unfold pkS;have:((l.take k).map fun p=>ah p.q)=iv ((l.take k).map (·.q)):=by unfold iv;rw[List.map_map];rfl
 rw[this];refine iH (jM (k:=100) fun s hs=>?_) (by rw[aQ,am6,amO];omega);obtain⟨p,hp,rfl⟩:=amN.1 hs;exact h p (am7 hp)
theorem ahU {w:World}{A:Option Addr}{l:List Pk}{k:Nat}(h:Row w A (av dA l)):Row w A (av dA (l.take k)):=by
 intro j v hv;rw[ve ic]at hv;rw[amZ]at hv;split at hv
 ·exact h j v hv
 ·cases hv
theorem aeR (f:Fct)(hf:f.le){l:List Pk}(hn:l.length=f.np)(hm:f.np<=100)(hcp:f.np<=f.cp)(hz:∀p∈l,p.lot.size<=100/\p.q.size<=100):
 iO (fun w=>Row w f.P (av dA l)) 116 #[gI f] (.int .i64 (yQ f.q l)):=by
 intro w hg hi;have hs:=(St.refl hg).alloc (.cells (bK f) 30);have HX:=amy (TBx.new w (bK f) 30);have HR:=amy (hi.on (bal w (.cells (bK f) 30)));have HN:=amy hn;have HZ:=amy hz;have HF:=amy (akM (l:=l) (fun p hp=>(hz p hp).2) (by omega));have hfq:=hf.q;have HFQ:=amy hf.q;have HE:Hid (yQ f.q l=bif decide (64<f.np)then 4 else pkE f.q (l.take 0) (pkS l 0) (l.drop 0)):=by show _=_;rw[<-hn];rfl
 generalize yQ f.q l=oe at*
 obtain⟨f0,hf0⟩:∃f0,f0=f:=⟨_,rfl⟩;have HF0:=amy hf0;obtain⟨A,hA⟩:=eX (f.P);obtain⟨n,hnp⟩:=eX (f.np);obtain⟨c,hc⟩:=eX (f.cp);obtain⟨fq,hq⟩:=eX (f.q);have x18:=HX.o.bx.c 18 (.slice f.P f.np f.cp) rfl;rw[hA,hnp,hc]at x18;rw[hA]at HR;rw[hnp]at HN HE hm hcp;rw[hc]at hcp;rw[hq]at HE HFQ;have HA:=amy (And.intro hA (And.intro hnp (And.intro hc hq)));clear hi hn hz hg hf0 hA hnp hc hq hf hfq;dsimp only[gI]at*
 go_enter func116,ntmps116
 by_cases h64:64<n
 ·have q:decide ((64:Int)<(n:Int))=true:=am2 (by omega)
  have hoe:oe=4:=by rw[HE.o,am2 h64];rfl
  subst hoe;clear HE
  go_wp2_with fail
  go_ret
  exact⟨rfl,hs.2⟩
 have q:decide ((64:Int)<(n:Int))=false:=am1 (by omega);have HE2:Hid (oe=pkE fq (l.take 0) (pkS l 0) (l.drop 0)):=by show _=_;rw[HE.o,am1 h64];rfl
 have HS0:Hid (ae (pkS l 0)=⟨#[]⟩):=by unfold pkS;exact sU
 clear HE
 go_wp2_with fail
 clear q x18
 go_loopw [14,3] (fun s t wr=>∃k:Nat,k<=n/\s= .int .i64 (k:Int)/\t= .string (ae (pkS l k))/\St w wr/\Hid (TBx wr w.heap.size (bK f) 30)/\Hid (Row wr A (av dA l))/\Hid (oe=pkE fq (l.take k) (pkS l k) (l.drop k))) (fun s _ _=>(n-intOf s).toNat)
 case atStart=>exact⟨0,by omega,rfl,by rw[HS0.o],hs,HX,HR,HE2⟩
 case round=>
  clear HX HR HE2 HS0;obtain⟨k,hk,rfl,rfl,hs,HX,HR,HE⟩:=hrel;by_cases hkn:k=n
  ·subst hkn
   have q:decide ((k:Int)<(k:Int))=false:=am1 (by omega);have hdrop:l.drop k=[]:=List.drop_eq_nil_of_le (by rw[HN.o];omega);have x9:=HX.o.bx.c 9 (.string f.q) rfl;rw[HA.o.2.2.2]at x9;have K:=aab (Vs.can (HF.o k) (by omega)) (Vs.arg (s:=fq) (by have:=HFQ.o;omega));have hoe:oe=bif decide (0<dW (pkS l k) (ah fq))then 15 else 0:=by rw[HE.o,hdrop];rfl
   generalize dW (pkS l k) (ah fq)=cm at*
   generalize ae (pkS l k)=ss at*
   clear hdrop HE
   go_wp2_with fail
   refine K.step hs ?_;intro w1 hs hb;clear x9;by_cases hcm:0<cm
   ·have q1:decide (0<cm)=true:=am2 hcm
    rw[q1]at hoe;replace hoe:oe=15:=hoe;subst hoe
    go_wp2_with fail
    go_ret
    exact⟨rfl,hs.2⟩
   ·have q1:decide (0<cm)=false:=am1 hcm
    rw[q1]at hoe;replace hoe:oe=0:=hoe;subst hoe
    go_wp2_with fail
    go_ret
    exact⟨rfl,hs.2⟩
  ·have hkl:k<n:=by omega
   have q:decide ((k:Int)<(n:Int))=true:=am2 (by omega);have qn:decide (k<n)=true:=am2 hkl;obtain⟨p,hp⟩:∃d,l[k]? =some d:=⟨l[k]'(by rw[HN.o];exact hkl),by simp⟩;obtain⟨b,o,hAb,hb,hcells⟩:=dV (cs:=dA) (m:=2) ic (by decide) HR.o hp;subst hAb;have y0:wr.cell? ⟨b,o+k*2,none⟩=some (.string p.lot):=hcells 0 _ rfl;have y1:wr.cell? ⟨b,o+k*2+1,none⟩=some (.string p.q):=hcells 1 _ rfl;have hpz:=HZ.o p (amI hp);have hE1:oe=bif !(adT p.lot)then 23 else bif (l.take k).any (fun s=>eqB s.lot p.lot)then 5 else bif pR true false p.q ⟨#[]⟩ !=0 then pR true false p.q ⟨#[]⟩else pkE fq (l.take k++ [p]) (pkS l k+ah p.q) (l.drop (k+1)):=by
    rw[HE.o,sJ hp];rfl
   have hE2:pkE fq (l.take k++ [p]) (pkS l k+ah p.q) (l.drop (k+1))=pkE fq (l.take (k+1)) (pkS l (k+1)) (l.drop (k+1)):=by
    rw[abL hp,ani,hp];rfl
   rw[hE2]at hE1;have HE1:=amy hE1;have K1:=afE (s:=p.lot) (by omega);have K2:=fun b1 b2=>jY (a:=p.q) (b:=⟨#[]⟩) (b1:=b1) (b2:=b2) (P:=true) (Q:=false) (by omega) (by decide)
   have K3:=abq (Vs.can (HF.o k) (by omega)) (Vs.arg (s:=p.q) (by omega));rw[<-abL hp]at K3;have HC:=amy (adz (A:=some ⟨b,o,none⟩) (n:=k) (c:=c) (l:=l.take k) (f:=175) (cap:= #[.pointer (some ⟨wr.heap.size,0,none⟩)]) (p:=fun s=>eqB s.lot p.lot) (I:=fun u=>Bx u wr.heap.size #[.string p.lot,.string p.q]) (fun _ _ h hb=>h.on hb) (by rw[amO,HN.o];omega) (by omega) (fun _ _=>rfl) (fun s _=>aeS s));have hba:Below wr.heap.size wr (wr.alloc (.cells #[.string p.lot,.string p.q] 125)):=bal _ _;have HY:=amy (TBx.new wr #[.string p.lot,.string p.q] 125);replace HX:=amy (HX.o.on hba);replace HR:=amy (HR.o.on hba);have hs1:=hs.on hba;generalize hcn:pR true false p.q ⟨#[]⟩=le at*
   generalize ((l.take k).any fun s=>eqB s.lot p.lot)=bc at*
   generalize adT p.lot=bi at*
   generalize hss:ae (pkS l k)=ss at*
   generalize hss1:ae (pkS l (k+1))=ss1 at*
   have HSS1:=amy hss1;clear hcells hp hkn hpz hE1 hE2 HE hba hcn hss hss1;obtain⟨plot,pq⟩:=p;dsimp only at*
   have z0:=HY.o.bx.c 0 (.string plot) rfl
   go_wp2_with fail
   refine K1.step hs1 ?_;intro w1 hs2 hb1;replace HX:=amy (HX.o.on hb1);replace HR:=amy (HR.o.on hb1);replace HY:=amy (HY.o.on hb1);clear z0 y0 y1 K1 hb1;cases bi with
   |false=>
    have hoe:oe=23:=HE1.o;subst hoe;clear HE1
    go_wp2_with fail
    go_ret
    exact⟨rfl,hs2.2⟩
   |true=>
    have HE3:Hid (oe=bif bc then 5 else bif le !=0 then le else pkE fq (l.take (k+1)) (pkS l (k+1)) (l.drop (k+1))):=HE1.o;clear HE1;have x18:=HX.o.bx.c 18 (.slice f.P f.np f.cp) rfl;rw[HA.o.1,HA.o.2.1,HA.o.2.2.1]at x18;have qk1:k<=c:=by omega
    have qk2:(k:Int)<=(c:Int):=by omega
    go_wp2_with fail
    refine(HC.o).step hs2 ⟨ahU HR.o,HY.o.bx⟩ ?_;intro w2 hs3 hb2;replace HX:=amy (HX.o.on hb2);replace HR:=amy (HR.o.on hb2);replace HY:=amy (HY.o.on hb2);clear x18 qk1 qk2 hb2 HC;cases bc with
    |true=>
     have hoe:oe=5:=HE3.o;subst hoe;clear HE3
     go_wp2_with fail
     go_ret
     exact⟨rfl,hs3.2⟩
    |false=>
     have HE4:Hid (oe=bif le !=0 then le else pkE fq (l.take (k+1)) (pkS l (k+1)) (l.drop (k+1))):=HE3.o;clear HE3
     go_upto_region 11 with (fail)
     have hgl:Hid (∀v,Below w2.heap.size w2 v->Gl v):=fun v hv=>hs3.gl.below hv
     have BL0:Hid (Below w2.heap.size w2 w2.drew):=(am3 _ _).drew;have hSOK:Hid (∀v,Below w2.heap.size w2 v->v.cell? ⟨wr.heap.size,1,none⟩=some (.string pq)):=fun v hv=>(HY.o.on hv).bx.cell (i:=1) rfl
     have HK2:=amy K2;clear K2
     go_region_held3 (fun v=>v.cell? ⟨wr.heap.size,1,none⟩=some (.string pq))
      (first|with_reducible exact hSOK.o _ BL5.o|with_reducible exact hSOK.o _ BL4.o|with_reducible exact hSOK.o _ BL3.o|with_reducible exact hSOK.o _ BL0.o)
      (first
       |(go_at_call 110;refine(sZ true false w2.drew).mono ?_;rintro e w3 ⟨rfl,hl3,hb3⟩;have BL3:Hid (Below w2.heap.size w2 w3):=BL0.o.trans (hb3.mono BL0.o.size);have HL3:=amy hl3;clear hl3 hb3)
       |(go_at_call 176;refine(kI pq w3 (hgl.o _ BL3.o)).mono ?_;rintro e w4 ⟨rfl,hb4⟩;have BL4:Hid (Below w2.heap.size w2 w4):=BL3.o.trans (hb4.mono BL3.o.size);have HL4:=amy (HL3.o.on hb4);clear hb4)
       |(go_at_call 171;refine(HK2.o _ _ w4 (hgl.o _ BL4.o) HL4.o).mono ?_;rintro e w5 ⟨rfl,hb5⟩;have BL5:Hid (Below w2.heap.size w2 w5):=BL4.o.trans (hb5.mono BL4.o.size);clear hb5))
     have hs5:St w w5:=hs3.on BL5.o;replace HX:=amy (HX.o.on BL5.o);replace HR:=amy (HR.o.on BL5.o);replace HY:=amy (HY.o.on BL5.o);clear hgl BL0 BL3 BL4 BL5 HL3 HL4 HK2 hSOK;by_cases hle:le=0
     case neg=>
      have q1:(le !=0)=true:=by simpa using hle
      have q2:(le==0)=false:=by simpa using hle
      have hoe:oe=le:=by rw[HE4.o,q1];rfl
      subst hoe;clear HE4
      go_wp2_with fail
      go_ret
      exact⟨rfl,hs5.2⟩
     subst hle;have HE5:Hid (oe=pkE fq (l.take (k+1)) (pkS l (k+1)) (l.drop (k+1))):=HE4.o;clear HE4;have z1:=HY.o.bx.c 1 (.string pq) rfl
     go_wp2_with fail
     refine K3.step hs5 ?_;intro w6 hs6 hb6;replace HX:=amy (HX.o.on hb6);replace HR:=amy (HR.o.on hb6);clear z1 K3 HY hb6
     go_wp2_with fail
     go_roundw
     case rel=>exact⟨k+1,by omega,by go_num,by rw[HSS1.o],hs6,HX,HR,HE5⟩
     case measure=>simp[intOf];omega
end
section
open Go.RowKit Go.Shelf Dec QQ SP
attribute [local go_sem] Oper.semAt_some
attribute [-go_sem] loadVar
attribute [local go_sem] afr
structure Ot where
 oth:BA
 rn:BA
 rd:BA
 pn:BA
 pd:BA
 vn:BA
 vd:BA
def eD (t:Ot):List Value:=[.string t.oth,.string t.rn,.string t.rd,.string t.pn,.string t.pd,.string t.vn,.string t.vd]
theorem jo (t:Ot):(eD t).length =7:=rfl
structure Ot.le (t:Ot):Prop where
 oth:t.oth.size<=100
 rn:t.rn.size<=100
 rd:t.rd.size<=100
 pn:t.pn.size<=100
 pd:t.pd.size<=100
 vn:t.vn.size<=100
 vd:t.vd.size<=100
def lmE (t:Ot)(j:Nat):Int:=
 match j with
 |0=>pR false false t.rn t.rd
 |1=>pR false false t.pn t.pd
 |_=>pR false false t.vn t.vd
def otT (t:Ot):Bool:=((!t.oth.toList.isEmpty) != !(t.rn.toList.isEmpty&&t.rd.toList.isEmpty))||(t.oth.toList.isEmpty&& !(t.vn.toList.isEmpty&&t.vd.toList.isEmpty))
def otE (ins:BA)(t:Ot):Int:=bif (!t.oth.toList.isEmpty)&& !(aG t.oth)then 23 else bif eqB t.oth ins then 18 else bif lmE t 0 !=0 then lmE t 0 else bif lmE t 1 !=0 then lmE t 1 else bif lmE t 2 !=0 then lmE t 2 else bif otT t then 2 else 0
def ajT (ins:BA):List Ot->Int
 | []=>0
 |t::l=>bif otE ins t !=0 then otE ins t else ajT ins l
def mQ (ins:BA)(l:List Ot):Int:=bif decide (l.length=0)then 11 else bif decide (8<l.length)then 4 else ajT ins l
theorem ot_lim {ins:BA}{t:Ot}{j:Nat}(h1:((!t.oth.toList.isEmpty)&& !(aG t.oth))=false)(h2:eqB t.oth ins=false)(hj:j<3)(hb:∀i,i<j->lmE t i=0)(h:lmE t j≠0):otE ins t=lmE t j:=by
 have hq:(lmE t j !=0)=true:=by simpa using h
 unfold otE;rw[h1,h2];simp only[cond_false];rcases(by omega:j=0\/j=1\/j=2)with rfl|rfl|rfl
 ·rw[hq];rfl
 ·rw[hb 0 (by omega),hq];rfl
 ·rw[hb 0 (by omega),hb 1 (by omega),hq];rfl
theorem ot_end {ins:BA}{t:Ot}(h1:((!t.oth.toList.isEmpty)&& !(aG t.oth))=false)(h2:eqB t.oth ins=false)(hb:∀i,i<3->lmE t i=0):otE ins t=bif otT t then 2 else 0:=by
 unfold otE;rw[h1,h2,hb 0 (by omega),hb 1 (by omega),hb 2 (by omega)];rfl
theorem aaC (f:Fct)(hf:f.le){l:List Ot}(hn:l.length=f.no)(hm:f.no<=100)(hz:∀t∈l,t.le):
 iO (fun w=>Row w f.O (av eD l)) 117 #[gI f] (.int .i64 (mQ f.ins l)):=by
 intro w hg hi;have hs:=(St.refl hg).alloc (.cells (bK f) 30);have HX:=amy (TBx.new w (bK f) 30);have HR:=amy (hi.on (bal w (.cells (bK f) 30)));have HN:=amy hn;have HZ:=amy hz;have HE:Hid (mQ f.ins l=bif decide (f.no=0)then 11 else bif decide (8<f.no)then 4 else ajT f.ins (l.drop 0)):=by show _=_;rw[<-hn];rfl
 generalize mQ f.ins l=oe at*
 obtain⟨A,hA⟩:=eX (f.O);obtain⟨n,hnp⟩:=eX (f.no);obtain⟨c,hc⟩:=eX (f.co);obtain⟨ins,hq⟩:=eX (f.ins);have x19:=HX.o.bx.c 19 (.slice f.O f.no f.co) rfl;rw[hA,hnp,hc]at x19;rw[hA]at HR;rw[hnp]at HN HE hm;rw[hq]at HE;have HA:=amy (And.intro hA (And.intro hnp (And.intro hc hq)));clear hi hn hz hg hA hnp hc hq hf;dsimp only[gI]at*
 go_enter func117,ntmps117
 by_cases h0:n=0
 ·have q:((n:Int)==0)=true:=by simpa using(by omega:(n:Int)=0)
  have q2:(n:Int)=0:=by omega
  have hoe:oe=11:=by rw[HE.o,am2 h0];rfl
  subst hoe;clear HE
  go_wp2_with fail
  go_ret
  exact⟨rfl,hs.2⟩
 have q0:((n:Int)==0)=false:=by simpa using(by omega:¬(n:Int)=0)
 have q02:¬(n:Int)=0:=by omega
 by_cases h8:8<n
 ·have q:decide ((8:Int)<(n:Int))=true:=am2 (by omega)
  have hoe:oe=4:=by rw[HE.o,am1 h0,am2 h8];rfl
  subst hoe;clear HE
  go_wp2_with fail
  go_ret
  exact⟨rfl,hs.2⟩
 have q:decide ((8:Int)<(n:Int))=false:=am1 (by omega);have HE2:Hid (oe=ajT ins (l.drop 0)):=by show _=_;rw[HE.o,am1 h0,am1 h8];rfl
 clear HE
 go_wp2_with fail
 clear q x19 q0 q02
 go_loopw [19] (fun s wr=>∃k:Nat,k<=n/\s= .int .i64 (k:Int)/\St w wr/\Hid (TBx wr w.heap.size (bK f) 30)/\Hid (Row wr A (av eD l))/\Hid (oe=ajT ins (l.drop k))) (fun s _=>(n-intOf s).toNat)
 case atStart=>exact⟨0,by omega,rfl,hs,HX,HR,HE2⟩
 case round=>
  clear HX HR HE2;obtain⟨k,hk,rfl,hs,HX,HR,HE⟩:=hrel;by_cases hkn:k=n
  ·subst hkn
   have q:decide ((k:Int)<(k:Int))=false:=am1 (by omega);have hdrop:l.drop k=[]:=List.drop_eq_nil_of_le (by rw[HN.o];omega);have hoe:oe=0:=by rw[HE.o,hdrop];rfl
   subst hoe;clear hdrop HE
   go_wp2_with fail
   go_ret
   exact⟨rfl,hs.2⟩
  ·have hkl:k<n:=by omega
   have q:decide ((k:Int)<(n:Int))=true:=am2 (by omega);have qn:decide (k<n)=true:=am2 hkl;obtain⟨t,ht⟩:∃d,l[k]? =some d:=⟨l[k]'(by rw[HN.o];exact hkl),by simp⟩;obtain⟨b,o,hAb,hb,hcells⟩:=dV (cs:=eD) (m:=7) jo (by decide) HR.o ht;subst hAb;have y0:wr.cell? ⟨b,o+k*7,none⟩=some (.string t.oth):=hcells 0 _ rfl;have y1:wr.cell? ⟨b,o+k*7+1,none⟩=some (.string t.rn):=hcells 1 _ rfl;have y2:wr.cell? ⟨b,o+k*7+2,none⟩=some (.string t.rd):=hcells 2 _ rfl;have y3:wr.cell? ⟨b,o+k*7+3,none⟩=some (.string t.pn):=hcells 3 _ rfl;have y4:wr.cell? ⟨b,o+k*7+4,none⟩=some (.string t.pd):=hcells 4 _ rfl;have y5:wr.cell? ⟨b,o+k*7+5,none⟩=some (.string t.vn):=hcells 5 _ rfl;have y6:wr.cell? ⟨b,o+k*7+6,none⟩=some (.string t.vd):=hcells 6 _ rfl;have htz:=amy (HZ.o t (amI ht));have HE1:Hid (oe=bif otE ins t !=0 then otE ins t else ajT ins (l.drop (k+1))):=by show _=_;rw[HE.o,sJ ht];rfl
   have hba:Below wr.heap.size wr (wr.alloc (.cells #[.string t.oth,.string t.rn,.string t.rd,.string t.pn,.string t.pd,.string t.vn,.string t.vd] 47)):=bal _ _;have HY:=amy (TBx.new wr #[.string t.oth,.string t.rn,.string t.rd,.string t.pn,.string t.pd,.string t.vn,.string t.vd] 47);have hX0:=HX.o;replace HX:=amy (HX.o.on hba);replace HR:=amy (HR.o.on hba);have hs1:=hs.on hba;have z0:=HY.o.bx.c 0 (.string t.oth) rfl;have KN:=NmR (s:=t.oth) (by have:=htz.o.oth;omega);have HN1:Hid ((!t.oth.toList.isEmpty&& !aG t.oth)=(!t.oth.toList.isEmpty&& !aG t.oth)):=rfl;clear hcells ht hkn HE hba hX0;obtain⟨bn,hbn⟩:=eX (aG t.oth);rw[hbn]at KN;have HBN:=amy hbn;clear hbn HN1;obtain⟨WA,hWA⟩:=eX (wr.alloc (.cells #[.string t.oth,.string t.rn,.string t.rd,.string t.pn,.string t.pd,.string t.vn,.string t.vd] 47));have HWA:=amy hWA;have hsz:wr.heap.size<WA.heap.size:=by rw[<-hWA];simp
   rw[hWA]at HX HR HY hs1 z0;clear hWA
   go_upto_region 8 with (fail)
   rw[HWA.o];clear y0 y1 y2 y3 y4 y5 y6
   go_cut [31] (fun s31 wx=>s31= .bool (!t.oth.toList.isEmpty&& !bn)/\Hid (Below WA.heap.size WA wx))
   case first=>
    cases he:t.oth.toList.isEmpty with
    |true=>
     have qe:(t.oth.toList== [])=true:=by simpa using he
     have qe2:t.oth.toList=[]:=by simpa using he
     go_wp2_with fail
     go_meet
     exact⟨by rw[he];rfl,am3 _ _⟩
    |false=>
     go_wp2_with fail
     refine KN.step hs1 ?_;intro w1 hs2 hb1
     go_wp2_with fail
     go_meet
     exact⟨by rw[he];rfl,hb1⟩
   case rest=>
    obtain⟨rfl,HBc⟩:=hcut;have hs2:=hs1.on HBc.o;replace HX:=amy (HX.o.on HBc.o);replace HR:=amy (HR.o.on HBc.o);replace HY:=amy (HY.o.on HBc.o);have hszc:wr.heap.size<wc.heap.size:=amS hsz HBc.o.size;clear KN z0 HBc;have HNB:Hid ((!t.oth.toList.isEmpty&& !aG t.oth)=(!t.oth.toList.isEmpty&& !bn)):=by show _=_;rw[HBN.o]
    generalize (!t.oth.toList.isEmpty&& !bn)=bb at*
    cases bb with
    |true=>
     have hoe:oe=23:=by
      rw[HE1.o];unfold otE;rw[HNB.o];rfl
     subst hoe;clear HE1
     go_wp2_with fail
     go_ret
     exact⟨rfl,hs2.2⟩
    |false=>
     have z0:=HY.o.bx.c 0 (.string t.oth) rfl;have x5:=HX.o.bx.c 5 (.string f.ins) rfl;rw[HA.o.2.2.2]at x5;obtain⟨bq,hbq⟩:=eX ((t.oth.toList==ins.toList));have HBQ:Hid (eqB t.oth ins=bq):=hbq;cases bq with
     |true=>
      have hoe:oe=18:=by
       rw[HE1.o];unfold otE;rw[HNB.o,HBQ.o];rfl
      subst hoe;clear HE1
      go_wp2_with fail
      go_ret
      exact⟨rfl,hs2.2⟩
     |false=>
      have z1:=HY.o.bx.c 1 (.string t.rn) rfl;have z2:=HY.o.bx.c 2 (.string t.rd) rfl;have z3:=HY.o.bx.c 3 (.string t.pn) rfl;have z4:=HY.o.bx.c 4 (.string t.pd) rfl;have z5:=HY.o.bx.c 5 (.string t.vn) rfl;have z6:=HY.o.bx.c 6 (.string t.vd) rfl
      go_wp2_with fail
      have hbc:Below wc.heap.size wc (wc.alloc (.cells #[.string t.rn,.string t.rd,.string t.pn,.string t.pd,.string t.vn,.string t.vd] 26)):=bal _ _;have HW:=amy (TBx.new wc #[.string t.rn,.string t.rd,.string t.pn,.string t.pd,.string t.vn,.string t.vd] 26);replace HX:=amy (HX.o.on hbc);replace HR:=amy (HR.o.on hbc);replace HY:=amy (HY.o.on hbc);have hs3:=hs2.on hbc;obtain⟨bt,hbt⟩:=eX (wr.heap.size);obtain⟨bc,hbcc⟩:=eX (wc.heap.size);rw[hbt]at HY hszc⊢
      rw[hbcc]at HW hszc⊢
      clear hbt hbcc hbc z0 z1 z2 z3 z4 z5 z6 x5 hsz HWA hb
      go_loopw [45] (fun s wr=>∃j:Nat,j<=3/\s= .int .i64 (j:Int)/\St w wr/\Hid (TBx wr w.heap.size (bK f) 30)/\Hid (Row wr (some ⟨b,o,none⟩) (av eD l))/\Hid (TBx wr bt #[.string t.oth,.string t.rn,.string t.rd,.string t.pn,.string t.pd,.string t.vn,.string t.vd] 47)/\Hid (TBx wr bc #[.string t.rn,.string t.rd,.string t.pn,.string t.pd,.string t.vn,.string t.vd] 26)/\Hid (∀i,i<j->lmE t i=0)) (fun s _=>(3-intOf s).toNat)
      case atStart=>exact⟨0,by omega,rfl,hs3,HX,HR,HY,HW,fun i h=>by omega⟩
      case round=>
       clear HX HR HY HW;obtain⟨j,hj,rfl,hs4,HX,HR,HY,HW,HL⟩:=hrel;by_cases hj3:j=3
       ·subst hj3
        have q3:decide (((3:Nat):Int)<3)=false:=by decide
        have hoe2:Hid (oe=bif (bif otT t then 2 else 0:Int) !=0 then(bif otT t then 2 else 0)else ajT ins (l.drop (k+1))):=by
         show _=_;rw[HE1.o,ot_end HNB.o HBQ.o HL.o]
        clear HE1
        go_wp2_with fail
        have N1:=fun u=>neqF t.rn t.rd ⟨#[]⟩ ⟨#[]⟩ u
        have N2:=fun u=>neqF t.vn t.vd ⟨#[]⟩ ⟨#[]⟩ u
        rw[show (⟨#[]⟩:BA).toList =[]from by rw[aF];rfl]at N1 N2;have k0:=HY.o.bx.k 0 (.string t.oth) rfl;have k1:=HY.o.bx.k 1 (.string t.rn) rfl;have k2:=HY.o.bx.k 2 (.string t.rd) rfl;have k5:=HY.o.bx.k 5 (.string t.vn) rfl;have k6:=HY.o.bx.k 6 (.string t.vd) rfl;have e1:((t.rn.toList== [])&&(t.rd.toList== []))=(t.rn.toList.isEmpty&&t.rd.toList.isEmpty):=by simp
        have e2:((t.vn.toList== [])&&(t.vd.toList== []))=(t.vn.toList.isEmpty&&t.vd.toList.isEmpty):=by simp
        have e0:(t.oth.toList== [])=t.oth.toList.isEmpty:=by simp
        have hoT:otT t=(((!t.oth.toList.isEmpty) != !(t.rn.toList.isEmpty&&t.rd.toList.isEmpty))||(t.oth.toList.isEmpty&& !(t.vn.toList.isEmpty&&t.vd.toList.isEmpty))):=rfl;rw[e1]at N1;rw[e2]at N2;generalize (t.rn.toList.isEmpty&&t.rd.toList.isEmpty)=rz at*
        generalize (t.vn.toList.isEmpty&&t.vd.toList.isEmpty)=vz at*
        obtain⟨oz,hoz⟩:=eX (t.oth.toList.isEmpty);rw[hoz]at hoT e0;have HOT:=amy hoT;clear e1 e2 hoT;cases oz<;>cases rz<;>cases vz
        all_goals
         refine ax (by kernel_rfl) (by kernel_rfl) ?_
         repeat (go_big_quiet_step (fail))
         refine wpQuiet_nil ?_;rintro _ ⟨u1,rfl⟩;have hs7:=hs4.kept u1;have HX7:=amy (HX.o.on u1.low);have HR7:=amy (HR.o.on u1.low);clear k0 k1 k2 k5 k6 N1 N2
         first
          |(have hoe:oe=2:=by rw[hoe2.o,HOT.o];rfl
            subst hoe;clear hoe2 HOT
            go_wp2_with fail
            go_ret
            exact⟨rfl,hs7.2⟩)
          |(have HE9:Hid (oe=ajT ins (l.drop (k+1))):=by show _=_;rw[hoe2.o,HOT.o];rfl
            clear hoe2 HOT
            go_wp2_with fail
            go_roundw
            case rel=>exact⟨k+1,by omega,by go_num,hs7,HX7,HR7,HE9⟩
            case measure=>simp[intOf];omega)
       ·have hj2:j<3:=by omega
        have q3:decide ((j:Int)<3)=true:=am2 (by omega);have q4:decide (j<3)=true:=am2 hj2;obtain⟨a1,b1,hc1,hc2,hl1,z1,z2⟩:∃a1 b1:BA,wr.cell? ⟨bc,j*2,none⟩=some (.string a1)/\wr.cell? ⟨bc,j*2+1,none⟩=some (.string b1)/\lmE t j=pR false false a1 b1/\a1.size<=1000/\b1.size<=1000:=by
         rcases(by omega:j=0\/j=1\/j=2)with rfl|rfl|rfl
         ·exact⟨_,_,HW.o.bx.c 0 (.string t.rn) rfl,HW.o.bx.c 1 (.string t.rd) rfl,rfl,by have:=htz.o.rn;omega,by have:=htz.o.rd;omega⟩
         ·exact⟨_,_,HW.o.bx.c 2 (.string t.pn) rfl,HW.o.bx.c 3 (.string t.pd) rfl,rfl,by have:=htz.o.pn;omega,by have:=htz.o.pd;omega⟩
         ·exact⟨_,_,HW.o.bx.c 4 (.string t.vn) rfl,HW.o.bx.c 5 (.string t.vd) rfl,rfl,by have:=htz.o.vn;omega,by have:=htz.o.vd;omega⟩
        have HLM:=amy hl1;have K2:=amy (fun c1 c2=>jY (a:=a1) (b:=b1) (b1:=c1) (b2:=c2) (P:=false) (Q:=false) z1 z2);clear hl1 z1 z2;have hba:Below wr.heap.size wr (wr.alloc (.cells #[.string a1,.string b1] 26)):=bal _ _;have HV:=amy (TBx.new wr #[.string a1,.string b1] 26);replace HX:=amy (HX.o.on hba);replace HR:=amy (HR.o.on hba);replace HY:=amy (HY.o.on hba);replace HW:=amy (HW.o.on hba);have hs5:=hs4.on hba
        go_wp2_with fail
        clear hc1 hc2 hba;obtain⟨W2,hW2⟩:=eX (wr.alloc (.cells #[.string a1,.string b1] 26));rw[hW2]at HV HX HR HY HW hs5⊢
        clear hW2;have hgl:Hid (∀v,Below W2.heap.size W2 v->Gl v):=fun v hv=>hs5.gl.below hv
        have BL0:Hid (Below W2.heap.size W2 W2.drew):=(am3 _ _).drew;have hSOK:Hid (∀v,Below W2.heap.size W2 v->v.cell? ⟨wr.heap.size,0,none⟩=some (.string a1)/\v.cell? ⟨wr.heap.size,1,none⟩=some (.string b1)):=fun v hv=>⟨(HV.o.on hv).bx.cell (i:=0) rfl,(HV.o.on hv).bx.cell (i:=1) rfl⟩
        go_region_held3 (fun v=>v.cell? ⟨wr.heap.size,0,none⟩=some (.string a1)/\v.cell? ⟨wr.heap.size,1,none⟩=some (.string b1))
         (first|with_reducible exact hSOK.o _ BL5.o|with_reducible exact hSOK.o _ BL3.o|with_reducible exact hSOK.o _ BL0.o)
         (first
           |(go_at_call 110;refine(sZ false false W2.drew).mono ?_;rintro e w3 ⟨rfl,hl3,hb3⟩;have BL3:Hid (Below W2.heap.size W2 w3):=BL0.o.trans (hb3.mono BL0.o.size);have HL3:=amy hl3;clear hl3 hb3)
           |(go_at_call 171;refine(K2.o _ _ w3 (hgl.o _ BL3.o) HL3.o).mono ?_;rintro e w5 ⟨rfl,hb5⟩;have BL5:Hid (Below W2.heap.size W2 w5):=BL3.o.trans (hb5.mono BL3.o.size);clear hb5))
        have hs6:St w w5:=hs5.on BL5.o;replace HX:=amy (HX.o.on BL5.o);replace HR:=amy (HR.o.on BL5.o);replace HY:=amy (HY.o.on BL5.o);replace HW:=amy (HW.o.on BL5.o);clear hgl BL0 BL3 BL5 HL3 K2 hSOK HV;generalize pR false false a1 b1=le at*
        by_cases hle:le=0
        case neg=>
         have q5:(le !=0)=true:=by simpa using hle
         have q6:(le==0)=false:=by simpa using hle
         have hoe:oe=le:=by
          have:=ot_lim HNB.o HBQ.o hj2 HL.o (by rw[HLM.o];exact hle);rw[HE1.o,this,HLM.o,q5];rfl
         subst hoe;clear HE1 HLM
         go_wp2_with fail
         go_ret
         exact⟨rfl,hs6.2⟩
        subst hle
        go_wp2_with fail
        go_roundw
        case rel=>
         refine⟨j+1,by omega,by go_num,hs6,HX,HR,HY,HW,fun i hi=>?_⟩;by_cases e:i=j
         ·rw[e];exact HLM.o
         ·exact HL.o i (by omega)
        case measure=>simp[intOf];omega
end
end Go.Proofs.YtbkhnggmcheelaaGreatDoor
