/- Allocation: positive. Condition: up to twelve weights of bounded length. slices.Equal of two rows of the same numbers. Condition: lengths that a slice can have. Allocation: divide, Split. Condition: up to twelve weights of bounded length, or more than 1000. Fractions: contracts of Floor and of Quo by any divisor; words for functions that return fractions. Conditions: strings of up to a hundred thousand bytes. Rounding: the plain law. No condition. Fractions: the contracts of Parts and Print. Conditions: numbers of up to a hundred thousand bytes. Parts of years: the contracts of the package daycount's small functions. Conditions: days of the calendar. Parts of years: the conventions as closures, and the contracts of find, check, Days and Fraction. Conditions: days of the calendar. Parts of years: the conventions as closures, and the contracts of find, check, Days and Fraction. Conditions: days of the calendar. Parts of years: finding a convention. No condition. Parts of years: checking arguments. Conditions: days of the calendar. Parts of years: the closures over a convention's days, and calendar years. Conditions: days of the calendar. Parts of years: the sum over calendar years. Conditions: days of the calendar. Parts of years: the contract of Fraction. Conditions: machine integers. Parts of years: the contract of Fraction in one. Conditions: none on the machine integers. Parts of years: the contract of Days; the examples of the chapter. Conditions: machine integers. Parts of years: the examples of the chapter, and the laws' walks. Condition: the library's table and error lie as the program's text lays them. Rounding: the contracts of even and Round. Conditions: numbers of bounded length. -/
import Derived.Test.YtjknklinhegdoaaGreatDoorGal
import Derived.Test.YtjknklinhegdoaaGreatDoorGam
import Derived.Test.YtjknklinhegdoaaGreatDoorGai
set_option maxHeartbeats 4000000
set_option maxRecDepth 100000
namespace Go.Proofs.YtjknklinhegdoaaGreatDoor
open Go.RowKit Go.Shelf Go.Sort SP Dec
theorem aaP {A:Option Addr}{n c k0:Nat}{t:ByteArray}{ws:List ByteArray}(hn:ws.length=n)(h12:n≤1000)(hk0:k0≤5000)(ht:t.size≤k0)(hz:∀s∈ws,s.size≤k0)(hcan:ag (aj t)=t)(hok:WOk (iv ws))
 (w:World) (hg:Gl w) (hr:Row w A (ws.map sv)):
 Calls Tryz.prog 241 #[.string t,.slice A n c] w fun e w'=>∃v,e= .returned v∧POut w v n (wI (aj t) (iv ws)) w'∧Below w.heap.size w w':=by
 have hs:=St.refl hg;have hpos:(iv ws).sum ≠0:=by have:=hok.pos;omega
 have HOK:=ala hok;have KW:=wJ (A:=A) (c:=c) hn h12 hk0 hz;obtain⟨Z,hZ,hm⟩:=madeS h12;obtain⟨Y,hY,hmi⟩:=madeI h12;obtain⟨sm,hsm⟩:∃v,ag (iv ws).sum =v:=⟨_,rfl⟩;rw[hsm]at KW;have HM:=ala hm;have HR:=ala hr;have HMI:∀u:World,(Instr.makeSlice 208 (.int .i64 (n:Int)) (.int .i64 (n:Int))).run Tryz.prog u= .ok (.slice (some ⟨u.heap.size,0,none⟩) n n) (u.alloc (.cells Y 3)):=hmi;have HN:=ala hn;have HZW:=ala hz;have HT:=ala ht;have HCAN:=ala hcan;have HSM:=ala hsm;have HPOS:=ala hpos;have HFS:Hid (Fit (k0+3) (iv ws).sum):=ac8 hz (by omega);clear hm hmi hg hr hn hz ht hcan hsm hpos hok
 go_enter Tryz.func241,Tryz.ntmps241
 go_wp2_with fail
 refine KW.step hs HR.out ?_;intro w1 hs1 _
 go_wp2_with fail
 have HMS:∀u:World,(Instr.makeSlice 160 (.int .i64 (n:Int)) (.int .i64 (n:Int))).run Tryz.prog u= .ok (.slice (some ⟨u.heap.size,0,none⟩) n n) (u.alloc (.cells Z 24)):=HM.out;have HSZ:Hid (w.heap.size≤w1.heap.size):=hs1.2.size;have HL1:=ala hs1;clear hs
 go_upto_region 2 with (fail)
 go_cut [6,7,23] (fun p q r wx=>∃P R B,p= .slice (some ⟨P,0,none⟩) n n∧q= .pointer (some ⟨B,0,none⟩)∧r= .slice (some ⟨R,0,none⟩) n n∧Hid (PB0 w1 Z n P R B wx))
 case first=>
  clear hs1
  go_big_region
  all_goals
   go_wp2_with fail
   go_meet
   refine⟨_,_,_,rfl,rfl,rfl,⟨⟨rfl,rfl,rfl,?_,?_⟩,?_,?_,?_,?_,?_,?_,?_,?_,?_⟩⟩
  all_goals try omega
  all_goals try first|exact tri0 _ _ _ _|exact tri1 _ _ _ _|exact tri2 _ _ _ _
  all_goals try (simp[-World.alloc_eq, -World.drew_eq,World.alloc,World.drew,Array.getElem?_push];done)
  all_goals try (intro k hk;simp[-World.alloc_eq, -World.drew_eq,World.alloc,World.drew,Array.getElem?_push];(repeat first|rw[if_neg (by omega)]|rw[if_pos (by omega)]);done)
  all_goals try (simp[-World.alloc_eq, -World.drew_eq,World.alloc,World.drew];omega)
  all_goals try (simp[-World.alloc_eq, -World.drew_eq,World.alloc,World.setCell,World.drew,Array.getElem?_push,Array.getElem?_modify];(repeat first|rw[if_neg (by omega)]|rw[if_pos (by omega)]);done)
 case rest=>
 obtain⟨P,R,B,rfl,rfl,rfl,HB⟩:=hcut;have hs2:St w wc:=hs1.on HB.out.low;generalize wc=W5 at*
 go_wp2_with fail
 have hs3:=hs2.alloc (.cells Y 3);have HZ0:Hid (∃O,O=W5.heap.size∧PZ w (aj t) (iv ws) n P R O B 0 0 (W5.alloc (.cells Y 3))):=by
  have hz:=hs1.2.size;have e:∀ {b:Nat} {o:Obj},W5.heap[b]? =some o→b<W5.heap.size∧(W5.alloc (.cells Y 3)).heap[b]? =some o:=fun{b o} h=>⟨(alc.1 h).1,(Below.heap_alloc _ _ _ (alc.1 h).1).trans h⟩
  have lp:=HB.out.lP;have lr:=HB.out.lR;have lb:=HB.out.lB;have l1:=(e HB.out.pr).1;have l2:=(e HB.out.rr).1;have l3:=(e HB.out.bb).1;exact⟨_,rfl,hs3,Fil.start (e HB.out.pr).2 hZ,Fil.start (e HB.out.rr).2 hZ,Fil.start (aZ _ _) hY,(e HB.out.bb).2,⟨by omega,by omega,by omega,by have:=hs2.2.size;omega⟩,⟨HB.out.nPR,HB.out.nPB,by omega,HB.out.nRB,by omega,by omega⟩⟩
 obtain⟨O,hO,HZZ⟩:=HZ0;rw[←hO];have HP0:=ala HZZ;clear HZZ hO hs3 hs2 HB hs1 HL1 HSZ;generalize W5.alloc (.cells Y 3)=W6 at*
 go_loopw [30,9] (fun s ms wr=>∃k:Nat,k≤n∧s= .int .i64 (k:Int)∧ms= .string (ag (aj t-((qL (aj t) (iv ws)).take k).sum))∧Hid (PZ w (aj t) (iv ws) n P R O B k k wr)) (fun s _ _=>(n-intOf s).toNat)
 case atStart=>exact⟨0,by omega,rfl,by rw[List.take_zero];show Value.string t= .string (ag (aj t-0));rw[Int.sub_zero,HCAN.out],HP0.out⟩
 case round=>
  clear HP0;obtain⟨k,hk,rfl,rfl,HP⟩:=hrel;by_cases hkn:k=n
  ·subst hkn
   have q:decide ((k:Int)<(k:Int))=false:=alH (by omega);obtain⟨m,hm⟩:∃m,k=m+1:=⟨k-1,by
    have h1:(iv ws).length =k:=by rw[aP,HN.out]
    have h2:=HOK.out.pos;have h3:k≠0:=fun e=>by rw[List.length_eq_zero_iff.1 (h1.trans e)]at h2;simp at h2
    omega⟩
   have hiv:(iv ws).length =k:=by rw[aP,HN.out]
   have hrl:(rL (aj t) (iv ws)).length =k:=by rw[aaM,hiv]
   have HSo:=ala (agG (m:=m) (blk:=O) (n:=k) (g:=265) (cb:= #[.pointer (some ⟨B,0,none⟩)]) (cf:=cfO (rL (aj t) (iv ws))) (d:=Array.ofFn (fun i:Fin (m+1)=>i)) (w0:=wr) (w:=wr) (fun _ _=>rfl) (akR _)
    (akO HP.out hm hiv (k:=k0+3) (by omega) (r_fit HOK.out HFS.out)) (by rw[Array.size_ofFn,hm]) (by omega) (Fil.sow HP.out.oo hm))
   obtain⟨j0,hj0,hjk⟩:∃j0:Nat,mis (aj t) (iv ws)=(j0:Int)∧j0≤k:=by
    have h1:=mis_le (aj t) HOK.out;rw[hiv]at h1;exact⟨(mis (aj t) (iv ws)).toNat,by omega,by omega⟩
   have e1:aj t-((qL (aj t) (iv ws)).take k).sum =(j0:Int):=by
    rw[aln (by rw[wZ,hiv];exact Nat.le_refl _)];exact hj0
   have KSm:Ret 267 #[.string (ag (j0:Int))] (.tuple #[.int .i64 (j0:Int),.bool true]):=fun w hg=>by
    have:=SmlV (Vs.can (k:=4) (z:=(j0:Int)) (by show (j0:Int).natAbs <10^4;omega) (by omega)) w hg;rwa[show sml (j0:Int)=((j0:Int),true)by unfold sml;rw[if_pos ⟨by omega,by omega⟩]]at this
   rw[e1];generalize ag (j0:Int)=mt at*
   have HHM:=ala (And.intro hm (And.intro hiv (And.intro hrl hj0)));have hk0n:¬k=0:=by omega
   clear hm hiv hrl hj0 e1
   go_wp2_with fail
   refine(HSo.out).mono ?_;rintro e w1 ⟨d1,rfl,hperm,hsz1,hasc,hS⟩;obtain⟨L,HL⟩:∃L:List Nat,Hid (Ord (rL (aj t) (iv ws)) L∧PY w (qL (aj t) (iv ws)) (rL (aj t) (iv ws)) L k P O 0 w1):=by
    have hm:=HHM.out.1;exact⟨_,ab0 (m:=m) (HHM.out.2.2.1.trans hm) hperm (hsz1.trans hm) (fun a b hab hb=>hasc a b hab (by omega)),PY.start (HP.out.st.grown hS.gr HP.out.lo.2.2.2) (HP.out.pr.grown hS.gr (by intro e;injection e with e;exact HP.out.ne.2.2.1 e)) (hS.fil hsz1) HP.out.lo.1 HP.out.ne.2.2.1⟩
   have hs1:=HL.out.2.st;have HPY:=ala HL.out.2;have HORD:=ala HL.out.1;clear HP HSo hS HL
   go_wp2_with fail
   refine KSm.step hs1 ?_;intro w2 hs2 hb2;replace HPY:=ala (HPY.out.up hb2);have hadd:∀a:Addr,a.add (0*1)=a:=fun a=>by simp[Addr.add]
   have jk:(j0:Int)≤(k:Int):=by omega
   go_wp2_with fail
   go_loopw [73] (fun s wr2=>∃j:Nat,j≤j0∧s= .int .i64 (j:Int)∧Hid (PY w (qL (aj t) (iv ws)) (rL (aj t) (iv ws)) L k P O j wr2)) (fun s _=>(j0-intOf s).toNat)
   case atStart=>exact⟨0,by omega,rfl,HPY.out⟩
   case round=>
    clear HPY hs1 hs2;obtain⟨j,hj,rfl,HPY⟩:=hrel;by_cases hjn:j=j0
    ·subst hjn
     have q:decide ((j:Int)<(j:Int))=false:=alH (by omega)
     go_wp2_with fail
     go_ret
     exact⟨_,rfl,HPY.out.done HHM.out.2.1 HHM.out.2.2.2.symm,HPY.out.st.2⟩
    ·have hjl:j<k:=by omega
     have q:decide ((j:Int)<(j0:Int))=true:=alI (by omega);have qn:decide (j<j0)=true:=alI (by omega);have jl0:j<j0:=by omega
     obtain⟨_,hik,_⟩:=PY.place HORD.out HHM.out.2.2.1 hjl;have cO:=HPY.out.oo.cell (i:=j) hjl;have cP:=HPY.out.at HORD.out HHM.out.2.2.1 hjl;have hst:=fun(W:World) (h:PY w (qL (aj t) (iv ws)) (rL (aj t) (iv ws)) L k P O j W)=>h.step HORD.out HHM.out.2.2.1 hjl rfl
     have hql:(qL (aj t) (iv ws)).length =k:=by rw[wZ];exact HHM.out.2.1
     have fq:=ajx HT.out HZW.out _ (alk (iK (l:=qL (aj t) (iv ws)) (i:=ati L j) (by rw[hql];exact hik)));have KA:=agr (Vs.can fq (by omega)) (⟨by decide,by decide⟩:Vs ⟨#[49]⟩ 1);have HST:=ala hst;generalize ag (at0 (qL (aj t) (iv ws)) (ati L j)+1)=y at*
     generalize ag (at0 (qL (aj t) (iv ws)) (ati L j))=x at*
     generalize ati L j=i at*
     have ik:(i:Int)<(k:Int):=by omega
     have hs1:=HPY.out.st;clear fq hst hql hjn
     go_wp2_with fail
     refine KA.step hs1 ?_;intro w3 hs3 hb3;have HP3:=ala (HPY.out.up hb3);obtain⟨vP,cP3⟩:=HP3.out.pr.some hik;have fP3:=HP3.out.pr.frozen i;have HP4:=ala (HST.out _ HP3.out)
     go_wp2_with fail
     go_roundw
     case rel=>exact⟨j+1,by omega,by go_num,HP4.out⟩
     case measure=>simp[intOf];omega
  ·have hkl:k<n:=by omega
   have q:decide ((k:Int)<(n:Int))=true:=alI (by omega);obtain⟨s,hd⟩:∃s,ws[k]? =some s:=⟨ws[k]'(by rw[HN.out];exact hkl),by simp⟩;obtain⟨b,o,hA,hb,hc⟩:=HR.out k (sv s) (by rw[als,hd];rfl);subst hA;unfold sv at hc;have hcr:=(HP.out.st.2.cell (p:=⟨b,o+k,none⟩) hb).trans hc;have zs:=HZW.out s (alk hd);have KM:=aiG (Vs.arg (s:=t) (by have:=HT.out;omega)) (Vs.arg (s:=s) (by omega));obtain⟨tm,htm⟩:∃v,ag (aj t*aj s)=v:=⟨_,rfl⟩;rw[htm]at KM;obtain⟨ms,hms⟩:∃v,ag (aj t-((qL (aj t) (iv ws)).take k).sum)=v:=⟨_,rfl⟩;rw[hms];have HMS:=ala hms;clear hms;have b0:W6.cell? ⟨B,0,none⟩=W6.cell? ⟨B,0,none⟩:=rfl;have cB:wr.cell? ⟨B,0,none⟩=some (.slice (some ⟨R,0,none⟩) n n):=by simp[World.cell?,HP.out.bb]
   have kB:=Kept.cell_of cB;have hs:=HP.out.st;clear b0;have KD:=ak6 (Vs.can (k:=k0+k0) (z:=aj t*aj s) ((Fit.val HT.out).mul (Fit.val (HZW.out s (alk hd)))) (by omega)) (Vs.can (k:=k0+3) (z:=(iv ws).sum) HFS.out (by omega)) HPOS.out;rw[htm,HSM.out]at KD;have HQ:Hid (ag (at0 (qL (aj t) (iv ws)) k)=ag ((aj t*aj s).fdiv (iv ws).sum)∧ag (at0 (rL (aj t) (iv ws)) k)=ag ((aj t*aj s).fmod (iv ws).sum)):=by
    have hl:k<(iv ws).length :=by rw[aP,HN.out];exact hkl
    exact⟨by rw[agZ hl,zT hd],by rw[rL_at hl,zT hd]⟩
   obtain⟨qk,hqk⟩:∃v,ag ((aj t*aj s).fdiv (iv ws).sum)=v:=⟨_,rfl⟩;obtain⟨rk',hrk⟩:∃v,ag ((aj t*aj s).fmod (iv ws).sum)=v:=⟨_,rfl⟩;rw[hqk,hrk]at KD HQ;clear hqk hrk htm hd zs;have nRP:¬R=P:=fun e=>HP.out.ne.1 e.symm
   go_wp2_with fail
   go_cut [9] (fun m9 wx=>m9= .string ms∧Hid (PZ w (aj t) (iv ws) n P R O B (k+1) k wx))
   case first=>
    have HPP:=HP;have kl:(k:Int)<(n:Int):=by omega
    clear HP kB
    go_region_with (first
     |(go_at_call 88
       first|refine KM.step hs ?_|refine KM.step hs.drew ?_
       intro wA hsA hbA;have PA:=ala (show PZ w (aj t) (iv ws) n P R O B k k wA from by first|exact HPP.out.up hbA|exact HPP.out.drew.up hbA);have cA:=PA.out.box)
     |(go_at_call 159
       first|refine KD.step hsA ?_|refine KD.step hsA.drew ?_
       intro wB hsB hbB;have PB:=ala (show PZ w (aj t) (iv ws) n P R O B k k wB from by first|exact PA.out.up hbB|exact PA.out.drew.up hbB);have cB1:=PB.out.box;obtain⟨vP,cP⟩:=PB.out.pr.some hkl;obtain⟨vR,cR⟩:=PB.out.rr.some hkl;have fP:=PB.out.pr.frozen k;have fR:=PB.out.rr.frozen k;have cB2:(wB.setCell ⟨P,k,none⟩ (.string qk)).cell? ⟨B,0,none⟩=some (.slice (some ⟨R,0,none⟩) n n):=(World.cell?_of_block (alv _ _ _ _ (fun e=>PB.out.ne.2.1 e.symm))).trans cB1;have cR2:(wB.setCell ⟨P,k,none⟩ (.string qk)).cell? ⟨R,k,none⟩=some vR:=(World.cell?_of_block (alv _ _ _ _ (fun e=>PB.out.ne.1 e.symm))).trans cR;have fR2:(wB.setCell ⟨P,k,none⟩ (.string qk)).frozen? ⟨R,k,none⟩=false:=(World.frozen?_of_block (alv _ _ _ _ (fun e=>PB.out.ne.1 e.symm))).trans fR))
    all_goals
     have P2:=ala (PB.out.two hkl HQ.out.1 HQ.out.2)
     go_wp2_with fail
     go_meet
     first
      |exact⟨rfl,P2.out⟩
      |exact⟨rfl,P2.out.drew⟩
   case rest=>
   obtain⟨rfl,HP2⟩:=hcut;clear HP KM KD hs cB kB hc hb hcr;generalize wc=W7 at*
   have cq:W7.cell? ⟨P,k,none⟩=some (.string qk):=by
    have:=HP2.out.pr.cell (i:=k) (by omega);rwa[show ag (at0 (qL (aj t) (iv ws)) k)=qk from HQ.out.1]at this
   have hs7:=HP2.out.st;have kl:(k:Int)<(n:Int):=by omega
   have KS:=SubR (Vs.can (k:=k0+k0+5) (ajU HT.out HZW.out (by rw[HN.out];omega) k) (by omega)) (Vs.can (k:=k0+k0+1) (z:=at0 (qL (aj t) (iv ws)) k) (ajx HT.out HZW.out _ (alk (iK (by rw[wZ,aP,HN.out];exact hkl)))) (by omega));rw[HMS.out,HQ.out.1]at KS;have HNX:Hid (aj t-((qL (aj t) (iv ws)).take k).sum -at0 (qL (aj t) (iv ws)) k=aj t-((qL (aj t) (iv ws)).take (k+1)).sum):=by
    show _=_;rw[List.take_add_one,iK (l:=qL (aj t) (iv ws)) (i:=k) (by rw[wZ,aP,HN.out];exact hkl)];simp;omega
   go_wp2_with fail
   refine KS.step hs7 ?_;intro w8 hs8 hb8;have HP3:=ala (HP2.out.up hb8);obtain⟨vO,cO⟩:=HP3.out.oo.some hkl;have fO:=HP3.out.oo.frozen k;have HP4:=ala (HP3.out.three hkl)
   go_wp2_with fail
   go_roundw
   case rel=>exact⟨k+1,by omega,by go_num,by rw[HNX.out],HP4.out⟩
   case measure=>simp[intOf];omega
end Go.Proofs.YtjknklinhegdoaaGreatDoor
namespace Go.Proofs.YtjknklinhegdoaaGreatDoor
open Go.RowKit Go.Shelf Dec QQ
def dD (z:Int):List Value:=[.string (ag z)]
theorem tX (z:Int):(dD z).length =1:=rfl
end Go.Proofs.YtjknklinhegdoaaGreatDoor
namespace Go.Proofs.YtjknklinhegdoaaGreatDoor
open Go.RowKit Go.Shelf Go.Sort SP Dec QQ
theorem zX (l:List Int):au dD l=(List.range l.length).map (fun i=>Value.string (ag (at0 l i))):=by
 have e1:au dD l=l.map (fun z=>Value.string (ag z)):=by
  induction l with
  |nil=>rfl
  |cons z l ih=>show dD z++au dD l=_;rw[ih];rfl
 have e2:(List.range l.length).map (fun i=>Value.string (ag (at0 l i)))=((List.range l.length).map (at0 l)).map (fun z=>Value.string (ag z)):=by rw[List.map_map];rfl
 rw[e1,e2,zM]
theorem ako (l:List Int):au dD l=(l.map ag).map sv:=by
 induction l with
 |nil=>rfl
 |cons z l ih=>show dD z++au dD l=_;rw[ih];rfl
theorem POut.outG {w W:World}{v:Value}{n:Nat}{l:List Int}(h:POut w v n l W)(hn:n≤1000):fM dD 24 1 w.heap.size W v n l:=by
 obtain⟨P,rfl,lo,hl,F⟩:=h;refine⟨hl,?_⟩;rw[zX,hl];exact F.own lo (by unfold maxLen;omega)
theorem ah5 {A:Option Addr}{n c k0:Nat}{t:ByteArray}{ws:List ByteArray}(hn:ws.length=n)(h12:n≤1000)(hk0:k0≤4000)(ht:t.size≤k0)(hz:∀s∈ws,s.size≤k0)(hcan:ag (aj t)=t)(hok:WOk (iv ws))
 (w:World) (hg:Gl w) (hr:Row w A (ws.map sv)):
 Calls Tryz.prog 186 #[.string t,.slice A n c] w fun e w'=>∃v,e= .returned v∧POut w v n (wP (aj t) (iv ws)) w'∧Below w.heap.size w w':=by
 have hs:=St.refl hg;have HR:=ala hr;have K1:=aaZ (a:=t) (by omega);by_cases hT:aj t<0
 ·rw[alI hT]at K1
  have KN:=NegR (Vs.arg (s:=t) (by omega));have hfit:Fit k0 (-aj t):=by have:=Fit.val (a:=t) ht;unfold Fit at*;rwa[Int.natAbs_neg]
  have KP:=ala (fun(w1:World) (hg1:Gl w1) (hr1:Row w1 A (ws.map sv))=>aaP (A:=A) (c:=c) (k0:=k0+1) (t:=ag (-aj t)) (ws:=ws) hn h12 (by omega) (by have:=hfit.size;omega) (fun s hs=>by have:=hz s hs;omega) (by rw[aW]) hok w1 hg1 hr1);rw[aW]at KP;have HE:Hid (wP (aj t) (iv ws)=(wI (-aj t) (iv ws)).map (fun x=> -x)):=if_pos hT;have HFX:Hid (∀x∈wI (-aj t) (iv ws),Fit (k0+k0+2) x):=ajy hfit (lU hz);have HN:=ala hn;generalize ag (-aj t)=tn at*
  rw[HE.out];generalize wI (-aj t) (iv ws)=xs at*
  clear hr hn hz ht hcan hok hT hfit HE
  go_enter Tryz.func186,Tryz.ntmps186
  go_wp2_with fail
  refine K1.step hs ?_;intro w1 hs hb1
  go_wp2_with fail
  refine KN.step hs ?_;intro w2 hs hb2
  go_wp2_with fail
  refine(KP.out w2 hs.gl (HR.out.on hs.2)).mono ?_;rintro e w3 ⟨v,rfl,⟨P,rfl,lo,hxl,F⟩,hb3⟩;have HF:Hid (Fil w3 P 24 n n (fun i=>.string (ag (if i<0 then-at0 xs i else at0 xs i)))):=F.congr (fun i _=>by rw[if_neg (Nat.not_lt_zero _)]);have HL:Hid (w.heap.size≤P):=ali hs.2.size lo;have HXL:=ala hxl;replace hs:=hs.on hb3;clear lo hxl F
  go_wp2_with fail
  go_loopw [19] (fun s wr=>∃k:Nat,k≤n∧s= .int .i64 (k:Int)∧St w wr∧Hid (Fil wr P 24 n n (fun i=>.string (ag (if i<k then-at0 xs i else at0 xs i))))) (fun s _=>(n-intOf s).toNat)
  case atStart=>exact⟨0,by omega,rfl,hs,HF.out⟩
  case round=>
   clear hs HF;obtain⟨k,hk,rfl,hs,HF⟩:=hrel;by_cases hkn:k=n
   ·subst hkn
    have q:decide ((k:Int)<(k:Int))=false:=alH (by omega)
    go_wp2_with fail
    go_ret
    refine⟨_,rfl,⟨P,rfl,HL.out,by rw[List.length_map,HXL.out],HF.out.congr fun i hi=>?_⟩,hs.2⟩;rw[if_pos hi,afY]
   ·have hkl:k<n:=by omega
    have q:decide ((k:Int)<(n:Int))=true:=alI (by omega);have ck:wr.cell? ⟨P,k,none⟩=some (.string (ag (at0 xs k))):=by
     have:=HF.out.cell (i:=k) hkl;rwa[if_neg (Nat.lt_irrefl _)]at this
    have fx:=HFX.out _ (alk (iK (l:=xs) (i:=k) (by rw[HXL.out];exact hkl)));have KX:=NegR (Vs.can fx (by omega));have HS:∀W:World,Below wr.heap.size wr W→Hid (Fil (W.setCell ⟨P,k,none⟩ (.string (ag (-at0 xs k)))) P 24 n n (fun i=>.string (ag (if i<k+1 then-at0 xs i else at0 xs i)))):=fun W hb=>(HF.out.on hb).upd (by
     show Value.string (ag (if k<k+1 then _ else _))=_;rw[if_pos (by omega)]) (fun i hi hik=>by
     show Value.string (ag (if i<k+1 then _ else _))=Value.string (ag (if i<k then _ else _));by_cases hlt:i<k
     ·rw[if_pos (by omega),if_pos hlt]
     ·rw[if_neg (by omega),if_neg hlt])
    have kl:(k:Int)<(n:Int):=by omega
    generalize ag (-at0 xs k)=y at*
    generalize ag (at0 xs k)=x at*
    clear fx hkn
    go_wp2_with fail
    refine KX.step hs ?_;intro w4 hs hb4;obtain⟨vP,cP⟩:=(HF.out.on hb4).some hkl;have fP:=(HF.out.on hb4).frozen k;have HS4:=HS _ hb4;have hs5:=hs.set HL.out k (.string y)
    go_wp2_with fail
    go_roundw
    case rel=>exact⟨k+1,by omega,by go_num,hs5,HS4.out⟩
    case measure=>simp[intOf];omega
 ·rw[alH hT]at K1
  have KP:=ala (fun(w1:World) (hg1:Gl w1) (hr1:Row w1 A (ws.map sv))=>aaP (A:=A) (c:=c) (k0:=k0) (t:=t) (ws:=ws) hn h12 (by omega) ht hz hcan hok w1 hg1 hr1);have HE:Hid (wP (aj t) (iv ws)=wI (aj t) (iv ws)):=if_neg hT;rw[HE.out];generalize wI (aj t) (iv ws)=xs at*
  clear hr hn hz ht hcan hok hT HE
  go_enter Tryz.func186,Tryz.ntmps186
  go_wp2_with fail
  refine K1.step hs ?_;intro w1 hs hb1
  go_wp2_with fail
  refine(KP.out w1 hs.gl (HR.out.on hs.2)).mono ?_;rintro e w2 ⟨v,rfl,⟨P,rfl,lo,hxl,F⟩,hb2⟩;have HF:=ala F;have lo2:w.heap.size≤P:=ali hs.2.size lo;replace hs:=hs.on hb2;clear F
  go_wp2_with fail
  go_ret
  exact⟨_,rfl,⟨P,rfl,lo2,hxl,HF.out⟩,hs.2⟩
theorem abW {A:Option Addr}{n c k0:Nat}{t:ByteArray}{ws:List ByteArray}(hn:ws.length=n)(h12:n≤1000∨1000<n)(hm:n≤4611686018427387904)(hk0:k0≤4000)(ht:t.size≤k0)(hz:∀s∈ws,s.size≤k0)(w:World)(hg:Gl w)(hr:Row w A (ws.map sv)):
 Calls Tryz.prog 127 #[.string t,.slice A n c] w fun e w'=>∃v,e= .returned (.tuple #[v,.int .i64 (alE t ws)])∧fM dD 24 1 w.heap.size w' v (alS t ws).length (alS t ws)∧Below w.heap.size w w':=by
 have hs:=St.refl hg;have HR:=ala hr;have K1:=af4 (A:=A) (c:=c) hn h12 hm (by omega) ht hz;by_cases he:alE t ws=0
 ·have ho:=wF.1 he
  have h2:=ho.len;have e:alS t ws=wP (aj t) (iv ws):=if_pos he;have h12':n≤1000:=by omega
  have KD:=ala (fun(w1:World) (hg1:Gl w1) (hr1:Row w1 A (ws.map sv))=>ah5 (A:=A) (c:=c) (k0:=k0) (t:=t) (ws:=ws) hn h12' hk0 ht hz (chk_eq ho.ct) ho.ok w1 hg1 hr1);rw[e,he,dI,aP,hn];rw[he]at K1;clear e he hn hr hz ht ho h2 hm h12
  go_enter Tryz.func127,Tryz.ntmps127
  go_wp2_with fail
  refine K1.step hs (HR.out.on hs.2) ?_;intro w1 hs hb
  go_wp2_with fail
  refine(KD.out w1 hs.gl (HR.out.on hs.2)).mono ?_;rintro e w2 ⟨v,rfl,hP,hb2⟩;obtain⟨P,rfl,lo,hxl,F⟩:=hP;have HP:Hid (POut w (.slice (some ⟨P,0,none⟩) n n) n (wP (aj t) (iv ws)) w2):=⟨P,rfl,ali hs.2.size lo,hxl,F⟩;replace hs:=hs.on hb2;clear lo hxl F
  go_wp2_with fail
  go_ret2
  exact⟨_,rfl,HP.out.outG h12',hs.2⟩
 ·have e:alS t ws=[]:=if_neg he
  rw[e];have q:(alE t ws !=0)=true:=by simpa using he
  generalize alE t ws=ee at*
  clear hn hr hz ht e
  go_enter Tryz.func127,Tryz.ntmps127
  go_wp2_with fail
  refine K1.step hs (HR.out.on hs.2) ?_;intro w1 hs hb
  go_wp2_with fail
  go_ret2
  exact⟨_,rfl,⟨rfl,World.ownsRow_nil _ _ _ _⟩,hs.2⟩
end Go.Proofs.YtjknklinhegdoaaGreatDoor
namespace Go.Proofs.YtjknklinhegdoaaGreatDoor
open Go.RowKit Go.Shelf Dec QQ
theorem aaK {w w1:World}{B:Nat}(hs:St w w1)(hb:w.heap.size≤B)(X:Bx w1 B #[.string ⟨#[]⟩,.string ⟨#[]⟩])(n d:ByteArray):
 ∃W,(w1.setCell ⟨B,0,none⟩ (.string n)).setCell ⟨B,1,none⟩ (.string d)=W∧W.cell? ⟨B,0,none⟩=some (.string n)∧W.cell? ⟨B,1,none⟩=some (.string d)∧Below w.heap.size w W:=by
 have B6:=(X.set 0 (.string n)).set 1 (.string d);exact⟨_,rfl,B6.cell (i:=0) rfl,B6.cell (i:=1) rfl,((hs.set hb 0 (.string n)).set hb 1 (.string d)).2⟩
theorem abm {k:Nat}{x y:Int}(h:Fit k x)(hy:0≤y):Fit k (x.fdiv y):=by
 unfold Fit at*
 rw[Int.fdiv_eq_ediv_of_nonneg _ hy];exact Nat.lt_of_le_of_lt (Int.natAbs_ediv_le_natAbs _ _) h
theorem FloorF {a b:ByteArray}{q:Rat}(h:Vq a b q):Ret 199 #[FV a b] (.string (ag q.floor)):=by
 intro w hg;obtain⟨e,h1,h2⟩:=h;have hs:=(St.refl hg).alloc (.cells #[.string a,.string b] 26);have K1:=dL (n:=a) (d:=b) (by omega);have hd:=vW b;have K2:=ak6 (Vs.arg (s:=a) (by omega)) (Vs.arg (s:=dn b) (by omega)) (rX b);rw[jD (rX b),lX,e]at K2;unfold FV at K1⊢
 clear e h1 h2 hd;generalize ag q.floor=u1 at*
 generalize ag ((aj a).fmod (aj (dn b)))=u2 at*
 generalize dn b=b' at*
 go_enter Tryz.func199,Tryz.ntmps199
 go_wp2_with fail
 refine K1.step hs ?_;intro w1 hs _
 go_wp2_with fail
 refine K2.step hs ?_;intro w2 hs _
 go_wp2_with fail
 go_ret
 exact⟨rfl,hs.2⟩
end Go.Proofs.YtjknklinhegdoaaGreatDoor
namespace QQ
def rU (q:Rat):Rat:=q-(q.floor:Rat)
def evB (a:Int):Bool:=decide (a%2=0)
def upB (m c:Int)(neg ev:Bool):Bool:=
 if m=1 then decide (0<c)||((c==0)&& !ev)else if m=2 then decide (0<c)||((c==0)&& !neg)else if m=3 then neg else if m=4 then !neg else decide (m=6)
def adG (m:Int)(q:Rat):Int:=if rU q=0 then q.floor else if upB m (iI (rU q) (1/2)) (decide (q<0)) (evB q.floor)=true then q.floor+1 else q.floor
def adH (m:Int):Int:=if m<1∨6<m then 7 else 0
theorem ajp {m:Int}{q:Rat}(h:rU q=0):adG m q=q.floor:=if_pos h
theorem acO (p q:Rat):iI p q= -1∨iI p q=0∨iI p q=1:=by
 unfold iI;split
 ·simp
 ·split<;>simp
theorem xZ (q:Rat):rU q=rat (q.num.fmod (q.den:Int)) (q.den:Int):=by
 have hd:(q.den:Int)≠0:=by have:=q.den_nz;omega
 have h0:=bJ q;have h1:q.num.fdiv (q.den:Int)=q.floor:=by rw[jD hd,bJ]
 rw[Int.fmod_def,h1];rw[dA hd]at h0⊢
 rw[Rat.intCast_sub,Rat.intCast_mul];have:=bA hd;unfold rU
 conv=>lhs;lhs;rw[←h0]
 grind
theorem tY (q:Rat):q.num.fmod (q.den:Int)=0↔rU q=0:=by
 have hd:(q.den:Int)≠0:=by have:=q.den_nz;omega
 have h1:=bA hd;rw[xZ,dA hd];constructor
 ·intro h;rw[h];show (0:Rat)/_=0;rw[Rat.div_def,Rat.zero_mul]
 ·intro h
  have:((q.num.fmod (q.den:Int):Int):Rat)=0:=by grind
  exact Rat.intCast_inj.1 this
theorem ahG (q:Rat):(if q.num.fmod (q.den:Int)+q.num.fmod (q.den:Int)<(q.den:Int)then-1 else if q.num.fmod (q.den:Int)+q.num.fmod (q.den:Int)=(q.den:Int)then 0 else 1:Int)=iI (rU q) (1/2):=by
 have hd:0<(q.den:Int):=by have:=q.den_nz;omega
 have:=afk (a:=q.num.fmod (q.den:Int)) (b:=q.den) (c:=1) (d:=2) hd (by decide);rw[←xZ,show rat 1 2=1/2 from rfl,Int.one_mul]at this;rw[←this,show q.num.fmod (q.den:Int)*2=q.num.fmod (q.den:Int)+q.num.fmod (q.den:Int)by omega]
theorem ajR (q:Rat):q.num<0↔q<0:=by
 have:=qm q 0;rwa[show q-0=q by grind]at this
end QQ
namespace Go.Proofs.YtjknklinhegdoaaGreatDoor
open Go.RowKit Go.Shelf Dec QQ
end Go.Proofs.YtjknklinhegdoaaGreatDoor
namespace Go.Proofs.YtjknklinhegdoaaGreatDoor
open Go.RowKit Go.Shelf Dec
open QQ
theorem PartsF {n d:ByteArray}{q:Rat}(h:Vq n d q):Ret 161 #[FV n d] (.tuple #[.string (ag q.num),.string (ag q.den)]):=by
 intro w hg;have hs:=St.refl hg;obtain⟨v1,v2,f1,f2⟩:=h.vs;have K1:=dL (n:=n) (d:=d) (by have:=h.2.2;omega);have K2:=pY v1 v2 (by have:=h.2.1;omega) (by have:=vW d;have:=h.2.2;omega) (rX d);rw[lX,h.1]at K2;unfold FV at K1⊢
 generalize ag q.num=rn at*
 generalize ag (q.den:Int)=rd at*
 generalize dn d=e at*
 clear v1 v2 f1 f2
 go_enter Tryz.func161,Tryz.ntmps161
 go_wp2_with fail
 refine K1.step (hs.alloc _) ?_;intro w1 hs _
 go_wp2_with fail
 refine K2.step hs ?_;intro w2 hs _
 go_wp2_with fail
 go_ret2
 exact⟨rfl,hs.2⟩
theorem OfR {n:Int}(h0: -9223372036854775808≤n)(h1:n≤9223372036854775807):Ret 203 #[.int .i64 n] (.string (ag n)):=fun w hg=>ai4 n w h0 h1 hg
@[local go_sem high] theorem agP {P:Program} (w:World) (ts:Array TypeId) (t:TypeId):(Builtin.max_ ts t #[.int .i64 0,.int .i64 0,.int .i64 0,.int .i64 0,.int .i64 0,.int .i64 0,.int .i64 0]).run P w= .ok (.int .i64 0) w:=by
  rfl
end Go.Proofs.YtjknklinhegdoaaGreatDoor
namespace Go.Proofs.YtjknklinhegdoaaGreatDoor
open Go.RowKit Go.Shelf Dec QQ
theorem acx {k:Nat}{q:Rat}(h:bH k q):Fit k q.floor:=by
 have h1:q.floor=q.num.fdiv (q.den:Int):=by
  rw[jD (by have:=q.den_nz;omega),bJ]
 rw[h1];exact abm h.1 (by omega)
theorem Vs.one:Vs ⟨#[49]⟩ 1:=⟨by decide,by decide⟩
theorem Vs.two:Vs ⟨#[50]⟩ 2:=⟨by decide,by decide⟩
theorem ahQ {a:ByteArray}{x:Int}(h:Vs a x):Ret 162 #[.string a] (.bool (evB x)):=by
 intro w hg;have hs:=St.refl hg;have K1:=DivA h Vs.two;have e1:yP x 2=(ag (x.fdiv 2),ag (x.fmod 2),0):=by unfold yP;exact if_neg (by decide)
 rw[e1]at K1;have q:((ag (x.fmod 2)).toList == [])=evB x:=by
  rw[nil_eq];unfold evB;rw[decide_eq_decide,Int.fmod_eq_emod_of_nonneg _ (by decide)]
 dsimp only at K1;generalize ag (x.fmod 2)=r at*
 generalize ag (x.fdiv 2)=r2 at*
 generalize evB x=v at*
 clear e1
 go_enter Tryz.func162,Tryz.ntmps162
 go_wp2_with fail
 refine K1.step hs ?_;intro w1 hs _
 go_wp2_with fail
 go_ret
 exact⟨rfl,hs.2⟩
def agU (m:Int)(q:Rat):ByteArray:=if adH m=0 then ag (adG m q)else⟨#[]⟩
theorem pV {m:Int}{q:Rat}(h:q.num.fmod (q.den:Int)=0):adG m q=q.floor:=ajp ((tY q).1 h)
theorem adE {m:Int}{q:Rat}(h:q.num.fmod (q.den:Int)≠0){t:Bool}(ht:upB m (iI (rU q) (1/2)) (decide (q<0)) (evB q.floor)=t):adG m q=if t=true then q.floor+1 else q.floor:=by
 unfold adG;rw[if_neg (fun e=>h ((tY q).2 e)),ht]
theorem ou {m:Int}(h:1≤m)(h6:m≤6)(q:Rat):adH m=0∧agU m q=ag (adG m q):=by
 have e:adH m=0:=if_neg (by omega);exact⟨e,if_pos e⟩
theorem agf {n d:ByteArray}{q:Rat}{k:Nat}(_:Int)(h:Vq n d q)(hf:bH k q)(hk:k≤90000):Ret 95 #[FV n d,.int .i64 1] (.tuple #[.string (agU 1 q),.int .i64 (adH 1)]):=by
 intro w hg;have hs:=(St.refl hg).alloc (.cells #[.string n,.string d] 26);have K1:=PartsF h;have hd:(q.den:Int)≠0:=by have:=q.den_nz;omega
 have fn:Fit k q.num:=hf.1;have fd:Fit k (q.den:Int):=by have:=hf.2;unfold Fit;omega
 have v1:Vs (ag q.num) q.num:=Vs.can fn (by omega);have v2:Vs (ag (q.den:Int)) q.den:=Vs.can fd (by omega);have K2:=DivA v1 v2;have e1:yP q.num (q.den:Int)=(ag (q.num.fdiv q.den),ag (q.num.fmod q.den),0):=by unfold yP;exact if_neg hd
 rw[e1]at K2;dsimp only at K2;have fl:Fit k q.floor:=acx hf;have e2:q.num.fdiv (q.den:Int)=q.floor:=by rw[jD hd,bJ]
 rw[e2]at K2;have fr:Fit k (q.num.fmod (q.den:Int)):=by
  have h1:=Int.fmod_nonneg_of_pos q.num (show 0<(q.den:Int)by omega);have h2:=Int.fmod_lt_of_pos q.num (show 0<(q.den:Int)by omega);have:=fd;unfold Fit at this⊢
  omega
 have v3:Vs (ag q.floor) q.floor:=Vs.can fl (by omega);have v4:Vs (ag (q.num.fmod (q.den:Int))) (q.num.fmod (q.den:Int)):=Vs.can fr (by omega);have K3:=agr v3 Vs.one;have K4:=ac7 v1 Vs.nil;have K5:=agr v4 v4;have fs:Fit (k+1) (q.num.fmod (q.den:Int)+q.num.fmod (q.den:Int)):=by
  have:=fr;unfold Fit at this⊢
  rw[Nat.pow_succ];omega
 have K6:=ac7 (Vs.can fs (by omega)) v2;have e3:fA (q.num.fmod (q.den:Int)+q.num.fmod (q.den:Int)) (q.den:Int)=iI (rU q) (1/2):=ahG q;rw[e3]at K6;have K7:=ahQ v3;have qn:decide (fA q.num 0<0)=decide (q<0):=by rw[aai,decide_eq_decide];exact ajR q
 have qr:((ag (q.num.fmod (q.den:Int))).toList == [])=decide (q.num.fmod (q.den:Int)=0):=nil_eq _;unfold FV at*
 generalize fA q.num 0=cn at*
 obtain⟨c,hc⟩:∃c,iI (rU q) (1/2)=c:=⟨_,rfl⟩;obtain⟨ng,hng⟩:∃c,decide (q<0)=c:=⟨_,rfl⟩;obtain⟨ev,hev⟩:∃c,evB q.floor=c:=⟨_,rfl⟩;rw[hc]at K6;rw[hng]at qn;rw[hev]at K7;obtain⟨t1,q1⟩:∃t,decide (0<c)=t:=⟨_,rfl⟩;obtain⟨t2,q2⟩:∃t,(c==0)=t:=⟨_,rfl⟩;clear h hf hk hd fn fd v1 v2 e1 fl e2 fr v3 v4 fs e3;by_cases hz:q.num.fmod (q.den:Int)=0
 ·rw[alI hz]at qr
  have HR:Hid (∀m,adG m q=q.floor):=fun m=>pV hz
  have HM:Hid (∀m:Int,1≤m→m≤6→adH m=0∧agU m q=ag (q.floor)):=fun m h1 h2=>by rw[←HR.out m];exact ou h1 h2 q
  have HO:Hid (∀m:Int,¬(1≤m∧m≤6)→adH m=7∧agU m q=⟨#[]⟩):=fun m h1=>by
   have e:adH m=7:=if_pos (by omega);exact⟨e,if_neg (by rw[e];decide)⟩
  clear hz hc hng hev HR;generalize ag (q.num.fmod (q.den:Int)+q.num.fmod (q.den:Int))=s2 at*
  generalize ag (q.num.fmod (q.den:Int))=s1 at*
  generalize ag (q.floor+1)=s4 at*
  generalize ag q.floor=s3 at*
  generalize ag q.num=s5 at*
  generalize ag (q.den:Int)=s6 at*
  have HH:=HM.out 1 (by decide) (by decide);rw[HH.1,HH.2];clear HM HO HH
  go_enter Tryz.func95,Tryz.ntmps95
  go_wp2_with fail
  refine K1.step hs ?_;intro w1 hs _
  go_wp2_with fail
  refine K2.step hs ?_;intro w1 hs _
  go_wp2_with fail
  refine K4.step hs ?_;intro w1 hs _
  go_wp2_with fail
  refine K5.step hs ?_;intro w1 hs _
  go_wp2_with fail
  refine K6.step hs ?_;intro w1 hs _;cases t1
  ·cases t2
   ·go_wp2_with fail;go_ret2;exact⟨by rfl,hs.2⟩
   ·cases ev
    all_goals (go_wp2_with fail;refine K7.step hs ?_;intro w1 hs _;go_wp2_with fail;go_ret2;exact⟨by rfl,hs.2⟩)
  ·go_wp2_with fail;go_ret2;exact⟨by rfl,hs.2⟩
 ·rw[alH hz]at qr
  have HR:Hid (∀m t,upB m c ng ev=t→adG m q=if t=true then q.floor+1 else q.floor):=fun m t ht=>adE hz (by rw[hc,hng,hev];exact ht)
  have HM:Hid (∀m t,1≤m→m≤6→upB m c ng ev=t→adH m=0∧agU m q=if t=true then ag (q.floor+1)else ag q.floor):=fun m t h1 h2 ht=>by
   have:=ou h1 h2 q;rw[HR.out m t ht]at this;refine⟨this.1,this.2.trans ?_⟩;cases t<;>rfl
  have HO:Hid (∀m:Int,¬(1≤m∧m≤6)→adH m=7∧agU m q=⟨#[]⟩):=fun m h1=>by
   have e:adH m=7:=if_pos (by omega);exact⟨e,if_neg (by rw[e];decide)⟩
  clear hz hc hng hev HR;generalize ag (q.num.fmod (q.den:Int)+q.num.fmod (q.den:Int))=s2 at*
  generalize ag (q.num.fmod (q.den:Int))=s1 at*
  generalize ag (q.floor+1)=s4 at*
  generalize ag q.floor=s3 at*
  generalize ag q.num=s5 at*
  generalize ag (q.den:Int)=s6 at*
  have HH:=HM.out 1 _ (by decide) (by decide) rfl;rw[show upB 1 c ng ev=(decide (0<c)||((c==0)&& !ev))from rfl,q1,q2]at HH;rw[HH.1,HH.2];clear HM HO HH
  go_enter Tryz.func95,Tryz.ntmps95
  go_wp2_with fail
  refine K1.step hs ?_;intro w1 hs _
  go_wp2_with fail
  refine K2.step hs ?_;intro w1 hs _
  go_wp2_with fail
  refine K3.step hs ?_;intro w1 hs _
  go_wp2_with fail
  refine K4.step hs ?_;intro w1 hs _
  go_wp2_with fail
  refine K5.step hs ?_;intro w1 hs _
  go_wp2_with fail
  refine K6.step hs ?_;intro w1 hs _;cases t1
  ·cases t2
   ·go_wp2_with fail;go_ret2;exact⟨by rfl,hs.2⟩
   ·cases ev
    all_goals (go_wp2_with fail;refine K7.step hs ?_;intro w1 hs _;go_wp2_with fail;go_ret2;exact⟨by rfl,hs.2⟩)
  ·go_wp2_with fail;go_ret2;exact⟨by rfl,hs.2⟩
end Go.Proofs.YtjknklinhegdoaaGreatDoor
