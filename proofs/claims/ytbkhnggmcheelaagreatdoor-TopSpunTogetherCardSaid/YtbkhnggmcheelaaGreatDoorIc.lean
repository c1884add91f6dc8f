/- TopSpunTogether: Integer. Conditions: bounded sizes; variables as laid. -/
import Derived.Deep.DeepCutAuto
import Derived.Deep.RegionHeld3
import Derived.Test.YtbkhnggmcheelaaGreatDoorIb
set_option maxHeartbeats 4000000
set_option maxRecDepth 1000000
namespace Go.Proofs.YtbkhnggmcheelaaGreatDoor
open Tryz
open Go.RowKit Dec
theorem aa3 (A A':Option Addr)(c c':Nat)(a b k:Nat)(w:World)(hc:fV w A c a)(hc':fV w A' c' b)(hm:(mag a).length <=274877906944)(hm':(mag b).length <=274877906944)(hk:(mag b).length =k+2)(hle:b<=a):
 Calls prog 196 #[.slice A (mag a).length c,.slice A' (mag b).length c'] w (acC a b w):=by
 have Hc:=amy hc;have Hc':=amy hc';clear hc hc';have Hle:=amy hle;clear hle;obtain⟨v,hv⟩:=bM (mag b) (k+1) (by omega);have hvb:v<1000000000:=(aX b).at hv;obtain⟨b1,o1,hA,hB,h1⟩:=Hc'.o.1 (k+1) v hv;subst hA;have HV:=amy hv;have HK:=amy hk;rw[hk]at hm'⊢
 clear hk hv;have hv0:0<v:=by
  obtain⟨x0,x1,ld,_,h2,h3,_⟩:=zN HK.o;rw[HV.o]at h2;injection h2 with h2
  omega
 go_enter func196,ntmps196
 go_wp2_with fail
 rw[show k+2=(mag b).length from HK.o.symm];refine(jE A _ c c' a b w Hc.o.1 Hc'.o.1 (by omega) (by rw[HK.o];omega)).mono ?_;rintro e w1 ⟨r,rfl,hr,hr1,hr2,nn,rfl⟩;rw[HK.o];have q:decide (r<0)=false:=am1 (fun h=>by have:=hr.1.1 h;have:=Hle.o;omega);clear hr;have q2:((k:Int)+2==1)=false:=by simp;omega
 have q3:(((k+2:Nat):Int)==1)=false:=by simp;omega
 go_wp2_with fail
 obtain⟨s,hs,hsi,hs0,hsb,hms⟩:=ahP hv0 hvb;have HS:=amy hs;have HMS:=amy hms;rw[hsi];clear hsi hs hms q q2 q3;have HBw0:Hid (Below w.heap.size w ((w.drewN nn).alloc (.cells #[.int .u64 (s:Int)] 179))):=(below_drewN _ _ nn).alloc ano _;refine(nP A _ c 1 _ 1 a s _ rfl (by rw[HMS.o];rfl) (Hc.o.1.up HBw0.o) (by rw[HMS.o,amD];exact uQ (w.drewN nn) [s]) (by omega) (by omega)).mono ?_;rintro e w2 ⟨A2,c2,rfl,ho2,hb2⟩;obtain⟨la,hla⟩:=eX (mag (a*s));rw[hla]at ho2⊢
 obtain⟨N,hN⟩:=eX (la.length);rw[hN];have HLA:=amy hla;have HN:=amy hN;have HO2:=amy ho2;have HB2:Hid (Below w.heap.size w w2):=HBw0.o.trans (hb2.mono HBw0.o.size);have hsz2:w.heap.size<w2.heap.size:=by have:=hb2.size;rw[amD]at this;have e:(w.drewN nn).heap.size =w.heap.size:=rfl;omega
 clear hla hN ho2 hb2 HBw0;obtain⟨i0,hi,hz0,hz1,hz2⟩:=info_parts adk;have Hi:=amy hi;have Hz0:=amy hz0;have Hz1:=amy hz1;have Hz2:=amy hz2;clear hi hz0 hz1 hz2;have hNb:N<=549755813888:=by
  have h1:(mag (a*s)).length <=(mag a).length +1:=by
   rw[aH,anb];exact Nat.mul_lt_mul_of_lt_of_le (aH.1 ano) (Nat.le_of_lt hsb) dx
  rw[HLA.o,HN.o]at h1;omega
 have hNk:k+2<=N:=by
  rcases Nat.lt_or_ge N (k+2)with h|h
  ·have h1:a*s<b:=xR (by rw[HLA.o,HN.o,HK.o];exact h)
   have h2:a*1<=a*s:=ana _ hs0;have:=Hle.o;omega
  ·exact h
 have HOw:Hid ((w2.alloc (.cells #[.int .u64 0,.int .u64 0] 179)).ownsRow w.heap.size 179 1 (.slice A2 N c2) N (la.map (gvK .u64))):=by
  have:=(HO2.o.low (base':=w.heap.size) (by rw[amD];exact Nat.le_succ _)).alloc (.cells #[.int .u64 0,.int .u64 0] 179);unfold Ow at this;rw[HN.o]at this;exact this
 go_wp2_with (at_builtin;refine aB _ rfl (.tmp 55) (.tmp 56) 114 rfl w.heap.size 179 i0 (.int .u64 0) 1 8 (by kernel_rfl) Hi.o Hz0.o Hz1.o Hz2.o rfl (by omega) (.slice A2 N c2) N (la.map (gvK .u64)) rfl HOw.o (w2.heap.size+1) (some ⟨w2.heap.size,0,none⟩) 2 2 ([0,0].map (gvK .u64)) rfl (uQ w2 [0,0]).reads (sw [0,0]) (by unfold maxLen;omega) (by omega) (by simp;omega) ?_;intro v3 w3 hown3 hg3 _;have HO3:=amy hown3;have HG3:=amy hg3;clear hown3 hg3)
 have HB3:Hid (Below w.heap.size w w3):=(HB2.o.alloc (by omega) _).grown HG3.o (by simp;omega) (abO HOw.o);obtain⟨A3,c3,hv3,h3⟩:=aeV (l:=la++ [0,0]) (by rw[List.map_append];exact HO3.o) (by rw[am0,HN.o];rfl);subst hv3;obtain⟨ga,hA3,hga,hga2, -, -⟩:=h3.at (i:=N) (n:=0) (by rw[List.getElem?_append_right (by rw[HN.o];exact am4 _),HN.o,Nat.sub_self];rfl);subst hA3;have HA:=amy h3;clear h3 HO3 HG3 HOw HO2;have HBw3:Hid (Below w.heap.size w (w3.alloc (.cells #[.int .u64 (s:Int)] 179))):=HB3.o.alloc (by omega) _;refine(nP _ _ c' 1 _ 1 b s _ HK.o (by rw[HMS.o];rfl) (Hc'.o.1.up HBw3.o) (by rw[HMS.o,amD];exact uQ w3 [s]) (by omega) (by omega)).mono ?_;rintro e w4 ⟨A4,c4,rfl,ho4,hb4⟩;have hlen:(mag (b*s)).length =k+2:=by rw[HS.o];exact aes HK.o HV.o
 obtain⟨lb,hlb⟩:=eX (mag (b*s));rw[hlb]at ho4 hlen⊢
 rw[hlen];obtain⟨x0,hx0⟩:=bM lb 0 (by omega);obtain⟨gb,hA4,hgb,hgb2, -, -⟩:=ho4.at hx0;subst hA4;rw[amD]at hgb;have HLB:=amy hlb;have HLK:=amy hlen;have HBB:=amy ho4;have HA4:Hid (Ow .u64 179 w4 w.heap.size (some ⟨ga,0,none⟩) c3 (la++ [0,0])):=(HA.o.alloc _).below hb4;have HB4:Hid (Below w.heap.size w w4):=HBw3.o.trans (hb4.mono HBw3.o.size);clear hlb hlen hx0 ho4 hb4 HBw3 HA;have hmk:∀u:World,(Instr.makeSlice 114 (.int .i64 ((N:Int)+2-(k+2))) (.int .i64 ((N:Int)+2-(k+2)))).run prog u= .ok (.slice (some ⟨u.heap.size,0,none⟩) (N-k) (N-k)) (u.alloc (.cells ((List.replicate (N-k) 0).map (gvK .u64)).toArray 179)):=fun u=>by
  have:=jR (N-k) (N-k) ano (by omega) u;rwa[show ((N-k:Nat):Int)=(N:Int)+2-(k+2)by omega]at this
 obtain⟨z,hz⟩:∃z,z=(List.replicate (N-k) 0).map (gvK .u64):=⟨_,rfl⟩;rw[<-hz]at hmk;have hDk:(mag (b*s)).length =k+2:=by rw[HLB.o];exact HLK.o
 obtain⟨bz,bo,ld,hbz,hbo,hbo0,hbzb,hbob,hld,hDD⟩:=zN hDk;have hDlo:BB^(k+1)<=b*s:=by
  rcases Nat.lt_or_ge (b*s) (BB^(k+1))with h|h
  ·have:=aH.2 h;omega
  ·exact h
 have hDhi:b*s<BB^(k+2):=aH.1 (by omega);obtain⟨D,hD⟩:=eX (b*s);rw[hD]at hDD hDlo hDhi;rw[HLB.o]at hbz hbo;obtain⟨T,hT⟩:=eX (a*s);have HST:Hid (DivIs w lb N k T D ga gb w4.heap.size c3 c4 (N-k) (la++ [0,0]) (List.replicate (N-k) 0) (w4.alloc (.cells z.toArray 179))):=by
  refine af7 (by rw[<-hT];exact HLA.o) HN.o hNk hDlo (HA4.o.alloc _) ((HBB.o.low (by rw[amD];have:=HB3.o.size;omega)).alloc _) ?_ (HB4.o.alloc HB4.o.size _);have:=Ow.new w4 .u64 179 (List.replicate (N-k) 0) (by unfold maxLen;simp;omega);rw[<-hz,List.length_replicate]at this;exact this.low HB4.o.size
 have HDD:=amy hDD;have HT:=amy hT;have HD:=amy hD;have HDlo:=amy hDlo;have HDhi:=amy hDhi;have Hbz:=amy hbz;have Hbo:=amy hbo;have Hld:=amy hld;have hbzb':bz<1000000000:=hbzb;have hbob':bo<1000000000:=hbob;clear hz hDk hDD hT hD hDlo hDhi hbz hbo hld hbzb hbob;obtain⟨gq,hgq⟩:∃gq,gq=w4.heap.size:=⟨_,rfl⟩;have hgbq:gb<gq:=by omega
 have hgab:ga<gb:=by omega
 go_wp2_with fail
 rw[<-hgq]at HST⊢
 clear hmk hgq HA4 HBB HB4 HB3 hga2 hgb2 hgb
 go_loopw [13] (fun s wr=>∃(j:Nat) (al ql:List Nat),j<=N-k/\s= .int .i64 ((j:Int)-1)/\Hid (DivIs w lb N k T D ga gb gq c3 c4 j al ql wr)) (fun s _=>(intOf s+1).toNat)
 case atStart=>exact⟨N-k,_,_,am4 _,by go_num,HST.o⟩
 case round=>
  obtain⟨j,al,ql,hj,rfl,H⟩:=hrel;clear HST;by_cases hj0:j=0
  ·subst hj0
   have hc3:=H.o.oa.mg.2;rw[H.o.len]at hc3;have hc3a:N+2<=c3:=hc3.1;have hc3b:c3<=9223372036854775807:=hc3.2;have hlow:au al<D:=by have:=H.o.low;rwa[List.drop_zero]at this
   have htk:au (al.take (k+2))=au al:=by
    have e:=aW al (k+2) (by rw[H.o.len];omega);rcases Nat.eq_zero_or_pos (au (al.drop (k+2)))with h|h
    ·rw[h]at e;omega
    ·have h2:BB^(k+2)*1<=BB^(k+2)*au (al.drop (k+2)):=ana _ h
     have:=HDhi.o;omega
   obtain⟨rr,hrr⟩:=eX (au al);obtain⟨hq1,hq2⟩:=aet (m:=a) (n:=b) (s:=s) (r:=rr) (Q:=au ql) hs0 (by rw[HD.o,HT.o, <-hrr];exact H.o.sum) (by rw[HD.o, <-hrr];exact hlow);have hlen:(al.take (k+2)).length =k+2:=by rw[amO,H.o.len];omega
   have Hlen:=amy hlen;have Htk:Hid (au (al.take (k+2))=rr):=htk.trans hrr;have Hq1:=amy hq1;have Hq2:=amy hq2;have Hlow:Hid (rr<D):=by show rr<D;rw[<-hrr];exact hlow
   clear hc3 hlow htk hrr hq1 hq2 hlen;obtain⟨m1,m2,m3,m4⟩:=om (H.o.oa.take (k:=k+2) (by rw[H.o.len];omega)) (H.o.small.take _) Htk.o;have M1:=amy m1;have M2:=amy m2;clear m1 m2;obtain⟨p1,p2,p3,p4⟩:=om H.o.oq H.o.qsmall Hq1.o;have P1:=amy p1;have P2:=amy p2;clear p1 p2;have hrlen:(mag rr).length <=549755813888:=by have h1:(mag rr).length <=k+2:=aH.2 (Nat.lt_trans Hlow.o HDhi.o);omega
   go_wp2_with fail
   rw[show k+2=(al.take (k+2)).length from Hlen.o.symm];refine(lV _ _ (al.take (k+2)) wr (H.o.small.take _) (H.o.oa.mg.1.take _) (by rw[Hlen.o];omega) hc3b).mono ?_;rintro e w5 ⟨rfl,rfl⟩;rw[M1.o]
   go_wp2_with fail
   refine(uy _ _ rr s wr M2.o hrlen hs0 (by omega)).mono ?_;rintro e w6 ⟨A6,c6,rfl,hm6,hl6,hc6,hb6⟩;have M6:=amy hm6;have B6:=amy hb6;clear hm6 hb6
   go_wp2_with fail
   rw[<-H.o.qlen];refine(lV _ _ ql w6 H.o.qsmall (H.o.oq.below B6.o).mg.1 ano (by rw[H.o.qlen];omega)).mono ?_;rintro e w7 ⟨rfl,rfl⟩;rw[P1.o]
   go_wp2_with fail
   go_ret2
   refine⟨_,_,A6,c6,lw rfl (jQ (by rw[Hq2.o])),⟨P2.o.up B6.o,?_,?_⟩,⟨?_,?_,hc6⟩,H.o.below.trans (B6.o.mono H.o.below.size)⟩
   ·rw[H.o.qlen];exact p3
   ·rw[H.o.qlen];omega
   ·rw[<-Hq2.o];exact M6.o
   ·rw[<-Hq2.o];exact hl6
  ·obtain⟨i,rfl⟩:∃i,j=i+1:=⟨j-1,by omega⟩
   rw[show (((i+1:Nat):Int)-1)=(i:Int)by omega];clear hj0;obtain⟨az,ao,at_,lo,haz,hao,hat,hazb,haob,hatb,hlo,hR,hRD,hRz⟩:=aeB H.o.small (show i+k+2<al.length by rw[H.o.len];omega) H.o.low HDhi.o;have Haz:=amy haz;have Hao:=amy hao;have Hat:=amy hat;have Hlo:=amy hlo;have HR:=amy hR;have HRD:=amy hRD;have HRz:=amy hRz;have hazb':az<1000000000:=hazb;have haob':ao<1000000000:=haob;have hatb':at_<1000000000:=hatb;have hcz:wr.cell? ⟨ga,i+k,none⟩=some (.int .u64 az):=by obtain⟨g,e,_,_,h,_⟩:=H.o.oa.at haz;injection e with e;injection e with e;subst e;exact h
   have hco:wr.cell? ⟨ga,i+(k+1),none⟩=some (.int .u64 ao):=by obtain⟨g,e,_,_,h,_⟩:=H.o.oa.at hao;injection e with e;injection e with e;subst e;exact h
   have hct:wr.cell? ⟨ga,i+(k+2),none⟩=some (.int .u64 at_):=by obtain⟨g,e,_,_,h,_⟩:=H.o.oa.at hat;injection e with e;injection e with e;subst e;exact h
   have hbz2:wr.cell? ⟨gb,k,none⟩=some (.int .u64 bz):=by obtain⟨g,e,_,_,h,_⟩:=H.o.ob.at Hbz.o;injection e with e;injection e with e;subst e;exact h
   have hbo2:wr.cell? ⟨gb,k+1,none⟩=some (.int .u64 bo):=by obtain⟨g,e,_,_,h,_⟩:=H.o.ob.at Hbo.o;injection e with e;injection e with e;subst e;exact h
   clear haz hao hat hazb haob hatb hlo hR hRD hRz;have Hgi:=amy (adn HR.o Hlo.o HDD.o hazb' hbo0 HRD.o (by have:=HDlo.o;have:=Nat.pow_pos (n:=k+1) dx;omega))
   go_wp2_with fail
   go_quiet (fail)
   go_upto_region 14 with (fail)
   go_cut [15] (fun s wx=>∃g n:Nat,s= .int .u64 (g:Int)/\g<1000000000/\Hid (au (al.drop i)/D<=g/\g*bo<=at_*BB+ao)/\wx=wr.drewN n)
   case first=>
    go_wp2_with fail
    all_goals go_meet
    ·rename_i h
     have hle:999999999<=(at_*BB+ao)/bo:=by
      have e:(((at_*BB+ao)/bo:Nat):Int)=((at_:Int)*1000000000+ao)/bo:=rfl;rw[<-e]at h;generalize (at_*BB+ao)/bo=t at*
      omega
     exact⟨999999999,_,rfl,by omega,⟨amG Hgi.o (Nat.min_le_right _ _),(Nat.le_div_iff_mul_le hbo0).1 hle⟩,rfl⟩
    ·rename_i h
     have hle:(at_*BB+ao)/bo<1000000000:=by
      have e:(((at_*BB+ao)/bo:Nat):Int)=((at_:Int)*1000000000+ao)/bo:=rfl;rw[<-e]at h;generalize (at_*BB+ao)/bo=t at*
      omega
     exact⟨(at_*BB+ao)/bo,_,rfl,hle,⟨amG Hgi.o (Nat.min_le_left _ _),Nat.div_mul_le_self _ _⟩,rfl⟩
   case rest=>
   obtain⟨g0,n0,rfl,hg0,Hg0,rfl⟩:=hcut
   go_wp2_with fail
   go_loopw [15] (fun s wx=>∃(g n:Nat),s= .int .u64 (g:Int)/\g<1000000000/\Hid (au (al.drop i)/D<=g/\g*bo<=at_*BB+ao)/\wx=wr.drewN n) (fun s _=>(intOf s).toNat)
   case atStart=>exact⟨g0,n0,rfl,hg0,Hg0,rfl⟩
   case round=>
   obtain⟨g,n1,rfl,hg,Hg,rfl⟩:=hrel;clear Hg0 Hgi;have hgt:(g:Int)*bo<=(at_:Int)*1000000000+ao:=by have:=Int.ofNat_le.2 Hg.o.2;rw[Int.natCast_mul]at this;exact this
   have hgt0:(0:Int)<=(g:Int)*bo:=Int.mul_nonneg (by omega) (by omega);obtain⟨lf,hlf⟩:∃lf:Nat,lf=at_*BB+ao-g*bo:=⟨_,rfl⟩;have hlfi:(at_:Int)*1000000000+ao-(g:Int)*bo=(lf:Int):=by
    have h1:=Hg.o.2;have h2:((at_*BB+ao:Nat):Int)=(at_:Int)*1000000000+ao:=rfl;have h3:((g*bo:Nat):Int)=(g:Int)*bo:=Int.natCast_mul _ _;omega
   have HLF:=amy hlf;clear hlf;obtain⟨st,hst⟩:∃st:Bool,st=decide (BB<=lf\/g*bz<=lf*BB+az):=⟨_,rfl⟩;have HST:=amy hst;clear hst;have HI:=amy hlfi;clear hlfi
   go_wp2_with fail
   rw[HI.o]
   go_upto_region 16 with (fail)
   go_cut [131] (fun s wx=>∃n:Nat,s= .bool st/\wx=wr.drewN n)
   case first=>
    by_cases hbig:BB<=lf
    ·have q:decide ((1000000000:Int)<=(lf:Int))=true:=am2 (by unfold BB at hbig;omega)
     go_quiet (fail)
     go_wp2_with fail
     go_meet
     exact⟨_,by rw[HST.o,am2 (Or.inl hbig)],World.drewN_drewN _ _ _⟩
    ·have hlfb:lf<1000000000:=by unfold BB at hbig;omega
     have q:decide ((1000000000:Int)<=(lf:Int))=false:=am1 (by omega);have hgz:(g:Int)*bz<=999999998000000001:=by have:=Int.ofNat_le.2 (kZ hg hg hg hbzb').1;rwa[Int.natCast_mul]at this
     have hgz0:(0:Int)<=(g:Int)*bz:=Int.mul_nonneg (by omega) (by omega);have hczA:wr.cell? ⟨ga,i+(k+2)-2,none⟩=some (.int .u64 az):=by rw[show i+(k+2)-2=i+k by omega];exact hcz
     have hczB:wr.cell? ⟨ga,i+(k+2-2),none⟩=some (.int .u64 az):=by rw[show i+(k+2-2)=i+k by omega];exact hcz
     go_quiet (fail)
     go_wp2_with fail
     go_meet
     refine⟨_,?_,World.drewN_drewN _ _ _⟩;rw[HST.o];congr 1;rw[ang];have e1:((g*bz:Nat):Int)=(g:Int)*bz:=Int.natCast_mul _ _;have e2:((lf*BB+az:Nat):Int)=(lf:Int)*1000000000+az:=rfl;omega
   case rest=>
   obtain⟨n2,rfl,rfl⟩:=hcut;cases st with
   |false=>
    have hno:¬(BB<=lf\/g*bz<=lf*BB+az):=of_decide_eq_false HST.o.symm;have hgo:=aiN HR.o Hlo.o HDD.o Hg.o.2 (by rw[<-HLF.o];exact fun h=>hno (.inr h));have hg1:0<g:=Nat.lt_of_le_of_lt (Nat.zero_le _) hgo;have Hgo:=amy hgo;clear hno hgo
    go_wp2_with fail
    go_roundw
    case rel=>
     refine⟨g-1,n2,by rw[show ((g-1:Nat):Int)=(g:Int)-1 by omega],by omega,⟨by have:=Hgo.o;omega,?_⟩,rfl⟩;exact amG (Nat.mul_le_mul_right _ (Nat.sub_le _ _)) Hg.o.2
    case measure=>simp[intOf];omega
   |true=>
    have hyes:BB<=lf\/g*bz<=lf*BB+az:=of_decide_eq_true HST.o.symm;have hstop:=adm HR.o HDD.o Hld.o hbo0 hbzb' hg Hg.o.2 (by rw[<-HLF.o];exact hyes);have Hstop:=amy hstop;have HW:=amy (H.o.drewN n2);clear hyes hstop hgt hgt0 hct hco hcz hbz2 hbo2 HLF HI HST;have hD0:0<D:=by have:=HDlo.o;have:=Nat.pow_pos (n:=k+1) dx;omega
    have HD0:=amy hD0;clear hD0
    go_wp2_with fail
    generalize wr.drewN n2=W0 at*
    have hnb:gb≠ga:=by omega
    have hnq:gq≠ga:=by omega
    have HVD:Hid (au lb=D):=by show _=_;rw[<-HLB.o,bu,HD.o]
    go_loopw [136,17] (fun s u wx=>∃(j cy:Nat) (o:List Nat),j<=k+2/\s= .int .i64 (j:Int)/\u= .int .u64 (cy:Int)/\cy<1000000000/\Hid (SubIs w lb al ql N k ga gb gq c3 c4 i g j cy o wx)) (fun s _ _=>(k+2-intOf s).toNat)
    case atStart=>exact⟨0,0,al,by omega,rfl,rfl,by omega,HW.o.sub i g⟩
    case round=>
    obtain⟨j,cy,o,hjk,rfl,rfl,hcy,S⟩:=hrel;by_cases hjl:j=k+2
    ·subst hjl
     rw[show (((k+2:Nat)):Int)=(k:Int)+2 from rfl];have ht:o[i+(k+2)]? =some at_:=(S.o.same _ ano).trans Hat.o;obtain⟨hcx,hfx,hbx⟩:=gz S.o.oa ht;have hqz:ql[i]? =some 0:=HW.o.qz i (by omega);obtain⟨hcq,hfq,hbq⟩:=gz S.o.oq hqz;have hsum:au o+g*D*BB^i=au al+cy*BB^(i+(k+2)):=by
      have:=S.o.sum;rwa[amK (by rw[HLK.o];exact am4 _),HVD.o]at this
     have Ht:=amy ht;have Hqz:=amy hqz;have Hsum:=amy hsum;clear ht hqz hsum;have hgaq:ga≠gq:=by omega
     have hqc:∀v,(wr.setCell ⟨ga,i+(k+2),none⟩ v).cell? ⟨gq,i,none⟩=some (.int .u64 0):=fun v=>(gz (S.o.oq.other hnq) Hqz.o).1
     have hqf:∀v,(wr.setCell ⟨ga,i+(k+2),none⟩ v).frozen? ⟨gq,i,none⟩=false:=fun v=>(gz (S.o.oq.other hnq) Hqz.o).2.1
     by_cases hge:cy<=at_
     ·have q:decide (cy<=at_)=true:=am2 (by omega)
      have He:=amy (ahB S.o.alike (show i+(k+2)<al.length by rw[HW.o.len];omega) Ht.o Hsum.o hge Hg.o.1 HD0.o)
      go_wp2_with fail
      go_roundw
      case rel=>
       have e:((at_-cy:Nat):Int)=(at_:Int)-cy:=by omega
       refine⟨i,o.set (i+(k+2)) (at_-cy),ql.set i g,by omega,by go_num,HW.o.next (by omega) HD0.o hg (S.o.small.set _ (by unfold BB;omega)) (S.o.alike.set (by omega)) He.o.1 He.o.2 ?_ ((S.o.ob.other hnb).other (by omega)) ?_ ((S.o.below.setCell hbx _).setCell hbq _)⟩
       ·have:=S.o.oa.set (i+(k+2)) (at_-cy)
        rw[e]at this;exact this.other hgaq
       ·exact(S.o.oq.other hnq).set i g
      case measure=>simp[intOf]
     ·have q:decide (cy<=at_)=false:=am1 (by omega)
      have hge':at_<cy:=by omega
      clear hge hqc hqf;have hg1:=ahA S.o.small S.o.alike Hat.o HRz.o S.o.same Hsum.o hge' Hstop.o HD0.o;have hg0':0<g:=by rw[hg1];exact Nat.succ_pos _
      have Hg1:=amy hg1;clear hg1
      go_wp2_with fail
      go_loopw [200,20] (fun s u wx=>∃(j c2:Nat) (o2:List Nat),j<=k+2/\s= .int .i64 (j:Int)/\u= .int .u64 (c2:Int)/\c2<=1/\Hid (AddIs w lb o ql N k ga gb gq c3 c4 i j c2 o2 wx)) (fun s _ _=>(k+2-intOf s).toNat)
      case atStart=>exact⟨0,0,o,by omega,rfl,rfl,by omega,S.o.add⟩
      case round=>
      obtain⟨j,c2,o2,hjk2,rfl,rfl,hc2,Q⟩:=hrel;by_cases hjl:j=k+2
      ·subst hjl
       have ht2:o2[i+(k+2)]? =some at_:=(Q.o.same _ ano).trans Ht.o;obtain⟨hcx2,hfx2,hbx2⟩:=gz Q.o.oa ht2;have hqc:∀v,(wr.setCell ⟨ga,i+(k+2),none⟩ v).cell? ⟨gq,i,none⟩=some (.int .u64 0):=fun v=>(gz (Q.o.oq.other hnq) Hqz.o).1
       have hqf:∀v,(wr.setCell ⟨ga,i+(k+2),none⟩ v).frozen? ⟨gq,i,none⟩=false:=fun v=>(gz (Q.o.oq.other hnq) Hqz.o).2.1
       have hqb:=(gz Q.o.oq Hqz.o).2.2;have He:=amy (amh Q.o.small S.o.alike Q.o.alike Hat.o HRz.o S.o.same Q.o.same Hsum.o Hg1.o HD0.o HDhi.o (by
        have:=Q.o.sum;rwa[amK (by rw[HLK.o];exact am4 _),HVD.o]at this))
       have hcc:cy<=at_+c2:=by rw[He.o.1];exact am4 _
       go_wp2_with fail
       go_roundw
       case rel=>
        have e:(at_:Int)+c2-cy=((0:Nat):Int):=by have:=He.o.1;omega
        have e2:(g:Int)-1=((g-1:Nat):Int):=by omega
        rw[e,e2];refine⟨i,o2.set (i+(k+2)) 0,ql.set i (g-1),by omega,by go_num,HW.o.next (by omega) HD0.o (by unfold BB;omega) (Q.o.small.set _ dx) ((Dec.Alike.trans S.o.alike Q.o.alike).set (by omega)) (by have:=Hg1.o;omega) He.o.2 ?_ ((Q.o.ob.other hnb).other (by omega)) ?_ ((Q.o.below.setCell hbx2 _).setCell hqb _)⟩
        ·exact(Q.o.oa.set (i+(k+2)) 0).other hgaq
        ·exact(Q.o.oq.other hnq).set i (g-1)
       case measure=>simp[intOf]
      ·have hjl':j<k+2:=by omega
       clear hjl;obtain⟨y,hy⟩:=bM lb j (by rw[HLK.o];exact hjl');obtain⟨x,hx⟩:=bM o2 (i+j) (by rw[Q.o.alike.1,S.o.alike.1,HW.o.len];omega);have hyb:y<1000000000:=by have:=aX (b*s);rw[HLB.o]at this;exact this.at hy
       have hxb:x<1000000000:=Q.o.small.at hx;obtain⟨hcy1, -, -⟩:=gz Q.o.ob hy;obtain⟨hcx2,hfx2,hbx2⟩:=gz Q.o.oa hx;have HY:=amy hy;have HX:=amy hx;clear hy hx;have hij:i+j<N+2:=by omega
       go_wp2_with fail
       have hw1:IntKind.i64.wrap ((i:Int)+j)=(i:Int)+j:=IntWalk.i64_in _ (by omega);have hw2:(0:Int)<=(i:Int)+j:=by omega
       have hw3:((i:Int)+j).toNat =i+j:=by omega
       have hw4:(i:Int)+j<(N:Int)+2:=by omega
       go_still_tail 14,(by kernel_rfl)
       clear hw1 hw2 hw3 hw4
       go_wp2_with fail
       go_roundw
       case rel=>
        refine⟨j+1,(x+(y+c2))/BB,o2.set (i+j) ((x+(y+c2))%BB),by omega,by go_num,rfl,by unfold BB;omega,Q.o.next (Nat.mod_lt _ dx) (ajK HX.o HY.o Q.o.sum) ?_ ((Q.o.ob.other hnb).other hnb) ((Q.o.oq.other hnq).other hnq) ((Q.o.below.setCell hbx2 _).setCell hbx2 _).drew⟩;have:=(Q.o.oa.set (i+j) (x+(y+c2))).set (i+j) ((x+(y+c2))%BB);rw[List.set_set]at this;exact this
       case measure=>simp[intOf];omega
    ·have hjl':j<k+2:=by omega
     clear hjl;obtain⟨y,hy⟩:=bM lb j (by rw[HLK.o];exact hjl');obtain⟨x,hx⟩:=bM o (i+j) (by rw[S.o.alike.1,H.o.len];omega);have hyb:y<1000000000:=by have:=aX (b*s);rw[HLB.o]at this;exact this.at hy
     have hxb:x<1000000000:=S.o.small.at hx;obtain⟨hcy1, -, -⟩:=gz S.o.ob hy;obtain⟨hcx,hfx,hbx⟩:=gz S.o.oa hx;have HY:=amy hy;have HX:=amy hx;clear hy hx;have hsb:=aed (x:=x) hg hcy hyb;obtain⟨p,hp⟩:∃p:Nat,p=g*y:=⟨_,rfl⟩;have hpi:(g:Int)*y=(p:Int):=by rw[hp];exact(Int.natCast_mul _ _).symm
     rw[<-hp]at hsb;have hpb:=hsb.1;have hq1:(p+cy)/1000000000<1000000000:=hsb.2.1;have hq2:x<(p+cy)%1000000000->(p+cy)/1000000000+1<1000000000:=hsb.2.2;have HP:=amy hp;have HQ2:=amy hq2;clear hsb hp hq2;by_cases hlt:x<(p+cy)%1000000000
     ·have q:decide ((x:Int)<((p:Int)+cy)%1000000000)=true:=am2 (by omega)
      go_wp2_with fail
      go_roundw
      case rel=>
       have e:((x+BB-(p+cy)%BB:Nat):Int)=(x:Int)+1000000000-((p:Int)+cy)%1000000000:=by unfold BB;omega
       refine⟨j+1,(p+cy)/BB+1,o.set (i+j) (x+BB-(p+cy)%BB),by omega,by go_num,rfl,HQ2.o hlt,S.o.next (by unfold BB;omega) ?_ ?_ ((S.o.ob.other hnb).other hnb) ((S.o.oq.other hnq).other hnq) ((S.o.below.setCell hbx _).setCell hbx _)⟩
       ·have:=aeb HX.o HY.o S.o.sum
        rw[<-HP.o]at this;exact this
       ·have:=(S.o.oa.set (i+j) (x+BB)).set (i+j) (x+BB-(p+cy)%BB)
        rw[List.set_set,e]at this;exact this
      case measure=>simp[intOf];omega
     ·have q:decide ((x:Int)<((p:Int)+cy)%1000000000)=false:=am1 (by omega)
      go_wp2_with fail
      go_roundw
      case rel=>
       have e:((x-(p+cy)%BB:Nat):Int)=(x:Int)-((p:Int)+cy)%1000000000:=by unfold BB;omega
       refine⟨j+1,(p+cy)/BB,o.set (i+j) (x-(p+cy)%BB),by omega,by go_num,rfl,hq1,S.o.next (by unfold BB;omega) ?_ ?_ (S.o.ob.other hnb) (S.o.oq.other hnq) (S.o.below.setCell hbx _)⟩
       ·have:=aec HX.o HY.o S.o.sum (by rw[<-HP.o];unfold BB;omega)
        rw[<-HP.o]at this;exact this
       ·have:=S.o.oa.set (i+j) (x-(p+cy)%BB)
        rw[e]at this;exact this
      case measure=>simp[intOf];omega
theorem adv (A A':Option Addr)(c c':Nat)(a b:Nat)(w:World)(hc:fV w A c a)(hc':fV w A' c' b)(hm:(mag a).length <=274877906944)(hm':(mag b).length <=274877906944)(hb:b≠0):
 Calls prog 196 #[.slice A (mag a).length c,.slice A' (mag b).length c'] w (acC a b w):=by
 rcases Nat.lt_or_ge a b with h|h
 ·exact aa4 A A' c c' a b w hc hc' hm hm' h
 ·by_cases h1:(mag b).length =1
  ·exact adu A A' c c' a b w hc hc' hm h1 h
  ·have h0:(mag b).length ≠0:=fun e=>hb (oC.1 (amX e))
   exact aa3 A A' c c' a b ((mag b).length -2) w hc hc' hm hm' (by omega) h
end Go.Proofs.YtbkhnggmcheelaaGreatDoor
