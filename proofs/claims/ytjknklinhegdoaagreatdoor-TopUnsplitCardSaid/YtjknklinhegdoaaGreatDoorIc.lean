/- Integer: divide, long division. Conditions: lengths below 2^38. -/
import Derived.IntWalk
import Derived.Deep.DeepCutAuto
import Derived.Deep.RegionHeld3
import Derived.Test.YtjknklinhegdoaaGreatDoorIb
set_option maxHeartbeats 4000000
set_option maxRecDepth 1000000
namespace Go.Proofs.YtjknklinhegdoaaGreatDoor
open Go.RowKit Dec
theorem aab (A A':Option Addr)(c c':Nat)(a b k:Nat)(w:World)(hc:fu w A c a)(hc':fu w A' c' b)(hm:(mag a).length ≤274877906944)(hm':(mag b).length ≤274877906944)(hk:(mag b).length =k+2)(hle:b≤a):
 Calls Tryz.prog 205 #[.slice A (mag a).length c,.slice A' (mag b).length c'] w (abK a b w):=by
 have Hc:=ala hc;have Hc':=ala hc';clear hc hc';have Hle:=ala hle;clear hle;obtain⟨v,hv⟩:=bC (mag b) (k+1) (by omega);have hvb:v<1000000000:=(aS b).at hv;obtain⟨b1,o1,hA,hB,h1⟩:=Hc'.out.1 (k+1) v hv;subst hA;have HV:=ala hv;have HK:=ala hk;rw[hk]at hm'⊢
 clear hk hv;have hv0:0<v:=by
  obtain⟨x0,x1,ld,_,h2,h3,_⟩:=yo HK.out;rw[HV.out]at h2;injection h2 with h2
  omega
 go_enter Tryz.func205,Tryz.ntmps205
 go_wp2_with fail
 rw[show k+2=(mag b).length from HK.out.symm];refine(iZ A _ c c' a b w Hc.out.1 Hc'.out.1 (by omega) (by rw[HK.out];omega)).mono ?_;rintro e w1 ⟨r,rfl,hr,hr1,hr2,nn,rfl⟩;rw[HK.out];have q:decide (r<0)=false:=alH (fun h=>by have:=hr.1.1 h;have:=Hle.out;omega);clear hr;have q2:((k:Int)+2==1)=false:=by simp;omega
 have q3:(((k+2:Nat):Int)==1)=false:=by simp;omega
 go_wp2_with fail
 obtain⟨s,hs,hsi,hs0,hsb,hms⟩:=agL hv0 hvb;have HS:=ala hs;have HMS:=ala hms;rw[hsi];clear hsi hs hms q q2 q3;have HBw0:Hid (Below w.heap.size w ((w.drewN nn).alloc (.cells #[.int .u64 (s:Int)] 185))):=(below_drewN _ _ nn).alloc alK _;refine(mF A _ c 1 _ 1 a s _ rfl (by rw[HMS.out];rfl) (Hc.out.1.up HBw0.out) (by rw[HMS.out,alf];exact tL (w.drewN nn) [s]) (by omega) (by omega)).mono ?_;rintro e w2 ⟨A2,c2,rfl,ho2,hb2⟩;obtain⟨la,hla⟩:∃la,mag (a*s)=la:=⟨_,rfl⟩;rw[hla]at ho2⊢
 obtain⟨N,hN⟩:∃N,la.length=N:=⟨_,rfl⟩;rw[hN];have HLA:=ala hla;have HN:=ala hN;have HO2:=ala ho2;have HB2:Hid (Below w.heap.size w w2):=HBw0.out.trans (hb2.mono HBw0.out.size);have hsz2:w.heap.size<w2.heap.size:=by have:=hb2.size;rw[alf]at this;have e:(w.drewN nn).heap.size =w.heap.size:=rfl;omega
 clear hla hN ho2 hb2 HBw0;obtain⟨i0,hi,hz0,hz1,hz2⟩:=info_parts acr;have Hi:=ala hi;have Hz0:=ala hz0;have Hz1:=ala hz1;have Hz2:=ala hz2;clear hi hz0 hz1 hz2;have hNb:N≤549755813888:=by
  have h1:(mag (a*s)).length ≤(mag a).length +1:=by
   rw[aC,Nat.pow_succ];exact Nat.mul_lt_mul_of_lt_of_le (aC.1 alK) (Nat.le_of_lt hsb) bV
  rw[HLA.out,HN.out]at h1;omega
 have hNk:k+2≤N:=by
  rcases Nat.lt_or_ge N (k+2)with h|h
  ·have h1:a*s<b:=wu (by rw[HLA.out,HN.out,HK.out];exact h)
   have h2:a*1≤a*s:=Nat.mul_le_mul_left _ hs0;have:=Hle.out;omega
  ·exact h
 have HOw:Hid ((w2.alloc (.cells #[.int .u64 0,.int .u64 0] 185)).ownsRow w.heap.size 185 1 (.slice A2 N c2) N (la.map (gvK .u64))):=by
  have:=(HO2.out.low (base':=w.heap.size) (by rw[alf];exact Nat.le_succ _)).alloc (.cells #[.int .u64 0,.int .u64 0] 185);unfold Ow at this;rw[HN.out]at this;exact this
 go_wp2_with (at_builtin;refine aF _ rfl (.tmp 55) (.tmp 56) 121 rfl w.heap.size 185 i0 (.int .u64 0) 1 8 (by kernel_rfl) Hi.out Hz0.out Hz1.out Hz2.out rfl (by omega) (.slice A2 N c2) N (la.map (gvK .u64)) rfl HOw.out (w2.heap.size+1) (some ⟨w2.heap.size,0,none⟩) 2 2 ([0,0].map (gvK .u64)) rfl (tL w2 [0,0]).reads (qF [0,0]) (by unfold maxLen;omega) (by omega) (by simp;omega) ?_;intro v3 w3 hown3 hg3 _;have HO3:=ala hown3;have HG3:=ala hg3;clear hown3 hg3)
 have HB3:Hid (Below w.heap.size w w3):=(HB2.out.alloc (by omega) _).grown HG3.out (by simp;omega) (aaU HOw.out);obtain⟨A3,c3,hv3,h3⟩:=ad3 (l:=la++ [0,0]) (by rw[List.map_append];exact HO3.out) (by rw[alG,HN.out];rfl);subst hv3;obtain⟨ga,hA3,hga,hga2, -, -⟩:=h3.at (i:=N) (n:=0) (by rw[List.getElem?_append_right (by rw[HN.out];exact Nat.le_refl _),HN.out,Nat.sub_self];rfl);subst hA3;have HA:=ala h3;clear h3 HO3 HG3 HOw HO2;have HBw3:Hid (Below w.heap.size w (w3.alloc (.cells #[.int .u64 (s:Int)] 185))):=HB3.out.alloc (by omega) _;refine(mF _ _ c' 1 _ 1 b s _ HK.out (by rw[HMS.out];rfl) (Hc'.out.1.up HBw3.out) (by rw[HMS.out,alf];exact tL w3 [s]) (by omega) (by omega)).mono ?_;rintro e w4 ⟨A4,c4,rfl,ho4,hb4⟩;have hlen:(mag (b*s)).length =k+2:=by rw[HS.out];exact adx HK.out HV.out
 obtain⟨lb,hlb⟩:∃lb,mag (b*s)=lb:=⟨_,rfl⟩;rw[hlb]at ho4 hlen⊢
 rw[hlen];obtain⟨x0,hx0⟩:=bC lb 0 (by omega);obtain⟨gb,hA4,hgb,hgb2, -, -⟩:=ho4.at hx0;subst hA4;rw[alf]at hgb;have HLB:=ala hlb;have HLK:=ala hlen;have HBB:=ala ho4;have HA4:Hid (Ow .u64 185 w4 w.heap.size (some ⟨ga,0,none⟩) c3 (la++ [0,0])):=(HA.out.alloc _).below hb4;have HB4:Hid (Below w.heap.size w w4):=HBw3.out.trans (hb4.mono HBw3.out.size);clear hlb hlen hx0 ho4 hb4 HBw3 HA;have hmk:∀u:World,(Instr.makeSlice 121 (.int .i64 ((N:Int)+2-(k+2))) (.int .i64 ((N:Int)+2-(k+2)))).run Tryz.prog u= .ok (.slice (some ⟨u.heap.size,0,none⟩) (N-k) (N-k)) (u.alloc (.cells ((List.replicate (N-k) 0).map (gvK .u64)).toArray 185)):=fun u=>by
  have:=jq (N-k) (N-k) alK (by omega) u;rwa[show ((N-k:Nat):Int)=(N:Int)+2-(k+2)by omega]at this
 obtain⟨z,hz⟩:∃z,z=(List.replicate (N-k) 0).map (gvK .u64):=⟨_,rfl⟩;rw[←hz]at hmk;have hDk:(mag (b*s)).length =k+2:=by rw[HLB.out];exact HLK.out
 obtain⟨bz,bo,ld,hbz,hbo,hbo0,hbzb,hbob,hld,hDD⟩:=yo hDk;have hDlo:BB^(k+1)≤b*s:=by
  rcases Nat.lt_or_ge (b*s) (BB^(k+1))with h|h
  ·have:=aC.2 h;omega
  ·exact h
 have hDhi:b*s<BB^(k+2):=aC.1 (by omega);obtain⟨D,hD⟩:∃D,b*s=D:=⟨_,rfl⟩;rw[hD]at hDD hDlo hDhi;rw[HLB.out]at hbz hbo;obtain⟨T,hT⟩:∃T,a*s=T:=⟨_,rfl⟩;have HST:Hid (DivIs w lb N k T D ga gb w4.heap.size c3 c4 (N-k) (la++ [0,0]) (List.replicate (N-k) 0) (w4.alloc (.cells z.toArray 185))):=by
  refine ae7 (by rw[←hT];exact HLA.out) HN.out hNk hDlo (HA4.out.alloc _) ((HBB.out.low (by rw[alf];have:=HB3.out.size;omega)).alloc _) ?_ (HB4.out.alloc HB4.out.size _);have:=Ow.new w4 .u64 185 (List.replicate (N-k) 0) (by unfold maxLen;simp;omega);rw[←hz,List.length_replicate]at this;exact this.low HB4.out.size
 have HDD:=ala hDD;have HT:=ala hT;have HD:=ala hD;have HDlo:=ala hDlo;have HDhi:=ala hDhi;have Hbz:=ala hbz;have Hbo:=ala hbo;have Hld:=ala hld;have hbzb':bz<1000000000:=hbzb;have hbob':bo<1000000000:=hbob;clear hz hDk hDD hT hD hDlo hDhi hbz hbo hld hbzb hbob;obtain⟨gq,hgq⟩:∃gq,gq=w4.heap.size:=⟨_,rfl⟩;have hgbq:gb<gq:=by omega
 have hgab:ga<gb:=by omega
 go_wp2_with fail
 rw[←hgq]at HST⊢
 clear hmk hgq HA4 HBB HB4 HB3 hga2 hgb2 hgb
 go_loopw [13] (fun s wr=>∃(j:Nat) (al ql:List Nat),j≤N-k∧s= .int .i64 ((j:Int)-1)∧Hid (DivIs w lb N k T D ga gb gq c3 c4 j al ql wr)) (fun s _=>(intOf s+1).toNat)
 case atStart=>exact⟨N-k,_,_,Nat.le_refl _,by go_num,HST.out⟩
 case round=>
  obtain⟨j,al,ql,hj,rfl,H⟩:=hrel;clear HST;by_cases hj0:j=0
  ·subst hj0
   have hc3:=H.out.oa.mg.2;rw[H.out.len]at hc3;have hc3a:N+2≤c3:=hc3.1;have hc3b:c3≤9223372036854775807:=hc3.2;have hlow:ak al<D:=by have:=H.out.low;rwa[List.drop_zero]at this
   have htk:ak (al.take (k+2))=ak al:=by
    have e:=aR al (k+2) (by rw[H.out.len];omega);rcases Nat.eq_zero_or_pos (ak (al.drop (k+2)))with h|h
    ·rw[h]at e;omega
    ·have h2:BB^(k+2)*1≤BB^(k+2)*ak (al.drop (k+2)):=Nat.mul_le_mul_left _ h
     have:=HDhi.out;omega
   obtain⟨rr,hrr⟩:∃rr,ak al=rr:=⟨_,rfl⟩;obtain⟨hq1,hq2⟩:=ady (m:=a) (n:=b) (s:=s) (r:=rr) (Q:=ak ql) hs0 (by rw[HD.out,HT.out, ←hrr];exact H.out.sum) (by rw[HD.out, ←hrr];exact hlow);have hlen:(al.take (k+2)).length =k+2:=by rw[alr,H.out.len];omega
   have Hlen:=ala hlen;have Htk:Hid (ak (al.take (k+2))=rr):=htk.trans hrr;have Hq1:=ala hq1;have Hq2:=ala hq2;have Hlow:Hid (rr<D):=by show rr<D;rw[←hrr];exact hlow
   clear hc3 hlow htk hrr hq1 hq2 hlen;obtain⟨m1,m2,m3,m4⟩:=ni (H.out.oa.take (k:=k+2) (by rw[H.out.len];omega)) (H.out.small.take _) Htk.out;have M1:=ala m1;have M2:=ala m2;clear m1 m2;obtain⟨p1,p2,p3,p4⟩:=ni H.out.oq H.out.qsmall Hq1.out;have P1:=ala p1;have P2:=ala p2;clear p1 p2;have hrlen:(mag rr).length ≤549755813888:=by have h1:(mag rr).length ≤k+2:=aC.2 (Nat.lt_trans Hlow.out HDhi.out);omega
   go_wp2_with fail
   rw[show k+2=(al.take (k+2)).length from Hlen.out.symm];refine(kT _ _ (al.take (k+2)) wr (H.out.small.take _) (H.out.oa.mg.1.take _) (by rw[Hlen.out];omega) hc3b).mono ?_;rintro e w5 ⟨rfl,rfl⟩;rw[M1.out]
   go_wp2_with fail
   refine(sI _ _ rr s wr M2.out hrlen hs0 (by omega)).mono ?_;rintro e w6 ⟨A6,c6,rfl,hm6,hl6,hc6,hb6⟩;have M6:=ala hm6;have B6:=ala hb6;clear hm6 hb6
   go_wp2_with fail
   rw[←H.out.qlen];refine(kT _ _ ql w6 H.out.qsmall (H.out.oq.below B6.out).mg.1 alK (by rw[H.out.qlen];omega)).mono ?_;rintro e w7 ⟨rfl,rfl⟩;rw[P1.out]
   go_wp2_with fail
   go_ret2
   refine⟨_,_,A6,c6,kD rfl (jo (by rw[Hq2.out])),⟨P2.out.up B6.out,?_,?_⟩,⟨?_,?_,hc6⟩,H.out.below.trans (B6.out.mono H.out.below.size)⟩
   ·rw[H.out.qlen];exact p3
   ·rw[H.out.qlen];omega
   ·rw[←Hq2.out];exact M6.out
   ·rw[←Hq2.out];exact hl6
  ·obtain⟨i,rfl⟩:∃i,j=i+1:=⟨j-1,by omega⟩
   rw[show (((i+1:Nat):Int)-1)=(i:Int)by omega];clear hj0;obtain⟨az,ao,at_,lo,haz,hao,hat,hazb,haob,hatb,hlo,hR,hRD,hRz⟩:=adI H.out.small (show i+k+2<al.length by rw[H.out.len];omega) H.out.low HDhi.out;have Haz:=ala haz;have Hao:=ala hao;have Hat:=ala hat;have Hlo:=ala hlo;have HR:=ala hR;have HRD:=ala hRD;have HRz:=ala hRz;have hazb':az<1000000000:=hazb;have haob':ao<1000000000:=haob;have hatb':at_<1000000000:=hatb;have hcz:wr.cell? ⟨ga,i+k,none⟩=some (.int .u64 az):=by obtain⟨g,e,_,_,h,_⟩:=H.out.oa.at haz;injection e with e;injection e with e;subst e;exact h
   have hco:wr.cell? ⟨ga,i+(k+1),none⟩=some (.int .u64 ao):=by obtain⟨g,e,_,_,h,_⟩:=H.out.oa.at hao;injection e with e;injection e with e;subst e;exact h
   have hct:wr.cell? ⟨ga,i+(k+2),none⟩=some (.int .u64 at_):=by obtain⟨g,e,_,_,h,_⟩:=H.out.oa.at hat;injection e with e;injection e with e;subst e;exact h
   have hbz2:wr.cell? ⟨gb,k,none⟩=some (.int .u64 bz):=by obtain⟨g,e,_,_,h,_⟩:=H.out.ob.at Hbz.out;injection e with e;injection e with e;subst e;exact h
   have hbo2:wr.cell? ⟨gb,k+1,none⟩=some (.int .u64 bo):=by obtain⟨g,e,_,_,h,_⟩:=H.out.ob.at Hbo.out;injection e with e;injection e with e;subst e;exact h
   clear haz hao hat hazb haob hatb hlo hR hRD hRz;have Hgi:=ala (acv HR.out Hlo.out HDD.out hazb' hbo0 HRD.out (by have:=HDlo.out;have:=Nat.pow_pos (n:=k+1) bV;omega))
   go_wp2_with fail
   go_quiet (fail)
   go_upto_region 14 with (fail)
   go_cut [15] (fun s wx=>∃g n:Nat,s= .int .u64 (g:Int)∧g<1000000000∧Hid (ak (al.drop i)/D≤g∧g*bo≤at_*BB+ao)∧wx=wr.drewN n)
   case first=>
    go_wp2_with fail
    all_goals go_meet
    ·rename_i h
     have hle:999999999≤(at_*BB+ao)/bo:=by
      have e:(((at_*BB+ao)/bo:Nat):Int)=((at_:Int)*1000000000+ao)/bo:=rfl;rw[←e]at h;generalize (at_*BB+ao)/bo=t at*
      omega
     exact⟨999999999,_,rfl,by omega,⟨ali Hgi.out (Nat.min_le_right _ _),(Nat.le_div_iff_mul_le hbo0).1 hle⟩,rfl⟩
    ·rename_i h
     have hle:(at_*BB+ao)/bo<1000000000:=by
      have e:(((at_*BB+ao)/bo:Nat):Int)=((at_:Int)*1000000000+ao)/bo:=rfl;rw[←e]at h;generalize (at_*BB+ao)/bo=t at*
      omega
     exact⟨(at_*BB+ao)/bo,_,rfl,hle,⟨ali Hgi.out (Nat.min_le_left _ _),Nat.div_mul_le_self _ _⟩,rfl⟩
   case rest=>
   obtain⟨g0,n0,rfl,hg0,Hg0,rfl⟩:=hcut
   go_wp2_with fail
   go_loopw [15] (fun s wx=>∃(g n:Nat),s= .int .u64 (g:Int)∧g<1000000000∧Hid (ak (al.drop i)/D≤g∧g*bo≤at_*BB+ao)∧wx=wr.drewN n) (fun s _=>(intOf s).toNat)
   case atStart=>exact⟨g0,n0,rfl,hg0,Hg0,rfl⟩
   case round=>
   obtain⟨g,n1,rfl,hg,Hg,rfl⟩:=hrel;clear Hg0 Hgi;have hgt:(g:Int)*bo≤(at_:Int)*1000000000+ao:=by have:=Int.ofNat_le.2 Hg.out.2;rw[Int.natCast_mul]at this;exact this
   have hgt0:(0:Int)≤(g:Int)*bo:=Int.mul_nonneg (by omega) (by omega);obtain⟨lf,hlf⟩:∃lf:Nat,lf=at_*BB+ao-g*bo:=⟨_,rfl⟩;have hlfi:(at_:Int)*1000000000+ao-(g:Int)*bo=(lf:Int):=by
    have h1:=Hg.out.2;have h2:((at_*BB+ao:Nat):Int)=(at_:Int)*1000000000+ao:=rfl;have h3:((g*bo:Nat):Int)=(g:Int)*bo:=Int.natCast_mul _ _;omega
   have HLF:=ala hlf;clear hlf;obtain⟨st,hst⟩:∃st:Bool,st=decide (BB≤lf∨g*bz≤lf*BB+az):=⟨_,rfl⟩;have HST:=ala hst;clear hst;have HI:=ala hlfi;clear hlfi
   go_wp2_with fail
   rw[HI.out]
   go_upto_region 16 with (fail)
   go_cut [131] (fun s wx=>∃n:Nat,s= .bool st∧wx=wr.drewN n)
   case first=>
    by_cases hbig:BB≤lf
    ·have q:decide ((1000000000:Int)≤(lf:Int))=true:=alI (by unfold BB at hbig;omega)
     go_quiet (fail)
     go_wp2_with fail
     go_meet
     exact⟨_,by rw[HST.out,alI (Or.inl hbig)],World.drewN_drewN _ _ _⟩
    ·have hlfb:lf<1000000000:=by unfold BB at hbig;omega
     have q:decide ((1000000000:Int)≤(lf:Int))=false:=alH (by omega);have hgz:(g:Int)*bz≤999999998000000001:=by have:=Int.ofNat_le.2 (kg hg hg hg hbzb').1;rwa[Int.natCast_mul]at this
     have hgz0:(0:Int)≤(g:Int)*bz:=Int.mul_nonneg (by omega) (by omega);have hczA:wr.cell? ⟨ga,i+(k+2)-2,none⟩=some (.int .u64 az):=by rw[show i+(k+2)-2=i+k by omega];exact hcz
     have hczB:wr.cell? ⟨ga,i+(k+2-2),none⟩=some (.int .u64 az):=by rw[show i+(k+2-2)=i+k by omega];exact hcz
     go_quiet (fail)
     go_wp2_with fail
     go_meet
     refine⟨_,?_,World.drewN_drewN _ _ _⟩;rw[HST.out];congr 1;rw[decide_eq_decide];have e1:((g*bz:Nat):Int)=(g:Int)*bz:=Int.natCast_mul _ _;have e2:((lf*BB+az:Nat):Int)=(lf:Int)*1000000000+az:=rfl;omega
   case rest=>
   obtain⟨n2,rfl,rfl⟩:=hcut;cases st with
   |false=>
    have hno:¬(BB≤lf∨g*bz≤lf*BB+az):=of_decide_eq_false HST.out.symm;have hgo:=ahI HR.out Hlo.out HDD.out Hg.out.2 (by rw[←HLF.out];exact fun h=>hno (.inr h));have hg1:0<g:=Nat.lt_of_le_of_lt (Nat.zero_le _) hgo;have Hgo:=ala hgo;clear hno hgo
    go_wp2_with fail
    go_roundw
    case rel=>
     refine⟨g-1,n2,by rw[show ((g-1:Nat):Int)=(g:Int)-1 by omega],by omega,⟨by have:=Hgo.out;omega,?_⟩,rfl⟩;exact ali (Nat.mul_le_mul_right _ (Nat.sub_le _ _)) Hg.out.2
    case measure=>simp[intOf];omega
   |true=>
    have hyes:BB≤lf∨g*bz≤lf*BB+az:=of_decide_eq_true HST.out.symm;have hstop:=acu HR.out HDD.out Hld.out hbo0 hbzb' hg Hg.out.2 (by rw[←HLF.out];exact hyes);have Hstop:=ala hstop;have HW:=ala (H.out.drewN n2);clear hyes hstop hgt hgt0 hct hco hcz hbz2 hbo2 HLF HI HST;have hD0:0<D:=by have:=HDlo.out;have:=Nat.pow_pos (n:=k+1) bV;omega
    have HD0:=ala hD0;clear hD0
    go_wp2_with fail
    generalize wr.drewN n2=W0 at*
    have hnb:gb≠ga:=by omega
    have hnq:gq≠ga:=by omega
    have HVD:Hid (ak lb=D):=by show _=_;rw[←HLB.out,aV,HD.out]
    go_loopw [136,17] (fun s u wx=>∃(j cy:Nat) (o:List Nat),j≤k+2∧s= .int .i64 (j:Int)∧u= .int .u64 (cy:Int)∧cy<1000000000∧Hid (SubIs w lb al ql N k ga gb gq c3 c4 i g j cy o wx)) (fun s _ _=>(k+2-intOf s).toNat)
    case atStart=>exact⟨0,0,al,by omega,rfl,rfl,by omega,HW.out.sub i g⟩
    case round=>
    obtain⟨j,cy,o,hjk,rfl,rfl,hcy,S⟩:=hrel;by_cases hjl:j=k+2
    ·subst hjl
     rw[show (((k+2:Nat)):Int)=(k:Int)+2 from rfl];have ht:o[i+(k+2)]? =some at_:=(S.out.same _ alK).trans Hat.out;obtain⟨hcx,hfx,hbx⟩:=fG S.out.oa ht;have hqz:ql[i]? =some 0:=HW.out.qz i (by omega);obtain⟨hcq,hfq,hbq⟩:=fG S.out.oq hqz;have hsum:ak o+g*D*BB^i=ak al+cy*BB^(i+(k+2)):=by
      have:=S.out.sum;rwa[aln (by rw[HLK.out];exact Nat.le_refl _),HVD.out]at this
     have Ht:=ala ht;have Hqz:=ala hqz;have Hsum:=ala hsum;clear ht hqz hsum;have hgaq:ga≠gq:=by omega
     have hqc:∀v,(wr.setCell ⟨ga,i+(k+2),none⟩ v).cell? ⟨gq,i,none⟩=some (.int .u64 0):=fun v=>(fG (S.out.oq.other hnq) Hqz.out).1
     have hqf:∀v,(wr.setCell ⟨ga,i+(k+2),none⟩ v).frozen? ⟨gq,i,none⟩=false:=fun v=>(fG (S.out.oq.other hnq) Hqz.out).2.1
     by_cases hge:cy≤at_
     ·have q:decide (cy≤at_)=true:=alI (by omega)
      have He:=ala (agA S.out.alike (show i+(k+2)<al.length by rw[HW.out.len];omega) Ht.out Hsum.out hge Hg.out.1 HD0.out)
      go_wp2_with fail
      go_roundw
      case rel=>
       have e:((at_-cy:Nat):Int)=(at_:Int)-cy:=by omega
       refine⟨i,o.set (i+(k+2)) (at_-cy),ql.set i g,by omega,by go_num,HW.out.next (by omega) HD0.out hg (S.out.small.set _ (by unfold BB;omega)) (S.out.alike.set (by omega)) He.out.1 He.out.2 ?_ ((S.out.ob.other hnb).other (by omega)) ?_ ((S.out.below.setCell hbx _).setCell hbq _)⟩
       ·have:=S.out.oa.set (i+(k+2)) (at_-cy)
        rw[e]at this;exact this.other hgaq
       ·exact(S.out.oq.other hnq).set i g
      case measure=>simp[intOf]
     ·have q:decide (cy≤at_)=false:=alH (by omega)
      have hge':at_<cy:=by omega
      clear hge hqc hqf;have hg1:=agz S.out.small S.out.alike Hat.out HRz.out S.out.same Hsum.out hge' Hstop.out HD0.out;have hg0':0<g:=by rw[hg1];exact Nat.succ_pos _
      have Hg1:=ala hg1;clear hg1
      go_wp2_with fail
      go_loopw [200,20] (fun s u wx=>∃(j c2:Nat) (o2:List Nat),j≤k+2∧s= .int .i64 (j:Int)∧u= .int .u64 (c2:Int)∧c2≤1∧Hid (AddIs w lb o ql N k ga gb gq c3 c4 i j c2 o2 wx)) (fun s _ _=>(k+2-intOf s).toNat)
      case atStart=>exact⟨0,0,o,by omega,rfl,rfl,by omega,S.out.add⟩
      case round=>
      obtain⟨j,c2,o2,hjk2,rfl,rfl,hc2,Q⟩:=hrel;by_cases hjl:j=k+2
      ·subst hjl
       have ht2:o2[i+(k+2)]? =some at_:=(Q.out.same _ alK).trans Ht.out;obtain⟨hcx2,hfx2,hbx2⟩:=fG Q.out.oa ht2;have hqc:∀v,(wr.setCell ⟨ga,i+(k+2),none⟩ v).cell? ⟨gq,i,none⟩=some (.int .u64 0):=fun v=>(fG (Q.out.oq.other hnq) Hqz.out).1
       have hqf:∀v,(wr.setCell ⟨ga,i+(k+2),none⟩ v).frozen? ⟨gq,i,none⟩=false:=fun v=>(fG (Q.out.oq.other hnq) Hqz.out).2.1
       have hqb:=(fG Q.out.oq Hqz.out).2.2;have He:=ala (akW Q.out.small S.out.alike Q.out.alike Hat.out HRz.out S.out.same Q.out.same Hsum.out Hg1.out HD0.out HDhi.out (by
        have:=Q.out.sum;rwa[aln (by rw[HLK.out];exact Nat.le_refl _),HVD.out]at this))
       have hcc:cy≤at_+c2:=by rw[He.out.1];exact Nat.le_refl _
       go_wp2_with fail
       go_roundw
       case rel=>
        have e:(at_:Int)+c2-cy=((0:Nat):Int):=by have:=He.out.1;omega
        have e2:(g:Int)-1=((g-1:Nat):Int):=by omega
        rw[e,e2];refine⟨i,o2.set (i+(k+2)) 0,ql.set i (g-1),by omega,by go_num,HW.out.next (by omega) HD0.out (by unfold BB;omega) (Q.out.small.set _ bV) ((Dec.Alike.trans S.out.alike Q.out.alike).set (by omega)) (by have:=Hg1.out;omega) He.out.2 ?_ ((Q.out.ob.other hnb).other (by omega)) ?_ ((Q.out.below.setCell hbx2 _).setCell hqb _)⟩
        ·exact(Q.out.oa.set (i+(k+2)) 0).other hgaq
        ·exact(Q.out.oq.other hnq).set i (g-1)
       case measure=>simp[intOf]
      ·have hjl':j<k+2:=by omega
       clear hjl;obtain⟨y,hy⟩:=bC lb j (by rw[HLK.out];exact hjl');obtain⟨x,hx⟩:=bC o2 (i+j) (by rw[Q.out.alike.1,S.out.alike.1,HW.out.len];omega);have hyb:y<1000000000:=by have:=aS (b*s);rw[HLB.out]at this;exact this.at hy
       have hxb:x<1000000000:=Q.out.small.at hx;obtain⟨hcy1, -, -⟩:=fG Q.out.ob hy;obtain⟨hcx2,hfx2,hbx2⟩:=fG Q.out.oa hx;have HY:=ala hy;have HX:=ala hx;clear hy hx;have hij:i+j<N+2:=by omega
       go_wp2_with fail
       have hw1:IntKind.i64.wrap ((i:Int)+j)=(i:Int)+j:=IntWalk.i64_in _ (by omega);have hw2:(0:Int)≤(i:Int)+j:=by omega
       have hw3:((i:Int)+j).toNat =i+j:=by omega
       have hw4:(i:Int)+j<(N:Int)+2:=by omega
       go_still_tail 14,(by kernel_rfl)
       clear hw1 hw2 hw3 hw4
       go_wp2_with fail
       go_roundw
       case rel=>
        refine⟨j+1,(x+(y+c2))/BB,o2.set (i+j) ((x+(y+c2))%BB),by omega,by go_num,rfl,by unfold BB;omega,Q.out.next (Nat.mod_lt _ bV) (aiC HX.out HY.out Q.out.sum) ?_ ((Q.out.ob.other hnb).other hnb) ((Q.out.oq.other hnq).other hnq) ((Q.out.below.setCell hbx2 _).setCell hbx2 _).drew⟩;have:=(Q.out.oa.set (i+j) (x+(y+c2))).set (i+j) ((x+(y+c2))%BB);rw[List.set_set]at this;exact this
       case measure=>simp[intOf];omega
    ·have hjl':j<k+2:=by omega
     clear hjl;obtain⟨y,hy⟩:=bC lb j (by rw[HLK.out];exact hjl');obtain⟨x,hx⟩:=bC o (i+j) (by rw[S.out.alike.1,H.out.len];omega);have hyb:y<1000000000:=by have:=aS (b*s);rw[HLB.out]at this;exact this.at hy
     have hxb:x<1000000000:=S.out.small.at hx;obtain⟨hcy1, -, -⟩:=fG S.out.ob hy;obtain⟨hcx,hfx,hbx⟩:=fG S.out.oa hx;have HY:=ala hy;have HX:=ala hx;clear hy hx;have hsb:=adm (x:=x) hg hcy hyb;obtain⟨p,hp⟩:∃p:Nat,p=g*y:=⟨_,rfl⟩;have hpi:(g:Int)*y=(p:Int):=by rw[hp];exact(Int.natCast_mul _ _).symm
     rw[←hp]at hsb;have hpb:=hsb.1;have hq1:(p+cy)/1000000000<1000000000:=hsb.2.1;have hq2:x<(p+cy)%1000000000→(p+cy)/1000000000+1<1000000000:=hsb.2.2;have HP:=ala hp;have HQ2:=ala hq2;clear hsb hp hq2;by_cases hlt:x<(p+cy)%1000000000
     ·have q:decide ((x:Int)<((p:Int)+cy)%1000000000)=true:=alI (by omega)
      go_wp2_with fail
      go_roundw
      case rel=>
       have e:((x+BB-(p+cy)%BB:Nat):Int)=(x:Int)+1000000000-((p:Int)+cy)%1000000000:=by unfold BB;omega
       refine⟨j+1,(p+cy)/BB+1,o.set (i+j) (x+BB-(p+cy)%BB),by omega,by go_num,rfl,HQ2.out hlt,S.out.next (by unfold BB;omega) ?_ ?_ ((S.out.ob.other hnb).other hnb) ((S.out.oq.other hnq).other hnq) ((S.out.below.setCell hbx _).setCell hbx _)⟩
       ·have:=adk HX.out HY.out S.out.sum
        rw[←HP.out]at this;exact this
       ·have:=(S.out.oa.set (i+j) (x+BB)).set (i+j) (x+BB-(p+cy)%BB)
        rw[List.set_set,e]at this;exact this
      case measure=>simp[intOf];omega
     ·have q:decide ((x:Int)<((p:Int)+cy)%1000000000)=false:=alH (by omega)
      go_wp2_with fail
      go_roundw
      case rel=>
       have e:((x-(p+cy)%BB:Nat):Int)=(x:Int)-((p:Int)+cy)%1000000000:=by unfold BB;omega
       refine⟨j+1,(p+cy)/BB,o.set (i+j) (x-(p+cy)%BB),by omega,by go_num,rfl,hq1,S.out.next (by unfold BB;omega) ?_ ?_ (S.out.ob.other hnb) (S.out.oq.other hnq) (S.out.below.setCell hbx _)⟩
       ·have:=adl HX.out HY.out S.out.sum (by rw[←HP.out];unfold BB;omega)
        rw[←HP.out]at this;exact this
       ·have:=S.out.oa.set (i+j) (x-(p+cy)%BB)
        rw[e]at this;exact this
      case measure=>simp[intOf];omega
theorem acD (A A':Option Addr)(c c':Nat)(a b:Nat)(w:World)(hc:fu w A c a)(hc':fu w A' c' b)(hm:(mag a).length ≤274877906944)(hm':(mag b).length ≤274877906944)(hb:b≠0):
 Calls Tryz.prog 205 #[.slice A (mag a).length c,.slice A' (mag b).length c'] w (abK a b w):=by
 rcases Nat.lt_or_ge a b with h|h
 ·exact aac A A' c c' a b w hc hc' hm hm' h
 ·by_cases h1:(mag b).length =1
  ·exact acC A A' c c' a b w hc hc' hm h1 h
  ·have h0:(mag b).length ≠0:=fun e=>hb (nu.1 (alC e))
   exact aab A A' c c' a b ((mag b).length -2) w hc hc' hm hm' (by omega) h
end Go.Proofs.YtjknklinhegdoaaGreatDoor
