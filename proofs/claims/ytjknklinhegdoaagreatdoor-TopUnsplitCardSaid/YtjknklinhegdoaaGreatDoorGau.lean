/- Facts: checkOptions. Conditions: texts of bounded length; the library's variables lie as the program's text lays them. Facts: checkField. Conditions: texts of bounded length; the library's variables lie as the program's text lays them. -/
import Derived.Test.YtjknklinhegdoaaGreatDoorGat
set_option linter.unusedSimpArgs false
set_option linter.unusedVariables false
set_option maxHeartbeats 4000000
set_option maxRecDepth 100000
namespace Go.Proofs.YtjknklinhegdoaaGreatDoor
open Go.RowKit Go.Shelf Dec QQ SP
attribute [local go_sem] Oper.semAt_some
attribute [-go_sem] loadVar
attribute [local go_sem] aa3
structure Ot where
 oth:ByteArray
 rn:ByteArray
 rd:ByteArray
 pn:ByteArray
 pd:ByteArray
 vn:ByteArray
 vd:ByteArray
def eu (t:Ot):List Value:=[.string t.oth,.string t.rn,.string t.rd,.string t.pn,.string t.pd,.string t.vn,.string t.vd]
theorem kH (t:Ot):(eu t).length =7:=rfl
structure Ot.le (t:Ot):Prop where
 oth:t.oth.size≤100
 rn:t.rn.size≤100
 rd:t.rd.size≤100
 pn:t.pn.size≤100
 pd:t.pd.size≤100
 vn:t.vn.size≤100
 vd:t.vd.size≤100
def lmE (t:Ot)(j:Nat):Int:=
 match j with
 |0=>oO false false t.rn t.rd
 |1=>oO false false t.pn t.pd
 |_=>oO false false t.vn t.vd
def otT (t:Ot):Bool:=((!t.oth.toList.isEmpty) != !(t.rn.toList.isEmpty&&t.rd.toList.isEmpty))||(t.oth.toList.isEmpty&& !(t.vn.toList.isEmpty&&t.vd.toList.isEmpty))
def otE (ins:ByteArray)(t:Ot):Int:=bif (!t.oth.toList.isEmpty)&& !(aG t.oth)then 23 else bif eqB t.oth ins then 18 else bif lmE t 0 !=0 then lmE t 0 else bif lmE t 1 !=0 then lmE t 1 else bif lmE t 2 !=0 then lmE t 2 else bif otT t then 2 else 0
def aiL (ins:ByteArray):List Ot→Int
 | []=>0
 |t::l=>bif otE ins t !=0 then otE ins t else aiL ins l
def lC (ins:ByteArray)(l:List Ot):Int:=bif decide (l.length=0)then 11 else bif decide (8<l.length)then 4 else aiL ins l
theorem ot_lim {ins:ByteArray}{t:Ot}{j:Nat}(h1:((!t.oth.toList.isEmpty)&& !(aG t.oth))=false)(h2:eqB t.oth ins=false)(hj:j<3)(hb:∀i,i<j→lmE t i=0)(h:lmE t j≠0):otE ins t=lmE t j:=by
 have hq:(lmE t j !=0)=true:=by simpa using h
 unfold otE;rw[h1,h2];simp only[cond_false];rcases(by omega:j=0∨j=1∨j=2)with rfl|rfl|rfl
 ·rw[hq];rfl
 ·rw[hb 0 (by omega),hq];rfl
 ·rw[hb 0 (by omega),hb 1 (by omega),hq];rfl
theorem ot_end {ins:ByteArray}{t:Ot}(h1:((!t.oth.toList.isEmpty)&& !(aG t.oth))=false)(h2:eqB t.oth ins=false)(hb:∀i,i<3→lmE t i=0):otE ins t=bif otT t then 2 else 0:=by
 unfold otE;rw[h1,h2,hb 0 (by omega),hb 1 (by omega),hb 2 (by omega)];rfl
theorem zz (f:Fct)(hf:f.le){l:List Ot}(hn:l.length=f.no)(hm:f.no≤100)(hz:∀t∈l,t.le):
 ig (fun w=>Row w f.O (au eu l)) 124 #[fI f] (.int .i64 (lC f.ins l)):=by
 intro w hg hi;have hs:=(St.refl hg).alloc (.cells (bv f) 30);have HX:=ala (TBx.new w (bv f) 30);have HR:=ala (hi.on (bal w (.cells (bv f) 30)));have HN:=ala hn;have HZ:=ala hz;have HE:Hid (lC f.ins l=bif decide (f.no=0)then 11 else bif decide (8<f.no)then 4 else aiL f.ins (l.drop 0)):=by show _=_;rw[←hn];rfl
 generalize lC f.ins l=oe at*
 obtain⟨A,hA⟩:∃A,f.O=A:=⟨_,rfl⟩;obtain⟨n,hnp⟩:∃n,f.no=n:=⟨_,rfl⟩;obtain⟨c,hc⟩:∃c,f.co=c:=⟨_,rfl⟩;obtain⟨ins,hq⟩:∃ins,f.ins=ins:=⟨_,rfl⟩;have x19:=HX.out.bx.cell (i:=19) (v:=.slice f.O f.no f.co) rfl;rw[hA,hnp,hc]at x19;rw[hA]at HR;rw[hnp]at HN HE hm;rw[hq]at HE;have HA:=ala (And.intro hA (And.intro hnp (And.intro hc hq)));clear hi hn hz hg hA hnp hc hq hf;dsimp only[fI]at*
 go_enter Tryz.func124,Tryz.ntmps124
 by_cases h0:n=0
 ·have q:((n:Int)==0)=true:=by simpa using(by omega:(n:Int)=0)
  have q2:(n:Int)=0:=by omega
  have hoe:oe=11:=by rw[HE.out,alI h0];rfl
  subst hoe;clear HE
  go_wp2_with fail
  go_ret
  exact⟨rfl,hs.2⟩
 have q0:((n:Int)==0)=false:=by simpa using(by omega:¬(n:Int)=0)
 have q02:¬(n:Int)=0:=by omega
 by_cases h8:8<n
 ·have q:decide ((8:Int)<(n:Int))=true:=alI (by omega)
  have hoe:oe=4:=by rw[HE.out,alH h0,alI h8];rfl
  subst hoe;clear HE
  go_wp2_with fail
  go_ret
  exact⟨rfl,hs.2⟩
 have q:decide ((8:Int)<(n:Int))=false:=alH (by omega);have HE2:Hid (oe=aiL ins (l.drop 0)):=by show _=_;rw[HE.out,alH h0,alH h8];rfl
 clear HE
 go_wp2_with fail
 clear q x19 q0 q02
 go_loopw [19] (fun s wr=>∃k:Nat,k≤n∧s= .int .i64 (k:Int)∧St w wr∧Hid (TBx wr w.heap.size (bv f) 30)∧Hid (Row wr A (au eu l))∧Hid (oe=aiL ins (l.drop k))) (fun s _=>(n-intOf s).toNat)
 case atStart=>exact⟨0,by omega,rfl,hs,HX,HR,HE2⟩
 case round=>
  clear HX HR HE2;obtain⟨k,hk,rfl,hs,HX,HR,HE⟩:=hrel;by_cases hkn:k=n
  ·subst hkn
   have q:decide ((k:Int)<(k:Int))=false:=alH (by omega);have hdrop:l.drop k=[]:=List.drop_eq_nil_of_le (by rw[HN.out];omega);have hoe:oe=0:=by rw[HE.out,hdrop];rfl
   subst hoe;clear hdrop HE
   go_wp2_with fail
   go_ret
   exact⟨rfl,hs.2⟩
  ·have hkl:k<n:=by omega
   have q:decide ((k:Int)<(n:Int))=true:=alI (by omega);have qn:decide (k<n)=true:=alI hkl;obtain⟨t,ht⟩:∃d,l[k]? =some d:=⟨l[k]'(by rw[HN.out];exact hkl),by simp⟩;obtain⟨b,o,hAb,hb,hcells⟩:=eT (cs:=eu) (m:=7) kH (by decide) HR.out ht;subst hAb;have y0:wr.cell? ⟨b,o+k*7,none⟩=some (.string t.oth):=hcells 0 _ rfl;have y1:wr.cell? ⟨b,o+k*7+1,none⟩=some (.string t.rn):=hcells 1 _ rfl;have y2:wr.cell? ⟨b,o+k*7+2,none⟩=some (.string t.rd):=hcells 2 _ rfl;have y3:wr.cell? ⟨b,o+k*7+3,none⟩=some (.string t.pn):=hcells 3 _ rfl;have y4:wr.cell? ⟨b,o+k*7+4,none⟩=some (.string t.pd):=hcells 4 _ rfl;have y5:wr.cell? ⟨b,o+k*7+5,none⟩=some (.string t.vn):=hcells 5 _ rfl;have y6:wr.cell? ⟨b,o+k*7+6,none⟩=some (.string t.vd):=hcells 6 _ rfl;have htz:=ala (HZ.out t (alk ht));have HE1:Hid (oe=bif otE ins t !=0 then otE ins t else aiL ins (l.drop (k+1))):=by show _=_;rw[HE.out,qN ht];rfl
   have hba:Below wr.heap.size wr (wr.alloc (.cells #[.string t.oth,.string t.rn,.string t.rd,.string t.pn,.string t.pd,.string t.vn,.string t.vd] 54)):=bal _ _;have HY:=ala (TBx.new wr #[.string t.oth,.string t.rn,.string t.rd,.string t.pn,.string t.pd,.string t.vn,.string t.vd] 54);have hX0:=HX.out;replace HX:=ala (HX.out.on hba);replace HR:=ala (HR.out.on hba);have hs1:=hs.on hba;have z0:=HY.out.bx.cell (i:=0) (v:=.string t.oth) rfl;have KN:=NmR (s:=t.oth) (by have:=htz.out.oth;omega);have HN1:Hid ((!t.oth.toList.isEmpty&& !aG t.oth)=(!t.oth.toList.isEmpty&& !aG t.oth)):=rfl;clear hcells ht hkn HE hba hX0;obtain⟨bn,hbn⟩:∃bn,aG t.oth=bn:=⟨_,rfl⟩;rw[hbn]at KN;have HBN:=ala hbn;clear hbn HN1;obtain⟨WA,hWA⟩:∃WA,wr.alloc (.cells #[.string t.oth,.string t.rn,.string t.rd,.string t.pn,.string t.pd,.string t.vn,.string t.vd] 54)=WA:=⟨_,rfl⟩;have HWA:=ala hWA;have hsz:wr.heap.size<WA.heap.size:=by rw[←hWA];simp
   rw[hWA]at HX HR HY hs1 z0;clear hWA
   go_upto_region 8 with (fail)
   rw[HWA.out];clear y0 y1 y2 y3 y4 y5 y6
   go_cut [31] (fun s31 wx=>s31= .bool (!t.oth.toList.isEmpty&& !bn)∧Hid (Below WA.heap.size WA wx))
   case first=>
    cases he:t.oth.toList.isEmpty with
    |true=>
     have qe:(t.oth.toList== [])=true:=by simpa using he
     have qe2:t.oth.toList=[]:=by simpa using he
     go_wp2_with fail
     go_meet
     exact⟨by rw[he];rfl,alJ _ _⟩
    |false=>
     go_wp2_with fail
     refine KN.step hs1 ?_;intro w1 hs2 hb1
     go_wp2_with fail
     go_meet
     exact⟨by rw[he];rfl,hb1⟩
   case rest=>
    obtain⟨rfl,HBc⟩:=hcut;have hs2:=hs1.on HBc.out;replace HX:=ala (HX.out.on HBc.out);replace HR:=ala (HR.out.on HBc.out);replace HY:=ala (HY.out.on HBc.out);have hszc:wr.heap.size<wc.heap.size:=alx hsz HBc.out.size;clear KN z0 HBc;have HNB:Hid ((!t.oth.toList.isEmpty&& !aG t.oth)=(!t.oth.toList.isEmpty&& !bn)):=by show _=_;rw[HBN.out]
    generalize (!t.oth.toList.isEmpty&& !bn)=bb at*
    cases bb with
    |true=>
     have hoe:oe=23:=by
      rw[HE1.out];unfold otE;rw[HNB.out];rfl
     subst hoe;clear HE1
     go_wp2_with fail
     go_ret
     exact⟨rfl,hs2.2⟩
    |false=>
     have z0:=HY.out.bx.cell (i:=0) (v:=.string t.oth) rfl;have x5:=HX.out.bx.cell (i:=5) (v:=.string f.ins) rfl;rw[HA.out.2.2.2]at x5;obtain⟨bq,hbq⟩:∃bq,(t.oth.toList==ins.toList)=bq:=⟨_,rfl⟩;have HBQ:Hid (eqB t.oth ins=bq):=hbq;cases bq with
     |true=>
      have hoe:oe=18:=by
       rw[HE1.out];unfold otE;rw[HNB.out,HBQ.out];rfl
      subst hoe;clear HE1
      go_wp2_with fail
      go_ret
      exact⟨rfl,hs2.2⟩
     |false=>
      have z1:=HY.out.bx.cell (i:=1) (v:=.string t.rn) rfl;have z2:=HY.out.bx.cell (i:=2) (v:=.string t.rd) rfl;have z3:=HY.out.bx.cell (i:=3) (v:=.string t.pn) rfl;have z4:=HY.out.bx.cell (i:=4) (v:=.string t.pd) rfl;have z5:=HY.out.bx.cell (i:=5) (v:=.string t.vn) rfl;have z6:=HY.out.bx.cell (i:=6) (v:=.string t.vd) rfl
      go_wp2_with fail
      have hbc:Below wc.heap.size wc (wc.alloc (.cells #[.string t.rn,.string t.rd,.string t.pn,.string t.pd,.string t.vn,.string t.vd] 26)):=bal _ _;have HW:=ala (TBx.new wc #[.string t.rn,.string t.rd,.string t.pn,.string t.pd,.string t.vn,.string t.vd] 26);replace HX:=ala (HX.out.on hbc);replace HR:=ala (HR.out.on hbc);replace HY:=ala (HY.out.on hbc);have hs3:=hs2.on hbc;obtain⟨bt,hbt⟩:∃bt,wr.heap.size=bt:=⟨_,rfl⟩;obtain⟨bc,hbcc⟩:∃bc,wc.heap.size=bc:=⟨_,rfl⟩;rw[hbt]at HY hszc⊢
      rw[hbcc]at HW hszc⊢
      clear hbt hbcc hbc z0 z1 z2 z3 z4 z5 z6 x5 hsz HWA hb
      go_loopw [45] (fun s wr=>∃j:Nat,j≤3∧s= .int .i64 (j:Int)∧St w wr∧Hid (TBx wr w.heap.size (bv f) 30)∧Hid (Row wr (some ⟨b,o,none⟩) (au eu l))∧Hid (TBx wr bt #[.string t.oth,.string t.rn,.string t.rd,.string t.pn,.string t.pd,.string t.vn,.string t.vd] 54)∧Hid (TBx wr bc #[.string t.rn,.string t.rd,.string t.pn,.string t.pd,.string t.vn,.string t.vd] 26)∧Hid (∀i,i<j→lmE t i=0)) (fun s _=>(3-intOf s).toNat)
      case atStart=>exact⟨0,by omega,rfl,hs3,HX,HR,HY,HW,fun i h=>by omega⟩
      case round=>
       clear HX HR HY HW;obtain⟨j,hj,rfl,hs4,HX,HR,HY,HW,HL⟩:=hrel;by_cases hj3:j=3
       ·subst hj3
        have q3:decide (((3:Nat):Int)<3)=false:=by decide
        have hoe2:Hid (oe=bif (bif otT t then 2 else 0:Int) !=0 then(bif otT t then 2 else 0)else aiL ins (l.drop (k+1))):=by
         show _=_;rw[HE1.out,ot_end HNB.out HBQ.out HL.out]
        clear HE1
        go_wp2_with fail
        have N1:=fun u=>neqF t.rn t.rd ⟨#[]⟩ ⟨#[]⟩ u
        have N2:=fun u=>neqF t.vn t.vd ⟨#[]⟩ ⟨#[]⟩ u
        rw[show (⟨#[]⟩:ByteArray).toList =[]from by rw[aD];rfl]at N1 N2;have k0:=HY.out.bx.keeps (i:=0) (v:=.string t.oth) rfl;have k1:=HY.out.bx.keeps (i:=1) (v:=.string t.rn) rfl;have k2:=HY.out.bx.keeps (i:=2) (v:=.string t.rd) rfl;have k5:=HY.out.bx.keeps (i:=5) (v:=.string t.vn) rfl;have k6:=HY.out.bx.keeps (i:=6) (v:=.string t.vd) rfl;have e1:((t.rn.toList== [])&&(t.rd.toList== []))=(t.rn.toList.isEmpty&&t.rd.toList.isEmpty):=by simp
        have e2:((t.vn.toList== [])&&(t.vd.toList== []))=(t.vn.toList.isEmpty&&t.vd.toList.isEmpty):=by simp
        have e0:(t.oth.toList== [])=t.oth.toList.isEmpty:=by simp
        have hoT:otT t=(((!t.oth.toList.isEmpty) != !(t.rn.toList.isEmpty&&t.rd.toList.isEmpty))||(t.oth.toList.isEmpty&& !(t.vn.toList.isEmpty&&t.vd.toList.isEmpty))):=rfl;rw[e1]at N1;rw[e2]at N2;generalize (t.rn.toList.isEmpty&&t.rd.toList.isEmpty)=rz at*
        generalize (t.vn.toList.isEmpty&&t.vd.toList.isEmpty)=vz at*
        obtain⟨oz,hoz⟩:∃oz,t.oth.toList.isEmpty=oz:=⟨_,rfl⟩;rw[hoz]at hoT e0;have HOT:=ala hoT;clear e1 e2 hoT;cases oz<;>cases rz<;>cases vz
        all_goals
         refine ax (by kernel_rfl) (by kernel_rfl) ?_
         repeat (go_big_quiet_step (fail))
         refine wpQuiet_nil ?_;rintro _ ⟨u1,rfl⟩;have hs7:=hs4.kept u1;have HX7:=ala (HX.out.on u1.low);have HR7:=ala (HR.out.on u1.low);clear k0 k1 k2 k5 k6 N1 N2
         first
          |(have hoe:oe=2:=by rw[hoe2.out,HOT.out];rfl
            subst hoe;clear hoe2 HOT
            go_wp2_with fail
            go_ret
            exact⟨rfl,hs7.2⟩)
          |(have HE9:Hid (oe=aiL ins (l.drop (k+1))):=by show _=_;rw[hoe2.out,HOT.out];rfl
            clear hoe2 HOT
            go_wp2_with fail
            go_roundw
            case rel=>exact⟨k+1,by omega,by go_num,hs7,HX7,HR7,HE9⟩
            case measure=>simp[intOf];omega)
       ·have hj2:j<3:=by omega
        have q3:decide ((j:Int)<3)=true:=alI (by omega);have q4:decide (j<3)=true:=alI hj2;obtain⟨a1,b1,hc1,hc2,hl1,z1,z2⟩:∃a1 b1:ByteArray,wr.cell? ⟨bc,j*2,none⟩=some (.string a1)∧wr.cell? ⟨bc,j*2+1,none⟩=some (.string b1)∧lmE t j=oO false false a1 b1∧a1.size≤1000∧b1.size≤1000:=by
         rcases(by omega:j=0∨j=1∨j=2)with rfl|rfl|rfl
         ·exact⟨_,_,HW.out.bx.cell (i:=0) (v:=.string t.rn) rfl,HW.out.bx.cell (i:=1) (v:=.string t.rd) rfl,rfl,by have:=htz.out.rn;omega,by have:=htz.out.rd;omega⟩
         ·exact⟨_,_,HW.out.bx.cell (i:=2) (v:=.string t.pn) rfl,HW.out.bx.cell (i:=3) (v:=.string t.pd) rfl,rfl,by have:=htz.out.pn;omega,by have:=htz.out.pd;omega⟩
         ·exact⟨_,_,HW.out.bx.cell (i:=4) (v:=.string t.vn) rfl,HW.out.bx.cell (i:=5) (v:=.string t.vd) rfl,rfl,by have:=htz.out.vn;omega,by have:=htz.out.vd;omega⟩
        have HLM:=ala hl1;have K2:=ala (fun c1 c2=>jB (a:=a1) (b:=b1) (b1:=c1) (b2:=c2) (P:=false) (Q:=false) z1 z2);clear hl1 z1 z2;have hba:Below wr.heap.size wr (wr.alloc (.cells #[.string a1,.string b1] 26)):=bal _ _;have HV:=ala (TBx.new wr #[.string a1,.string b1] 26);replace HX:=ala (HX.out.on hba);replace HR:=ala (HR.out.on hba);replace HY:=ala (HY.out.on hba);replace HW:=ala (HW.out.on hba);have hs5:=hs4.on hba
        go_wp2_with fail
        clear hc1 hc2 hba;obtain⟨W2,hW2⟩:∃W2,wr.alloc (.cells #[.string a1,.string b1] 26)=W2:=⟨_,rfl⟩;rw[hW2]at HV HX HR HY HW hs5⊢
        clear hW2;have hgl:Hid (∀v,Below W2.heap.size W2 v→Gl v):=fun v hv=>hs5.gl.below hv
        have BL0:Hid (Below W2.heap.size W2 W2.drew):=(alJ _ _).drew;have hSOK:Hid (∀v,Below W2.heap.size W2 v→v.cell? ⟨wr.heap.size,0,none⟩=some (.string a1)∧v.cell? ⟨wr.heap.size,1,none⟩=some (.string b1)):=fun v hv=>⟨(HV.out.on hv).bx.cell (i:=0) rfl,(HV.out.on hv).bx.cell (i:=1) rfl⟩
        go_region_held3 (fun v=>v.cell? ⟨wr.heap.size,0,none⟩=some (.string a1)∧v.cell? ⟨wr.heap.size,1,none⟩=some (.string b1))
         (first|with_reducible exact hSOK.out _ BL5.out|with_reducible exact hSOK.out _ BL3.out|with_reducible exact hSOK.out _ BL0.out)
         (first
           |(go_at_call 117;refine(qW false false W2.drew).mono ?_;rintro e w3 ⟨rfl,hl3,hb3⟩;have BL3:Hid (Below W2.heap.size W2 w3):=BL0.out.trans (hb3.mono BL0.out.size);have HL3:=ala hl3;clear hl3 hb3)
           |(go_at_call 178;refine(K2.out _ _ w3 (hgl.out _ BL3.out) HL3.out).mono ?_;rintro e w5 ⟨rfl,hb5⟩;have BL5:Hid (Below W2.heap.size W2 w5):=BL3.out.trans (hb5.mono BL3.out.size);clear hb5))
        have hs6:St w w5:=hs5.on BL5.out;replace HX:=ala (HX.out.on BL5.out);replace HR:=ala (HR.out.on BL5.out);replace HY:=ala (HY.out.on BL5.out);replace HW:=ala (HW.out.on BL5.out);clear hgl BL0 BL3 BL5 HL3 K2 hSOK HV;generalize oO false false a1 b1=le at*
        by_cases hle:le=0
        case neg=>
         have q5:(le !=0)=true:=by simpa using hle
         have q6:(le==0)=false:=by simpa using hle
         have hoe:oe=le:=by
          have:=ot_lim HNB.out HBQ.out hj2 HL.out (by rw[HLM.out];exact hle);rw[HE1.out,this,HLM.out,q5];rfl
         subst hoe;clear HE1 HLM
         go_wp2_with fail
         go_ret
         exact⟨rfl,hs6.2⟩
        subst hle
        go_wp2_with fail
        go_roundw
        case rel=>
         refine⟨j+1,by omega,by go_num,hs6,HX,HR,HY,HW,fun i hi=>?_⟩;by_cases e:i=j
         ·rw[e];exact HLM.out
         ·exact HL.out i (by omega)
        case measure=>simp[intOf];omega
end Go.Proofs.YtjknklinhegdoaaGreatDoor
namespace Go.Proofs.YtjknklinhegdoaaGreatDoor
open Go.RowKit Go.Shelf Dec QQ SP
attribute [local go_sem] Oper.semAt_some
attribute [-go_sem] loadVar
attribute [local go_sem] aa3
structure Knd where
 word:ByteArray
 cls:Int
 h:Nat→Bool
 code:Bool
def rT (d:Knd)(mv:Value):Array Value:= #[.string d.word,.int .i64 d.cls,.bool (d.h 0),.bool (d.h 1),.bool (d.h 2),.bool (d.h 3),.bool (d.h 4),.bool (d.h 5),.bool (d.h 6),.bool (d.h 7),.bool (d.h 8),.bool (d.h 9),.bool (d.h 10),.bool (d.h 11),.bool (d.h 12),mv,.bool d.code]
def aiR (d:Knd)(mv:Value):Value:=.agg (rT d mv)
def su (w:World)(mv:Value)(i:Nat)(P Q:Bool):Prop:=∃b1 b2,abJ w b1 b2 P Q∧∀u,Below w.heap.size w u→(Instr.lookup 136 mv (.int .i64 (i:Int)) false).run Tryz.prog u= .ok (.func (.func 178) #[] #[.pointer (some ⟨b1,0,none⟩),.pointer (some ⟨b2,0,none⟩)]) u
theorem su.on {w w':World}{mv:Value}{i:Nat}{P Q:Bool}(h:su w mv i P Q)(hb:Below w.heap.size w w'):su w' mv i P Q:=by
 obtain⟨b1,b2,h1,h2⟩:=h;exact⟨b1,b2,h1.on hb,fun u hu=>h2 u (hb.trans (hu.mono hb.size))⟩
theorem qp {s:ByteArray}(h:s.size≤1000):Ret 121 #[.string s] (.int .i64 (bif aG s then 0 else 23)):=by
 intro w hg;have hs:=St.refl hg;have K:=NmR (s:=s) (by omega);generalize aG s=b at*
 cases b with
 |true=>
  go_enter Tryz.func121,Tryz.ntmps121
  go_wp2_with fail
  refine K.step hs ?_;intro w1 hs hb
  go_wp2_with fail
  go_ret
  exact⟨rfl,hs.2⟩
 |false=>
  go_enter Tryz.func121,Tryz.ntmps121
  go_wp2_with fail
  refine K.step hs ?_;intro w1 hs hb
  go_wp2_with fail
  go_ret
  exact⟨rfl,hs.2⟩
def cfE (f:Fct)(lp:List Pk)(lo:List Ot)(code P Q:Bool)(i:Nat):Int:=
 match i with
 |0=>bif aG f.ins then 0 else 23
 |1=>bif code then(bif acM f.oth then(bif eqB f.oth f.cur then 18 else 0)else 12)else(bif aG f.oth then(bif eqB f.oth f.ins then 18 else 0)else 23)
 |2=>bif acM f.cur then 0 else 12
 |3=>bif aG f.tgt then 0 else 23
 |10=>xy f.q lp
 |11=>lC f.ins lo
 |12=>bif decide (f.cho<0)then 2 else 0
 |_=>oO P Q (ek f i).1 (ek f i).2
structure FcI (f:Fct) (lp:List Pk) (lo:List Ot):Prop where
 le:f.le
 hlp:lp.length=f.np
 hlo:lo.length=f.no
 np:f.np≤100
 no:f.no≤100
 cp:f.np≤f.cp
 zp:∀p∈lp,p.lot.size≤100∧p.q.size≤100
 zo:∀t∈lo,t.le
structure FcW (f:Fct) (lp:List Pk) (lo:List Ot) (w:World):Prop where
 rp:Row w f.P (au bW lp)
 ro:Row w f.O (au eu lo)
theorem FcW.on {f:Fct}{lp:List Pk}{lo:List Ot}{w w':World}(h:FcW f lp lo w)(hb:Below w.heap.size w w'):FcW f lp lo w':=⟨h.rp.on hb,h.ro.on hb⟩
theorem fE {f:Fct}(h:f.le)(i:Nat):(ek f i).1.size ≤100∧(ek f i).2.size ≤100:=by
 unfold ek;split
 ·exact⟨h.q,Nat.zero_le _⟩
 ·exact⟨h.a,Nat.zero_le _⟩
 ·exact⟨h.fee,Nat.zero_le _⟩
 ·exact⟨h.pn,h.pd⟩
 ·exact⟨h.rn,h.rd⟩
 ·exact⟨h.sn,h.sd⟩
 ·exact⟨by decide,by decide⟩
theorem cf_any (f:Fct){lp:List Pk}{lo:List Ot}(hI:FcI f lp lo)(d:Knd)(mv:Value)(P Q:Bool){i:Nat}{j:Int}(hi:i<13)(hj:j=i):
 ig (fun w=>FcW f lp lo w∧(4≤i→i≤9→su w mv i P Q)) 62 #[fI f,aiR d mv,.int .i64 j] (.int .i64 (cfE f lp lo d.code P Q i)):=by
 intro w hg hw;have hb2:Below w.heap.size w ((w.alloc (.cells (bv f) 30)).alloc (.cells (rT d mv) 138)):=alL.alloc (by simp) _;have hs:St w ((w.alloc (.cells (bv f) 30)).alloc (.cells (rT d mv) 138)):=⟨hg,hb2⟩;have HX:=ala ((TBx.new w (bv f) 30).alloc (.cells (rT d mv) 138));have HY:Hid (TBx ((w.alloc (.cells (bv f) 30)).alloc (.cells (rT d mv) 138)) (w.heap.size+1) (rT d mv) 138):=by
  have:=TBx.new (w.alloc (.cells (bv f) 30)) (rT d mv) 138;rwa[alf]at this
 have HI:=ala hI;have HW:=ala (hw.1.on hb2);have HL:=ala (fun h1 h2=>(hw.2 h1 h2).on hb2);have HIV:=lt13 hi hj;clear hg hj hi hw hI hb2;dsimp only[fI,aiR]at*
 have xf:=HX.out.bx.fact rfl;have x5:=HX.out.bx.cell (i:=5) (v:=.string f.ins) rfl;have x6:=HX.out.bx.cell (i:=6) (v:=.string f.oth) rfl;have x7:=HX.out.bx.cell (i:=7) (v:=.string f.cur) rfl;have x8:=HX.out.bx.cell (i:=8) (v:=.string f.tgt) rfl;have x20:=HX.out.bx.cell (i:=20) (v:=.int .i64 f.cho) rfl;have y15:=HY.out.bx.cell (i:=15) (v:=mv) rfl;have y16:=HY.out.bx.cell (i:=16) (v:=.bool d.code) rfl;rcases HIV with ⟨rfl,rfl⟩|⟨rfl,rfl⟩|⟨rfl,rfl⟩|⟨rfl,rfl⟩|⟨rfl,rfl⟩|⟨rfl,rfl⟩|⟨rfl,rfl⟩|⟨rfl,rfl⟩|⟨rfl,rfl⟩|⟨rfl,rfl⟩|⟨rfl,rfl⟩|⟨rfl,rfl⟩|⟨rfl,rfl⟩
 ·show Calls _ _ _ _ fun e w'=>e= .returned (.int .i64 (cfE f lp lo d.code P Q 0))∧_
  unfold cfE;simp only[];have K:=qp (s:=f.ins) (by have:=HI.out.le.ins;omega);generalize (bif aG f.ins then(0:Int)else 23)=e1 at*
  go_enter Tryz.func62,Tryz.ntmps62
  go_wp2_with fail
  refine K.step hs ?_;intro w1 hs hb
  go_wp2_with fail
  go_ret
  exact⟨rfl,hs.2⟩
 ·show Calls _ _ _ _ fun e w'=>e= .returned (.int .i64 (cfE f lp lo d.code P Q 1))∧_
  unfold cfE;simp only[];obtain⟨dc,hdc⟩:∃dc,d.code=dc:=⟨_,rfl⟩;rw[hdc]at y16⊢
  clear hdc;cases dc with
  |true=>
   have K:=tV (s:=f.oth) (by have:=HI.out.le.oth;omega);obtain⟨b,hb⟩:∃b,acM f.oth=b:=⟨_,rfl⟩;obtain⟨b2,hb2⟩:∃b2,eqB f.oth f.cur=b2:=⟨_,rfl⟩;rw[hb]at K⊢
   rw[hb2];have hb3:(f.oth.toList==f.cur.toList)=b2:=hb2;clear hb hb2;cases b<;>cases b2
   all_goals
    go_enter Tryz.func62,Tryz.ntmps62
    go_wp2_with fail
    refine K.step hs ?_;intro w1 hs hb;replace HX:=ala (HX.out.on hb);clear x5 x6 x7 x8 x20 xf y15 y16 hb;have x6:=HX.out.bx.cell (i:=6) (v:=.string f.oth) rfl;have x7:=HX.out.bx.cell (i:=7) (v:=.string f.cur) rfl
    go_wp2_with fail
    go_ret
    exact⟨rfl,hs.2⟩
  |false=>
   have K:=qp (s:=f.oth) (by have:=HI.out.le.oth;omega);obtain⟨b,hb⟩:∃b,aG f.oth=b:=⟨_,rfl⟩;obtain⟨b2,hb2⟩:∃b2,eqB f.oth f.ins=b2:=⟨_,rfl⟩;rw[hb]at K⊢
   rw[hb2];have hb3:(f.oth.toList==f.ins.toList)=b2:=hb2;clear hb hb2;cases b<;>cases b2
   all_goals
    simp only[cond_true,cond_false]at K
    go_enter Tryz.func62,Tryz.ntmps62
    go_wp2_with fail
    refine K.step hs ?_;intro w1 hs hb;replace HX:=ala (HX.out.on hb);clear x5 x6 x7 x8 x20 xf y15 y16 hb;have x6:=HX.out.bx.cell (i:=6) (v:=.string f.oth) rfl;have x5:=HX.out.bx.cell (i:=5) (v:=.string f.ins) rfl
    go_wp2_with fail
    go_ret
    exact⟨rfl,hs.2⟩
 ·show Calls _ _ _ _ fun e w'=>e= .returned (.int .i64 (cfE f lp lo d.code P Q 2))∧_
  unfold cfE;simp only[];have K:=tV (s:=f.cur) (by have:=HI.out.le.cur;omega);obtain⟨b,hb⟩:∃b,acM f.cur=b:=⟨_,rfl⟩;rw[hb]at K⊢
  clear hb;cases b
  all_goals
   go_enter Tryz.func62,Tryz.ntmps62
   go_wp2_with fail
   refine K.step hs ?_;intro w1 hs hb
   go_wp2_with fail
   go_ret
   exact⟨rfl,hs.2⟩
 ·show Calls _ _ _ _ fun e w'=>e= .returned (.int .i64 (cfE f lp lo d.code P Q 3))∧_
  unfold cfE;simp only[];have K:=qp (s:=f.tgt) (by have:=HI.out.le.tgt;omega);generalize (bif aG f.tgt then(0:Int)else 23)=e1 at*
  go_enter Tryz.func62,Tryz.ntmps62
  go_wp2_with fail
  refine K.step hs ?_;intro w1 hs hb
  go_wp2_with fail
  go_ret
  exact⟨rfl,hs.2⟩
 ·show Calls _ _ _ _ fun e w'=>e= .returned (.int .i64 (cfE f lp lo d.code P Q 4))∧_
  unfold cfE;simp only[];obtain⟨b1,b2,hl1,hl2⟩:=HL.out (by omega) (by omega);have K:=gG f (i:=4) (j:=4) (by omega) (by omega);have KL:=jB (a:=(ek f 4).1) (b:=(ek f 4).2) (b1:=b1) (b2:=b2) (P:=P) (Q:=Q) (by have:=(fE HI.out.le 4).1;omega) (by have:=(fE HI.out.le 4).2;omega);dsimp only[fI]at K;generalize oO P Q (ek f 4).1 (ek f 4).2=e1 at*
  generalize (ek f 4).1=v1 at*
  generalize (ek f 4).2=v2 at*
  have HL1:=ala hl1;have HL2:=ala hl2;clear hl1 hl2 HL
  go_enter Tryz.func62,Tryz.ntmps62
  go_wp2_with fail
  obtain⟨W2,hW2⟩:∃W2,(w.alloc (.cells (bv f) 30)).alloc (.cells (rT d mv) 138)=W2:=⟨_,rfl⟩;rw[hW2]at HX HY HL1 HL2 hs⊢
  have kf:=HX.out.bx.factK rfl;have k15:=HY.out.bx.keeps (i:=15) (v:=mv) rfl;have hlk:∀u:Kept W2,(Instr.lookup 136 mv (.int .i64 4) false).run Tryz.prog u.W= .ok (.func (.func 178) #[] #[.pointer (some ⟨b1,0,none⟩),.pointer (some ⟨b2,0,none⟩)]) u.W:=fun u=>HL2.out u.W u.low
  have hII:∀u:Kept W2,abJ u.W b1 b2 P Q:=fun u=>HL1.out.on u.low
  clear hW2 x5 x6 x7 x8 x20 xf y15 y16;refine ax (by kernel_rfl) (by kernel_rfl) ?_
  repeat (go_big_quiet_step (first|(with_reducible exact K.kept hs)|(with_reducible exact dK KL hs hII)))
  refine wpQuiet_nil ?_;rintro _ ⟨u1,rfl⟩;have hs:=hs.kept u1;clear kf k15 hlk hII
  go_wp2_with fail
  go_ret
  exact⟨rfl,hs.2⟩
 ·show Calls _ _ _ _ fun e w'=>e= .returned (.int .i64 (cfE f lp lo d.code P Q 5))∧_
  unfold cfE;simp only[];obtain⟨b1,b2,hl1,hl2⟩:=HL.out (by omega) (by omega);have K:=gG f (i:=5) (j:=5) (by omega) (by omega);have KL:=jB (a:=(ek f 5).1) (b:=(ek f 5).2) (b1:=b1) (b2:=b2) (P:=P) (Q:=Q) (by have:=(fE HI.out.le 5).1;omega) (by have:=(fE HI.out.le 5).2;omega);dsimp only[fI]at K;generalize oO P Q (ek f 5).1 (ek f 5).2=e1 at*
  generalize (ek f 5).1=v1 at*
  generalize (ek f 5).2=v2 at*
  have HL1:=ala hl1;have HL2:=ala hl2;clear hl1 hl2 HL
  go_enter Tryz.func62,Tryz.ntmps62
  go_wp2_with fail
  obtain⟨W2,hW2⟩:∃W2,(w.alloc (.cells (bv f) 30)).alloc (.cells (rT d mv) 138)=W2:=⟨_,rfl⟩;rw[hW2]at HX HY HL1 HL2 hs⊢
  have kf:=HX.out.bx.factK rfl;have k15:=HY.out.bx.keeps (i:=15) (v:=mv) rfl;have hlk:∀u:Kept W2,(Instr.lookup 136 mv (.int .i64 5) false).run Tryz.prog u.W= .ok (.func (.func 178) #[] #[.pointer (some ⟨b1,0,none⟩),.pointer (some ⟨b2,0,none⟩)]) u.W:=fun u=>HL2.out u.W u.low
  have hII:∀u:Kept W2,abJ u.W b1 b2 P Q:=fun u=>HL1.out.on u.low
  clear hW2 x5 x6 x7 x8 x20 xf y15 y16;refine ax (by kernel_rfl) (by kernel_rfl) ?_
  repeat (go_big_quiet_step (first|(with_reducible exact K.kept hs)|(with_reducible exact dK KL hs hII)))
  refine wpQuiet_nil ?_;rintro _ ⟨u1,rfl⟩;have hs:=hs.kept u1;clear kf k15 hlk hII
  go_wp2_with fail
  go_ret
  exact⟨rfl,hs.2⟩
 ·show Calls _ _ _ _ fun e w'=>e= .returned (.int .i64 (cfE f lp lo d.code P Q 6))∧_
  unfold cfE;simp only[];obtain⟨b1,b2,hl1,hl2⟩:=HL.out (by omega) (by omega);have K:=gG f (i:=6) (j:=6) (by omega) (by omega);have KL:=jB (a:=(ek f 6).1) (b:=(ek f 6).2) (b1:=b1) (b2:=b2) (P:=P) (Q:=Q) (by have:=(fE HI.out.le 6).1;omega) (by have:=(fE HI.out.le 6).2;omega);dsimp only[fI]at K;generalize oO P Q (ek f 6).1 (ek f 6).2=e1 at*
  generalize (ek f 6).1=v1 at*
  generalize (ek f 6).2=v2 at*
  have HL1:=ala hl1;have HL2:=ala hl2;clear hl1 hl2 HL
  go_enter Tryz.func62,Tryz.ntmps62
  go_wp2_with fail
  obtain⟨W2,hW2⟩:∃W2,(w.alloc (.cells (bv f) 30)).alloc (.cells (rT d mv) 138)=W2:=⟨_,rfl⟩;rw[hW2]at HX HY HL1 HL2 hs⊢
  have kf:=HX.out.bx.factK rfl;have k15:=HY.out.bx.keeps (i:=15) (v:=mv) rfl;have hlk:∀u:Kept W2,(Instr.lookup 136 mv (.int .i64 6) false).run Tryz.prog u.W= .ok (.func (.func 178) #[] #[.pointer (some ⟨b1,0,none⟩),.pointer (some ⟨b2,0,none⟩)]) u.W:=fun u=>HL2.out u.W u.low
  have hII:∀u:Kept W2,abJ u.W b1 b2 P Q:=fun u=>HL1.out.on u.low
  clear hW2 x5 x6 x7 x8 x20 xf y15 y16;refine ax (by kernel_rfl) (by kernel_rfl) ?_
  repeat (go_big_quiet_step (first|(with_reducible exact K.kept hs)|(with_reducible exact dK KL hs hII)))
  refine wpQuiet_nil ?_;rintro _ ⟨u1,rfl⟩;have hs:=hs.kept u1;clear kf k15 hlk hII
  go_wp2_with fail
  go_ret
  exact⟨rfl,hs.2⟩
 ·show Calls _ _ _ _ fun e w'=>e= .returned (.int .i64 (cfE f lp lo d.code P Q 7))∧_
  unfold cfE;simp only[];obtain⟨b1,b2,hl1,hl2⟩:=HL.out (by omega) (by omega);have K:=gG f (i:=7) (j:=7) (by omega) (by omega);have KL:=jB (a:=(ek f 7).1) (b:=(ek f 7).2) (b1:=b1) (b2:=b2) (P:=P) (Q:=Q) (by have:=(fE HI.out.le 7).1;omega) (by have:=(fE HI.out.le 7).2;omega);dsimp only[fI]at K;generalize oO P Q (ek f 7).1 (ek f 7).2=e1 at*
  generalize (ek f 7).1=v1 at*
  generalize (ek f 7).2=v2 at*
  have HL1:=ala hl1;have HL2:=ala hl2;clear hl1 hl2 HL
  go_enter Tryz.func62,Tryz.ntmps62
  go_wp2_with fail
  obtain⟨W2,hW2⟩:∃W2,(w.alloc (.cells (bv f) 30)).alloc (.cells (rT d mv) 138)=W2:=⟨_,rfl⟩;rw[hW2]at HX HY HL1 HL2 hs⊢
  have kf:=HX.out.bx.factK rfl;have k15:=HY.out.bx.keeps (i:=15) (v:=mv) rfl;have hlk:∀u:Kept W2,(Instr.lookup 136 mv (.int .i64 7) false).run Tryz.prog u.W= .ok (.func (.func 178) #[] #[.pointer (some ⟨b1,0,none⟩),.pointer (some ⟨b2,0,none⟩)]) u.W:=fun u=>HL2.out u.W u.low
  have hII:∀u:Kept W2,abJ u.W b1 b2 P Q:=fun u=>HL1.out.on u.low
  clear hW2 x5 x6 x7 x8 x20 xf y15 y16;refine ax (by kernel_rfl) (by kernel_rfl) ?_
  repeat (go_big_quiet_step (first|(with_reducible exact K.kept hs)|(with_reducible exact dK KL hs hII)))
  refine wpQuiet_nil ?_;rintro _ ⟨u1,rfl⟩;have hs:=hs.kept u1;clear kf k15 hlk hII
  go_wp2_with fail
  go_ret
  exact⟨rfl,hs.2⟩
 ·show Calls _ _ _ _ fun e w'=>e= .returned (.int .i64 (cfE f lp lo d.code P Q 8))∧_
  unfold cfE;simp only[];obtain⟨b1,b2,hl1,hl2⟩:=HL.out (by omega) (by omega);have K:=gG f (i:=8) (j:=8) (by omega) (by omega);have KL:=jB (a:=(ek f 8).1) (b:=(ek f 8).2) (b1:=b1) (b2:=b2) (P:=P) (Q:=Q) (by have:=(fE HI.out.le 8).1;omega) (by have:=(fE HI.out.le 8).2;omega);dsimp only[fI]at K;generalize oO P Q (ek f 8).1 (ek f 8).2=e1 at*
  generalize (ek f 8).1=v1 at*
  generalize (ek f 8).2=v2 at*
  have HL1:=ala hl1;have HL2:=ala hl2;clear hl1 hl2 HL
  go_enter Tryz.func62,Tryz.ntmps62
  go_wp2_with fail
  obtain⟨W2,hW2⟩:∃W2,(w.alloc (.cells (bv f) 30)).alloc (.cells (rT d mv) 138)=W2:=⟨_,rfl⟩;rw[hW2]at HX HY HL1 HL2 hs⊢
  have kf:=HX.out.bx.factK rfl;have k15:=HY.out.bx.keeps (i:=15) (v:=mv) rfl;have hlk:∀u:Kept W2,(Instr.lookup 136 mv (.int .i64 8) false).run Tryz.prog u.W= .ok (.func (.func 178) #[] #[.pointer (some ⟨b1,0,none⟩),.pointer (some ⟨b2,0,none⟩)]) u.W:=fun u=>HL2.out u.W u.low
  have hII:∀u:Kept W2,abJ u.W b1 b2 P Q:=fun u=>HL1.out.on u.low
  clear hW2 x5 x6 x7 x8 x20 xf y15 y16;refine ax (by kernel_rfl) (by kernel_rfl) ?_
  repeat (go_big_quiet_step (first|(with_reducible exact K.kept hs)|(with_reducible exact dK KL hs hII)))
  refine wpQuiet_nil ?_;rintro _ ⟨u1,rfl⟩;have hs:=hs.kept u1;clear kf k15 hlk hII
  go_wp2_with fail
  go_ret
  exact⟨rfl,hs.2⟩
 ·show Calls _ _ _ _ fun e w'=>e= .returned (.int .i64 (cfE f lp lo d.code P Q 9))∧_
  unfold cfE;simp only[];obtain⟨b1,b2,hl1,hl2⟩:=HL.out (by omega) (by omega);have K:=gG f (i:=9) (j:=9) (by omega) (by omega);have KL:=jB (a:=(ek f 9).1) (b:=(ek f 9).2) (b1:=b1) (b2:=b2) (P:=P) (Q:=Q) (by have:=(fE HI.out.le 9).1;omega) (by have:=(fE HI.out.le 9).2;omega);dsimp only[fI]at K;generalize oO P Q (ek f 9).1 (ek f 9).2=e1 at*
  generalize (ek f 9).1=v1 at*
  generalize (ek f 9).2=v2 at*
  have HL1:=ala hl1;have HL2:=ala hl2;clear hl1 hl2 HL
  go_enter Tryz.func62,Tryz.ntmps62
  go_wp2_with fail
  obtain⟨W2,hW2⟩:∃W2,(w.alloc (.cells (bv f) 30)).alloc (.cells (rT d mv) 138)=W2:=⟨_,rfl⟩;rw[hW2]at HX HY HL1 HL2 hs⊢
  have kf:=HX.out.bx.factK rfl;have k15:=HY.out.bx.keeps (i:=15) (v:=mv) rfl;have hlk:∀u:Kept W2,(Instr.lookup 136 mv (.int .i64 9) false).run Tryz.prog u.W= .ok (.func (.func 178) #[] #[.pointer (some ⟨b1,0,none⟩),.pointer (some ⟨b2,0,none⟩)]) u.W:=fun u=>HL2.out u.W u.low
  have hII:∀u:Kept W2,abJ u.W b1 b2 P Q:=fun u=>HL1.out.on u.low
  clear hW2 x5 x6 x7 x8 x20 xf y15 y16;refine ax (by kernel_rfl) (by kernel_rfl) ?_
  repeat (go_big_quiet_step (first|(with_reducible exact K.kept hs)|(with_reducible exact dK KL hs hII)))
  refine wpQuiet_nil ?_;rintro _ ⟨u1,rfl⟩;have hs:=hs.kept u1;clear kf k15 hlk hII
  go_wp2_with fail
  go_ret
  exact⟨rfl,hs.2⟩
 ·show Calls _ _ _ _ fun e w'=>e= .returned (.int .i64 (cfE f lp lo d.code P Q 10))∧_
  unfold cfE;simp only[];have K:=adY f HI.out.le HI.out.hlp HI.out.np HI.out.cp HI.out.zp;dsimp only[fI]at K;generalize xy f.q lp=e1 at*
  go_enter Tryz.func62,Tryz.ntmps62
  go_wp2_with fail
  refine K.step hs HW.out.rp ?_;intro w1 hs hb
  go_wp2_with fail
  go_ret
  exact⟨rfl,hs.2⟩
 ·show Calls _ _ _ _ fun e w'=>e= .returned (.int .i64 (cfE f lp lo d.code P Q 11))∧_
  unfold cfE;simp only[];have K:=zz f HI.out.le HI.out.hlo HI.out.no HI.out.zo;dsimp only[fI]at K;generalize lC f.ins lo=e1 at*
  go_enter Tryz.func62,Tryz.ntmps62
  go_wp2_with fail
  refine K.step hs HW.out.ro ?_;intro w1 hs hb
  go_wp2_with fail
  go_ret
  exact⟨rfl,hs.2⟩
 ·show Calls _ _ _ _ fun e w'=>e= .returned (.int .i64 (cfE f lp lo d.code P Q 12))∧_
  unfold cfE;simp only[];obtain⟨b,hb⟩:∃b,decide (f.cho<0)=b:=⟨_,rfl⟩;rw[hb];cases b
  all_goals
   go_enter Tryz.func62,Tryz.ntmps62
   go_wp2_with fail
   go_ret
   exact⟨rfl,hs.2⟩
end Go.Proofs.YtjknklinhegdoaaGreatDoor
