/- TopSpunTogether: Facts that the laws leave out. Conditions: bounded sizes; variables as laid. -/
import Derived.Test.YtbkhnggmcheelaaGreatDoorGba
import Derived.Lib.AppendZerosOnto
import Derived.Lib.Overlaps
set_option linter.unusedSimpArgs false
set_option linter.unusedVariables false
set_option maxHeartbeats 4000000
set_option maxRecDepth 100000
namespace Go.Proofs.YtbkhnggmcheelaaGreatDoor
open Proofs.Tryz
section
open Go.RowKit Go.Shelf Dec QQ SP
attribute [local go_sem] Oper.semAt_some
attribute [-go_sem] loadVar
attribute [local go_sem] afr
structure Fct.big (f:Fct):Prop where
 key:f.key.size<=9223372036854775807
 ins:f.ins.size<=9223372036854775807
 oth:f.oth.size<=9223372036854775807
 cur:f.cur.size<=9223372036854775807
 tgt:f.tgt.size<=9223372036854775807
 q:f.q.size<=9223372036854775807
 a:f.a.size<=9223372036854775807
 fee:f.fee.size<=9223372036854775807
 pn:f.pn.size<=9223372036854775807
 pd:f.pd.size<=9223372036854775807
 rn:f.rn.size<=9223372036854775807
 rd:f.rd.size<=9223372036854775807
 sn:f.sn.size<=9223372036854775807
 sd:f.sd.size<=9223372036854775807
 np:f.np<=9223372036854775807
 no:f.no<=9223372036854775807
structure Ot.big (t:Ot):Prop where
 oth:t.oth.size<=9223372036854775807
 rn:t.rn.size<=9223372036854775807
 rd:t.rd.size<=9223372036854775807
 pn:t.pn.size<=9223372036854775807
 pd:t.pd.size<=9223372036854775807
 vn:t.vn.size<=9223372036854775807
 vd:t.vd.size<=9223372036854775807
def grP (p:Pk):Bool:=decide (30<p.lot.size)||decide (13<p.q.size)
def grO (t:Ot):Bool:=decide (24<t.oth.size)||nO ⟨t.rn,t.rd⟩||nO ⟨t.pn,t.pd⟩||nO ⟨t.vn,t.vd⟩
def grF (f:Fct)(lp:List Pk)(lo:List Ot):Bool:=(decide (24<f.key.size)||decide (24<f.ins.size)||decide (24<f.oth.size)||decide (24<f.cur.size)||decide (24<f.tgt.size)||decide (13<f.q.size)||decide (13<f.a.size)||decide (13<f.fee.size)||nO ⟨f.pn,f.pd⟩||nO ⟨f.rn,f.rd⟩||nO ⟨f.sn,f.sd⟩)||(decide (4<f.np)&&decide (f.np<=64)||decide (66<f.np))||(decide (3<f.no)&&decide (f.no<=8)||decide (10<f.no))||lp.any grP||lo.any grO
theorem fcs {w:World}{b:Nat}{f:Fct}(h:Bx w b (bK f)):w.cell? ⟨b,0,none⟩=some (.string f.key)/\w.cell? ⟨b,1,none⟩=some (.int .i64 f.st)/\w.cell? ⟨b,2,none⟩=some (.bool f.canc)/\w.cell? ⟨b,3,none⟩=some (.int .i64 f.day)/\w.cell? ⟨b,4,none⟩=some (.int .i64 f.kind)/\w.cell? ⟨b,5,none⟩=some (.string f.ins)/\w.cell? ⟨b,6,none⟩=some (.string f.oth)/\w.cell? ⟨b,7,none⟩=some (.string f.cur)/\w.cell? ⟨b,8,none⟩=some (.string f.tgt)/\w.cell? ⟨b,9,none⟩=some (.string f.q)/\w.cell? ⟨b,10,none⟩=some (.string f.a)/\w.cell? ⟨b,11,none⟩=some (.string f.fee)/\w.cell? ⟨b,12,none⟩=some (.string f.pn)/\w.cell? ⟨b,13,none⟩=some (.string f.pd)/\w.cell? ⟨b,14,none⟩=some (.string f.rn)/\w.cell? ⟨b,15,none⟩=some (.string f.rd)/\w.cell? ⟨b,16,none⟩=some (.string f.sn)/\w.cell? ⟨b,17,none⟩=some (.string f.sd)/\w.cell? ⟨b,18,none⟩=some (.slice f.P f.np f.cp)/\w.cell? ⟨b,19,none⟩=some (.slice f.O f.no f.co)/\w.cell? ⟨b,20,none⟩=some (.int .i64 f.cho):=
 ⟨h.cell rfl,h.cell rfl,h.cell rfl,h.cell rfl,h.cell rfl,h.cell rfl,h.cell rfl,h.cell rfl,h.cell rfl,h.cell rfl,h.cell rfl,h.cell rfl,h.cell rfl,h.cell rfl,h.cell rfl,h.cell rfl,h.cell rfl,h.cell rfl,h.cell rfl,h.cell rfl,h.cell rfl⟩
theorem aaW (f:Fct){lp:List Pk}{lo:List Ot}(hf:f.big)(hlp:lp.length=f.np)(hlo:lo.length=f.no)(hzp:∀p∈lp,p.lot.size<=9223372036854775807/\p.q.size<=9223372036854775807)(hzo:∀t∈lo,t.big):iO (FcW f lp lo) 17 #[gI f] (.bool (grF f lp lo)):=by
 intro w hg hw;have hs:=(St.refl hg).alloc (.cells (bK f) 30);have HX:=amy (TBx.new w (bK f) 30);have HW:=amy (hw.on (bal w (.cells (bK f) 30)));have hE:grF f lp lo=((decide (24<f.key.size)||decide (24<f.ins.size)||decide (24<f.oth.size)||decide (24<f.cur.size)||decide (24<f.tgt.size)||decide (13<f.q.size)||decide (13<f.a.size)||decide (13<f.fee.size)||nO ⟨f.pn,f.pd⟩||nO ⟨f.rn,f.rd⟩||nO ⟨f.sn,f.sd⟩)||(decide (4<f.np)&&decide (f.np<=64)||decide (66<f.np))||(decide (3<f.no)&&decide (f.no<=8)||decide (10<f.no))||lp.any grP||lo.any grO):=rfl;have K6:=lL hf.q;have K7:=lL hf.a;have K8:=lL hf.fee;have K9:=kG hf.pn hf.pd;have K10:=kG hf.rn hf.rd;have K11:=kG hf.sn hf.sd;unfold FV at K9 K10 K11;have q1i:decide ((24:Int)<(f.key.size:Int))=decide (24<f.key.size):=by rw[ang];omega
 have q2i:decide ((24:Int)<(f.ins.size:Int))=decide (24<f.ins.size):=by rw[ang];omega
 have q3i:decide ((24:Int)<(f.oth.size:Int))=decide (24<f.oth.size):=by rw[ang];omega
 have q4i:decide ((24:Int)<(f.cur.size:Int))=decide (24<f.cur.size):=by rw[ang];omega
 have q5i:decide ((24:Int)<(f.tgt.size:Int))=decide (24<f.tgt.size):=by rw[ang];omega
 generalize decide (24<f.key.size)=t1 at*
 generalize decide (24<f.ins.size)=t2 at*
 generalize decide (24<f.oth.size)=t3 at*
 generalize decide (24<f.cur.size)=t4 at*
 generalize decide (24<f.tgt.size)=t5 at*
 generalize decide (13<f.q.size)=t6 at*
 generalize decide (13<f.a.size)=t7 at*
 generalize decide (13<f.fee.size)=t8 at*
 generalize nO ⟨f.pn,f.pd⟩=t9 at*
 generalize nO ⟨f.rn,f.rd⟩=t10 at*
 generalize nO ⟨f.sn,f.sd⟩=t11 at*
 generalize grF f lp lo=ov at*
 have HV:Hid (((t1||t2||t3||t4||t5||t6||t7||t8||t9||t10||t11)||(decide (4<f.np)&&decide (f.np<=64)||decide (66<f.np))||(decide (3<f.no)&&decide (f.no<=8)||decide (10<f.no))||lp.any grP||lo.any grO)=ov):=hE.symm;have hnp:=hf.np;have hno:=hf.no;have HLP:=amy hlp;have HLO:=amy hlo;have HZP:=amy hzp;have HZO:=amy hzo;clear hE hf hlp hlo hzp hzo hg hw;unfold gI;obtain⟨x0, -, -, -, -,x5,x6,x7,x8,x9,x10,x11,x12,x13,x14,x15,x16,x17,x18,x19, -⟩:=fcs HX.o.bx
 go_enter func17,ntmps17
 cases t1 with
 |true=>
  obtain rfl:ov=true:=by rw[<-HV.o];simp
  go_wp2_with fail
  go_ret
  exact⟨rfl,hs.2⟩
 |false=>
  cases t2 with
  |true=>
   obtain rfl:ov=true:=by rw[<-HV.o];simp
   go_wp2_with fail
   go_ret
   exact⟨rfl,hs.2⟩
  |false=>
   cases t3 with
   |true=>
    obtain rfl:ov=true:=by rw[<-HV.o];simp
    go_wp2_with fail
    go_ret
    exact⟨rfl,hs.2⟩
   |false=>
    cases t4 with
    |true=>
     obtain rfl:ov=true:=by rw[<-HV.o];simp
     go_wp2_with fail
     go_ret
     exact⟨rfl,hs.2⟩
    |false=>
     cases t5 with
     |true=>
      obtain rfl:ov=true:=by rw[<-HV.o];simp
      go_wp2_with fail
      go_ret
      exact⟨rfl,hs.2⟩
     |false=>
      go_wp2_with fail
      refine K6.step hs ?_;intro wt6 hs hbt6;replace HX:=amy (HX.o.on hbt6);replace HW:=amy (HW.o.on hbt6);clear x0 x5 x6 x7 x8 x9 x10 x11 x12 x13 x14 x15 x16 x17 x18 x19;obtain⟨x0, -, -, -, -,x5,x6,x7,x8,x9,x10,x11,x12,x13,x14,x15,x16,x17,x18,x19, -⟩:=fcs HX.o.bx;clear hbt6 K6;cases t6 with
      |true=>
       obtain rfl:ov=true:=by rw[<-HV.o];simp
       go_wp2_with fail
       go_ret
       exact⟨rfl,hs.2⟩
      |false=>
       go_wp2_with fail
       refine K7.step hs ?_;intro wt7 hs hbt7;replace HX:=amy (HX.o.on hbt7);replace HW:=amy (HW.o.on hbt7);clear x0 x5 x6 x7 x8 x9 x10 x11 x12 x13 x14 x15 x16 x17 x18 x19;obtain⟨x0, -, -, -, -,x5,x6,x7,x8,x9,x10,x11,x12,x13,x14,x15,x16,x17,x18,x19, -⟩:=fcs HX.o.bx;clear hbt7 K7;cases t7 with
       |true=>
        obtain rfl:ov=true:=by rw[<-HV.o];simp
        go_wp2_with fail
        go_ret
        exact⟨rfl,hs.2⟩
       |false=>
        go_wp2_with fail
        refine K8.step hs ?_;intro wt8 hs hbt8;replace HX:=amy (HX.o.on hbt8);replace HW:=amy (HW.o.on hbt8);clear x0 x5 x6 x7 x8 x9 x10 x11 x12 x13 x14 x15 x16 x17 x18 x19;obtain⟨x0, -, -, -, -,x5,x6,x7,x8,x9,x10,x11,x12,x13,x14,x15,x16,x17,x18,x19, -⟩:=fcs HX.o.bx;clear hbt8 K8;cases t8 with
        |true=>
         obtain rfl:ov=true:=by rw[<-HV.o];simp
         go_wp2_with fail
         go_ret
         exact⟨rfl,hs.2⟩
        |false=>
         go_wp2_with fail
         refine K9.step hs ?_;intro wt9 hs hbt9;replace HX:=amy (HX.o.on hbt9);replace HW:=amy (HW.o.on hbt9);clear x0 x5 x6 x7 x8 x9 x10 x11 x12 x13 x14 x15 x16 x17 x18 x19;obtain⟨x0, -, -, -, -,x5,x6,x7,x8,x9,x10,x11,x12,x13,x14,x15,x16,x17,x18,x19, -⟩:=fcs HX.o.bx;clear hbt9 K9;cases t9 with
         |true=>
          obtain rfl:ov=true:=by rw[<-HV.o];simp
          go_wp2_with fail
          go_ret
          exact⟨rfl,hs.2⟩
         |false=>
          go_wp2_with fail
          refine K10.step hs ?_;intro wt10 hs hbt10;replace HX:=amy (HX.o.on hbt10);replace HW:=amy (HW.o.on hbt10);clear x0 x5 x6 x7 x8 x9 x10 x11 x12 x13 x14 x15 x16 x17 x18 x19;obtain⟨x0, -, -, -, -,x5,x6,x7,x8,x9,x10,x11,x12,x13,x14,x15,x16,x17,x18,x19, -⟩:=fcs HX.o.bx;clear hbt10 K10;cases t10 with
          |true=>
           obtain rfl:ov=true:=by rw[<-HV.o];simp
           go_wp2_with fail
           go_ret
           exact⟨rfl,hs.2⟩
          |false=>
           go_wp2_with fail
           refine K11.step hs ?_;intro wt11 hs hbt11;replace HX:=amy (HX.o.on hbt11);replace HW:=amy (HW.o.on hbt11);clear x0 x5 x6 x7 x8 x9 x10 x11 x12 x13 x14 x15 x16 x17 x18 x19;obtain⟨x0, -, -, -, -,x5,x6,x7,x8,x9,x10,x11,x12,x13,x14,x15,x16,x17,x18,x19, -⟩:=fcs HX.o.bx;clear hbt11 K11;cases t11 with
           |true=>
            obtain rfl:ov=true:=by rw[<-HV.o];simp
            go_wp2_with fail
            go_ret
            exact⟨rfl,hs.2⟩
           |false=>
            obtain⟨A,hA⟩:=eX (f.P);obtain⟨B,hB⟩:∃A,f.O=A:=⟨_,rfl⟩;obtain⟨n,hn⟩:=eX (f.np);obtain⟨m,hm⟩:∃n,f.no=n:=⟨_,rfl⟩;obtain⟨c,hc⟩:=eX (f.cp);obtain⟨d,hd⟩:∃c,f.co=c:=⟨_,rfl⟩;rw[hA,hn,hc]at x18;rw[hB,hm,hd]at x19;rw[hn]at hnp HLP;rw[hm]at hno HLO;have HC:=amy (And.intro hA (And.intro hn (And.intro hc (And.intro hB (And.intro hm hd)))));have HR:=amy HW.o.rp;have HQ:=amy HW.o.ro;rw[hA]at HR;rw[hB]at HQ;have HV1:Hid (((decide (4<n)&&decide (n<=64)||decide (66<n))||(decide (3<m)&&decide (m<=8)||decide (10<m))||lp.any grP||lo.any grO)=ov):=by
             have:=HV.o;rw[hn,hm]at this;exact show _=_ from by simpa using this
            clear HV HW hA hB hn hm hc hd;have q1:decide ((4:Int)<(n:Int))=decide (4<n):=by rw[ang];omega
            have q2:decide ((n:Int)<=64)=decide (n<=64):=by rw[ang];omega
            have q3:decide ((66:Int)<(n:Int))=decide (66<n):=by rw[ang];omega
            have q4:decide ((3:Int)<(m:Int))=decide (3<m):=by rw[ang];omega
            have q5:decide ((m:Int)<=8)=decide (m<=8):=by rw[ang];omega
            have q6:decide ((10:Int)<(m:Int))=decide (10<m):=by rw[ang];omega
            generalize decide (4<n)=b1 at*
            generalize decide (n<=64)=b2 at*
            generalize decide (66<n)=b3 at*
            generalize decide (3<m)=b4 at*
            generalize decide (m<=8)=b5 at*
            generalize decide (10<m)=b6 at*
            go_upto_region 3 with (fail)
            by_cases hbb:(b1&&b2||b3)=true
            case pos=>
             obtain rfl:ov=true:=by rw[<-HV1.o,hbb];simp
             clear HV1;cases b1<;>cases b2<;>cases b3<;>first
              |exact absurd hbb (by decide)
              |(go_wp2_with fail
                go_ret
                exact⟨rfl,hs.2⟩)
            have hbf:(b1&&b2||b3)=false:=by simpa using hbb
            have HV2:Hid (((b4&&b5||b6)||lp.any grP||lo.any grO)=ov):=by
             have:=HV1.o;rw[hbf]at this;exact show _=_ from by simpa using this
            clear HV1 hbb;by_cases hcc:(b4&&b5||b6)=true
            case pos=>
             obtain rfl:ov=true:=by rw[<-HV2.o,hcc];simp
             clear HV2;cases b1<;>cases b2<;>cases b3<;>first
              |exact absurd hbf (by decide)
              |(cases b4<;>cases b5<;>cases b6<;>first
                 |exact absurd hcc (by decide)
                 |(go_wp2_with fail
                   go_ret
                   exact⟨rfl,hs.2⟩))
            have hcf:(b4&&b5||b6)=false:=by simpa using hcc
            have HV3:Hid ((lp.any grP||lo.any grO)=ov):=by
             have:=HV2.o;rw[hcf]at this;exact show _=_ from by simpa using this
            clear HV2 hcc
            go_cut [97] (fun s wx=>s= .bool false/\wx=wt11)
            case first=>
             clear HV3 HLP HLO HZP HZO HR HQ HC;cases b1<;>cases b2<;>cases b3<;>first
              |exact absurd hbf (by decide)
              |(cases b4<;>cases b5<;>cases b6<;>first
                 |exact absurd hcf (by decide)
                 |(go_wp2_with fail
                   go_meet
                   exact⟨rfl,rfl⟩))
            case rest=>
            obtain⟨rfl,rfl⟩:=hcut;clear q1 q2 q3 q4 q5 q6 hbf hcf x18 x19
            go_wp2_with fail
            go_loopw [3] (fun s wr=>∃k:Nat,k<=n/\s= .int .i64 (k:Int)/\St w wr/\Hid (TBx wr w.heap.size (bK f) 30)/\Hid (Row wr A (av dA lp))/\Hid (Row wr B (av eD lo))/\Hid (∀i,i<k->∀t,lp[i]? =some t->grP t=false)) (fun s _=>(n-intOf s).toNat)
            case atStart=>exact⟨0,by omega,rfl,hs,HX,HR,HQ,fun i h=>by omega⟩
            case round=>
             clear HX HR HQ;obtain⟨k,hk,rfl,hs,HX,HR,HQ,HP⟩:=hrel;have x18:=HX.o.bx.c 18 (.slice f.P f.np f.cp) rfl;rw[HC.o.1,HC.o.2.1,HC.o.2.2.1]at x18;by_cases hkn:k=n
             ·subst hkn
              have q:decide ((k:Int)<(k:Int))=false:=am1 (by omega);have hv:lp.any grP=false:=by
               rw[List.any_eq_false];intro s hs;obtain⟨i,hi,rfl⟩:=List.mem_iff_getElem.1 hs;rw[HP.o i (by have:=HLP.o;omega) _ (amB hi)];decide
              have HV4:Hid (lo.any grO=ov):=by show _=_;rw[<-HV3.o,hv];rfl
              clear HV3 hv HP
              go_wp2_with fail
              clear x18
              go_loopw [4] (fun s wr=>∃k:Nat,k<=m/\s= .int .i64 (k:Int)/\St w wr/\Hid (TBx wr w.heap.size (bK f) 30)/\Hid (Row wr B (av eD lo))/\Hid (∀i,i<k->∀t,lo[i]? =some t->grO t=false)) (fun s _=>(m-intOf s).toNat)
              case atStart=>exact⟨0,by omega,rfl,hs,HX,HQ,fun i h=>by omega⟩
              case round=>
               clear HX HQ;obtain⟨k,hk,rfl,hs,HX,HQ,HP⟩:=hrel;have x19:=HX.o.bx.c 19 (.slice f.O f.no f.co) rfl;rw[HC.o.2.2.2.1,HC.o.2.2.2.2.1,HC.o.2.2.2.2.2]at x19;by_cases hkn:k=m
               ·subst hkn
                have q:decide ((k:Int)<(k:Int))=false:=am1 (by omega);have hv:ov=false:=by
                 rw[<-HV4.o,List.any_eq_false];intro s hs;obtain⟨i,hi,rfl⟩:=List.mem_iff_getElem.1 hs;rw[HP.o i (by have:=HLO.o;omega) _ (amB hi)];decide
                subst hv
                go_wp2_with fail
                go_ret
                exact⟨rfl,hs.2⟩
               ·have hkl:k<m:=by omega
                have q:decide ((k:Int)<(m:Int))=true:=am2 (by omega);have qn:decide (k<m)=true:=am2 hkl;obtain⟨t,ht⟩:∃d,lo[k]? =some d:=⟨lo[k]'(by rw[HLO.o];exact hkl),by simp⟩;obtain⟨b,o,hAb,hb,hcells⟩:=dV (cs:=eD) (m:=7) jo (by decide) HQ.o ht;subst hAb;have y0:wr.cell? ⟨b,o+k*7,none⟩=some (.string t.oth):=hcells 0 _ rfl;have y1:wr.cell? ⟨b,o+k*7+1,none⟩=some (.string t.rn):=hcells 1 _ rfl;have y2:wr.cell? ⟨b,o+k*7+2,none⟩=some (.string t.rd):=hcells 2 _ rfl;have y3:wr.cell? ⟨b,o+k*7+3,none⟩=some (.string t.pn):=hcells 3 _ rfl;have y4:wr.cell? ⟨b,o+k*7+4,none⟩=some (.string t.pd):=hcells 4 _ rfl;have y5:wr.cell? ⟨b,o+k*7+5,none⟩=some (.string t.vn):=hcells 5 _ rfl;have y6:wr.cell? ⟨b,o+k*7+6,none⟩=some (.string t.vd):=hcells 6 _ rfl;have hz:=HZO.o t (amI ht);have K2:=kG hz.rn hz.rd;have K3:=kG hz.pn hz.pd;have K4:=kG hz.vn hz.vd;unfold FV at K2 K3 K4;have hgo:grO t=(decide (24<t.oth.size)||nO ⟨t.rn,t.rd⟩||nO ⟨t.pn,t.pd⟩||nO ⟨t.vn,t.vd⟩):=rfl;have q1i:decide ((24:Int)<(t.oth.size:Int))=decide (24<t.oth.size):=by rw[ang];omega
                have HT:=amy ht;generalize decide (24<t.oth.size)=t1 at*
                generalize nO ⟨t.rn,t.rd⟩=t2 at*
                generalize nO ⟨t.pn,t.pd⟩=t3 at*
                generalize nO ⟨t.vn,t.vd⟩=t4 at*
                have HGO:Hid (grO t=(t1||t2||t3||t4)):=hgo;have yes:Hid ((t1||t2||t3||t4)=true->ov=true):=fun h=>by
                 rw[<-HV4.o,List.any_eq_true];exact⟨_,amI HT.o,by rw[HGO.o];exact h⟩
                have hba:Below wr.heap.size wr (wr.alloc (.cells #[.string t.oth,.string t.rn,.string t.rd,.string t.pn,.string t.pd,.string t.vn,.string t.vd] 47)):=bal _ _;have HY:=amy (TBx.new wr #[.string t.oth,.string t.rn,.string t.rd,.string t.pn,.string t.pd,.string t.vn,.string t.vd] 47);replace HX:=amy (HX.o.on hba);replace HQ:=amy (HQ.o.on hba);replace hs:=hs.on hba;have z0:=HY.o.bx.c 0 (.string t.oth) rfl;have z1:=HY.o.bx.c 1 (.string t.rn) rfl;have z2:=HY.o.bx.c 2 (.string t.rd) rfl;have z3:=HY.o.bx.c 3 (.string t.pn) rfl;have z4:=HY.o.bx.c 4 (.string t.pd) rfl;have z5:=HY.o.bx.c 5 (.string t.vn) rfl;have z6:=HY.o.bx.c 6 (.string t.vd) rfl;clear hcells ht hkn hgo hz hba hb;cases t1 with
                |true=>
                 obtain rfl:ov=true:=yes.o (by simp)
                 go_wp2_with fail
                 go_ret
                 exact⟨rfl,hs.2⟩
                |false=>
                 go_wp2_with fail
                 refine K2.step hs ?_;intro wt2 hs hbt2;replace HX:=amy (HX.o.on hbt2);replace HQ:=amy (HQ.o.on hbt2);replace HY:=amy (HY.o.on hbt2);clear z0 z1 z2 z3 z4 z5 z6;have z0:=HY.o.bx.c 0 (.string t.oth) rfl;have z1:=HY.o.bx.c 1 (.string t.rn) rfl;have z2:=HY.o.bx.c 2 (.string t.rd) rfl;have z3:=HY.o.bx.c 3 (.string t.pn) rfl;have z4:=HY.o.bx.c 4 (.string t.pd) rfl;have z5:=HY.o.bx.c 5 (.string t.vn) rfl;have z6:=HY.o.bx.c 6 (.string t.vd) rfl;clear hbt2 K2;cases t2 with
                 |true=>
                  obtain rfl:ov=true:=yes.o (by simp)
                  go_wp2_with fail
                  go_ret
                  exact⟨rfl,hs.2⟩
                 |false=>
                  go_wp2_with fail
                  refine K3.step hs ?_;intro wt3 hs hbt3;replace HX:=amy (HX.o.on hbt3);replace HQ:=amy (HQ.o.on hbt3);replace HY:=amy (HY.o.on hbt3);clear z0 z1 z2 z3 z4 z5 z6;have z0:=HY.o.bx.c 0 (.string t.oth) rfl;have z1:=HY.o.bx.c 1 (.string t.rn) rfl;have z2:=HY.o.bx.c 2 (.string t.rd) rfl;have z3:=HY.o.bx.c 3 (.string t.pn) rfl;have z4:=HY.o.bx.c 4 (.string t.pd) rfl;have z5:=HY.o.bx.c 5 (.string t.vn) rfl;have z6:=HY.o.bx.c 6 (.string t.vd) rfl;clear hbt3 K3;cases t3 with
                  |true=>
                   obtain rfl:ov=true:=yes.o (by simp)
                   go_wp2_with fail
                   go_ret
                   exact⟨rfl,hs.2⟩
                  |false=>
                   go_wp2_with fail
                   refine K4.step hs ?_;intro wt4 hs hbt4;replace HX:=amy (HX.o.on hbt4);replace HQ:=amy (HQ.o.on hbt4);replace HY:=amy (HY.o.on hbt4);clear z0 z1 z2 z3 z4 z5 z6;have z0:=HY.o.bx.c 0 (.string t.oth) rfl;have z1:=HY.o.bx.c 1 (.string t.rn) rfl;have z2:=HY.o.bx.c 2 (.string t.rd) rfl;have z3:=HY.o.bx.c 3 (.string t.pn) rfl;have z4:=HY.o.bx.c 4 (.string t.pd) rfl;have z5:=HY.o.bx.c 5 (.string t.vn) rfl;have z6:=HY.o.bx.c 6 (.string t.vd) rfl;clear hbt4 K4;cases t4 with
                   |true=>
                    obtain rfl:ov=true:=yes.o (by simp)
                    go_wp2_with fail
                    go_ret
                    exact⟨rfl,hs.2⟩
                   |false=>
                    go_wp2_with fail
                    go_roundw
                    case rel=>
                     refine⟨k+1,by omega,by go_num,hs,HX,HQ,fun i hi t ht=>?_⟩;by_cases e:i=k
                     ·subst e
                      rw[HT.o]at ht;cases ht;exact HGO.o
                     ·exact HP.o i (by omega) t ht
                    case measure=>simp[intOf];omega
             ·have hkl:k<n:=by omega
              have q:decide ((k:Int)<(n:Int))=true:=am2 (by omega);have qn:decide (k<n)=true:=am2 hkl;obtain⟨p,hp⟩:∃d,lp[k]? =some d:=⟨lp[k]'(by rw[HLP.o];exact hkl),by simp⟩;obtain⟨b,o,hAb,hb,hcells⟩:=dV (cs:=dA) (m:=2) ic (by decide) HR.o hp;subst hAb;have y0:wr.cell? ⟨b,o+k*2,none⟩=some (.string p.lot):=hcells 0 _ rfl;have y1:wr.cell? ⟨b,o+k*2+1,none⟩=some (.string p.q):=hcells 1 _ rfl;have hz:=HZP.o p (amI hp);have K2:=lL hz.2;have hgo:grP p=(decide (30<p.lot.size)||decide (13<p.q.size)):=rfl;have q1i:decide ((30:Int)<(p.lot.size:Int))=decide (30<p.lot.size):=by rw[ang];omega
              have HT:=amy hp;generalize decide (30<p.lot.size)=t1 at*
              generalize decide (13<p.q.size)=t2 at*
              have HGO:Hid (grP p=(t1||t2)):=hgo;have yes:Hid ((t1||t2)=true->ov=true):=fun h=>by
               have h2:lp.any grP=true:=by
                rw[List.any_eq_true];exact⟨_,amI HT.o,by rw[HGO.o];exact h⟩
               rw[<-HV3.o,h2];rfl
              clear hcells hp hkn hgo hz hb;cases t1 with
              |true=>
               obtain rfl:ov=true:=yes.o (by simp)
               go_wp2_with fail
               go_ret
               exact⟨rfl,hs.2⟩
              |false=>
               go_wp2_with fail
               refine K2.step hs ?_;intro wt2 hs hbt2;replace HX:=amy (HX.o.on hbt2);replace HR:=amy (HR.o.on hbt2);replace HQ:=amy (HQ.o.on hbt2);clear hbt2 K2;cases t2 with
               |true=>
                obtain rfl:ov=true:=yes.o (by simp)
                go_wp2_with fail
                go_ret
                exact⟨rfl,hs.2⟩
               |false=>
                go_wp2_with fail
                go_roundw
                case rel=>
                 refine⟨k+1,by omega,by go_num,hs,HX,HR,HQ,fun i hi t ht=>?_⟩;by_cases e:i=k
                 ·subst e
                  rw[HT.o]at ht;cases ht;exact HGO.o
                 ·exact HP.o i (by omega) t ht
                case measure=>simp[intOf];omega
end
section
open Go.RowKit Go.Shelf Dec QQ SP
attribute [local go_sem] Oper.semAt_some
attribute [-go_sem] loadVar
attribute [local go_sem] afr
theorem alu (f:Fct){b c:Nat}{g:FuncId}{p:Bool}{I:World->Prop}(hI:adP I)(hcf:∀(args:Array Value) (u:World),(callFunc g args).run prog u= .ok (.enter g args) u)(KF:iO I g #[gI f] (.bool p)):
 iO (fun w=>TBx w b (bK f) 30/\I w) 48 #[.slice (some ⟨b,0,none⟩) 1 c,.func (.func g) #[] #[]] (.int .i64 (bif p then 0 else-1)):=by
 intro w hg hi;have hs:=St.refl hg;have Hi:=amy hi;have HI:=amy hI;unfold gI at KF;clear hi hI
 go_enter func48,ntmps48
 go_wp2_with fail
 go_loopw [8] (fun s wr=>∃k:Nat,k<=1/\s= .int .i64 (k:Int)/\St w wr/\Hid (TBx wr b (bK f) 30/\I wr)/\Hid (k=1->p=false)) (fun s _=>(1-intOf s).toNat)
 case atStart=>exact⟨0,by omega,rfl,hs,Hi,fun h=>by omega⟩
 case round=>
  obtain⟨k,hk,rfl,hs,H,HP⟩:=hrel;by_cases hkn:k=1
  ·subst hkn
   have hp:p=false:=HP.o rfl;subst hp;have q:decide (((1:Nat):Int)<1)=false:=by decide
   go_wp2_with fail
   go_ret
   exact⟨rfl,hs.2⟩
  ·obtain rfl:k=0:=by omega
   have q:decide (((0:Nat):Int)<1)=true:=by decide
   have xf:=H.o.1.bx.fact rfl;have xf2:(loadVar 30 ⟨b,0+0*21,none⟩).run prog wr= .ok (.agg (bK f)) wr:=xf;clear hkn;cases p with
   |true=>
    go_wp2_with fail
    refine KF.step hs H.o.2 ?_;intro w2 hs hb
    go_wp2_with fail
    go_ret
    exact⟨rfl,hs.2⟩
   |false=>
    go_wp2_with fail
    refine KF.step hs H.o.2 ?_;intro w2 hs hb;have H2:Hid (TBx w2 b (bK f) 30/\I w2):=⟨H.o.1.on hb,HI.o _ _ H.o.2 hb⟩;clear xf xf2
    go_wp2_with fail
    go_roundw
    case rel=>exact⟨1,by omega,by go_num,hs,H2,fun _=>by trivial⟩
    case measure=>simp[intOf]
theorem adA (f:Fct){b c:Nat}{g:FuncId}{p:Bool}{I:World->Prop}(hI:adP I)(hcf:∀(args:Array Value) (u:World),(callFunc g args).run prog u= .ok (.enter g args) u)(KF:iO I g #[gI f] (.bool p)):
 iO (fun w=>TBx w b (bK f) 30/\I w) 16 #[.slice (some ⟨b,0,none⟩) 1 c,.func (.func g) #[] #[]] (.bool p):=by
 intro w hg hi;have hs:=St.refl hg;have K:=alu f (b:=b) (c:=c) hI hcf KF;have Hi:=amy hi;clear hi hI
 go_enter func16,ntmps16
 cases p with
 |true=>
  replace K:iO (fun w=>TBx w b (bK f) 30/\I w) 48 #[.slice (some ⟨b,0,none⟩) 1 c,.func (.func g) #[] #[]] (.int .i64 0):=K
  go_wp2_with fail
  refine K.step hs Hi.o ?_;intro w1 hs _
  go_wp2_with fail
  go_ret
  exact⟨rfl,hs.2⟩
 |false=>
  replace K:iO (fun w=>TBx w b (bK f) 30/\I w) 48 #[.slice (some ⟨b,0,none⟩) 1 c,.func (.func g) #[] #[]] (.int .i64 (-1)):=K
  go_wp2_with fail
  refine K.step hs Hi.o ?_;intro w1 hs _
  go_wp2_with fail
  go_ret
  exact⟨rfl,hs.2⟩
theorem acI (f:Fct){lp:List Pk}{lo:List Ot}{A:Option Addr}{n c b c':Nat}{l:List Lt}(hn:l.length=n)(hm:n<=9223372036854775807)(hz:∀x∈l,x.big)(hf:f.big)(hlp:lp.length=f.np)(hlo:lo.length=f.no)(hzp:∀p∈lp,p.lot.size<=9223372036854775807/\p.q.size<=9223372036854775807)(hzo:∀t∈lo,t.big):
 iO (fun w=>Row w A (av aa l)/\TBx w b (bK f) 30/\FcW f lp lo w) 4 #[.slice A n c,.slice (some ⟨b,0,none⟩) 1 c'] (.bool (alA n l||grF f lp lo)):=by
 intro w hg hi;have hs:=St.refl hg;have K1:=gr_any (A:=A) (c:=c) hn hm hz;have K2:=adA f (b:=b) (c:=c') (g:=17) (I:=FcW f lp lo) (fun _ _ h hb=>h.on hb) (fun _ _=>rfl) (aaW f hf hlp hlo hzp hzo);generalize alA n l=b1 at*
 generalize grF f lp lo=b2 at*
 have HR:=amy hi.1;have HT:=amy hi.2.1;have HW:=amy hi.2.2;clear hi hn hm hz hf hlp hlo hzp hzo
 go_enter func4,ntmps4
 go_wp2_with fail
 refine K1.step hs HR.o ?_;intro w1 hs hb1;replace HT:=amy (HT.o.on hb1);replace HW:=amy (HW.o.on hb1);clear HR K1 hb1;cases b1 with
 |true=>
  go_wp2_with fail
  go_ret
  exact⟨rfl,hs.2⟩
 |false=>
  go_wp2_with fail
  refine K2.step hs ⟨HT.o,HW.o⟩ ?_;intro w2 hs hb2
  go_wp2_with fail
  go_ret
  exact⟨rfl,hs.2⟩
end
section
open Go.RowKit
variable {P:Program}
theorem wE (w:World)(dT sT ty elem:TypeId)(m g o dLen dCap:Nat)(a:Addr)(sLen sCap:Nat)(cur:Array Value)(t:TypeId)(cs:List Value)
 (hu:P.underlying dT=some (.slice elem)) (hs:(P.info? elem).map (·.size)=some m)
 (hg:w.heap[g]? =some (.cells cur t (0,0))) (hn:cs.length=Nat.min sLen dLen*m)
 (hsrc:∀j v,cs[j]? =some v->w.cell? (a.add j)=some v) (hfit:o+cs.length<=cur.size) (h1:∀v∈cs,v.oneCell'=true):
 (Builtin.copy_ #[dT,sT] ty #[.slice (some ⟨g,o,none⟩) dLen dCap,.slice (some a) sLen sCap]).run P w=
  .ok (goInt (Nat.min sLen dLen:Nat)) (w.setRow g (cur.toList.take o++cs++cur.toList.drop (o+cs.length)).toArray):=by
 have hl:=run_loadCells_list (P:=P) w a cs hsrc;have hst:=run_storeCells_at P g o t cs 0 cur w hg (by simpa using hfit) h1;cases hq:P.info? elem with
 |none=>simp[hq]at hs
 |some i=>
  have hi:i.size=m:=by simpa[hq]using hs
  simp[Builtin.copy_,run_underlying hu,Builtin.lenOf,Builtin.firstCells,sizeOf,typeInfo,hq,hi, <-hn,hl,hst]
theorem tZ (w:World)(dT sT ty elem:TypeId)(m:Nat)(d a:Option Addr)(dLen dCap sLen sCap:Nat)(hu:P.underlying dT=some (.slice elem))(hs:(P.info? elem).map (·.size)=some m)(hn:Nat.min sLen dLen=0):
 (Builtin.copy_ #[dT,sT] ty #[.slice d dLen dCap,.slice a sLen sCap]).run P w= .ok (goInt 0) w:=by
 cases hq:P.info? elem with
 |none=>simp[hq]at hs
 |some i=>
  have hl:∀(x:Addr),(loadCells x 0).run P w= .ok #[] w:=fun x=>by simpa using run_loadCells_list (P:=P) w x [] (by simp)
  cases d<;>cases a<;>simp[Builtin.copy_,run_underlying hu,Builtin.lenOf,Builtin.firstCells,sizeOf,typeInfo,hq,hn,storeCells,hl]
structure Spliced (g:Nat) (cur:List Value) (t:TypeId) (off:Nat) (cs:List Value) (w w':World):Prop where
 row:w'.heap[g]? =some (.cells (splice cur off cs).toArray t (0,0))
 by':w.grownBy w' (some g)
 sz:w'.heap.size=w.heap.size
theorem acO {α:Type}(L:List α)(o:Nat):splice L o []=L:=by simp[splice]
theorem aam {w:World}{g:Nat}{cur:List Value}{t:TypeId}{off:Nat}(hg:w.heap[g]? =some (.cells cur.toArray t (0,0))):Spliced g cur t off [] w w:=
 ⟨by rw[acO];exact hg,⟨rfl,rfl,rfl,am4 _,fun _ _ _=>rfl⟩,rfl⟩
theorem aal {w:World}{g:Nat}{cur:List Value}{t:TypeId}{off:Nat}{cs:List Value}(hg:w.heap[g]? =some (.cells cur.toArray t (0,0))):
 Spliced g cur t off cs w (w.setRow g (cur.take off++cs++cur.drop (off+cs.length)).toArray):=
 ⟨by simpa[splice]using setRow_heap w g _ _ t _ hg,⟨rfl,rfl,rfl,by simp[World.setRow],fun k _ hne=>setRow_other w g k _ (fun e=>hne (by rw[e]))⟩,by simp[World.setRow]⟩
theorem gu (w:World)(dT sT elem:TypeId)(m:Nat)(hu:P.underlying dT=some (.slice elem))(hsz:(P.info? elem).map (·.size)=some m)
 (dp sp:Option Addr) (dLen dCap sLen sCap:Nat) (g off:Nat) (cur:List Value) (t:TypeId) (hg:w.heap[g]? =some (.cells cur.toArray t (0,0))) (cs:List Value) (hn:cs.length=Nat.min sLen dLen*m) (h0:0<m)
 (hpos:0<cs.length->dp=some ⟨g,off,none⟩/\∃ad,sp=some ad/\∀j v,cs[j]? =some v->w.cell? (ad.add j)=some v)
 (hfit:off+cs.length<=cur.length) (h1:∀v∈cs,v.oneCell'=true):
 ∃w',Spliced g cur t off cs w w'/\∀ty,(Builtin.copy_ #[dT,sT] ty #[.slice dp dLen dCap,.slice sp sLen sCap]).run P w= .ok (goInt (Nat.min sLen dLen:Nat)) w':=by
 by_cases h0':cs.length=0
 ·obtain rfl:cs=[]:=amX h0'
  have hz:Nat.min sLen dLen=0:=by
   rcases Nat.mul_eq_zero.1 (hn.symm.trans h0')with h|h
   ·exact h
   ·omega
  refine⟨w,aam hg,fun ty=>?_⟩;rw[hz];exact tZ w dT sT ty elem m dp sp dLen dCap sLen sCap hu hsz hz
 ·obtain⟨rfl,ad,rfl,hsrc⟩:=hpos (by omega)
  refine⟨_,aal hg,fun ty=>?_⟩;have:=wE (P:=P) w dT sT ty elem m g off dLen dCap ad sLen sCap cur.toArray t cs hu hsz hg hn hsrc (by simpa using hfit) h1;simpa using this
theorem iQ {ops:Array Oper}{o:Oper}{a:Act}{w:World}{K:Act->World->Prop}{Q:Exit->Act->World->Prop}{E:Prop}(hgd:o.guard=none)(d s:Operand)(dT sT:TypeId)
 (ho:o.op= .call {callee:=.builtin .copy,args:= #[d,s],argTypes:= #[dT,sT]}) (elem:TypeId) (m:Nat) (hu:P.underlying dT=some (.slice elem)) (hsz:(P.info? elem).map (·.size)=some m) (h0:0<m)
 (dp sp:Option Addr) (dLen dCap sLen sCap:Nat) (hd:a.eval d= .slice dp dLen dCap) (hs:a.eval s= .slice sp sLen sCap)
 (g off:Nat) (cur:List Value) (t:TypeId) (hg:w.heap[g]? =some (.cells cur.toArray t (0,0))) (cs:List Value) (hn:cs.length=Nat.min sLen dLen*m)
 (hpos:0<cs.length->dp=some ⟨g,off,none⟩/\∃ad,sp=some ad/\∀j v,cs[j]? =some v->w.cell? (ad.add j)=some v)
 (hfit:off+cs.length<=cur.length) (h1:∀v∈cs,v.oneCell'=true)
 (h:∀w',Hid (Spliced g cur t off cs w w')->K (a.put o.dst (goInt (Nat.min sLen dLen:Nat))) w'):
 if Region.wanted o (yielded ops a.tmps)=true then Oper.wp P o a w K Q else E:=by
 have hw:Region.wanted o (yielded ops a.tmps)=true:=by simp[Region.wanted,hgd]
 rw[if_pos hw];obtain⟨w',hsp,hrun⟩:=gu (P:=P) w dT sT elem m hu hsz dp sp dLen dCap sLen sCap g off cur t hg cs hn h0 hpos hfit h1;unfold Oper.wp;simp[execOp,ho,resolve,invoke,builtin,hd,hs,hrun,Result.andThen];exact h w' hsp
def jm {α:Type}(xs:List α)(k:Nat)(ys:List α):List α:=xs.take k++(ys++xs.drop k)
theorem aeN {α:Type}(xs ys:List α)(k:Nat)(h:xs.length<=k):jm xs k ys=xs++ys:=by
 unfold jm;rw[amK h,List.drop_eq_nil_of_le h,List.append_nil]
theorem aan {α:Type}(cur xs ys:List α)(k n:Nat)(hx:cur.take n=xs)(hl:xs.length=n)(hk:k<=n)(hr:n+ys.length<=cur.length):
 (splice (splice cur (k+ys.length) (xs.drop k)) k ys).take (n+ys.length)=jm xs k ys:=by
 subst hx;have hn:n<=cur.length:=by omega
 apply anl;intro j;simp only[splice,jm,amZ,List.getElem?_append,List.getElem?_drop,amO,am8,am0]
 grind
theorem acP {α:Type}(cur xs ys:List α)(k n:Nat)(hl:xs.length=n)(hk:k<=n)(hx:cur.take k=xs.take k)(hr:n+ys.length<=cur.length):
 (splice (splice cur k ys) (k+ys.length) (xs.drop k)).take (n+ys.length)=jm xs k ys:=by
 have hc:∀j,j<k->cur[j]? =xs[j]?:=fun j hj=>by
  have:=congrArg (·[j]?) hx;simpa[amZ,hj]using this
 apply anl;intro j;simp only[splice,jm,amZ,List.getElem?_append,List.getElem?_drop,amO,am8,am0]
 grind
end
section
def kR (l:List Lt)(x:Lt):Int:=bif aN l !=0 then 1 else bif nN x !=0 then nN x else bif l.any (fun y=>eqB y.id x.id)then 5 else bif decide (1000<=l.length)then 4 else 0
def vM (l:List Lt)(x:Lt)(L:List Lt):Prop:=∃k,k<=l.length/\L=jm l k [x]/\∀y∈l.drop k,eqB y.ins x.ins=false
inductive OpnAll (L:List Lt):List Lt->List Lt->Prop
 |nil:OpnAll L [] L
 |snoc {xs M x L'}:OpnAll L xs M->kR M x=0->vM M x L'->OpnAll L (xs++ [x]) L'
end
end Go.Proofs.YtbkhnggmcheelaaGreatDoor
