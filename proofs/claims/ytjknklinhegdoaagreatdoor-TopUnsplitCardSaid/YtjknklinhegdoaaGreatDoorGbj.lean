/- Facts that the laws leave out: trancheref13.Great. Conditions: sizes that strings can have. Facts that the laws leave out: lists of one fact, top48Great. Conditions: sizes that strings can have. Splits and what undoes them: what Check asks, what mappings are asked. -/
import Derived.Test.YtjknklinhegdoaaGreatDoorGbi
set_option linter.unusedSimpArgs false
set_option linter.unusedVariables false
set_option maxHeartbeats 4000000
set_option maxRecDepth 100000
namespace Go.Proofs.YtjknklinhegdoaaGreatDoor
open Go.RowKit Go.Shelf Dec QQ SP
attribute [local go_sem] Oper.semAt_some
attribute [-go_sem] loadVar
attribute [local go_sem] aa3
structure Fct.big (f:Fct):Prop where
 key:f.key.size≤9223372036854775807
 ins:f.ins.size≤9223372036854775807
 oth:f.oth.size≤9223372036854775807
 cur:f.cur.size≤9223372036854775807
 tgt:f.tgt.size≤9223372036854775807
 q:f.q.size≤9223372036854775807
 a:f.a.size≤9223372036854775807
 fee:f.fee.size≤9223372036854775807
 pn:f.pn.size≤9223372036854775807
 pd:f.pd.size≤9223372036854775807
 rn:f.rn.size≤9223372036854775807
 rd:f.rd.size≤9223372036854775807
 sn:f.sn.size≤9223372036854775807
 sd:f.sd.size≤9223372036854775807
 np:f.np≤9223372036854775807
 no:f.no≤9223372036854775807
structure Ot.big (t:Ot):Prop where
 oth:t.oth.size≤9223372036854775807
 rn:t.rn.size≤9223372036854775807
 rd:t.rd.size≤9223372036854775807
 pn:t.pn.size≤9223372036854775807
 pd:t.pd.size≤9223372036854775807
 vn:t.vn.size≤9223372036854775807
 vd:t.vd.size≤9223372036854775807
def grP (p:Pk):Bool:=decide (30<p.lot.size)||decide (13<p.q.size)
def grO (t:Ot):Bool:=decide (24<t.oth.size)||mE ⟨t.rn,t.rd⟩||mE ⟨t.pn,t.pd⟩||mE ⟨t.vn,t.vd⟩
def grF (f:Fct)(lp:List Pk)(lo:List Ot):Bool:=(decide (24<f.key.size)||decide (24<f.ins.size)||decide (24<f.oth.size)||decide (24<f.cur.size)||decide (24<f.tgt.size)||decide (13<f.q.size)||decide (13<f.a.size)||decide (13<f.fee.size)||mE ⟨f.pn,f.pd⟩||mE ⟨f.rn,f.rd⟩||mE ⟨f.sn,f.sd⟩)||(decide (4<f.np)&&decide (f.np≤64)||decide (66<f.np))||(decide (3<f.no)&&decide (f.no≤8)||decide (10<f.no))||lp.any grP||lo.any grO
theorem fcs {w:World}{b:Nat}{f:Fct}(h:Bx w b (bv f)):w.cell? ⟨b,0,none⟩=some (.string f.key)∧w.cell? ⟨b,1,none⟩=some (.int .i64 f.st)∧w.cell? ⟨b,2,none⟩=some (.bool f.canc)∧w.cell? ⟨b,3,none⟩=some (.int .i64 f.day)∧w.cell? ⟨b,4,none⟩=some (.int .i64 f.kind)∧w.cell? ⟨b,5,none⟩=some (.string f.ins)∧w.cell? ⟨b,6,none⟩=some (.string f.oth)∧w.cell? ⟨b,7,none⟩=some (.string f.cur)∧w.cell? ⟨b,8,none⟩=some (.string f.tgt)∧w.cell? ⟨b,9,none⟩=some (.string f.q)∧w.cell? ⟨b,10,none⟩=some (.string f.a)∧w.cell? ⟨b,11,none⟩=some (.string f.fee)∧w.cell? ⟨b,12,none⟩=some (.string f.pn)∧w.cell? ⟨b,13,none⟩=some (.string f.pd)∧w.cell? ⟨b,14,none⟩=some (.string f.rn)∧w.cell? ⟨b,15,none⟩=some (.string f.rd)∧w.cell? ⟨b,16,none⟩=some (.string f.sn)∧w.cell? ⟨b,17,none⟩=some (.string f.sd)∧w.cell? ⟨b,18,none⟩=some (.slice f.P f.np f.cp)∧w.cell? ⟨b,19,none⟩=some (.slice f.O f.no f.co)∧w.cell? ⟨b,20,none⟩=some (.int .i64 f.cho):=
 ⟨h.cell rfl,h.cell rfl,h.cell rfl,h.cell rfl,h.cell rfl,h.cell rfl,h.cell rfl,h.cell rfl,h.cell rfl,h.cell rfl,h.cell rfl,h.cell rfl,h.cell rfl,h.cell rfl,h.cell rfl,h.cell rfl,h.cell rfl,h.cell rfl,h.cell rfl,h.cell rfl,h.cell rfl⟩
theorem zU (f:Fct){lp:List Pk}{lo:List Ot}(hf:f.big)(hlp:lp.length=f.np)(hlo:lo.length=f.no)(hzp:∀p∈lp,p.lot.size≤9223372036854775807∧p.q.size≤9223372036854775807)(hzo:∀t∈lo,t.big):ig (FcW f lp lo) 23 #[fI f] (.bool (grF f lp lo)):=by
 intro w hg hw;have hs:=(St.refl hg).alloc (.cells (bv f) 30);have HX:=ala (TBx.new w (bv f) 30);have HW:=ala (hw.on (bal w (.cells (bv f) 30)));have hE:grF f lp lo=((decide (24<f.key.size)||decide (24<f.ins.size)||decide (24<f.oth.size)||decide (24<f.cur.size)||decide (24<f.tgt.size)||decide (13<f.q.size)||decide (13<f.a.size)||decide (13<f.fee.size)||mE ⟨f.pn,f.pd⟩||mE ⟨f.rn,f.rd⟩||mE ⟨f.sn,f.sd⟩)||(decide (4<f.np)&&decide (f.np≤64)||decide (66<f.np))||(decide (3<f.no)&&decide (f.no≤8)||decide (10<f.no))||lp.any grP||lo.any grO):=rfl;have K6:=kL hf.q;have K7:=kL hf.a;have K8:=kL hf.fee;have K9:=jL hf.pn hf.pd;have K10:=jL hf.rn hf.rd;have K11:=jL hf.sn hf.sd;unfold FV at K9 K10 K11;have q1i:decide ((24:Int)<(f.key.size:Int))=decide (24<f.key.size):=by rw[decide_eq_decide];omega
 have q2i:decide ((24:Int)<(f.ins.size:Int))=decide (24<f.ins.size):=by rw[decide_eq_decide];omega
 have q3i:decide ((24:Int)<(f.oth.size:Int))=decide (24<f.oth.size):=by rw[decide_eq_decide];omega
 have q4i:decide ((24:Int)<(f.cur.size:Int))=decide (24<f.cur.size):=by rw[decide_eq_decide];omega
 have q5i:decide ((24:Int)<(f.tgt.size:Int))=decide (24<f.tgt.size):=by rw[decide_eq_decide];omega
 generalize decide (24<f.key.size)=t1 at*
 generalize decide (24<f.ins.size)=t2 at*
 generalize decide (24<f.oth.size)=t3 at*
 generalize decide (24<f.cur.size)=t4 at*
 generalize decide (24<f.tgt.size)=t5 at*
 generalize decide (13<f.q.size)=t6 at*
 generalize decide (13<f.a.size)=t7 at*
 generalize decide (13<f.fee.size)=t8 at*
 generalize mE ⟨f.pn,f.pd⟩=t9 at*
 generalize mE ⟨f.rn,f.rd⟩=t10 at*
 generalize mE ⟨f.sn,f.sd⟩=t11 at*
 generalize grF f lp lo=ov at*
 have HV:Hid (((t1||t2||t3||t4||t5||t6||t7||t8||t9||t10||t11)||(decide (4<f.np)&&decide (f.np≤64)||decide (66<f.np))||(decide (3<f.no)&&decide (f.no≤8)||decide (10<f.no))||lp.any grP||lo.any grO)=ov):=hE.symm;have hnp:=hf.np;have hno:=hf.no;have HLP:=ala hlp;have HLO:=ala hlo;have HZP:=ala hzp;have HZO:=ala hzo;clear hE hf hlp hlo hzp hzo hg hw;unfold fI;obtain⟨x0, -, -, -, -,x5,x6,x7,x8,x9,x10,x11,x12,x13,x14,x15,x16,x17,x18,x19, -⟩:=fcs HX.out.bx
 go_enter Tryz.func23,Tryz.ntmps23
 cases t1 with
 |true=>
  obtain rfl:ov=true:=by rw[←HV.out];simp
  go_wp2_with fail
  go_ret
  exact⟨rfl,hs.2⟩
 |false=>
  cases t2 with
  |true=>
   obtain rfl:ov=true:=by rw[←HV.out];simp
   go_wp2_with fail
   go_ret
   exact⟨rfl,hs.2⟩
  |false=>
   cases t3 with
   |true=>
    obtain rfl:ov=true:=by rw[←HV.out];simp
    go_wp2_with fail
    go_ret
    exact⟨rfl,hs.2⟩
   |false=>
    cases t4 with
    |true=>
     obtain rfl:ov=true:=by rw[←HV.out];simp
     go_wp2_with fail
     go_ret
     exact⟨rfl,hs.2⟩
    |false=>
     cases t5 with
     |true=>
      obtain rfl:ov=true:=by rw[←HV.out];simp
      go_wp2_with fail
      go_ret
      exact⟨rfl,hs.2⟩
     |false=>
      go_wp2_with fail
      refine K6.step hs ?_;intro wt6 hs hbt6;replace HX:=ala (HX.out.on hbt6);replace HW:=ala (HW.out.on hbt6);clear x0 x5 x6 x7 x8 x9 x10 x11 x12 x13 x14 x15 x16 x17 x18 x19;obtain⟨x0, -, -, -, -,x5,x6,x7,x8,x9,x10,x11,x12,x13,x14,x15,x16,x17,x18,x19, -⟩:=fcs HX.out.bx;clear hbt6 K6;cases t6 with
      |true=>
       obtain rfl:ov=true:=by rw[←HV.out];simp
       go_wp2_with fail
       go_ret
       exact⟨rfl,hs.2⟩
      |false=>
       go_wp2_with fail
       refine K7.step hs ?_;intro wt7 hs hbt7;replace HX:=ala (HX.out.on hbt7);replace HW:=ala (HW.out.on hbt7);clear x0 x5 x6 x7 x8 x9 x10 x11 x12 x13 x14 x15 x16 x17 x18 x19;obtain⟨x0, -, -, -, -,x5,x6,x7,x8,x9,x10,x11,x12,x13,x14,x15,x16,x17,x18,x19, -⟩:=fcs HX.out.bx;clear hbt7 K7;cases t7 with
       |true=>
        obtain rfl:ov=true:=by rw[←HV.out];simp
        go_wp2_with fail
        go_ret
        exact⟨rfl,hs.2⟩
       |false=>
        go_wp2_with fail
        refine K8.step hs ?_;intro wt8 hs hbt8;replace HX:=ala (HX.out.on hbt8);replace HW:=ala (HW.out.on hbt8);clear x0 x5 x6 x7 x8 x9 x10 x11 x12 x13 x14 x15 x16 x17 x18 x19;obtain⟨x0, -, -, -, -,x5,x6,x7,x8,x9,x10,x11,x12,x13,x14,x15,x16,x17,x18,x19, -⟩:=fcs HX.out.bx;clear hbt8 K8;cases t8 with
        |true=>
         obtain rfl:ov=true:=by rw[←HV.out];simp
         go_wp2_with fail
         go_ret
         exact⟨rfl,hs.2⟩
        |false=>
         go_wp2_with fail
         refine K9.step hs ?_;intro wt9 hs hbt9;replace HX:=ala (HX.out.on hbt9);replace HW:=ala (HW.out.on hbt9);clear x0 x5 x6 x7 x8 x9 x10 x11 x12 x13 x14 x15 x16 x17 x18 x19;obtain⟨x0, -, -, -, -,x5,x6,x7,x8,x9,x10,x11,x12,x13,x14,x15,x16,x17,x18,x19, -⟩:=fcs HX.out.bx;clear hbt9 K9;cases t9 with
         |true=>
          obtain rfl:ov=true:=by rw[←HV.out];simp
          go_wp2_with fail
          go_ret
          exact⟨rfl,hs.2⟩
         |false=>
          go_wp2_with fail
          refine K10.step hs ?_;intro wt10 hs hbt10;replace HX:=ala (HX.out.on hbt10);replace HW:=ala (HW.out.on hbt10);clear x0 x5 x6 x7 x8 x9 x10 x11 x12 x13 x14 x15 x16 x17 x18 x19;obtain⟨x0, -, -, -, -,x5,x6,x7,x8,x9,x10,x11,x12,x13,x14,x15,x16,x17,x18,x19, -⟩:=fcs HX.out.bx;clear hbt10 K10;cases t10 with
          |true=>
           obtain rfl:ov=true:=by rw[←HV.out];simp
           go_wp2_with fail
           go_ret
           exact⟨rfl,hs.2⟩
          |false=>
           go_wp2_with fail
           refine K11.step hs ?_;intro wt11 hs hbt11;replace HX:=ala (HX.out.on hbt11);replace HW:=ala (HW.out.on hbt11);clear x0 x5 x6 x7 x8 x9 x10 x11 x12 x13 x14 x15 x16 x17 x18 x19;obtain⟨x0, -, -, -, -,x5,x6,x7,x8,x9,x10,x11,x12,x13,x14,x15,x16,x17,x18,x19, -⟩:=fcs HX.out.bx;clear hbt11 K11;cases t11 with
           |true=>
            obtain rfl:ov=true:=by rw[←HV.out];simp
            go_wp2_with fail
            go_ret
            exact⟨rfl,hs.2⟩
           |false=>
            obtain⟨A,hA⟩:∃A,f.P=A:=⟨_,rfl⟩;obtain⟨B,hB⟩:∃A,f.O=A:=⟨_,rfl⟩;obtain⟨n,hn⟩:∃n,f.np=n:=⟨_,rfl⟩;obtain⟨m,hm⟩:∃n,f.no=n:=⟨_,rfl⟩;obtain⟨c,hc⟩:∃c,f.cp=c:=⟨_,rfl⟩;obtain⟨d,hd⟩:∃c,f.co=c:=⟨_,rfl⟩;rw[hA,hn,hc]at x18;rw[hB,hm,hd]at x19;rw[hn]at hnp HLP;rw[hm]at hno HLO;have HC:=ala (And.intro hA (And.intro hn (And.intro hc (And.intro hB (And.intro hm hd)))));have HR:=ala HW.out.rp;have HQ:=ala HW.out.ro;rw[hA]at HR;rw[hB]at HQ;have HV1:Hid (((decide (4<n)&&decide (n≤64)||decide (66<n))||(decide (3<m)&&decide (m≤8)||decide (10<m))||lp.any grP||lo.any grO)=ov):=by
             have:=HV.out;rw[hn,hm]at this;exact show _=_ from by simpa using this
            clear HV HW hA hB hn hm hc hd;have q1:decide ((4:Int)<(n:Int))=decide (4<n):=by rw[decide_eq_decide];omega
            have q2:decide ((n:Int)≤64)=decide (n≤64):=by rw[decide_eq_decide];omega
            have q3:decide ((66:Int)<(n:Int))=decide (66<n):=by rw[decide_eq_decide];omega
            have q4:decide ((3:Int)<(m:Int))=decide (3<m):=by rw[decide_eq_decide];omega
            have q5:decide ((m:Int)≤8)=decide (m≤8):=by rw[decide_eq_decide];omega
            have q6:decide ((10:Int)<(m:Int))=decide (10<m):=by rw[decide_eq_decide];omega
            generalize decide (4<n)=b1 at*
            generalize decide (n≤64)=b2 at*
            generalize decide (66<n)=b3 at*
            generalize decide (3<m)=b4 at*
            generalize decide (m≤8)=b5 at*
            generalize decide (10<m)=b6 at*
            go_upto_region 3 with (fail)
            by_cases hbb:(b1&&b2||b3)=true
            case pos=>
             obtain rfl:ov=true:=by rw[←HV1.out,hbb];simp
             clear HV1;cases b1<;>cases b2<;>cases b3<;>first
              |exact absurd hbb (by decide)
              |(go_wp2_with fail
                go_ret
                exact⟨rfl,hs.2⟩)
            have hbf:(b1&&b2||b3)=false:=by simpa using hbb
            have HV2:Hid (((b4&&b5||b6)||lp.any grP||lo.any grO)=ov):=by
             have:=HV1.out;rw[hbf]at this;exact show _=_ from by simpa using this
            clear HV1 hbb;by_cases hcc:(b4&&b5||b6)=true
            case pos=>
             obtain rfl:ov=true:=by rw[←HV2.out,hcc];simp
             clear HV2;cases b1<;>cases b2<;>cases b3<;>first
              |exact absurd hbf (by decide)
              |(cases b4<;>cases b5<;>cases b6<;>first
                 |exact absurd hcc (by decide)
                 |(go_wp2_with fail
                   go_ret
                   exact⟨rfl,hs.2⟩))
            have hcf:(b4&&b5||b6)=false:=by simpa using hcc
            have HV3:Hid ((lp.any grP||lo.any grO)=ov):=by
             have:=HV2.out;rw[hcf]at this;exact show _=_ from by simpa using this
            clear HV2 hcc
            go_cut [97] (fun s wx=>s= .bool false∧wx=wt11)
            case first=>
             clear HV3 HLP HLO HZP HZO HR HQ HC;cases b1<;>cases b2<;>cases b3<;>first
              |exact absurd hbf (by decide)
              |(cases b4<;>cases b5<;>cases b6<;>first
                 |exact absurd hcf (by decide)
                 |(go_wp2_with fail
                   go_meet
                   exact⟨rfl,rfl⟩))
            case rest=>
            obtain⟨rfl,rfl⟩:=hcut;clear q1 q2 q3 q4 q5 q6 hbf hcf x18 x19
            go_wp2_with fail
            go_loopw [3] (fun s wr=>∃k:Nat,k≤n∧s= .int .i64 (k:Int)∧St w wr∧Hid (TBx wr w.heap.size (bv f) 30)∧Hid (Row wr A (au bW lp))∧Hid (Row wr B (au eu lo))∧Hid (∀i,i<k→∀t,lp[i]? =some t→grP t=false)) (fun s _=>(n-intOf s).toNat)
            case atStart=>exact⟨0,by omega,rfl,hs,HX,HR,HQ,fun i h=>by omega⟩
            case round=>
             clear HX HR HQ;obtain⟨k,hk,rfl,hs,HX,HR,HQ,HP⟩:=hrel;have x18:=HX.out.bx.cell (i:=18) (v:=.slice f.P f.np f.cp) rfl;rw[HC.out.1,HC.out.2.1,HC.out.2.2.1]at x18;by_cases hkn:k=n
             ·subst hkn
              have q:decide ((k:Int)<(k:Int))=false:=alH (by omega);have hv:lp.any grP=false:=by
               rw[List.any_eq_false];intro s hs;obtain⟨i,hi,rfl⟩:=List.mem_iff_getElem.1 hs;rw[HP.out i (by have:=HLP.out;omega) _ (ald hi)];decide
              have HV4:Hid (lo.any grO=ov):=by show _=_;rw[←HV3.out,hv];rfl
              clear HV3 hv HP
              go_wp2_with fail
              clear x18
              go_loopw [4] (fun s wr=>∃k:Nat,k≤m∧s= .int .i64 (k:Int)∧St w wr∧Hid (TBx wr w.heap.size (bv f) 30)∧Hid (Row wr B (au eu lo))∧Hid (∀i,i<k→∀t,lo[i]? =some t→grO t=false)) (fun s _=>(m-intOf s).toNat)
              case atStart=>exact⟨0,by omega,rfl,hs,HX,HQ,fun i h=>by omega⟩
              case round=>
               clear HX HQ;obtain⟨k,hk,rfl,hs,HX,HQ,HP⟩:=hrel;have x19:=HX.out.bx.cell (i:=19) (v:=.slice f.O f.no f.co) rfl;rw[HC.out.2.2.2.1,HC.out.2.2.2.2.1,HC.out.2.2.2.2.2]at x19;by_cases hkn:k=m
               ·subst hkn
                have q:decide ((k:Int)<(k:Int))=false:=alH (by omega);have hv:ov=false:=by
                 rw[←HV4.out,List.any_eq_false];intro s hs;obtain⟨i,hi,rfl⟩:=List.mem_iff_getElem.1 hs;rw[HP.out i (by have:=HLO.out;omega) _ (ald hi)];decide
                subst hv
                go_wp2_with fail
                go_ret
                exact⟨rfl,hs.2⟩
               ·have hkl:k<m:=by omega
                have q:decide ((k:Int)<(m:Int))=true:=alI (by omega);have qn:decide (k<m)=true:=alI hkl;obtain⟨t,ht⟩:∃d,lo[k]? =some d:=⟨lo[k]'(by rw[HLO.out];exact hkl),by simp⟩;obtain⟨b,o,hAb,hb,hcells⟩:=eT (cs:=eu) (m:=7) kH (by decide) HQ.out ht;subst hAb;have y0:wr.cell? ⟨b,o+k*7,none⟩=some (.string t.oth):=hcells 0 _ rfl;have y1:wr.cell? ⟨b,o+k*7+1,none⟩=some (.string t.rn):=hcells 1 _ rfl;have y2:wr.cell? ⟨b,o+k*7+2,none⟩=some (.string t.rd):=hcells 2 _ rfl;have y3:wr.cell? ⟨b,o+k*7+3,none⟩=some (.string t.pn):=hcells 3 _ rfl;have y4:wr.cell? ⟨b,o+k*7+4,none⟩=some (.string t.pd):=hcells 4 _ rfl;have y5:wr.cell? ⟨b,o+k*7+5,none⟩=some (.string t.vn):=hcells 5 _ rfl;have y6:wr.cell? ⟨b,o+k*7+6,none⟩=some (.string t.vd):=hcells 6 _ rfl;have hz:=HZO.out t (alk ht);have K2:=jL hz.rn hz.rd;have K3:=jL hz.pn hz.pd;have K4:=jL hz.vn hz.vd;unfold FV at K2 K3 K4;have hgo:grO t=(decide (24<t.oth.size)||mE ⟨t.rn,t.rd⟩||mE ⟨t.pn,t.pd⟩||mE ⟨t.vn,t.vd⟩):=rfl;have q1i:decide ((24:Int)<(t.oth.size:Int))=decide (24<t.oth.size):=by rw[decide_eq_decide];omega
                have HT:=ala ht;generalize decide (24<t.oth.size)=t1 at*
                generalize mE ⟨t.rn,t.rd⟩=t2 at*
                generalize mE ⟨t.pn,t.pd⟩=t3 at*
                generalize mE ⟨t.vn,t.vd⟩=t4 at*
                have HGO:Hid (grO t=(t1||t2||t3||t4)):=hgo;have yes:Hid ((t1||t2||t3||t4)=true→ov=true):=fun h=>by
                 rw[←HV4.out,List.any_eq_true];exact⟨_,alk HT.out,by rw[HGO.out];exact h⟩
                have hba:Below wr.heap.size wr (wr.alloc (.cells #[.string t.oth,.string t.rn,.string t.rd,.string t.pn,.string t.pd,.string t.vn,.string t.vd] 54)):=bal _ _;have HY:=ala (TBx.new wr #[.string t.oth,.string t.rn,.string t.rd,.string t.pn,.string t.pd,.string t.vn,.string t.vd] 54);replace HX:=ala (HX.out.on hba);replace HQ:=ala (HQ.out.on hba);replace hs:=hs.on hba;have z0:=HY.out.bx.cell (i:=0) (v:=.string t.oth) rfl;have z1:=HY.out.bx.cell (i:=1) (v:=.string t.rn) rfl;have z2:=HY.out.bx.cell (i:=2) (v:=.string t.rd) rfl;have z3:=HY.out.bx.cell (i:=3) (v:=.string t.pn) rfl;have z4:=HY.out.bx.cell (i:=4) (v:=.string t.pd) rfl;have z5:=HY.out.bx.cell (i:=5) (v:=.string t.vn) rfl;have z6:=HY.out.bx.cell (i:=6) (v:=.string t.vd) rfl;clear hcells ht hkn hgo hz hba hb;cases t1 with
                |true=>
                 obtain rfl:ov=true:=yes.out (by simp)
                 go_wp2_with fail
                 go_ret
                 exact⟨rfl,hs.2⟩
                |false=>
                 go_wp2_with fail
                 refine K2.step hs ?_;intro wt2 hs hbt2;replace HX:=ala (HX.out.on hbt2);replace HQ:=ala (HQ.out.on hbt2);replace HY:=ala (HY.out.on hbt2);clear z0 z1 z2 z3 z4 z5 z6;have z0:=HY.out.bx.cell (i:=0) (v:=.string t.oth) rfl;have z1:=HY.out.bx.cell (i:=1) (v:=.string t.rn) rfl;have z2:=HY.out.bx.cell (i:=2) (v:=.string t.rd) rfl;have z3:=HY.out.bx.cell (i:=3) (v:=.string t.pn) rfl;have z4:=HY.out.bx.cell (i:=4) (v:=.string t.pd) rfl;have z5:=HY.out.bx.cell (i:=5) (v:=.string t.vn) rfl;have z6:=HY.out.bx.cell (i:=6) (v:=.string t.vd) rfl;clear hbt2 K2;cases t2 with
                 |true=>
                  obtain rfl:ov=true:=yes.out (by simp)
                  go_wp2_with fail
                  go_ret
                  exact⟨rfl,hs.2⟩
                 |false=>
                  go_wp2_with fail
                  refine K3.step hs ?_;intro wt3 hs hbt3;replace HX:=ala (HX.out.on hbt3);replace HQ:=ala (HQ.out.on hbt3);replace HY:=ala (HY.out.on hbt3);clear z0 z1 z2 z3 z4 z5 z6;have z0:=HY.out.bx.cell (i:=0) (v:=.string t.oth) rfl;have z1:=HY.out.bx.cell (i:=1) (v:=.string t.rn) rfl;have z2:=HY.out.bx.cell (i:=2) (v:=.string t.rd) rfl;have z3:=HY.out.bx.cell (i:=3) (v:=.string t.pn) rfl;have z4:=HY.out.bx.cell (i:=4) (v:=.string t.pd) rfl;have z5:=HY.out.bx.cell (i:=5) (v:=.string t.vn) rfl;have z6:=HY.out.bx.cell (i:=6) (v:=.string t.vd) rfl;clear hbt3 K3;cases t3 with
                  |true=>
                   obtain rfl:ov=true:=yes.out (by simp)
                   go_wp2_with fail
                   go_ret
                   exact⟨rfl,hs.2⟩
                  |false=>
                   go_wp2_with fail
                   refine K4.step hs ?_;intro wt4 hs hbt4;replace HX:=ala (HX.out.on hbt4);replace HQ:=ala (HQ.out.on hbt4);replace HY:=ala (HY.out.on hbt4);clear z0 z1 z2 z3 z4 z5 z6;have z0:=HY.out.bx.cell (i:=0) (v:=.string t.oth) rfl;have z1:=HY.out.bx.cell (i:=1) (v:=.string t.rn) rfl;have z2:=HY.out.bx.cell (i:=2) (v:=.string t.rd) rfl;have z3:=HY.out.bx.cell (i:=3) (v:=.string t.pn) rfl;have z4:=HY.out.bx.cell (i:=4) (v:=.string t.pd) rfl;have z5:=HY.out.bx.cell (i:=5) (v:=.string t.vn) rfl;have z6:=HY.out.bx.cell (i:=6) (v:=.string t.vd) rfl;clear hbt4 K4;cases t4 with
                   |true=>
                    obtain rfl:ov=true:=yes.out (by simp)
                    go_wp2_with fail
                    go_ret
                    exact⟨rfl,hs.2⟩
                   |false=>
                    go_wp2_with fail
                    go_roundw
                    case rel=>
                     refine⟨k+1,by omega,by go_num,hs,HX,HQ,fun i hi t ht=>?_⟩;by_cases e:i=k
                     ·subst e
                      rw[HT.out]at ht;cases ht;exact HGO.out
                     ·exact HP.out i (by omega) t ht
                    case measure=>simp[intOf];omega
             ·have hkl:k<n:=by omega
              have q:decide ((k:Int)<(n:Int))=true:=alI (by omega);have qn:decide (k<n)=true:=alI hkl;obtain⟨p,hp⟩:∃d,lp[k]? =some d:=⟨lp[k]'(by rw[HLP.out];exact hkl),by simp⟩;obtain⟨b,o,hAb,hb,hcells⟩:=eT (cs:=bW) (m:=2) gH (by decide) HR.out hp;subst hAb;have y0:wr.cell? ⟨b,o+k*2,none⟩=some (.string p.lot):=hcells 0 _ rfl;have y1:wr.cell? ⟨b,o+k*2+1,none⟩=some (.string p.q):=hcells 1 _ rfl;have hz:=HZP.out p (alk hp);have K2:=kL hz.2;have hgo:grP p=(decide (30<p.lot.size)||decide (13<p.q.size)):=rfl;have q1i:decide ((30:Int)<(p.lot.size:Int))=decide (30<p.lot.size):=by rw[decide_eq_decide];omega
              have HT:=ala hp;generalize decide (30<p.lot.size)=t1 at*
              generalize decide (13<p.q.size)=t2 at*
              have HGO:Hid (grP p=(t1||t2)):=hgo;have yes:Hid ((t1||t2)=true→ov=true):=fun h=>by
               have h2:lp.any grP=true:=by
                rw[List.any_eq_true];exact⟨_,alk HT.out,by rw[HGO.out];exact h⟩
               rw[←HV3.out,h2];rfl
              clear hcells hp hkn hgo hz hb;cases t1 with
              |true=>
               obtain rfl:ov=true:=yes.out (by simp)
               go_wp2_with fail
               go_ret
               exact⟨rfl,hs.2⟩
              |false=>
               go_wp2_with fail
               refine K2.step hs ?_;intro wt2 hs hbt2;replace HX:=ala (HX.out.on hbt2);replace HR:=ala (HR.out.on hbt2);replace HQ:=ala (HQ.out.on hbt2);clear hbt2 K2;cases t2 with
               |true=>
                obtain rfl:ov=true:=yes.out (by simp)
                go_wp2_with fail
                go_ret
                exact⟨rfl,hs.2⟩
               |false=>
                go_wp2_with fail
                go_roundw
                case rel=>
                 refine⟨k+1,by omega,by go_num,hs,HX,HR,HQ,fun i hi t ht=>?_⟩;by_cases e:i=k
                 ·subst e
                  rw[HT.out]at ht;cases ht;exact HGO.out
                 ·exact HP.out i (by omega) t ht
                case measure=>simp[intOf];omega
end Go.Proofs.YtjknklinhegdoaaGreatDoor
namespace Go.Proofs.YtjknklinhegdoaaGreatDoor
open Go.RowKit Go.Shelf Dec QQ SP
attribute [local go_sem] Oper.semAt_some
attribute [-go_sem] loadVar
attribute [local go_sem] aa3
theorem ake (f:Fct){b c:Nat}{g:FuncId}{p:Bool}{I:World→Prop}(hI:acZ I)(hcf:∀(args:Array Value) (u:World),(callFunc g args).run Tryz.prog u= .ok (.enter g args) u)(KF:ig I g #[fI f] (.bool p)):
 ig (fun w=>TBx w b (bv f) 30∧I w) 56 #[.slice (some ⟨b,0,none⟩) 1 c,.func (.func g) #[] #[]] (.int .i64 (bif p then 0 else-1)):=by
 intro w hg hi;have hs:=St.refl hg;have Hi:=ala hi;have HI:=ala hI;unfold fI at KF;clear hi hI
 go_enter Tryz.func56,Tryz.ntmps56
 go_wp2_with fail
 go_loopw [8] (fun s wr=>∃k:Nat,k≤1∧s= .int .i64 (k:Int)∧St w wr∧Hid (TBx wr b (bv f) 30∧I wr)∧Hid (k=1→p=false)) (fun s _=>(1-intOf s).toNat)
 case atStart=>exact⟨0,by omega,rfl,hs,Hi,fun h=>by omega⟩
 case round=>
  obtain⟨k,hk,rfl,hs,H,HP⟩:=hrel;by_cases hkn:k=1
  ·subst hkn
   have hp:p=false:=HP.out rfl;subst hp;have q:decide (((1:Nat):Int)<1)=false:=by decide
   go_wp2_with fail
   go_ret
   exact⟨rfl,hs.2⟩
  ·obtain rfl:k=0:=by omega
   have q:decide (((0:Nat):Int)<1)=true:=by decide
   have xf:=H.out.1.bx.fact rfl;have xf2:(loadVar 30 ⟨b,0+0*21,none⟩).run Tryz.prog wr= .ok (.agg (bv f)) wr:=xf;clear hkn;cases p with
   |true=>
    go_wp2_with fail
    refine KF.step hs H.out.2 ?_;intro w2 hs hb
    go_wp2_with fail
    go_ret
    exact⟨rfl,hs.2⟩
   |false=>
    go_wp2_with fail
    refine KF.step hs H.out.2 ?_;intro w2 hs hb;have H2:Hid (TBx w2 b (bv f) 30∧I w2):=⟨H.out.1.on hb,HI.out _ _ H.out.2 hb⟩;clear xf xf2
    go_wp2_with fail
    go_roundw
    case rel=>exact⟨1,by omega,by go_num,hs,H2,fun _=>by trivial⟩
    case measure=>simp[intOf]
theorem acI (f:Fct){b c:Nat}{g:FuncId}{p:Bool}{I:World→Prop}(hI:acZ I)(hcf:∀(args:Array Value) (u:World),(callFunc g args).run Tryz.prog u= .ok (.enter g args) u)(KF:ig I g #[fI f] (.bool p)):
 ig (fun w=>TBx w b (bv f) 30∧I w) 22 #[.slice (some ⟨b,0,none⟩) 1 c,.func (.func g) #[] #[]] (.bool p):=by
 intro w hg hi;have hs:=St.refl hg;have K:=ake f (b:=b) (c:=c) hI hcf KF;have Hi:=ala hi;clear hi hI
 go_enter Tryz.func22,Tryz.ntmps22
 cases p with
 |true=>
  replace K:ig (fun w=>TBx w b (bv f) 30∧I w) 56 #[.slice (some ⟨b,0,none⟩) 1 c,.func (.func g) #[] #[]] (.int .i64 0):=K
  go_wp2_with fail
  refine K.step hs Hi.out ?_;intro w1 hs _
  go_wp2_with fail
  go_ret
  exact⟨rfl,hs.2⟩
 |false=>
  replace K:ig (fun w=>TBx w b (bv f) 30∧I w) 56 #[.slice (some ⟨b,0,none⟩) 1 c,.func (.func g) #[] #[]] (.int .i64 (-1)):=K
  go_wp2_with fail
  refine K.step hs Hi.out ?_;intro w1 hs _
  go_wp2_with fail
  go_ret
  exact⟨rfl,hs.2⟩
theorem abQ (f:Fct){lp:List Pk}{lo:List Ot}{A:Option Addr}{n c b c':Nat}{l:List Lt}(hn:l.length=n)(hm:n≤9223372036854775807)(hz:∀x∈l,x.big)(hf:f.big)(hlp:lp.length=f.np)(hlo:lo.length=f.no)(hzp:∀p∈lp,p.lot.size≤9223372036854775807∧p.q.size≤9223372036854775807)(hzo:∀t∈lo,t.big):
 ig (fun w=>Row w A (au aa l)∧TBx w b (bv f) 30∧FcW f lp lo w) 5 #[.slice A n c,.slice (some ⟨b,0,none⟩) 1 c'] (.bool (akl n l||grF f lp lo)):=by
 intro w hg hi;have hs:=St.refl hg;have K1:=gr_any (A:=A) (c:=c) hn hm hz;have K2:=acI f (b:=b) (c:=c') (g:=23) (I:=FcW f lp lo) (fun _ _ h hb=>h.on hb) (fun _ _=>rfl) (zU f hf hlp hlo hzp hzo);generalize akl n l=b1 at*
 generalize grF f lp lo=b2 at*
 have HR:=ala hi.1;have HT:=ala hi.2.1;have HW:=ala hi.2.2;clear hi hn hm hz hf hlp hlo hzp hzo
 go_enter Tryz.func5,Tryz.ntmps5
 go_wp2_with fail
 refine K1.step hs HR.out ?_;intro w1 hs hb1;replace HT:=ala (HT.out.on hb1);replace HW:=ala (HW.out.on hb1);clear HR K1 hb1;cases b1 with
 |true=>
  go_wp2_with fail
  go_ret
  exact⟨rfl,hs.2⟩
 |false=>
  go_wp2_with fail
  refine K2.step hs ⟨HT.out,HW.out⟩ ?_;intro w2 hs hb2
  go_wp2_with fail
  go_ret
  exact⟨rfl,hs.2⟩
end Go.Proofs.YtjknklinhegdoaaGreatDoor
namespace Go.Proofs.YtjknklinhegdoaaGreatDoor
open Go.RowKit Go.Shelf Dec QQ SP
theorem akT {c:Bool}{a b:Int}(h:(bif c then a else b)=0)(ha:a≠0):c=false∧b=0:=by
 cases c with
 |true=>exact absurd h ha
 |false=>exact⟨rfl,h⟩
theorem lV {f:Fct}{lp:List Pk}{lo:List Ot}{n:Nat}:∀(m i:Nat),nC f lp lo n m i=0→∀j,i≤j→j<i+m→abk f lp lo n j=0
 |0,i,_,j,h1,h2=>by omega
 |m+1,i,h,j,h1,h2=>by
  have h':(bif abk f lp lo n i !=0 then abk f lp lo n i else nC f lp lo n m (i+1))=0:=h;by_cases e:abk f lp lo n i=0
  ·rw[show (abk f lp lo n i !=0)=false by simpa using e]at h'
   by_cases ej:j=i
   ·rw[ej];exact e
   ·exact lV m (i+1) h' j (by omega) (by omega)
  ·rw[show (abk f lp lo n i !=0)=true by simpa using e]at h'
   exact absurd h' e
theorem oM {P:Bool}{a b:ByteArray}(h:oO P false a b=0):aak a b=0∧0≤cK a b∧(P=true→0<cK a b):=by
 unfold oO at h;obtain⟨h1,h⟩:=akT h (by decide);obtain⟨_,h⟩:=akT h (by decide);obtain⟨h2,_⟩:=akT h (by decide);have hc:aak a b=0:=by simpa using h1
 rw[Bool.or_eq_false_iff,Bool.or_eq_false_iff,decide_eq_false_iff_not]at h2;have n1:¬cK a b<0:=fun hc=>h2.1 (ah9.2 hc)
 refine⟨hc,Rat.not_lt.1 n1,fun hP=>?_⟩;subst hP;have n3:¬iI (cK a b) 0=0:=by simpa using h2.2.1
 have n2:cK a b≠0:=fun e=>n3 (by rw[e];decide+kernel)
 grind
structure SpOk (f:Fct):Prop where
 canc:f.canc=false
 kind:f.kind=8
 key:aG f.key=true
 ins:aG f.ins=true
 d0: -25567≤f.day
 d1:f.day≤84005
 cp:aak f.pn f.pd=0
 cr:aak f.rn f.rd=0
 p0:0≤cK f.pn f.pd
 r0:0<cK f.rn f.rd
theorem uG {f:Fct}{lp:List Pk}{lo:List Ot}(h:jU f lp lo=0):SpOk f:=by
 have h':(bif gL f lp lo !=0 then gL f lp lo else bif f.canc||f.kind !=8 then 7 else 0)=0:=h;have h1:gL f lp lo=0:=by
  by_cases e:gL f lp lo=0
  ·exact e
  ·rw[show (gL f lp lo !=0)=true by simpa using e]at h'
   exact absurd h' e
 rw[show (gL f lp lo !=0)=false by simpa using h1]at h';obtain⟨h2,_⟩:=akT (a:=7) (b:=0) h' (by decide);rw[Bool.or_eq_false_iff]at h2;have hk:f.kind=8:=by simpa using h2.2
 unfold gL at h1;obtain⟨e1,h1⟩:=akT h1 (by decide);obtain⟨e2,h1⟩:=akT h1 (by decide);rw[h2.1]at h1;simp only[cond_false]at h1;obtain⟨e3,h1⟩:=akT h1 (by decide);rw[Bool.or_eq_false_iff,decide_eq_false_iff_not,decide_eq_false_iff_not]at e3;rw[hk]at h1;have h3:nC f lp lo 8 13 0=0:=h1;have f0:(bif aG f.ins then 0 else 23:Int)=0:=lV 13 0 h3 0 (by omega) (by omega);have f7:oO false false f.pn f.pd=0:=lV 13 0 h3 7 (by omega) (by omega);have f8:oO true false f.rn f.rd=0:=lV 13 0 h3 8 (by omega) (by omega);refine⟨h2.1,hk,by simpa using e1,?_,by omega,by omega,(oM f7).1,(oM f8).1,(oM f7).2.1,(oM f8).2.2 rfl⟩;cases hi:aG f.ins with
 |true=>rfl
 |false=>rw[hi]at f0;exact absurd f0 (by decide)
theorem chk1:aak ⟨#[49]⟩ ⟨#[]⟩=0:=by decide+kernel
theorem aiO {f:Fct}(h:SpOk f)(hz:f.le):MOk (mapOf f) where
 cause:=h.key
 ins:=h.ins
 oth:=h.ins
 day:=by
  show (decide (-25567≤f.day)&&decide (f.day≤84005))=true;rw[alI h.d0,alI h.d1];rfl
 cr:=h.cr
 cs:=chk1
 cp:=h.cp
 zr:=⟨hz.rn,hz.rd⟩
 zs:=⟨Nat.le_of_ble_eq_true rfl,Nat.le_of_ble_eq_true rfl⟩
 zp:=⟨hz.pn,hz.pd⟩
 pr:=h.r0
 ps:=by
  show 0≤cK ⟨#[49]⟩ ⟨#[]⟩∧cK ⟨#[49]⟩ ⟨#[]⟩≤1;rw[vq1.1];exact⟨by decide,by decide⟩
 pp:=h.p0
 kp:=fun e=>by cases e
 nk:=fun _=>⟨rfl,rfl⟩
theorem kY {f:Fct}(h:SpOk f)(hd:f.rd=⟨#[]⟩):cK f.rn f.rd=((aj f.rn:Int):Rat)∧1≤aj f.rn:=by
 have e:cK f.rn f.rd=((aj f.rn:Int):Rat):=by rw[hd];unfold cK;rw[aay,lv]
 refine⟨e,?_⟩;have h0:=h.r0;rw[e]at h0;have:(0:Int)<aj f.rn:=by
  rw[show (0:Rat)=((0:Int):Rat)from rfl]at h0;exact Rat.intCast_lt_intCast.1 h0
 omega
theorem ah4 (t:ByteArray)(ws:List ByteArray):(dM t ws).length =ws.length:=by
 unfold dM;split<;>simp[dI,aP]
theorem abC {xs:List Int}{k i:Nat}(h:∀x∈xs,Fit k x):Fit k xs[i]! :=by
 by_cases hi:i<xs.length
 ·rw[getElem!_pos xs i hi];exact h _ (List.getElem_mem hi)
 ·rw[getElem!_neg xs i hi];exact Nat.pow_pos (by decide)
theorem ahO {k:Nat}{a b:Int}(h:Fit k a)(hb:b=0):Fit k (a-b):=by subst hb;rwa[Int.sub_zero]
section
variable {m m1 m2:MapS} {l R1 R2:List Lt} {I:ByteArray} {N z:Int}
theorem tJ (t:ByteArray){ws:List ByteArray}(h:ws=[]):dM t ws=[]:=alC (by rw[ah4,h];rfl)
theorem aiU (hm:MOk m)(hi:m.ins=I)(ho:m.oth=I)(hI:I.size≤100)(hc:m.cause.size≤90)(hl:aL l=0)(hz:∀x∈av I l,x.c.size≤40)
 (hex:∃r pr:Rat,Vq m.rn m.rd r∧bH 1000 r∧Vq m.pn m.pd pr∧bH 1000 pr∧((iv (mqL m l)).sum :Rat)*r=(z:Rat)) (hn:∀x∈rR m l z,x≠0∧Fit 60 x) (hz0:av I l≠ []→z≠0):MapHyp m l z:=by
 subst hi;have hf:=ib hl m.ins;have hC:∀x∈rF m l,Fit 40 x:=by
  by_cases h0:av m.ins l=[]
  ·have e:rF m l=[]:=tJ _ (by unfold mcL;rw[h0];rfl)
   rw[e];intro x hx;cases hx
  ·rw[vM hl rfl h0]
   exact lU (fun s hs=>by obtain⟨x,hx,rfl⟩:=alq.1 hs;exact hz x hx)
 have hF:∀x∈rE m l,x=0:=by
  by_cases h0:av m.ins l=[]
  ·have e:rF m l=[]:=tJ _ (by unfold mcL;rw[h0];rfl)
   have e2:rE m l=[]:=tJ _ (by rw[e];rfl);rw[e2];intro x hx;cases hx
  ·rw[zY hl rfl h0]
   exact fun x hx=>List.eq_of_mem_replicate hx
 have fit00:∀k,Fit k 0:=fun k=>Nat.pow_pos (by decide)
 refine⟨hm,hex,fun x hx=>(hC x hx).mono (by omega),fun x hx=>by rw[hF x hx];exact fit00 _,fun x hx=>(hn x hx).1,hz0,?_,?_⟩
 ·intro y hy
  obtain⟨k,x,hk,rfl⟩:=abh hy;have hk2:k<1000:=alx (alj.1 hk).1 hf.n;have hkf:Fit 5 ((k+1:Nat):Int):=by show ((k+1:Nat):Int).natAbs <10^5;omega
  have hN:=abC (i:=k) (fun x hx=>(hn x hx).2);have hM:=abC (i:=k) hC;have hFk:(rE m l)[k]! =0:=by
   by_cases hi:k<(rE m l).length
   ·rw[getElem!_pos _ k hi];exact hF _ (List.getElem_mem hi)
   ·rw[getElem!_neg _ k hi];rfl
  have s1:=hN.size;have s2:=(ahO hM hFk).size;have s3:=hkf.size;refine⟨?_,by show m.oth.size≤100;rw[ho];exact hI,by show (ag _).size ≤1000;omega,by show (ag _).size ≤1000;omega,by show (ag _).size ≤1000;omega⟩;show (m.cause++⟨#[47]⟩++ag ((k+1:Nat):Int)).size ≤100;rw[ByteArray.size_append,ByteArray.size_append];have:(⟨#[47]⟩:ByteArray).size =1:=rfl;omega
 ·by_cases h0:av m.ins l=[]
  ·have e:dM ⟨#[]⟩ (mqL m l)=[]:=tJ _ (by unfold mqL;rw[h0];rfl)
   rw[e];intro x hx;cases hx
  ·have h1:0<(mqL m l).length :=by unfold mqL;rw[List.length_map];exact List.length_pos_iff.2 h0
   rw[abt h1 (by unfold mqL;rw[List.length_map];exact hf.n) hf.wq];exact fun x hx=>by rw[List.eq_of_mem_replicate hx];exact fit00 _
theorem adh (hl:aL l=0)(h0:av I l≠ []):0<(iv ((av I l).map (·.q))).sum :=by
 have hf:=ib hl I;have h1:0≤(iv ((av I l).map (·.q))).sum :=by
  have:∀L:List Int,(∀x∈L,0≤x)→0≤L.sum:=fun L=>by
   induction L with
   |nil=>intro _;exact Int.le_refl 0
   |cons a L ih=>intro h;rw[List.sum_cons];have:=h a alm;have:=ih fun x hx=>h x (alo _ hx);omega
  exact this _ (aco hf.wq)
 by_cases h2:(iv ((av I l).map (·.q))).sum =0
 ·obtain⟨x,hx⟩:=List.exists_mem_of_ne_nil _ h0
  have h3:=fD (aco hf.wq) h2 (aj x.q) (alq.2 ⟨x.q,alq.2 ⟨x,hx,rfl⟩,rfl⟩);have:=(hf.q x hx).2;omega
 ·omega
theorem aks (h:MapFine m l z R1)(hl:∀x∈l,x.le 1000)(hf:∀x∈bD m l z,x.le 1000):∀x∈R1,x.le 1000:=by
 intro x hx;by_cases h0:av m.ins l=[]
 ·rw[h.none h0]at hx;exact hl x hx
 ·rcases List.mem_append.1 ((h.some h0).2.perm.mem_iff.1 hx)with h|h
  ·exact hl x (List.mem_filter.1 h).1
  ·exact hf x h
end
theorem akj {f:Fct}(h:SpOk f)(hz:f.le)(hd:f.rd=⟨#[]⟩)(hk:f.key.size≤24)(hi:f.ins.size≤40)(z1:f.rn.size≤13)(z2:f.pn.size≤13)(z3:f.pd.size≤13){l:List Lt}(hl:aL l=0)(hq:∀x∈l,x.q.size≤13∧x.c.size≤13):
 MapHyp (mapOf f) l (aj f.rn*(iv ((av f.ins l).map (·.q))).sum):=by
 obtain⟨e,hN⟩:=kY h hd;have hfn:Fit 13 (aj f.rn):=Fit.val z1;have hf:=ib hl f.ins;refine aiU (I:=f.ins) (aiO h hz) rfl rfl (by omega) (by show f.key.size≤90;omega) hl (fun x hx=>by have:=(hq x (iM hx).1).2;omega) ⟨_,_,Vq.arg (by show f.rn.size≤_;omega) (by show f.rd.size≤_;rw[hd];decide),?_,Vq.arg (by show f.pn.size≤_;omega) (by show f.pd.size≤_;omega),bH.arg (by show f.pn.size≤_;omega) (by show f.pd.size≤_;omega) (by decide),?_⟩ ?_ ?_
 ·exact bH.arg (by show f.rn.size≤_;omega) (by show f.rd.size≤_;rw[hd];decide) (by decide)
 ·show ((iv ((av f.ins l).map (·.q))).sum :Rat)*cK f.rn f.rd=_
  rw[e,Rat.intCast_mul,Rat.mul_comm]
 ·intro x hx
  by_cases h0:av f.ins l=[]
  ·rw[show rR (mapOf f) l (aj f.rn*(iv ((av f.ins l).map (·.q))).sum)=[]from tJ _ (by show (av f.ins l).map _=[];rw[h0];rfl)]at hx
   cases hx
  ·have A:=aeS (m1:=mapOf f) (I:=f.ins) (N:=aj f.rn) hl rfl h0
   rw[A]at hx;obtain⟨y,hy,rfl⟩:=alq.1 hx;obtain⟨s,hs,rfl⟩:=alq.1 hy;obtain⟨u,hu,rfl⟩:=alq.1 hs;have h1:=(hf.q u hu).2;have h2:Fit 13 (aj u.q):=Fit.val (hq u (iM hu).1).1;refine⟨?_,(hfn.mul h2).mono (by omega)⟩;have:=Int.mul_pos (show (0:Int)<aj f.rn by omega) h1;omega
 ·intro h0
  have:=adh hl h0;have:=Int.mul_pos (show (0:Int)<aj f.rn by omega) this;omega
theorem aki {f:Fct}{key:ByteArray}{d:Int}(h:SpOk f)(hd:f.rd=⟨#[]⟩){pr:Rat}(hp:bH 30 pr)(hb:SpOk (gJ f key d (pr*cK f.rn f.rd) (1/cK f.rn f.rd)))(hz:(gJ f key d (pr*cK f.rn f.rd) (1/cK f.rn f.rd)).le)(hk:key.size≤24)(hi:f.ins.size≤40)(z1:f.rn.size≤13)
 {l R1:List Lt} (hl:aL l=0) (hq:∀x∈l,x.q.size≤13∧x.c.size≤13) (hR:MapFine (mapOf f) l (aj f.rn*(iv ((av f.ins l).map (·.q))).sum) R1):
 MapHyp (mapOf (gJ f key d (pr*cK f.rn f.rd) (1/cK f.rn f.rd))) R1 (iv ((av f.ins l).map (·.q))).sum :=by
 obtain⟨e,hN⟩:=kY h hd;have hfr:bH 13 (cK f.rn f.rd):=bH.arg z1 (by rw[hd];decide) (by decide);have h1f:bH 14 (1/cK f.rn f.rd):=(fit1.div hfr).mono (by omega);have hf:=ib hl f.ins;have hlR:=iF hR hl;refine aiU (I:=f.ins) (aiO hb hz) rfl rfl (by omega) (by show key.size≤90;omega) hlR ?_ ⟨_,_,Vq.fr h1f (by omega),h1f.mono (by omega),Vq.fr (hp.mul hfr) (by omega),(hp.mul hfr).mono (by omega),?_⟩ ?_ ?_
 ·intro x hx
  by_cases h0:av f.ins l=[]
  ·rw[hR.none h0,h0]at hx
   cases hx
  ·have hc:=(nE (m1:=mapOf f) (I:=f.ins) hl rfl rfl hR h0).2.1
   have hm:x.c∈(av f.ins R1).map (·.c):=alq.2 ⟨x,hx,rfl⟩;rw[hc]at hm;obtain⟨v,hv,e2⟩:=alq.1 hm;obtain⟨s,hs,rfl⟩:=alq.1 hv;obtain⟨y,hy,rfl⟩:=alq.1 hs;have:=(Fit.val (hq y (iM hy).1).2).size;rw[←e2];omega
 ·show ((iv ((av f.ins R1).map (·.q))).sum :Rat)*(1/cK f.rn f.rd)=_
  have hN0:((aj f.rn:Int):Rat)≠0:=fun e0=>by
   have:aj f.rn=0:=Rat.intCast_inj.1 (e0.trans (show (0:Rat)=((0:Int):Rat)from rfl));omega
  by_cases h0:av f.ins l=[]
  ·rw[hR.none h0,h0]
   show ((0:Int):Rat)*_=((0:Int):Rat);rw[show ((0:Int):Rat)=0 from rfl,Rat.zero_mul]
  ·have A:=ab2 (m1:=mapOf f) (I:=f.ins) hl rfl rfl hR h0
   rw[A,e,Rat.intCast_mul,Rat.div_def,Rat.one_mul,Rat.mul_comm ((aj f.rn:Int):Rat),Rat.mul_assoc,Rat.mul_inv_cancel _ hN0,Rat.mul_one]
 ·intro x hx
  by_cases h0:av f.ins l=[]
  ·rw[show rR (mapOf (gJ f key d (pr*cK f.rn f.rd) (1/cK f.rn f.rd))) R1 (iv ((av f.ins l).map (·.q))).sum =[]from tJ _ (by show (av f.ins R1).map _=[];rw[hR.none h0,h0];rfl)]at hx
   cases hx
  ·have A:=aaF (m1:=mapOf f) (m2:=mapOf (gJ f key d (pr*cK f.rn f.rd) (1/cK f.rn f.rd))) (I:=f.ins) hN hl rfl rfl rfl hR h0
   rw[A]at hx;obtain⟨s,hs,rfl⟩:=alq.1 hx;obtain⟨u,hu,rfl⟩:=alq.1 hs;have h1:=(hf.q u hu).2;have h2:Fit 13 (aj u.q):=Fit.val (hq u (iM hu).1).1;exact⟨by omega,h2.mono (by omega)⟩
 ·intro h0
  by_cases h1:av f.ins l=[]
  ·exact absurd (by rw[hR.none h1,h1]) h0
  ·have:=adh hl h1
   omega
end Go.Proofs.YtjknklinhegdoaaGreatDoor
