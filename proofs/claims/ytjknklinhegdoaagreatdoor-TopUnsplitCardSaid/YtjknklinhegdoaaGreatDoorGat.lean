/- Facts: the limits of numbers, currency codes. Conditions: texts of bounded length; the library's variables lie as the program's text lays them. Facts: their cells; value, empty. Conditions: texts of bounded length; the library's variables lie as the program's text lays them. Facts: empty. Conditions: texts of bounded length; the library's variables lie as the program's text lays them. Slices of picks: looking through them. Condition: what the function returns. Facts: checkPicks. Conditions: texts of bounded length; the library's variables lie as the program's text lays them. -/
import Derived.OrdersIn
import Derived.TacticsIn
import Derived.Deep.RegionHeld
import Derived.Test.YtjknklinhegdoaaGreatDoorLm8
import Derived.Test.YtjknklinhegdoaaGreatDoorGas
import Derived.Deep.RegionHeld3
set_option linter.unusedSimpArgs false
set_option linter.unusedVariables false
set_option maxHeartbeats 4000000
set_option maxRecDepth 100000
namespace Go.Proofs.YtjknklinhegdoaaGreatDoor
open Go.RowKit Go.Shelf Dec QQ SP
attribute [local go_sem] Oper.semAt_some
def minB (s:ByteArray):Bool:=decide (1≤s.size)&&((s.extract 0 1).toList == [45])
theorem ahF {s:ByteArray}(hz:s.size≤1000000):Ret 228 #[.string s,.string ⟨#[45]⟩] (.bool (minB s)):=by
 intro w hg;have hs:=St.refl hg;have z:(⟨#[45]⟩:ByteArray).size =1:=rfl;unfold minB;by_cases h:1≤s.size
 ·have q:decide ((1:Int)≤(s.size:Int))=true:=alI (by omega)
  have q2:(1:Int)≤(s.size:Int):=by omega
  rw[alI h,Bool.true_and];generalize hb:((s.extract 0 1).toList == [45])=b at*
  go_enter Tryz.func228,Tryz.ntmps228
  go_wp2_with fail
  go_ret
  exact⟨rfl,hs.2⟩
 ·have q:decide ((1:Int)≤(s.size:Int))=false:=alH (by omega)
  have q2:¬(1:Int)≤(s.size:Int):=by omega
  rw[alH h,Bool.false_and]
  go_enter Tryz.func228,Tryz.ntmps228
  go_wp2_with fail
  go_ret
  exact⟨rfl,hs.2⟩
def ac4 (s:ByteArray):ByteArray:=bif minB s then s.extract 1 s.size else s
theorem abP {s:ByteArray}(hz:s.size≤1000000):Ret 261 #[.string s,.string ⟨#[45]⟩] (.string (ac4 s)):=by
 intro w hg;have hs:=St.refl hg;have K:=ahF hz;have z:(⟨#[45]⟩:ByteArray).size =1:=rfl;have hm:minB s=true→1≤s.size:=fun h=>by
  unfold minB at h;simp only[ale,decide_eq_true_eq]at h;exact h.1
 unfold ac4;generalize minB s=b at*
 cases b with
 |true=>
  have h1:=hm rfl;have q2:(1:Int)≤(s.size:Int):=by omega
  simp only[cond_true]
  go_enter Tryz.func261,Tryz.ntmps261
  go_wp2_with fail
  refine K.step hs ?_;intro w1 hs hb
  go_wp2_with fail
  go_ret
  exact⟨rfl,hs.2⟩
 |false=>
  clear hm;simp only[cond_false]
  go_enter Tryz.func261,Tryz.ntmps261
  go_wp2_with fail
  refine K.step hs ?_;intro w1 hs hb
  go_wp2_with fail
  go_ret
  exact⟨rfl,hs.2⟩
theorem ac9 {s:ByteArray}(hz:s.size≤1000000):Ret 230 #[.string s,.string ⟨#[45]⟩] (.string (ac4 s)):=by
 intro w hg;have hs:=St.refl hg;have K:=abP hz;generalize ac4 s=c at*
 go_enter Tryz.func230,Tryz.ntmps230
 go_wp2_with fail
 refine K.step hs ?_;intro w1 hs hb
 go_wp2_with fail
 go_ret
 exact⟨rfl,hs.2⟩
theorem qO {s:ByteArray}(hz:s.size≤1000000):Ret 180 #[.string s] (.int .i64 ((ac4 s).size :Int)):=by
 intro w hg;have hs:=St.refl hg;have K:=ac9 hz;generalize ac4 s=c at*
 go_enter Tryz.func180,Tryz.ntmps180
 go_wp2_with fail
 refine K.step hs ?_;intro w1 hs hb
 go_wp2_with fail
 go_ret
 exact⟨rfl,hs.2⟩
def caps:List UInt8:=[65,66,67,68,69,70,71,72,73,74,75,76,77,78,79,80,81,82,83,84,85,86,87,88,89,90]
def acM (s:ByteArray):Bool:=decide (s.size=3)&&((str (Lib.trimS (bytes s) caps)).toList == [])
theorem tV {s:ByteArray}(hz:s.size≤1000000):Ret 122 #[.string s] (.bool (acM s)):=by
 intro w hg;have hs:=St.refl hg;have K:Ret 168 #[.string s,.string ⟨#[65,66,67,68,69,70,71,72,73,74,75,76,77,78,79,80,81,82,83,84,85,86,87,88,89,90]⟩] (.string (str (Lib.trimS (bytes s) caps))):=fun w _=>
  Any.strings_Trim_laid Tryz.lays160 (by kernel_rfl) s ⟨#[65,66,67,68,69,70,71,72,73,74,75,76,77,78,79,80,81,82,83,84,85,86,87,88,89,90]⟩ w (by omega) (by decide) (ascii_of_all (by decide))
 unfold acM;generalize str (Lib.trimS (bytes s) caps)=c at*
 by_cases h:s.size=3
 ·have q:((s.size:Int)==3)=true:=by simpa using(by omega:(s.size:Int)=3)
  have q2:(s.size:Int)=3:=by omega
  rw[alI h,Bool.true_and];obtain⟨b,hb⟩:∃b,(c.toList== [])=b:=⟨_,rfl⟩;rw[hb]
  go_enter Tryz.func122,Tryz.ntmps122
  go_wp2_with fail
  refine K.step hs ?_;intro w1 hs hb1
  go_wp2_with fail
  go_ret
  exact⟨rfl,hs.2⟩
 ·have q:((s.size:Int)==3)=false:=by simpa using(by omega:¬(s.size:Int)=3)
  have q2:¬(s.size:Int)=3:=by omega
  rw[alH h,Bool.false_and];clear K
  go_enter Tryz.func122,Tryz.ntmps122
  go_wp2_with fail
  go_ret
  exact⟨rfl,hs.2⟩
theorem jN (a:ByteArray):Ret 183 #[.string a] (.agg #[.string a,.string ⟨#[]⟩]):=by
 intro w hg;have hs:=(St.refl hg).alloc (.cells #[.string ⟨#[]⟩,.string ⟨#[]⟩] 26);have X:=TBx.new w #[.string ⟨#[]⟩,.string ⟨#[]⟩] 26;have x0:=X.bx.cell (i:=0) (v:=.string ⟨#[]⟩) rfl;have x1:=X.bx.cell (i:=1) (v:=.string ⟨#[]⟩) rfl;have f0:=X.bx.frozen 0;have f1:=X.bx.frozen 1
 go_enter Tryz.func183,Tryz.ntmps183
 go_wp2_with fail
 have Y:=TBx.new w #[.string a,.string ⟨#[]⟩] 26;have y0:=Y.bx.cell (i:=0) (v:=.string a) rfl;have y1:=Y.bx.cell (i:=1) (v:=.string ⟨#[]⟩) rfl;refine bodyPost_ret (v:=.agg #[.string a,.string ⟨#[]⟩]) (by simp[results,Tryz.results183,go_sem,y0,y1]) rfl ⟨rfl,bal w _⟩
def oO (P Q:Bool)(a b:ByteArray):Int:=
 bif aak a b !=0 then 1 else bif decide (40<((ac4 a).size :Int))||decide (40<((ac4 b).size :Int))then 4 else
 bif decide (iI (cK a b) 0<0)||((P&&decide (iI (cK a b) 0=0))||(Q&&decide (0<iI (cK a b) 1)))then 2 else 0
def abJ (w:World)(b1 b2:Nat)(P Q:Bool):Prop:=Bx w b1 #[.bool P]∧Bx w b2 #[.bool Q]
theorem abJ.on {w w':World}{b1 b2:Nat}{P Q:Bool}(h:abJ w b1 b2 P Q)(hb:Below w.heap.size w w'):abJ w' b1 b2 P Q:=⟨h.1.on hb,h.2.on hb⟩
theorem jB {a b:ByteArray}{b1 b2:Nat}{P Q:Bool}(s1:a.size≤1000)(s2:b.size≤1000):ig (fun w=>abJ w b1 b2 P Q) 178 #[.agg #[.string a,.string b],.pointer (some ⟨b1,0,none⟩),.pointer (some ⟨b2,0,none⟩)] (.int .i64 (oO P Q a b)):=by
 intro w hg hi;have hs:=(St.refl hg).alloc (.cells #[.string a,.string b] 26);have HI:=ala (hi.on (bal w (.cells #[.string a,.string b] 26)));have HX:=ala (TBx.new w #[.string a,.string b] 26);have hq:=Vq.arg (n:=a) (d:=b) (by omega) (by omega);have hf:=bH.arg (n:=a) (d:=b) (k:=1000) s1 s2 (by omega);have K1:=CmpF hq vq0 (k:=1000) (by rw[show cK a b-0=cK a b by grind];exact hf) (by omega);have K2:=ChkF (a:=a) (b:=b) (by omega) (by omega);have K3:=qO (s:=a) (by omega);have K4:=qO (s:=b) (by omega);have K5:=OfF (a:=⟨#[49]⟩) (x:=1) ⟨by decide+kernel,by decide⟩ (by decide);have K6:=CmpF hq vq1 (k:=1003) ((hf.sub fit1).mono (by omega)) (by omega);rw[show ((1:Int):Rat)=1 from rfl,abj]at K5;have h3:=acO (cK a b) 0;unfold FV at*
 unfold FR1 at K5;have hE:oO P Q a b=bif aak a b !=0 then 1 else bif decide (40<((ac4 a).size :Int))||decide (40<((ac4 b).size :Int))then 4 else
  bif decide (iI (cK a b) 0<0)||((P&&decide (iI (cK a b) 0=0))||(Q&&decide (0<iI (cK a b) 1)))then 2 else 0:=rfl
 have HE:=ala hE;generalize oO P Q a b=oe at*
 generalize iI (cK a b) 0=sg at*
 generalize iI (cK a b) 1=s1 at*
 generalize aak a b=ck at*
 generalize (ac4 a).size =da at*
 generalize (ac4 b).size =db at*
 clear hE hq hf hi hg;have x0:=HX.out.bx.cell (i:=0) (v:=.string a) rfl;have x1:=HX.out.bx.cell (i:=1) (v:=.string b) rfl
 go_enter Tryz.func178,Tryz.ntmps178
 go_wp2_with fail
 refine K1.step hs ?_;intro w1 hs hb1;replace HI:=ala (HI.out.on hb1);replace HX:=ala (HX.out.on hb1);clear x0 x1 hb1;have x0:=HX.out.bx.cell (i:=0) (v:=.string a) rfl;have x1:=HX.out.bx.cell (i:=1) (v:=.string b) rfl
 go_wp2_with fail
 refine K2.step hs ?_;intro w2 hs hb2;replace HI:=ala (HI.out.on hb2);replace HX:=ala (HX.out.on hb2);clear x0 x1 hb2 K1 K2;have x0:=HX.out.bx.cell (i:=0) (v:=.string a) rfl;have x1:=HX.out.bx.cell (i:=1) (v:=.string b) rfl;by_cases hck:ck=0
 case neg=>
  have q1:(ck !=0)=true:=by simpa using hck
  have q2:(ck==0)=false:=by simpa using hck
  have hoe:oe=1:=by rw[HE.out,q1];rfl
  subst hoe;clear HE
  go_wp2_with fail
  go_ret
  exact⟨rfl,hs.2⟩
 subst hck
 go_wp2_with fail
 refine K3.step hs ?_;intro w3 hs hb3;replace HI:=ala (HI.out.on hb3);replace HX:=ala (HX.out.on hb3);clear x0 x1 hb3 K3;have x0:=HX.out.bx.cell (i:=0) (v:=.string a) rfl;have x1:=HX.out.bx.cell (i:=1) (v:=.string b) rfl;by_cases hda:40<(da:Int)
 case pos=>
  have q1:decide ((40:Int)<(da:Int))=true:=alI hda;have hoe:oe=4:=by rw[HE.out,q1];rfl
  subst hoe;clear HE K4 K5 K6
  go_wp2_with fail
  go_ret
  exact⟨rfl,hs.2⟩
 have q1:decide ((40:Int)<(da:Int))=false:=alH hda
 go_wp2_with fail
 refine K4.step hs ?_;intro w4 hs hb4;replace HI:=ala (HI.out.on hb4);replace HX:=ala (HX.out.on hb4);clear x0 x1 hb4 K4;have x0:=HX.out.bx.cell (i:=0) (v:=.string a) rfl;have x1:=HX.out.bx.cell (i:=1) (v:=.string b) rfl;by_cases hdb:40<(db:Int)
 case pos=>
  have q2:decide ((40:Int)<(db:Int))=true:=alI hdb;have hoe:oe=4:=by rw[HE.out,q2,q1];rfl
  subst hoe;clear HE K5 K6
  go_wp2_with fail
  go_ret
  exact⟨rfl,hs.2⟩
 have q2:decide ((40:Int)<(db:Int))=false:=alH hdb;have hoe:oe=bif decide (sg<0)||((P&&decide (sg=0))||(Q&&decide (0<s1)))then 2 else 0:=by rw[HE.out,q1,q2];rfl
 clear HE
 go_wp2_with fail
 have kP:=HI.out.1.keeps (i:=0) (v:=.bool P) rfl;have kQ:=HI.out.2.keeps (i:=0) (v:=.bool Q) rfl;have k0:=HX.out.bx.keeps (i:=0) (v:=.string a) rfl;have k1:=HX.out.bx.keeps (i:=1) (v:=.string b) rfl;obtain⟨c,hc⟩:∃c,decide (0<s1)=c:=⟨_,rfl⟩;rw[hc]at hoe;rcases h3 with rfl|rfl|rfl<;>cases P<;>cases Q<;>cases c
 all_goals
  simp at hoe;subst hoe;refine ax (by kernel_rfl) (by kernel_rfl) ?_
  repeat (go_big_quiet_step (first|(with_reducible exact K5.kept hs)|(with_reducible exact K6.kept hs)))
  refine wpQuiet_nil ?_;rintro _ ⟨u1,rfl⟩;have hs:=hs.kept u1;clear kP kQ k0 k1
  go_wp2_with fail
  go_ret
  exact⟨rfl,hs.2⟩
end Go.Proofs.YtjknklinhegdoaaGreatDoor
namespace Go.Proofs.YtjknklinhegdoaaGreatDoor
open Go.RowKit Go.Shelf Dec QQ SP
attribute [local go_sem] Oper.semAt_some
attribute [-go_sem] loadVar
theorem aa3 (t:TypeId)(_:t≠30)(a:Addr):loadVar t a=(do if←isAgg t then pure (.agg (←loadCells a (←sizeOf t)))else load a):=rfl
attribute [local go_sem] aa3
structure Fct where
 key:ByteArray
 st:Int
 canc:Bool
 day:Int
 kind:Int
 ins:ByteArray
 oth:ByteArray
 cur:ByteArray
 tgt:ByteArray
 q:ByteArray
 a:ByteArray
 fee:ByteArray
 pn:ByteArray
 pd:ByteArray
 rn:ByteArray
 rd:ByteArray
 sn:ByteArray
 sd:ByteArray
 P:Option Addr
 np:Nat
 cp:Nat
 O:Option Addr
 no:Nat
 co:Nat
 cho:Int
def bv (f:Fct):Array Value:= #[.string f.key,.int .i64 f.st,.bool f.canc,.int .i64 f.day,.int .i64 f.kind,.string f.ins,.string f.oth,.string f.cur,.string f.tgt,.string f.q,.string f.a,.string f.fee,.string f.pn,.string f.pd,.string f.rn,.string f.rd,.string f.sn,.string f.sd,.slice f.P f.np f.cp,.slice f.O f.no f.co,.int .i64 f.cho]
def fI (f:Fct):Value:=.agg (bv f)
structure Fct.le (f:Fct):Prop where
 key:f.key.size≤100
 ins:f.ins.size≤100
 oth:f.oth.size≤100
 cur:f.cur.size≤100
 tgt:f.tgt.size≤100
 q:f.q.size≤100
 a:f.a.size≤100
 fee:f.fee.size≤100
 pn:f.pn.size≤100
 pd:f.pd.size≤100
 rn:f.rn.size≤100
 rd:f.rd.size≤100
 sn:f.sn.size≤100
 sd:f.sd.size≤100
theorem Bx.fact {w:World}{b:Nat}{cs:Array Value}(h:Bx w b cs)(hs:cs.size=21):(loadVar 30 ⟨b,0,none⟩).run Tryz.prog w= .ok (.agg cs) w:=by
 have:=run_loadVar_mid (P:=Tryz.prog) w b 0 30 cs.toList (Tryz.prog.underlying 30).get! (fun j v hv=>by rw[Nat.zero_add];exact h.cell (by simpa using hv)) (by kernel_rfl) (by kernel_rfl) (by rw[Array.length_toList,hs];kernel_rfl);simpa using this
theorem Bx.factK {w:World}{b:Nat}{cs:Array Value}(h:Bx w b cs)(hs:cs.size=21)(u:Kept w):(loadVar 30 ⟨b,0,none⟩).run Tryz.prog u.W= .ok (.agg cs) u.W:=(h.kept u).fact hs
def ek (f:Fct)(i:Nat):ByteArray×ByteArray:=
 match i with
 |4=>(f.q,⟨#[]⟩)
 |5=>(f.a,⟨#[]⟩)
 |6=>(f.fee,⟨#[]⟩)
 |7=>(f.pn,f.pd)
 |8=>(f.rn,f.rd)
 |9=>(f.sn,f.sd)
 |_=>(⟨#[]⟩,⟨#[]⟩)
theorem lt13 {i:Nat}{j:Int}(h:i<13)(hj:j=i):(i=0∧j=0)∨(i=1∧j=1)∨(i=2∧j=2)∨(i=3∧j=3)∨(i=4∧j=4)∨(i=5∧j=5)∨(i=6∧j=6)∨(i=7∧j=7)∨(i=8∧j=8)∨(i=9∧j=9)∨(i=10∧j=10)∨(i=11∧j=11)∨(i=12∧j=12):=by
 subst hj;rcases(by omega:i=0∨i=1∨i=2∨i=3∨i=4∨i=5∨i=6∨i=7∨i=8∨i=9∨i=10∨i=11∨i=12)with rfl|rfl|rfl|rfl|rfl|rfl|rfl|rfl|rfl|rfl|rfl|rfl|rfl<;>simp
theorem gG (f:Fct){i:Nat}{j:Int}(hi:i<13)(hj:j=i):Ret 125 #[fI f,.int .i64 j] (.agg #[.string (ek f i).1,.string (ek f i).2]):=by
 intro w hg;have hs:=((St.refl hg).alloc (.cells (bv f) 30)).alloc (.cells #[.string ⟨#[]⟩,.string ⟨#[]⟩] 26);have HX:=ala ((TBx.new w (bv f) 30).alloc (.cells #[.string ⟨#[]⟩,.string ⟨#[]⟩] 26));have HY:Hid (TBx ((w.alloc (.cells (bv f) 30)).alloc (.cells #[.string ⟨#[]⟩,.string ⟨#[]⟩] 26)) (w.heap.size+1) #[.string ⟨#[]⟩,.string ⟨#[]⟩] 26):=by
  have:=TBx.new (w.alloc (.cells (bv f) 30)) #[.string ⟨#[]⟩,.string ⟨#[]⟩] 26;rwa[alf]at this
 have KA:=jN f.q;have KB:=jN f.a;have KC:=jN f.fee;have HIV:=lt13 hi hj;have hix:∀u:World,(Instr.index 262 (.agg #[.string ⟨#[]⟩,.string ⟨#[]⟩,.string ⟨#[]⟩,.string ⟨#[]⟩,.string ⟨#[]⟩,.string ⟨#[]⟩,.string ⟨#[]⟩,.string ⟨#[]⟩,.string f.q,.string ⟨#[]⟩,.string f.a,.string ⟨#[]⟩,.string f.fee,.string ⟨#[]⟩,.string f.pn,.string f.pd,.string f.rn,.string f.rd,.string f.sn,.string f.sd,.string ⟨#[]⟩,.string ⟨#[]⟩,.string ⟨#[]⟩,.string ⟨#[]⟩,.string ⟨#[]⟩,.string ⟨#[]⟩]) (.int .i64 j)).run Tryz.prog u= .ok (.agg #[.string (ek f i).1,.string (ek f i).2]) u:=by
  intro u;rcases HIV with ⟨rfl,rfl⟩|⟨rfl,rfl⟩|⟨rfl,rfl⟩|⟨rfl,rfl⟩|⟨rfl,rfl⟩|⟨rfl,rfl⟩|⟨rfl,rfl⟩|⟨rfl,rfl⟩|⟨rfl,rfl⟩|⟨rfl,rfl⟩|⟨rfl,rfl⟩|⟨rfl,rfl⟩|⟨rfl,rfl⟩<;>kernel_rfl
 have HB:Hid (Below w.heap.size w ((w.alloc (.cells (bv f) 30)).alloc (.cells #[.string ⟨#[]⟩,.string ⟨#[]⟩] 26))):=hs.2;generalize (ek f i).1=v1 at*
 generalize (ek f i).2=v2 at*
 clear hg hj hi;dsimp only[fI]
 go_enter Tryz.func125,Tryz.ntmps125
 go_wp2_with fail
 obtain⟨W2,hW2⟩:∃W2,(w.alloc (.cells (bv f) 30)).alloc (.cells #[.string ⟨#[]⟩,.string ⟨#[]⟩] 26)=W2:=⟨_,rfl⟩;rw[hW2]at HX HY HB hs⊢
 clear hW2;have k9:=HX.out.bx.keeps (i:=9) (v:=.string f.q) rfl;have k10:=HX.out.bx.keeps (i:=10) (v:=.string f.a) rfl;have k11:=HX.out.bx.keeps (i:=11) (v:=.string f.fee) rfl;have k12:=HX.out.bx.keeps (i:=12) (v:=.string f.pn) rfl;have k13:=HX.out.bx.keeps (i:=13) (v:=.string f.pd) rfl;have k14:=HX.out.bx.keeps (i:=14) (v:=.string f.rn) rfl;have k15:=HX.out.bx.keeps (i:=15) (v:=.string f.rd) rfl;have k16:=HX.out.bx.keeps (i:=16) (v:=.string f.sn) rfl;have k17:=HX.out.bx.keeps (i:=17) (v:=.string f.sd) rfl;rcases HIV with ⟨rfl,rfl⟩|⟨rfl,rfl⟩|⟨rfl,rfl⟩|⟨rfl,rfl⟩|⟨rfl,rfl⟩|⟨rfl,rfl⟩|⟨rfl,rfl⟩|⟨rfl,rfl⟩|⟨rfl,rfl⟩|⟨rfl,rfl⟩|⟨rfl,rfl⟩|⟨rfl,rfl⟩|⟨rfl,rfl⟩
 all_goals
  refine bI 18 (by kernel_rfl) (by kernel_rfl) ?_;simp only[List.take_succ_cons,List.take_zero,List.drop_succ_cons,List.drop_zero]
  repeat (go_big_quiet_step (first|(with_reducible exact KA.kept hs)|(with_reducible exact KB.kept hs)|(with_reducible exact KC.kept hs)))
  refine wpQuiet_nil ?_;rintro _ ⟨u1,rfl⟩;have HY1:=ala (HY.out.on u1.low);have HL1:=ala (HB.out.trans (u1.low.mono HB.out.size));have x0:=HY1.out.bx.cell (i:=0) (v:=.string ⟨#[]⟩) rfl;have x1:=HY1.out.bx.cell (i:=1) (v:=.string ⟨#[]⟩) rfl;have f0:=HY1.out.bx.frozen 0;have f1:=HY1.out.bx.frozen 1;clear k9 k10 k11 k12 k13 k14 k15 k16 k17
  go_wp2_with fail
  have Z:=(HY1.out.set 0 (.string v1)).set 1 (.string v2);have z0:=Z.bx.cell (i:=0) (v:=.string v1) rfl;have z1:=Z.bx.cell (i:=1) (v:=.string v2) rfl;refine bodyPost_ret (v:=.agg #[.string v1,.string v2]) (by simp[results,Tryz.results125,go_sem,z0,z1]) rfl ⟨rfl,?_⟩;exact(HL1.out.setCell (p:=⟨w.heap.size+1,0,none⟩) (by show w.heap.size≤w.heap.size+1;omega) _).setCell (p:=⟨w.heap.size+1,1,none⟩) (by show w.heap.size≤w.heap.size+1;omega) _
end Go.Proofs.YtjknklinhegdoaaGreatDoor
namespace Go.Proofs.YtjknklinhegdoaaGreatDoor
open Go.RowKit Go.Shelf Dec QQ SP
attribute [local go_sem] Oper.semAt_some
attribute [-go_sem] loadVar
attribute [local go_sem] aa3
def bL (f:Fct)(i:Nat):Bool:=
 match i with
 |0=>f.ins.toList.isEmpty
 |1=>f.oth.toList.isEmpty
 |2=>f.cur.toList.isEmpty
 |3=>f.tgt.toList.isEmpty
 |10=>(f.np:Int)==0
 |11=>(f.no:Int)==0
 |12=>f.cho==0
 |_=>(ek f i).1.toList.isEmpty &&(ek f i).2.toList.isEmpty
theorem aeZ (f:Fct){i:Nat}{j:Int}(hi:i<13)(hj:j=i):Ret 63 #[fI f,.int .i64 j] (.bool (bL f i)):=by
 intro w hg;have hs:=(St.refl hg).alloc (.cells (bv f) 30);have HX:=ala (TBx.new w (bv f) 30);have K:=gG f hi hj;have HIV:=lt13 hi hj;have E0:=fun a b u=>eqlF a b ⟨#[]⟩ ⟨#[]⟩ u
 rw[show (⟨#[]⟩:ByteArray).toList =[]from by rw[aD];rfl]at E0;have HB:Hid (Below w.heap.size w (w.alloc (.cells (bv f) 30))):=hs.2;clear hg hj hi;dsimp only[fI]at*
 have xf:=HX.out.bx.fact rfl;have x5:=HX.out.bx.cell (i:=5) (v:=.string f.ins) rfl;have x6:=HX.out.bx.cell (i:=6) (v:=.string f.oth) rfl;have x7:=HX.out.bx.cell (i:=7) (v:=.string f.cur) rfl;have x8:=HX.out.bx.cell (i:=8) (v:=.string f.tgt) rfl;have x18:=HX.out.bx.cell (i:=18) (v:=.slice f.P f.np f.cp) rfl;have x19:=HX.out.bx.cell (i:=19) (v:=.slice f.O f.no f.co) rfl;have x20:=HX.out.bx.cell (i:=20) (v:=.int .i64 f.cho) rfl;rcases HIV with ⟨rfl,rfl⟩|⟨rfl,rfl⟩|⟨rfl,rfl⟩|⟨rfl,rfl⟩|⟨rfl,rfl⟩|⟨rfl,rfl⟩|⟨rfl,rfl⟩|⟨rfl,rfl⟩|⟨rfl,rfl⟩|⟨rfl,rfl⟩|⟨rfl,rfl⟩|⟨rfl,rfl⟩|⟨rfl,rfl⟩
 ·show Calls _ _ _ _ fun e w'=>e= .returned (.bool (bL f 0))∧_
  unfold bL;simp only[]
  go_enter Tryz.func63,Tryz.ntmps63
  go_wp2_with fail
  go_ret
  exact⟨rfl,hs.2⟩
 ·show Calls _ _ _ _ fun e w'=>e= .returned (.bool (bL f 1))∧_
  unfold bL;simp only[]
  go_enter Tryz.func63,Tryz.ntmps63
  go_wp2_with fail
  go_ret
  exact⟨rfl,hs.2⟩
 ·show Calls _ _ _ _ fun e w'=>e= .returned (.bool (bL f 2))∧_
  unfold bL;simp only[]
  go_enter Tryz.func63,Tryz.ntmps63
  go_wp2_with fail
  go_ret
  exact⟨rfl,hs.2⟩
 ·show Calls _ _ _ _ fun e w'=>e= .returned (.bool (bL f 3))∧_
  unfold bL;simp only[]
  go_enter Tryz.func63,Tryz.ntmps63
  go_wp2_with fail
  go_ret
  exact⟨rfl,hs.2⟩
 ·show Calls _ _ _ _ fun e w'=>e= .returned (.bool (bL f 4))∧_
  unfold bL;simp only[];generalize (ek f 4).1=v1 at*
  generalize (ek f 4).2=v2 at*
  go_enter Tryz.func63,Tryz.ntmps63
  go_wp2_with fail
  refine K.step hs ?_;intro w1 hs hb;have E1:=E0 v1 v2 w1
  go_wp2_with fail
  go_ret
  exact⟨rfl,hs.2⟩
 ·show Calls _ _ _ _ fun e w'=>e= .returned (.bool (bL f 5))∧_
  unfold bL;simp only[];generalize (ek f 5).1=v1 at*
  generalize (ek f 5).2=v2 at*
  go_enter Tryz.func63,Tryz.ntmps63
  go_wp2_with fail
  refine K.step hs ?_;intro w1 hs hb;have E1:=E0 v1 v2 w1
  go_wp2_with fail
  go_ret
  exact⟨rfl,hs.2⟩
 ·show Calls _ _ _ _ fun e w'=>e= .returned (.bool (bL f 6))∧_
  unfold bL;simp only[];generalize (ek f 6).1=v1 at*
  generalize (ek f 6).2=v2 at*
  go_enter Tryz.func63,Tryz.ntmps63
  go_wp2_with fail
  refine K.step hs ?_;intro w1 hs hb;have E1:=E0 v1 v2 w1
  go_wp2_with fail
  go_ret
  exact⟨rfl,hs.2⟩
 ·show Calls _ _ _ _ fun e w'=>e= .returned (.bool (bL f 7))∧_
  unfold bL;simp only[];generalize (ek f 7).1=v1 at*
  generalize (ek f 7).2=v2 at*
  go_enter Tryz.func63,Tryz.ntmps63
  go_wp2_with fail
  refine K.step hs ?_;intro w1 hs hb;have E1:=E0 v1 v2 w1
  go_wp2_with fail
  go_ret
  exact⟨rfl,hs.2⟩
 ·show Calls _ _ _ _ fun e w'=>e= .returned (.bool (bL f 8))∧_
  unfold bL;simp only[];generalize (ek f 8).1=v1 at*
  generalize (ek f 8).2=v2 at*
  go_enter Tryz.func63,Tryz.ntmps63
  go_wp2_with fail
  refine K.step hs ?_;intro w1 hs hb;have E1:=E0 v1 v2 w1
  go_wp2_with fail
  go_ret
  exact⟨rfl,hs.2⟩
 ·show Calls _ _ _ _ fun e w'=>e= .returned (.bool (bL f 9))∧_
  unfold bL;simp only[];generalize (ek f 9).1=v1 at*
  generalize (ek f 9).2=v2 at*
  go_enter Tryz.func63,Tryz.ntmps63
  go_wp2_with fail
  refine K.step hs ?_;intro w1 hs hb;have E1:=E0 v1 v2 w1
  go_wp2_with fail
  go_ret
  exact⟨rfl,hs.2⟩
 ·show Calls _ _ _ _ fun e w'=>e= .returned (.bool (bL f 10))∧_
  unfold bL;simp only[]
  go_enter Tryz.func63,Tryz.ntmps63
  go_wp2_with fail
  go_ret
  exact⟨rfl,hs.2⟩
 ·show Calls _ _ _ _ fun e w'=>e= .returned (.bool (bL f 11))∧_
  unfold bL;simp only[]
  go_enter Tryz.func63,Tryz.ntmps63
  go_wp2_with fail
  go_ret
  exact⟨rfl,hs.2⟩
 ·show Calls _ _ _ _ fun e w'=>e= .returned (.bool (bL f 12))∧_
  unfold bL;simp only[]
  go_enter Tryz.func63,Tryz.ntmps63
  go_wp2_with fail
  go_ret
  exact⟨rfl,hs.2⟩
end Go.Proofs.YtjknklinhegdoaaGreatDoor
namespace Go.Proofs.YtjknklinhegdoaaGreatDoor
open Go.RowKit Go.Shelf Dec QQ SP
structure Pk where
 lot:ByteArray
 q:ByteArray
def bW (s:Pk):List Value:=[.string s.lot,.string s.q]
def pkV (s:Pk):Value:=.agg #[.string s.lot,.string s.q]
theorem gH (s:Pk):(bW s).length =2:=rfl
theorem akd {A:Option Addr}{n c:Nat}{l:List Pk}{f:FuncId}{cap:Array Value}{p:Pk→Bool}{I:World→Prop}(hI:acZ I)(hn:l.length=n)(hm:n≤4611686018427387904)(hcf:∀(args:Array Value) (u:World),(callFunc f args).run Tryz.prog u= .ok (.enter f args) u)
 (KF:Hid (∀s∈l,ig I f (#[pkV s]++cap) (.bool (p s)))):
 ig (fun w=>Row w A (au bW l)∧I w) 133 #[.slice A n c,.func (.func f) #[] cap] (.int .i64 (abd p l)):=by
 intro w hg hi;have hs:=St.refl hg;have HN:=ala hn;have Hi:=ala hi;have HI:=ala hI;clear hn hi hI
 go_enter Tryz.func133,Tryz.ntmps133
 go_wp2_with fail
 go_loopw [8] (fun s wr=>∃k:Nat,k≤n∧s= .int .i64 (k:Int)∧St w wr∧Hid (Row wr A (au bW l)∧I wr)∧Hid (∀i,i<k→∀t,l[i]? =some t→p t=false)) (fun s _=>(n-intOf s).toNat)
 case atStart=>exact⟨0,by omega,rfl,hs,Hi,fun i h=>by omega⟩
 case round=>
  obtain⟨k,hk,rfl,hs,H,HP⟩:=hrel;by_cases hkn:k=n
  ·subst hkn
   have q:decide ((k:Int)<(k:Int))=false:=alH (by omega);have HE:=ala (xU (p:=p) (l:=l) (fun i hi t ht=>HP.out i (by rw[HN.out]at hi;exact hi) t ht));clear HP
   go_wp2_with fail
   go_ret
   exact⟨by rw[HE.out];rfl,hs.2⟩
  ·have hkl:k<n:=by omega
   have q:decide ((k:Int)<(n:Int))=true:=alI (by omega);have qn:decide (k<n)=true:=alI hkl;obtain⟨d,hd⟩:∃d,l[k]? =some d:=⟨l[k]'(by rw[HN.out];exact hkl),by simp⟩;obtain⟨b,o,hA,hb,hcells⟩:=eT (cs:=bW) (m:=2) gH (by decide) H.out.1 hd;subst hA;have KK:=KF.out d (alk hd);have HD:=ala hd;clear hd hkn;obtain⟨pv,hpv⟩:∃pv,p d=pv:=⟨_,rfl⟩;rw[hpv]at KK;have HPV:=ala hpv;clear hpv;obtain⟨f0,f1⟩:=d;have x0:wr.cell? ⟨b,o+k*2,none⟩=some (.string f0):=hcells 0 _ rfl;have x1:wr.cell? ⟨b,o+k*2+1,none⟩=some (.string f1):=hcells 1 _ rfl;have HC:=ala hcells;clear hcells;dsimp only[pkV]at KK;cases pv with
   |true=>
    have HE:=ala (aeK HD.out HPV.out HP.out)
    go_wp2_with fail
    refine KK.step hs H.out.2 ?_;intro w2 hs hb
    go_wp2_with fail
    go_ret
    exact⟨by rw[HE.out];rfl,hs.2⟩
   |false=>
    go_wp2_with fail
    refine KK.step hs H.out.2 ?_;intro w2 hs hb;have H2:Hid (Row w2 (some ⟨b,o,none⟩) (au bW l)∧I w2):=⟨H.out.1.on hb,HI.out _ _ H.out.2 hb⟩
    go_wp2_with fail
    go_roundw
    case rel=>
     refine⟨k+1,by omega,by go_num,hs,H2,?_⟩;intro i hi t ht;by_cases e:i=k
     ·subst e
      rw[HD.out]at ht;cases ht;exact HPV.out
     ·exact HP.out i (by omega) t ht
    case measure=>simp[intOf];omega
theorem acH {A:Option Addr}{n c:Nat}{l:List Pk}{f:FuncId}{cap:Array Value}{p:Pk→Bool}{I:World→Prop}(hI:acZ I)(hn:l.length=n)(hm:n≤4611686018427387904)(hcf:∀(args:Array Value) (u:World),(callFunc f args).run Tryz.prog u= .ok (.enter f args) u)
 (KF:Hid (∀s∈l,ig I f (#[pkV s]++cap) (.bool (p s)))):
 ig (fun w=>Row w A (au bW l)∧I w) 129 #[.slice A n c,.func (.func f) #[] cap] (.bool (l.any p)):=by
 intro w hg hi;have hs:=St.refl hg;have K:=akd (A:=A) (c:=c) hI hn hm hcf KF;have e:=abb p l;generalize abd p l=r at*
 generalize l.any p=v at*
 have Hi:=ala hi;clear hn hi hI
 go_enter Tryz.func129,Tryz.ntmps129
 go_wp2_with fail
 refine K.step hs Hi.out ?_;intro w1 hs _
 go_wp2_with fail
 go_ret
 exact⟨rfl,hs.2⟩
end Go.Proofs.YtjknklinhegdoaaGreatDoor
namespace Go.Proofs.YtjknklinhegdoaaGreatDoor
open Go.RowKit Go.Shelf Dec QQ SP
attribute [local go_sem] Oper.semAt_some
attribute [-go_sem] loadVar
attribute [local go_sem] aa3
theorem qW (P Q:Bool)(w:World):Calls Tryz.prog 117 #[.bool P,.bool Q] w fun e w'=>e= .returned (.func (.func 178) #[] #[.pointer (some ⟨w.heap.size,0,none⟩),.pointer (some ⟨w.heap.size+1,0,none⟩)])∧abJ w' w.heap.size (w.heap.size+1) P Q∧Below w.heap.size w w':=by
 have X:Bx ((w.alloc (.cells #[.bool P] 4)).alloc (.cells #[.bool Q] 4)) w.heap.size #[.bool P]:=((TBx.new w #[.bool P] 4).alloc (.cells #[.bool Q] 4)).bx;have Y:Bx ((w.alloc (.cells #[.bool P] 4)).alloc (.cells #[.bool Q] 4)) (w.heap.size+1) #[.bool Q]:=by
  have:=(TBx.new (w.alloc (.cells #[.bool P] 4)) #[.bool Q] 4).bx;rwa[alf]at this
 have HB:Hid (Below w.heap.size w ((w.alloc (.cells #[.bool P] 4)).alloc (.cells #[.bool Q] 4))):=alL.alloc (by simp) _;have HL:Hid (abJ ((w.alloc (.cells #[.bool P] 4)).alloc (.cells #[.bool Q] 4)) w.heap.size (w.heap.size+1) P Q):=⟨X,Y⟩;clear X Y
 go_enter Tryz.func117,Tryz.ntmps117
 go_wp2_with fail
 go_ret
 exact⟨rfl,HL.out,HB.out⟩
theorem adZ (s:Pk){b:Nat}{t:Pk}:ig (fun w=>Bx w b #[.string t.lot,.string t.q]) 182 (#[pkV s]++ #[.pointer (some ⟨b,0,none⟩)]) (.bool (eqB s.lot t.lot)):=by
 intro w hg hi;have hs:=(St.refl hg).alloc (.cells #[.string s.lot,.string s.q] 132);have X:=Bx.new w #[.string s.lot,.string s.q] 132;have Y:=hi.on (bal w (.cells #[.string s.lot,.string s.q] 132));have x0:=X.cell (i:=0) (v:=.string s.lot) rfl;have y0:=Y.cell (i:=0) (v:=.string t.lot) rfl;clear X Y hi hg;unfold eqB pkV
 go_enter Tryz.func182,Tryz.ntmps182
 go_wp2_with fail
 go_ret
 exact⟨rfl,hs.2⟩
def pkE (fq:ByteArray)(prev:List Pk)(sum:Int):List Pk→Int
 | []=>bif decide (0<fA sum (aj fq))then 15 else 0
 |p::l=>bif !(ac2 p.lot)then 23 else bif prev.any (fun s=>eqB s.lot p.lot)then 5 else bif oO true false p.q ⟨#[]⟩ !=0 then oO true false p.q ⟨#[]⟩else pkE fq (prev++ [p]) (sum+aj p.q) l
def xy (fq:ByteArray)(l:List Pk):Int:=bif decide (64<l.length)then 4 else pkE fq [] 0 l
def pkS (l:List Pk)(k:Nat):Int:=((l.take k).map fun p=>aj p.q).sum
theorem aaQ {l:List Pk}{k:Nat}{p:Pk}(h:l[k]? =some p):pkS l (k+1)=pkS l k+aj p.q:=by
 unfold pkS;rw[List.take_add_one,h];simp
theorem ajC {l:List Pk}(h:∀p∈l,p.q.size≤100)(hl:l.length≤1000)(k:Nat):Fit 103 (pkS l k):=by
 unfold pkS;have:((l.take k).map fun p=>aj p.q)=iv ((l.take k).map (·.q)):=by unfold iv;rw[List.map_map];rfl
 rw[this];refine kw (lU (k:=100) fun s hs=>?_) (by rw[aP,List.length_map,alr];omega);obtain⟨p,hp,rfl⟩:=alq.1 hs;exact h p (List.mem_of_mem_take hp)
theorem agQ {w:World}{A:Option Addr}{l:List Pk}{k:Nat}(h:Row w A (au bW l)):Row w A (au bW (l.take k)):=by
 intro j v hv;rw[tZ gH]at hv;rw[alF]at hv;split at hv
 ·exact h j v hv
 ·cases hv
theorem adY (f:Fct)(hf:f.le){l:List Pk}(hn:l.length=f.np)(hm:f.np≤100)(hcp:f.np≤f.cp)(hz:∀p∈l,p.lot.size≤100∧p.q.size≤100):
 ig (fun w=>Row w f.P (au bW l)) 123 #[fI f] (.int .i64 (xy f.q l)):=by
 intro w hg hi;have hs:=(St.refl hg).alloc (.cells (bv f) 30);have HX:=ala (TBx.new w (bv f) 30);have HR:=ala (hi.on (bal w (.cells (bv f) 30)));have HN:=ala hn;have HZ:=ala hz;have HF:=ala (ajC (l:=l) (fun p hp=>(hz p hp).2) (by omega));have hfq:=hf.q;have HFQ:=ala hf.q;have HE:Hid (xy f.q l=bif decide (64<f.np)then 4 else pkE f.q (l.take 0) (pkS l 0) (l.drop 0)):=by show _=_;rw[←hn];rfl
 generalize xy f.q l=oe at*
 obtain⟨f0,hf0⟩:∃f0,f0=f:=⟨_,rfl⟩;have HF0:=ala hf0;obtain⟨A,hA⟩:∃A,f.P=A:=⟨_,rfl⟩;obtain⟨n,hnp⟩:∃n,f.np=n:=⟨_,rfl⟩;obtain⟨c,hc⟩:∃c,f.cp=c:=⟨_,rfl⟩;obtain⟨fq,hq⟩:∃fq,f.q=fq:=⟨_,rfl⟩;have x18:=HX.out.bx.cell (i:=18) (v:=.slice f.P f.np f.cp) rfl;rw[hA,hnp,hc]at x18;rw[hA]at HR;rw[hnp]at HN HE hm hcp;rw[hc]at hcp;rw[hq]at HE HFQ;have HA:=ala (And.intro hA (And.intro hnp (And.intro hc hq)));clear hi hn hz hg hf0 hA hnp hc hq hf hfq;dsimp only[fI]at*
 go_enter Tryz.func123,Tryz.ntmps123
 by_cases h64:64<n
 ·have q:decide ((64:Int)<(n:Int))=true:=alI (by omega)
  have hoe:oe=4:=by rw[HE.out,alI h64];rfl
  subst hoe;clear HE
  go_wp2_with fail
  go_ret
  exact⟨rfl,hs.2⟩
 have q:decide ((64:Int)<(n:Int))=false:=alH (by omega);have HE2:Hid (oe=pkE fq (l.take 0) (pkS l 0) (l.drop 0)):=by show _=_;rw[HE.out,alH h64];rfl
 have HS0:Hid (ag (pkS l 0)=⟨#[]⟩):=by unfold pkS;exact qU
 clear HE
 go_wp2_with fail
 clear q x18
 go_loopw [14,3] (fun s t wr=>∃k:Nat,k≤n∧s= .int .i64 (k:Int)∧t= .string (ag (pkS l k))∧St w wr∧Hid (TBx wr w.heap.size (bv f) 30)∧Hid (Row wr A (au bW l))∧Hid (oe=pkE fq (l.take k) (pkS l k) (l.drop k))) (fun s _ _=>(n-intOf s).toNat)
 case atStart=>exact⟨0,by omega,rfl,by rw[HS0.out],hs,HX,HR,HE2⟩
 case round=>
  clear HX HR HE2 HS0;obtain⟨k,hk,rfl,rfl,hs,HX,HR,HE⟩:=hrel;by_cases hkn:k=n
  ·subst hkn
   have q:decide ((k:Int)<(k:Int))=false:=alH (by omega);have hdrop:l.drop k=[]:=List.drop_eq_nil_of_le (by rw[HN.out];omega);have x9:=HX.out.bx.cell (i:=9) (v:=.string f.q) rfl;rw[HA.out.2.2.2]at x9;have K:=ac7 (Vs.can (HF.out k) (by omega)) (Vs.arg (s:=fq) (by have:=HFQ.out;omega));have hoe:oe=bif decide (0<fA (pkS l k) (aj fq))then 15 else 0:=by rw[HE.out,hdrop];rfl
   generalize fA (pkS l k) (aj fq)=cm at*
   generalize ag (pkS l k)=ss at*
   clear hdrop HE
   go_wp2_with fail
   refine K.step hs ?_;intro w1 hs hb;clear x9;by_cases hcm:0<cm
   ·have q1:decide (0<cm)=true:=alI hcm
    rw[q1]at hoe;replace hoe:oe=15:=hoe;subst hoe
    go_wp2_with fail
    go_ret
    exact⟨rfl,hs.2⟩
   ·have q1:decide (0<cm)=false:=alH hcm
    rw[q1]at hoe;replace hoe:oe=0:=hoe;subst hoe
    go_wp2_with fail
    go_ret
    exact⟨rfl,hs.2⟩
  ·have hkl:k<n:=by omega
   have q:decide ((k:Int)<(n:Int))=true:=alI (by omega);have qn:decide (k<n)=true:=alI hkl;obtain⟨p,hp⟩:∃d,l[k]? =some d:=⟨l[k]'(by rw[HN.out];exact hkl),by simp⟩;obtain⟨b,o,hAb,hb,hcells⟩:=eT (cs:=bW) (m:=2) gH (by decide) HR.out hp;subst hAb;have y0:wr.cell? ⟨b,o+k*2,none⟩=some (.string p.lot):=hcells 0 _ rfl;have y1:wr.cell? ⟨b,o+k*2+1,none⟩=some (.string p.q):=hcells 1 _ rfl;have hpz:=HZ.out p (alk hp);have hE1:oe=bif !(ac2 p.lot)then 23 else bif (l.take k).any (fun s=>eqB s.lot p.lot)then 5 else bif oO true false p.q ⟨#[]⟩ !=0 then oO true false p.q ⟨#[]⟩else pkE fq (l.take k++ [p]) (pkS l k+aj p.q) (l.drop (k+1)):=by
    rw[HE.out,qN hp];rfl
   have hE2:pkE fq (l.take k++ [p]) (pkS l k+aj p.q) (l.drop (k+1))=pkE fq (l.take (k+1)) (pkS l (k+1)) (l.drop (k+1)):=by
    rw[aaQ hp,List.take_add_one,hp];rfl
   rw[hE2]at hE1;have HE1:=ala hE1;have K1:=aeG (s:=p.lot) (by omega);have K2:=fun b1 b2=>jB (a:=p.q) (b:=⟨#[]⟩) (b1:=b1) (b2:=b2) (P:=true) (Q:=false) (by omega) (by decide)
   have K3:=agr (Vs.can (HF.out k) (by omega)) (Vs.arg (s:=p.q) (by omega));rw[←aaQ hp]at K3;have HC:=ala (acH (A:=some ⟨b,o,none⟩) (n:=k) (c:=c) (l:=l.take k) (f:=182) (cap:= #[.pointer (some ⟨wr.heap.size,0,none⟩)]) (p:=fun s=>eqB s.lot p.lot) (I:=fun u=>Bx u wr.heap.size #[.string p.lot,.string p.q]) (fun _ _ h hb=>h.on hb) (by rw[alr,HN.out];omega) (by omega) (fun _ _=>rfl) (fun s _=>adZ s));have hba:Below wr.heap.size wr (wr.alloc (.cells #[.string p.lot,.string p.q] 132)):=bal _ _;have HY:=ala (TBx.new wr #[.string p.lot,.string p.q] 132);replace HX:=ala (HX.out.on hba);replace HR:=ala (HR.out.on hba);have hs1:=hs.on hba;generalize hcn:oO true false p.q ⟨#[]⟩=le at*
   generalize ((l.take k).any fun s=>eqB s.lot p.lot)=bc at*
   generalize ac2 p.lot=bi at*
   generalize hss:ag (pkS l k)=ss at*
   generalize hss1:ag (pkS l (k+1))=ss1 at*
   have HSS1:=ala hss1;clear hcells hp hkn hpz hE1 hE2 HE hba hcn hss hss1;obtain⟨plot,pq⟩:=p;dsimp only at*
   have z0:=HY.out.bx.cell (i:=0) (v:=.string plot) rfl
   go_wp2_with fail
   refine K1.step hs1 ?_;intro w1 hs2 hb1;replace HX:=ala (HX.out.on hb1);replace HR:=ala (HR.out.on hb1);replace HY:=ala (HY.out.on hb1);clear z0 y0 y1 K1 hb1;cases bi with
   |false=>
    have hoe:oe=23:=HE1.out;subst hoe;clear HE1
    go_wp2_with fail
    go_ret
    exact⟨rfl,hs2.2⟩
   |true=>
    have HE3:Hid (oe=bif bc then 5 else bif le !=0 then le else pkE fq (l.take (k+1)) (pkS l (k+1)) (l.drop (k+1))):=HE1.out;clear HE1;have x18:=HX.out.bx.cell (i:=18) (v:=.slice f.P f.np f.cp) rfl;rw[HA.out.1,HA.out.2.1,HA.out.2.2.1]at x18;have qk1:k≤c:=by omega
    have qk2:(k:Int)≤(c:Int):=by omega
    go_wp2_with fail
    refine(HC.out).step hs2 ⟨agQ HR.out,HY.out.bx⟩ ?_;intro w2 hs3 hb2;replace HX:=ala (HX.out.on hb2);replace HR:=ala (HR.out.on hb2);replace HY:=ala (HY.out.on hb2);clear x18 qk1 qk2 hb2 HC;cases bc with
    |true=>
     have hoe:oe=5:=HE3.out;subst hoe;clear HE3
     go_wp2_with fail
     go_ret
     exact⟨rfl,hs3.2⟩
    |false=>
     have HE4:Hid (oe=bif le !=0 then le else pkE fq (l.take (k+1)) (pkS l (k+1)) (l.drop (k+1))):=HE3.out;clear HE3
     go_upto_region 11 with (fail)
     have hgl:Hid (∀v,Below w2.heap.size w2 v→Gl v):=fun v hv=>hs3.gl.below hv
     have BL0:Hid (Below w2.heap.size w2 w2.drew):=(alJ _ _).drew;have hSOK:Hid (∀v,Below w2.heap.size w2 v→v.cell? ⟨wr.heap.size,1,none⟩=some (.string pq)):=fun v hv=>(HY.out.on hv).bx.cell (i:=1) rfl
     have HK2:=ala K2;clear K2
     go_region_held3 (fun v=>v.cell? ⟨wr.heap.size,1,none⟩=some (.string pq))
      (first|with_reducible exact hSOK.out _ BL5.out|with_reducible exact hSOK.out _ BL4.out|with_reducible exact hSOK.out _ BL3.out|with_reducible exact hSOK.out _ BL0.out)
      (first
       |(go_at_call 117;refine(qW true false w2.drew).mono ?_;rintro e w3 ⟨rfl,hl3,hb3⟩;have BL3:Hid (Below w2.heap.size w2 w3):=BL0.out.trans (hb3.mono BL0.out.size);have HL3:=ala hl3;clear hl3 hb3)
       |(go_at_call 183;refine(jN pq w3 (hgl.out _ BL3.out)).mono ?_;rintro e w4 ⟨rfl,hb4⟩;have BL4:Hid (Below w2.heap.size w2 w4):=BL3.out.trans (hb4.mono BL3.out.size);have HL4:=ala (HL3.out.on hb4);clear hb4)
       |(go_at_call 178;refine(HK2.out _ _ w4 (hgl.out _ BL4.out) HL4.out).mono ?_;rintro e w5 ⟨rfl,hb5⟩;have BL5:Hid (Below w2.heap.size w2 w5):=BL4.out.trans (hb5.mono BL4.out.size);clear hb5))
     have hs5:St w w5:=hs3.on BL5.out;replace HX:=ala (HX.out.on BL5.out);replace HR:=ala (HR.out.on BL5.out);replace HY:=ala (HY.out.on BL5.out);clear hgl BL0 BL3 BL4 BL5 HL3 HL4 HK2 hSOK;by_cases hle:le=0
     case neg=>
      have q1:(le !=0)=true:=by simpa using hle
      have q2:(le==0)=false:=by simpa using hle
      have hoe:oe=le:=by rw[HE4.out,q1];rfl
      subst hoe;clear HE4
      go_wp2_with fail
      go_ret
      exact⟨rfl,hs5.2⟩
     subst hle;have HE5:Hid (oe=pkE fq (l.take (k+1)) (pkS l (k+1)) (l.drop (k+1))):=HE4.out;clear HE4;have z1:=HY.out.bx.cell (i:=1) (v:=.string pq) rfl
     go_wp2_with fail
     refine K3.step hs5 ?_;intro w6 hs6 hb6;replace HX:=ala (HX.out.on hb6);replace HR:=ala (HR.out.on hb6);clear z1 K3 HY hb6
     go_wp2_with fail
     go_roundw
     case rel=>exact⟨k+1,by omega,by go_num,by rw[HSS1.out],hs6,HX,HR,HE5⟩
     case measure=>simp[intOf];omega
end Go.Proofs.YtjknklinhegdoaaGreatDoor
