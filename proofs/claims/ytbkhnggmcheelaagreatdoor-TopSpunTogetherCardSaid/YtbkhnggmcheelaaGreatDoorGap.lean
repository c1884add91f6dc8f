/- TopSpunTogether: Facts. Conditions: bounded sizes; variables as laid. -/
import Derived.Test.YtbkhnggmcheelaaGreatDoorLm8
set_option linter.unusedSimpArgs false
set_option linter.unusedVariables false
set_option maxHeartbeats 4000000
set_option maxRecDepth 100000
namespace Go.Proofs.YtbkhnggmcheelaaGreatDoor
open Proofs.Tryz
section
open Go.RowKit Go.Shelf Dec QQ SP
attribute [local go_sem] Oper.semAt_some
def minB (s:BA):Bool:=decide (1<=s.size)&&((s.extract 0 1).toList == [45])
theorem aiK {s:BA}(hz:s.size<=1000000):Ret 221 #[.string s,.string ⟨#[45]⟩] (.bool (minB s)):=by
 intro w hg;have hs:=St.refl hg;have z:(⟨#[45]⟩:BA).size =1:=rfl;unfold minB;by_cases h:1<=s.size
 ·have q:decide ((1:Int)<=(s.size:Int))=true:=am2 (by omega)
  have q2:(1:Int)<=(s.size:Int):=by omega
  rw[am2 h,Bool.true_and];generalize hb:((s.extract 0 1).toList == [45])=b at*
  go_enter func221,ntmps221
  go_wp2_with fail
  go_ret
  exact⟨rfl,hs.2⟩
 ·have q:decide ((1:Int)<=(s.size:Int))=false:=am1 (by omega)
  have q2:¬(1:Int)<=(s.size:Int):=by omega
  rw[am1 h,Bool.false_and]
  go_enter func221,ntmps221
  go_wp2_with fail
  go_ret
  exact⟨rfl,hs.2⟩
def adV (s:BA):BA:=bif minB s then s.extract 1 s.size else s
theorem acH {s:BA}(hz:s.size<=1000000):Ret 254 #[.string s,.string ⟨#[45]⟩] (.string (adV s)):=by
 intro w hg;have hs:=St.refl hg;have K:=aiK hz;have z:(⟨#[45]⟩:BA).size =1:=rfl;have hm:minB s=true->1<=s.size:=fun h=>by
  unfold minB at h;simp only[amC,decide_eq_true_eq]at h;exact h.1
 unfold adV;generalize minB s=b at*
 cases b with
 |true=>
  have h1:=hm rfl;have q2:(1:Int)<=(s.size:Int):=by omega
  simp only[cond_true]
  go_enter func254,ntmps254
  go_wp2_with fail
  refine K.step hs ?_;intro w1 hs hb
  go_wp2_with fail
  go_ret
  exact⟨rfl,hs.2⟩
 |false=>
  clear hm;simp only[cond_false]
  go_enter func254,ntmps254
  go_wp2_with fail
  refine K.step hs ?_;intro w1 hs hb
  go_wp2_with fail
  go_ret
  exact⟨rfl,hs.2⟩
theorem ad3 {s:BA}(hz:s.size<=1000000):Ret 223 #[.string s,.string ⟨#[45]⟩] (.string (adV s)):=by
 intro w hg;have hs:=St.refl hg;have K:=acH hz;generalize adV s=c at*
 go_enter func223,ntmps223
 go_wp2_with fail
 refine K.step hs ?_;intro w1 hs hb
 go_wp2_with fail
 go_ret
 exact⟨rfl,hs.2⟩
theorem sN {s:BA}(hz:s.size<=1000000):Ret 173 #[.string s] (.int .i64 ((adV s).size :Int)):=by
 intro w hg;have hs:=St.refl hg;have K:=ad3 hz;generalize adV s=c at*
 go_enter func173,ntmps173
 go_wp2_with fail
 refine K.step hs ?_;intro w1 hs hb
 go_wp2_with fail
 go_ret
 exact⟨rfl,hs.2⟩
def caps:List UInt8:=[65,66,67,68,69,70,71,72,73,74,75,76,77,78,79,80,81,82,83,84,85,86,87,88,89,90]
def adE (s:BA):Bool:=decide (s.size=3)&&((str (Lib.trimS (bytes s) caps)).toList == [])
theorem uX {s:BA}(hz:s.size<=1000000):Ret 115 #[.string s] (.bool (adE s)):=by
 intro w hg;have hs:=St.refl hg;have K:Ret 161 #[.string s,.string ⟨#[65,66,67,68,69,70,71,72,73,74,75,76,77,78,79,80,81,82,83,84,85,86,87,88,89,90]⟩] (.string (str (Lib.trimS (bytes s) caps))):=fun w _=>
  Any.strings_Trim_laid lays160 (by kernel_rfl) s ⟨#[65,66,67,68,69,70,71,72,73,74,75,76,77,78,79,80,81,82,83,84,85,86,87,88,89,90]⟩ w (by omega) (by decide) (ascii_of_all (by decide))
 unfold adE;generalize str (Lib.trimS (bytes s) caps)=c at*
 by_cases h:s.size=3
 ·have q:((s.size:Int)==3)=true:=by simpa using(by omega:(s.size:Int)=3)
  have q2:(s.size:Int)=3:=by omega
  rw[am2 h,Bool.true_and];obtain⟨b,hb⟩:=eX ((c.toList== []));rw[hb]
  go_enter func115,ntmps115
  go_wp2_with fail
  refine K.step hs ?_;intro w1 hs hb1
  go_wp2_with fail
  go_ret
  exact⟨rfl,hs.2⟩
 ·have q:((s.size:Int)==3)=false:=by simpa using(by omega:¬(s.size:Int)=3)
  have q2:¬(s.size:Int)=3:=by omega
  rw[am1 h,Bool.false_and];clear K
  go_enter func115,ntmps115
  go_wp2_with fail
  go_ret
  exact⟨rfl,hs.2⟩
theorem kI (a:BA):Ret 176 #[.string a] (.agg #[.string a,.string ⟨#[]⟩]):=by
 intro w hg;have hs:=(St.refl hg).alloc (.cells #[.string ⟨#[]⟩,.string ⟨#[]⟩] 26);have X:=TBx.new w #[.string ⟨#[]⟩,.string ⟨#[]⟩] 26;have x0:=X.bx.c 0 (.string ⟨#[]⟩) rfl;have x1:=X.bx.c 1 (.string ⟨#[]⟩) rfl;have f0:=X.bx.frozen 0;have f1:=X.bx.frozen 1
 go_enter func176,ntmps176
 go_wp2_with fail
 have Y:=TBx.new w #[.string a,.string ⟨#[]⟩] 26;have y0:=Y.bx.c 0 (.string a) rfl;have y1:=Y.bx.c 1 (.string ⟨#[]⟩) rfl;refine bodyPost_ret (v:=.agg #[.string a,.string ⟨#[]⟩]) (by simp[results,results176,go_sem,y0,y1]) rfl ⟨rfl,bal w _⟩
def pR (P Q:Bool)(a b:BA):Int:=
 bif vI a b !=0 then 1 else bif decide (40<((adV a).size :Int))||decide (40<((adV b).size :Int))then 4 else
 bif decide (il (bV a b) 0<0)||((P&&decide (il (bV a b) 0=0))||(Q&&decide (0<il (bV a b) 1)))then 2 else 0
def acB (w:World)(b1 b2:Nat)(P Q:Bool):Prop:=Bx w b1 #[.bool P]/\Bx w b2 #[.bool Q]
theorem acB.on {w w':World}{b1 b2:Nat}{P Q:Bool}(h:acB w b1 b2 P Q)(hb:Below w.heap.size w w'):acB w' b1 b2 P Q:=⟨h.1.on hb,h.2.on hb⟩
theorem jY {a b:BA}{b1 b2:Nat}{P Q:Bool}(s1:a.size<=1000)(s2:b.size<=1000):iO (fun w=>acB w b1 b2 P Q) 171 #[.agg #[.string a,.string b],.pointer (some ⟨b1,0,none⟩),.pointer (some ⟨b2,0,none⟩)] (.int .i64 (pR P Q a b)):=by
 intro w hg hi;have hs:=(St.refl hg).alloc (.cells #[.string a,.string b] 26);have HI:=amy (hi.on (bal w (.cells #[.string a,.string b] 26)));have HX:=amy (TBx.new w #[.string a,.string b] 26);have hq:=Vq.arg (n:=a) (d:=b) (by omega) (by omega);have hf:=bP.arg (n:=a) (d:=b) (k:=1000) s1 s2 (by omega);have K1:=CmpF hq vq0 (k:=1000) (by rw[show bV a b-0=bV a b by grind];exact hf) (by omega);have K2:=ChkF (a:=a) (b:=b) (by omega) (by omega);have K3:=sN (s:=a) (by omega);have K4:=sN (s:=b) (by omega);have K5:=OfF (a:=⟨#[49]⟩) (x:=1) ⟨by decide+kernel,by decide⟩ (by decide);have K6:=CmpF hq vq1 (k:=1003) ((hf.sub fit1).mono (by omega)) (by omega);rw[show ((1:Int):Rat)=1 from rfl,afP]at K5;have h3:=adG (bV a b) 0;unfold FV at*
 unfold FR1 at K5;have hE:pR P Q a b=bif vI a b !=0 then 1 else bif decide (40<((adV a).size :Int))||decide (40<((adV b).size :Int))then 4 else
  bif decide (il (bV a b) 0<0)||((P&&decide (il (bV a b) 0=0))||(Q&&decide (0<il (bV a b) 1)))then 2 else 0:=rfl
 have HE:=amy hE;generalize pR P Q a b=oe at*
 generalize il (bV a b) 0=sg at*
 generalize il (bV a b) 1=s1 at*
 generalize vI a b=ck at*
 generalize (adV a).size =da at*
 generalize (adV b).size =db at*
 clear hE hq hf hi hg;have x0:=HX.o.bx.c 0 (.string a) rfl;have x1:=HX.o.bx.c 1 (.string b) rfl
 go_enter func171,ntmps171
 go_wp2_with fail
 refine K1.step hs ?_;intro w1 hs hb1;replace HI:=amy (HI.o.on hb1);replace HX:=amy (HX.o.on hb1);clear x0 x1 hb1;have x0:=HX.o.bx.c 0 (.string a) rfl;have x1:=HX.o.bx.c 1 (.string b) rfl
 go_wp2_with fail
 refine K2.step hs ?_;intro w2 hs hb2;replace HI:=amy (HI.o.on hb2);replace HX:=amy (HX.o.on hb2);clear x0 x1 hb2 K1 K2;have x0:=HX.o.bx.c 0 (.string a) rfl;have x1:=HX.o.bx.c 1 (.string b) rfl;by_cases hck:ck=0
 case neg=>
  have q1:(ck !=0)=true:=by simpa using hck
  have q2:(ck==0)=false:=by simpa using hck
  have hoe:oe=1:=by rw[HE.o,q1];rfl
  subst hoe;clear HE
  go_wp2_with fail
  go_ret
  exact⟨rfl,hs.2⟩
 subst hck
 go_wp2_with fail
 refine K3.step hs ?_;intro w3 hs hb3;replace HI:=amy (HI.o.on hb3);replace HX:=amy (HX.o.on hb3);clear x0 x1 hb3 K3;have x0:=HX.o.bx.c 0 (.string a) rfl;have x1:=HX.o.bx.c 1 (.string b) rfl;by_cases hda:40<(da:Int)
 case pos=>
  have q1:decide ((40:Int)<(da:Int))=true:=am2 hda;have hoe:oe=4:=by rw[HE.o,q1];rfl
  subst hoe;clear HE K4 K5 K6
  go_wp2_with fail
  go_ret
  exact⟨rfl,hs.2⟩
 have q1:decide ((40:Int)<(da:Int))=false:=am1 hda
 go_wp2_with fail
 refine K4.step hs ?_;intro w4 hs hb4;replace HI:=amy (HI.o.on hb4);replace HX:=amy (HX.o.on hb4);clear x0 x1 hb4 K4;have x0:=HX.o.bx.c 0 (.string a) rfl;have x1:=HX.o.bx.c 1 (.string b) rfl;by_cases hdb:40<(db:Int)
 case pos=>
  have q2:decide ((40:Int)<(db:Int))=true:=am2 hdb;have hoe:oe=4:=by rw[HE.o,q2,q1];rfl
  subst hoe;clear HE K5 K6
  go_wp2_with fail
  go_ret
  exact⟨rfl,hs.2⟩
 have q2:decide ((40:Int)<(db:Int))=false:=am1 hdb;have hoe:oe=bif decide (sg<0)||((P&&decide (sg=0))||(Q&&decide (0<s1)))then 2 else 0:=by rw[HE.o,q1,q2];rfl
 clear HE
 go_wp2_with fail
 have kP:=HI.o.1.k 0 (.bool P) rfl;have kQ:=HI.o.2.k 0 (.bool Q) rfl;have k0:=HX.o.bx.k 0 (.string a) rfl;have k1:=HX.o.bx.k 1 (.string b) rfl;obtain⟨c,hc⟩:=eX (decide (0<s1));rw[hc]at hoe;rcases h3 with rfl|rfl|rfl<;>cases P<;>cases Q<;>cases c
 all_goals
  simp at hoe;subst hoe;refine ax (by kernel_rfl) (by kernel_rfl) ?_
  repeat (go_big_quiet_step (first|(with_reducible exact K5.kept hs)|(with_reducible exact K6.kept hs)))
  refine wpQuiet_nil ?_;rintro _ ⟨u1,rfl⟩;have hs:=hs.kept u1;clear kP kQ k0 k1
  go_wp2_with fail
  go_ret
  exact⟨rfl,hs.2⟩
end
section
open Go.RowKit Go.Shelf Dec QQ SP
attribute [local go_sem] Oper.semAt_some
attribute [-go_sem] loadVar
theorem afr (t:TypeId)(_:t≠30)(a:Addr):loadVar t a=(do if<-isAgg t then pure (.agg (<-loadCells a (<-sizeOf t)))else load a):=rfl
attribute [local go_sem] afr
structure Fct where
 key:BA
 st:Int
 canc:Bool
 day:Int
 kind:Int
 ins:BA
 oth:BA
 cur:BA
 tgt:BA
 q:BA
 a:BA
 fee:BA
 pn:BA
 pd:BA
 rn:BA
 rd:BA
 sn:BA
 sd:BA
 P:Option Addr
 np:Nat
 cp:Nat
 O:Option Addr
 no:Nat
 co:Nat
 cho:Int
def bK (f:Fct):Array Value:= #[.string f.key,.int .i64 f.st,.bool f.canc,.int .i64 f.day,.int .i64 f.kind,.string f.ins,.string f.oth,.string f.cur,.string f.tgt,.string f.q,.string f.a,.string f.fee,.string f.pn,.string f.pd,.string f.rn,.string f.rd,.string f.sn,.string f.sd,.slice f.P f.np f.cp,.slice f.O f.no f.co,.int .i64 f.cho]
def gI (f:Fct):Value:=.agg (bK f)
structure Fct.le (f:Fct):Prop where
 key:f.key.size<=100
 ins:f.ins.size<=100
 oth:f.oth.size<=100
 cur:f.cur.size<=100
 tgt:f.tgt.size<=100
 q:f.q.size<=100
 a:f.a.size<=100
 fee:f.fee.size<=100
 pn:f.pn.size<=100
 pd:f.pd.size<=100
 rn:f.rn.size<=100
 rd:f.rd.size<=100
 sn:f.sn.size<=100
 sd:f.sd.size<=100
theorem Bx.fact {w:World}{b:Nat}{cs:Array Value}(h:Bx w b cs)(hs:cs.size=21):(loadVar 30 ⟨b,0,none⟩).run prog w= .ok (.agg cs) w:=by
 have:=run_loadVar_mid (P:=prog) w b 0 30 cs.toList (prog.underlying 30).get! (fun j v hv=>by rw[am5];exact h.cell (by simpa using hv)) (by kernel_rfl) (by kernel_rfl) (by rw[Array.length_toList,hs];kernel_rfl);simpa using this
theorem Bx.factK {w:World}{b:Nat}{cs:Array Value}(h:Bx w b cs)(hs:cs.size=21)(u:Kept w):(loadVar 30 ⟨b,0,none⟩).run prog u.W= .ok (.agg cs) u.W:=(h.kept u).fact hs
def fA (f:Fct)(i:Nat):BA×BA:=
 match i with
 |4=>(f.q,⟨#[]⟩)
 |5=>(f.a,⟨#[]⟩)
 |6=>(f.fee,⟨#[]⟩)
 |7=>(f.pn,f.pd)
 |8=>(f.rn,f.rd)
 |9=>(f.sn,f.sd)
 |_=>(⟨#[]⟩,⟨#[]⟩)
theorem lt13 {i:Nat}{j:Int}(h:i<13)(hj:j=i):(i=0/\j=0)\/(i=1/\j=1)\/(i=2/\j=2)\/(i=3/\j=3)\/(i=4/\j=4)\/(i=5/\j=5)\/(i=6/\j=6)\/(i=7/\j=7)\/(i=8/\j=8)\/(i=9/\j=9)\/(i=10/\j=10)\/(i=11/\j=11)\/(i=12/\j=12):=by
 subst hj;rcases(by omega:i=0\/i=1\/i=2\/i=3\/i=4\/i=5\/i=6\/i=7\/i=8\/i=9\/i=10\/i=11\/i=12)with rfl|rfl|rfl|rfl|rfl|rfl|rfl|rfl|rfl|rfl|rfl|rfl|rfl<;>simp
theorem gZ (f:Fct){i:Nat}{j:Int}(hi:i<13)(hj:j=i):Ret 118 #[gI f,.int .i64 j] (.agg #[.string (fA f i).1,.string (fA f i).2]):=by
 intro w hg;have hs:=((St.refl hg).alloc (.cells (bK f) 30)).alloc (.cells #[.string ⟨#[]⟩,.string ⟨#[]⟩] 26);have HX:=amy ((TBx.new w (bK f) 30).alloc (.cells #[.string ⟨#[]⟩,.string ⟨#[]⟩] 26));have HY:Hid (TBx ((w.alloc (.cells (bK f) 30)).alloc (.cells #[.string ⟨#[]⟩,.string ⟨#[]⟩] 26)) (w.heap.size+1) #[.string ⟨#[]⟩,.string ⟨#[]⟩] 26):=by
  have:=TBx.new (w.alloc (.cells (bK f) 30)) #[.string ⟨#[]⟩,.string ⟨#[]⟩] 26;rwa[amD]at this
 have KA:=kI f.q;have KB:=kI f.a;have KC:=kI f.fee;have HIV:=lt13 hi hj;have hix:∀u:World,(Instr.index 256 (.agg #[.string ⟨#[]⟩,.string ⟨#[]⟩,.string ⟨#[]⟩,.string ⟨#[]⟩,.string ⟨#[]⟩,.string ⟨#[]⟩,.string ⟨#[]⟩,.string ⟨#[]⟩,.string f.q,.string ⟨#[]⟩,.string f.a,.string ⟨#[]⟩,.string f.fee,.string ⟨#[]⟩,.string f.pn,.string f.pd,.string f.rn,.string f.rd,.string f.sn,.string f.sd,.string ⟨#[]⟩,.string ⟨#[]⟩,.string ⟨#[]⟩,.string ⟨#[]⟩,.string ⟨#[]⟩,.string ⟨#[]⟩]) (.int .i64 j)).run prog u= .ok (.agg #[.string (fA f i).1,.string (fA f i).2]) u:=by
  intro u;rcases HIV with ⟨rfl,rfl⟩|⟨rfl,rfl⟩|⟨rfl,rfl⟩|⟨rfl,rfl⟩|⟨rfl,rfl⟩|⟨rfl,rfl⟩|⟨rfl,rfl⟩|⟨rfl,rfl⟩|⟨rfl,rfl⟩|⟨rfl,rfl⟩|⟨rfl,rfl⟩|⟨rfl,rfl⟩|⟨rfl,rfl⟩<;>kernel_rfl
 have HB:Hid (Below w.heap.size w ((w.alloc (.cells (bK f) 30)).alloc (.cells #[.string ⟨#[]⟩,.string ⟨#[]⟩] 26))):=hs.2;generalize (fA f i).1=v1 at*
 generalize (fA f i).2=v2 at*
 clear hg hj hi;dsimp only[gI]
 go_enter func118,ntmps118
 go_wp2_with fail
 obtain⟨W2,hW2⟩:=eX ((w.alloc (.cells (bK f) 30)).alloc (.cells #[.string ⟨#[]⟩,.string ⟨#[]⟩] 26));rw[hW2]at HX HY HB hs⊢
 clear hW2;have k9:=HX.o.bx.k 9 (.string f.q) rfl;have k10:=HX.o.bx.k 10 (.string f.a) rfl;have k11:=HX.o.bx.k 11 (.string f.fee) rfl;have k12:=HX.o.bx.k 12 (.string f.pn) rfl;have k13:=HX.o.bx.k 13 (.string f.pd) rfl;have k14:=HX.o.bx.k 14 (.string f.rn) rfl;have k15:=HX.o.bx.k 15 (.string f.rd) rfl;have k16:=HX.o.bx.k 16 (.string f.sn) rfl;have k17:=HX.o.bx.k 17 (.string f.sd) rfl;rcases HIV with ⟨rfl,rfl⟩|⟨rfl,rfl⟩|⟨rfl,rfl⟩|⟨rfl,rfl⟩|⟨rfl,rfl⟩|⟨rfl,rfl⟩|⟨rfl,rfl⟩|⟨rfl,rfl⟩|⟨rfl,rfl⟩|⟨rfl,rfl⟩|⟨rfl,rfl⟩|⟨rfl,rfl⟩|⟨rfl,rfl⟩
 all_goals
  refine bA 18 (by kernel_rfl) (by kernel_rfl) ?_;simp only[List.take_succ_cons,List.take_zero,List.drop_succ_cons,List.drop_zero]
  repeat (go_big_quiet_step (first|(with_reducible exact KA.kept hs)|(with_reducible exact KB.kept hs)|(with_reducible exact KC.kept hs)))
  refine wpQuiet_nil ?_;rintro _ ⟨u1,rfl⟩;have HY1:=amy (HY.o.on u1.low);have HL1:=amy (HB.o.trans (u1.low.mono HB.o.size));have x0:=HY1.o.bx.c 0 (.string ⟨#[]⟩) rfl;have x1:=HY1.o.bx.c 1 (.string ⟨#[]⟩) rfl;have f0:=HY1.o.bx.frozen 0;have f1:=HY1.o.bx.frozen 1;clear k9 k10 k11 k12 k13 k14 k15 k16 k17
  go_wp2_with fail
  have Z:=(HY1.o.set 0 (.string v1)).set 1 (.string v2);have z0:=Z.bx.c 0 (.string v1) rfl;have z1:=Z.bx.c 1 (.string v2) rfl;refine bodyPost_ret (v:=.agg #[.string v1,.string v2]) (by simp[results,results118,go_sem,z0,z1]) rfl ⟨rfl,?_⟩;exact(HL1.o.setCell (p:=⟨w.heap.size+1,0,none⟩) (by show w.heap.size<=w.heap.size+1;omega) _).setCell (p:=⟨w.heap.size+1,1,none⟩) (by show w.heap.size<=w.heap.size+1;omega) _
end
section
open Go.RowKit Go.Shelf Dec QQ SP
attribute [local go_sem] Oper.semAt_some
attribute [-go_sem] loadVar
attribute [local go_sem] afr
def bX (f:Fct)(i:Nat):Bool:=
 match i with
 |0=>f.ins.toList.isEmpty
 |1=>f.oth.toList.isEmpty
 |2=>f.cur.toList.isEmpty
 |3=>f.tgt.toList.isEmpty
 |10=>(f.np:Int)==0
 |11=>(f.no:Int)==0
 |12=>f.cho==0
 |_=>(fA f i).1.toList.isEmpty &&(fA f i).2.toList.isEmpty
theorem afZ (f:Fct){i:Nat}{j:Int}(hi:i<13)(hj:j=i):Ret 55 #[gI f,.int .i64 j] (.bool (bX f i)):=by
 intro w hg;have hs:=(St.refl hg).alloc (.cells (bK f) 30);have HX:=amy (TBx.new w (bK f) 30);have K:=gZ f hi hj;have HIV:=lt13 hi hj;have E0:=fun a b u=>eqlF a b ⟨#[]⟩ ⟨#[]⟩ u
 rw[show (⟨#[]⟩:BA).toList =[]from by rw[aF];rfl]at E0;have HB:Hid (Below w.heap.size w (w.alloc (.cells (bK f) 30))):=hs.2;clear hg hj hi;dsimp only[gI]at*
 have xf:=HX.o.bx.fact rfl;have x5:=HX.o.bx.c 5 (.string f.ins) rfl;have x6:=HX.o.bx.c 6 (.string f.oth) rfl;have x7:=HX.o.bx.c 7 (.string f.cur) rfl;have x8:=HX.o.bx.c 8 (.string f.tgt) rfl;have x18:=HX.o.bx.c 18 (.slice f.P f.np f.cp) rfl;have x19:=HX.o.bx.c 19 (.slice f.O f.no f.co) rfl;have x20:=HX.o.bx.c 20 (.int .i64 f.cho) rfl;rcases HIV with ⟨rfl,rfl⟩|⟨rfl,rfl⟩|⟨rfl,rfl⟩|⟨rfl,rfl⟩|⟨rfl,rfl⟩|⟨rfl,rfl⟩|⟨rfl,rfl⟩|⟨rfl,rfl⟩|⟨rfl,rfl⟩|⟨rfl,rfl⟩|⟨rfl,rfl⟩|⟨rfl,rfl⟩|⟨rfl,rfl⟩
 ·show Calls _ _ _ _ fun e w'=>e= .returned (.bool (bX f 0))/\_
  unfold bX;simp only[]
  go_enter func55,ntmps55
  go_wp2_with fail
  go_ret
  exact⟨rfl,hs.2⟩
 ·show Calls _ _ _ _ fun e w'=>e= .returned (.bool (bX f 1))/\_
  unfold bX;simp only[]
  go_enter func55,ntmps55
  go_wp2_with fail
  go_ret
  exact⟨rfl,hs.2⟩
 ·show Calls _ _ _ _ fun e w'=>e= .returned (.bool (bX f 2))/\_
  unfold bX;simp only[]
  go_enter func55,ntmps55
  go_wp2_with fail
  go_ret
  exact⟨rfl,hs.2⟩
 ·show Calls _ _ _ _ fun e w'=>e= .returned (.bool (bX f 3))/\_
  unfold bX;simp only[]
  go_enter func55,ntmps55
  go_wp2_with fail
  go_ret
  exact⟨rfl,hs.2⟩
 ·show Calls _ _ _ _ fun e w'=>e= .returned (.bool (bX f 4))/\_
  unfold bX;simp only[];generalize (fA f 4).1=v1 at*
  generalize (fA f 4).2=v2 at*
  go_enter func55,ntmps55
  go_wp2_with fail
  refine K.step hs ?_;intro w1 hs hb;have E1:=E0 v1 v2 w1
  go_wp2_with fail
  go_ret
  exact⟨rfl,hs.2⟩
 ·show Calls _ _ _ _ fun e w'=>e= .returned (.bool (bX f 5))/\_
  unfold bX;simp only[];generalize (fA f 5).1=v1 at*
  generalize (fA f 5).2=v2 at*
  go_enter func55,ntmps55
  go_wp2_with fail
  refine K.step hs ?_;intro w1 hs hb;have E1:=E0 v1 v2 w1
  go_wp2_with fail
  go_ret
  exact⟨rfl,hs.2⟩
 ·show Calls _ _ _ _ fun e w'=>e= .returned (.bool (bX f 6))/\_
  unfold bX;simp only[];generalize (fA f 6).1=v1 at*
  generalize (fA f 6).2=v2 at*
  go_enter func55,ntmps55
  go_wp2_with fail
  refine K.step hs ?_;intro w1 hs hb;have E1:=E0 v1 v2 w1
  go_wp2_with fail
  go_ret
  exact⟨rfl,hs.2⟩
 ·show Calls _ _ _ _ fun e w'=>e= .returned (.bool (bX f 7))/\_
  unfold bX;simp only[];generalize (fA f 7).1=v1 at*
  generalize (fA f 7).2=v2 at*
  go_enter func55,ntmps55
  go_wp2_with fail
  refine K.step hs ?_;intro w1 hs hb;have E1:=E0 v1 v2 w1
  go_wp2_with fail
  go_ret
  exact⟨rfl,hs.2⟩
 ·show Calls _ _ _ _ fun e w'=>e= .returned (.bool (bX f 8))/\_
  unfold bX;simp only[];generalize (fA f 8).1=v1 at*
  generalize (fA f 8).2=v2 at*
  go_enter func55,ntmps55
  go_wp2_with fail
  refine K.step hs ?_;intro w1 hs hb;have E1:=E0 v1 v2 w1
  go_wp2_with fail
  go_ret
  exact⟨rfl,hs.2⟩
 ·show Calls _ _ _ _ fun e w'=>e= .returned (.bool (bX f 9))/\_
  unfold bX;simp only[];generalize (fA f 9).1=v1 at*
  generalize (fA f 9).2=v2 at*
  go_enter func55,ntmps55
  go_wp2_with fail
  refine K.step hs ?_;intro w1 hs hb;have E1:=E0 v1 v2 w1
  go_wp2_with fail
  go_ret
  exact⟨rfl,hs.2⟩
 ·show Calls _ _ _ _ fun e w'=>e= .returned (.bool (bX f 10))/\_
  unfold bX;simp only[]
  go_enter func55,ntmps55
  go_wp2_with fail
  go_ret
  exact⟨rfl,hs.2⟩
 ·show Calls _ _ _ _ fun e w'=>e= .returned (.bool (bX f 11))/\_
  unfold bX;simp only[]
  go_enter func55,ntmps55
  go_wp2_with fail
  go_ret
  exact⟨rfl,hs.2⟩
 ·show Calls _ _ _ _ fun e w'=>e= .returned (.bool (bX f 12))/\_
  unfold bX;simp only[]
  go_enter func55,ntmps55
  go_wp2_with fail
  go_ret
  exact⟨rfl,hs.2⟩
end
section
open Go.RowKit
section
variable {P:Program} {ops:Array Oper} {md:Region.Mode} {C:World->Prop} {l0 m:Nat}
theorem xV {f:FuncId}{args:Array Value}{w:World}{R:Ending->World->Prop}(h:Calls P f args w R):CallsIn (Fence.wide.inRound l0) m P f args w R:=callsIn_wide.2 h
theorem mq {i:Nat}{a:Act}{K:Act->Prop}{K':Act->World->Prop}{Q':Exit->Act->World->Prop}{w:World}(hnd:∀o,ops[i]? =some o->∀c,o.op≠ .defer c)(hC:C w)(h:∀a w',C w'->K a->K' a w')(hh:qOp P ops C i K a):
 wpOpIn (Fence.wide.inRound l0) m P ops Q' i K' a w:=by
 unfold qOp at hh;unfold wpOpIn;split
 ·rename_i ho;simp only[ho]at hh;exact h _ _ hC hh
 ·rename_i o ho
  simp only[ho]at hh;split
  ·rename_i hw
   simp only[hw,if_true]at hh;obtain⟨v,h1,h2⟩:=hh;refine⟨fun f _=>trivial,?_⟩;rw[Oper.semAt_eq _ _ _ (hnd o ho)];have hq:=h1 w hC;unfold Oper.quietAt at hq;generalize (execOp a.eval o).run P w=r at hq⊢
   cases r with
   |ok nx v'=>
    cases nx<;>simp only[Oper.quietUpon]at hq<;>simp only[Oper.uponIn]
    case value u=>
     obtain⟨e1,e2⟩:=hq;subst e1 e2;exact h _ _ hC h2
    case skip=>
     obtain⟨e1,e2⟩:=hq;subst e1 e2;exact h _ _ hC h2
    case enter f args=>
     obtain⟨e1,hc⟩:=hq;subst e1;refine⟨fun hd=>by simp[Fence.wide,Fence.inRound]at hd,xV (hc.mono fun e w'' ⟨he,hw''⟩=>?_)⟩;subst he;exact h _ _ hw'' h2
   |halt x v'=>simp only[Oper.quietUpon]at hq
  ·rename_i hw
   simp only[hw]at hh;exact⟨fun f _=>trivial,h _ _ hC hh⟩
theorem bY.soundIn {n g:Nat}{L:Array Bool->Act->Prop}{Q:Exit->Act->World->Prop}(hnd:∀(i:Nat) (o:Oper),ops[i]? =some o->∀c,o.op≠ .defer c)(hL:∀s a w,C w->L s a->wpAnyIn (Fence.wide.inRound l0) m P md ops Q g s a w):
 ∀(f:Nat) (s:Array Bool) (a:Act) (w:World),C w->bY P md ops C n L f s a->wpAnyIn (Fence.wide.inRound l0) m P md ops Q (f+g) s a w
 |0,s,a,w,hw,h=>by rw[am5];exact hL s a w hw h
 |f+1,s,a,w,hw,h=>by
  rw[Nat.succ_add];exact⟨fun h0=>absurd h0 h.1,fun i hi=>mq (hnd i) hw (fun a' w' hw' h'=>bY.soundIn hnd hL f _ a' w' hw' h') (h.2 i hi).2⟩
theorem iG {F:Fence}{Q':Exit->Act->World->Prop}:∀(l:List Oper) (k:Nat) (listed:Array Bool) (a:Act) (w:World),(∀j,l[j]? =ops[k+j]?)->
 Region.seqB md ops l.length k listed=true->wpListIn F m P ops Q' l a w->wpAnyIn F m P md ops Q' l.length listed a w
 | [],_,_,_,_,_,hB,h=>⟨by simpa[Region.seqB]using hB,h⟩
 |o::l,k,listed,a,w,hl,hB,h=>by
  have h0:ops[k]? =some o:=by simpa using(hl 0).symm
  simp only[amT,Region.seqB,amC,decide_eq_true_eq]at hB;refine⟨fun h1=>(by rw[hB.1]at h1;cases h1),fun i hi=>?_⟩;rw[hB.1]at hi;have hik:i=k:=by simpa using hi
  subst hik;have hw:wpOpIn F m P ops Q' i (wpListIn F m P ops Q' l) a w:=by unfold wpOpIn;simp only[h0];exact h
  exact wpOpIn_mono (fun a' w' h'=>iG l (i+1) _ a' w' (fun j=>by have:=hl (j+1);simpa[Nat.add_assoc,Nat.add_comm 1 j]using this) hB.2 h') hw
def rQ (l:List Oper):Bool:=l.all fun o=>match o.op with| .defer _=>false|_=>true
theorem jV {l:List Oper}(h:rQ l=true):∀(i:Nat) (o:Oper),l.toArray[i]? =some o->∀c,o.op≠ .defer c:=by
 intro i o ho c e;have hm:o∈l:=amI (by simpa using ho);unfold rQ at h;have:=amU.1 h o hm;rw[e]at this;cases this
theorem jP {id:Nat}{w:World}{Q:Exit->Act->World->Prop}{a:Act}{l:List Oper}(n:Nat)(hm:P.follows .mixedOrders =true)(hB:Region.lexTailB .any l.toArray n=true)(hD:rQ l=true)
 (h:wpQuiet P l.toArray (fun w'=>∃u:Kept w,w'=u.W) (fun a'=>∀w',(∃u:Kept w,w'=u.W)->wpListIn (Fence.wide.inRound l0) m P l.toArray Q (l.drop n) a' w') (l.take n) a):(Code.region id l.toArray true).wpIn (Fence.wide.inRound l0) m P Q a w:=by
 simp only[Region.lexTailB,amC,decide_eq_true_eq]at hB;obtain⟨⟨⟨⟨hns,hn⟩,hs⟩,hc⟩,hlex⟩:=hB;have hn':n<l.length:=hn;have htl:(l.take n).length =n:=by rw[amO];omega
 have hdl:(l.drop n).length =l.toArray.size-n:=by rw[am8];rfl
 have inv0:HeadInv .any l.toArray n (Array.replicate l.toArray.size false):=
  ⟨by simp,fun j oj _ hl=>(by rw[getD_replicate_false]at hl;cases hl),fun t _ ht=>getD_in (by simpa using ht) (getD_replicate_false _ _)⟩
 have H:=bY.lex (md:=.any) (g:=l.toArray.size-n) hns hs hc hn (l.take n) 0 _ a (fun j hj=>by
  rw[htl]at hj;simp[hj]) (by rw[htl];exact am5 n) inv0 (by rw[htl];exact hlex) h
 have H2:=bY.soundIn (l0:=l0) (m:=m) (Q:=Q) (g:=l.toArray.size-n) (jV hD) (fun s a' w' hw hL=>by
  have:=iG (F:=Fence.wide.inRound l0) (m:=m) (md:=.any) (Q':=Q) (l.drop n) n s a' w' (fun j=>by simp[List.getElem?_drop]) (by rw[hdl];exact hL.1) (hL.2 w' hw);rwa[hdl]at this) _ _ _ _ (jZ w) H
 rw[htl,show n+(l.toArray.size-n)=l.toArray.size by omega]at H2;exact wpIn_region_any hm H2
end
end
section
open Go.RowKit
section
variable {P:Program} {ops:Array Oper} {md:Region.Mode} {C:World->Prop} {l0 m:Nat}
theorem wpAnyIn_of_quiet {Q:Act->Prop}{Q':Exit->Act->World->Prop}(hnd:∀(i:Nat) (o:Oper),ops[i]? =some o->∀c,o.op≠ .defer c)(hQ:∀a w,C w->Q a->Q' .normal a w):
 ∀(fuel:Nat) (listed:Array Bool) (a:Act) (w:World),C w->wpAnyQ P md ops C Q fuel listed a->wpAnyIn (Fence.wide.inRound l0) m P md ops Q' fuel listed a w
 |0,_,_,_,hw,h=>⟨h.1,hQ _ _ hw h.2⟩
 |fuel+1,_,_,_,hw,h=>⟨fun h0=>hQ _ _ hw (h.1 h0),fun i hi=>mq (hnd i) hw (fun a' w' hw' h'=>wpAnyIn_of_quiet hnd hQ fuel _ a' w' hw' h') (h.2 i hi)⟩
theorem pK {id:Nat}{w:World}{Q:Exit->Act->World->Prop}{a:Act}{l:List Oper}(hm:P.follows .mixedOrders =true)(hB:Region.lexB .any l.toArray=true)(hD:rQ l=true)
 (h:wpQuiet P l.toArray (fun w'=>∃u:Kept w,w'=u.W) (fun a'=>∀w',(∃u:Kept w,w'=u.W)->Q .normal a' w') l a):(Code.region id l.toArray true).wpIn (Fence.wide.inRound l0) m P Q a w:=by
 simp only[Region.lexB,amC]at hB;refine wpIn_region_any hm (wpAnyIn_of_quiet (jV hD) (Q:=fun a'=>∀w',(∃u:Kept w,w'=u.W)->Q .normal a' w') (fun _ w' hw' h=>h w' hw') _ _ _ _ (jZ w) ?_);have:=wpAnyQ_lex (C:=fun w'=>∃u:Kept w,w'=u.W) (md:=.any) hB.1 l 0 (Array.replicate l.toArray.size false) a (by simp) (by simpa using hB.2) h;simpa using this
end
end
section
open Go.RowKit Go.Shelf Dec QQ SP
attribute [local go_sem] Oper.semAt_some
def iP (ins:BA)(l:List Lt):Int:=(iv ((ak ins l).map (·.q))).sum
def iw (ins:BA)(l:List Lt):Int:=(iv ((ak ins l).map (·.c))).sum
theorem ahy {ins:BA}{l:List Lt}{k:Nat}{x:Lt}(h:l[k]? =some x)(hx:eqB x.ins ins=true):iP ins (l.take (k+1))=iP ins (l.take k)+ah x.q:=by
 unfold iP iv;rw[kC h hx];simp
theorem ahz {ins:BA}{l:List Lt}{k:Nat}{x:Lt}(h:l[k]? =some x)(hx:eqB x.ins ins=true):iw ins (l.take (k+1))=iw ins (l.take k)+ah x.c:=by
 unfold iw iv;rw[kC h hx];simp
theorem akl {ins:BA}{l:List Lt}{k:Nat}{x:Lt}(h:l[k]? =some x)(hx:eqB x.ins ins=false):iP ins (l.take (k+1))=iP ins (l.take k):=by
 unfold iP;rw[wC h hx]
theorem akm {ins:BA}{l:List Lt}{k:Nat}{x:Lt}(h:l[k]? =some x)(hx:eqB x.ins ins=false):iw ins (l.take (k+1))=iw ins (l.take k):=by
 unfold iw;rw[wC h hx]
theorem wh {ins:BA}{l:List Lt}(hz:∀x∈l,x.le 1000)(hl:l.length<=1000)(k:Nat):Fit 1003 (iP ins (l.take k))/\Fit 1003 (iw ins (l.take k)):=by
 have hm:∀x∈ak ins (l.take k),x.le 1000:=fun x hx=>hz x (am7 (List.mem_filter.1 hx).1)
 have hlen:=amG (pY (ins:=ins) (l:=l) k) hl;constructor
 ·refine iH (jM (k:=1000) fun s hs=>?_) (by rw[aQ,am6];exact hlen)
  obtain⟨x,hx,rfl⟩:=amN.1 hs;exact(hm x hx).q
 ·refine iH (jM (k:=1000) fun s hs=>?_) (by rw[aQ,am6];exact hlen)
  obtain⟨x,hx,rfl⟩:=amN.1 hs;exact(hm x hx).c
structure TSt (w:World) (ins:BA) (L:List Lt) (vl:Value) (l0 D:Nat) (rec:Loop) (k:Nat) (W:World):Prop where
 low:Below w.heap.size w W
 qb:TBx W w.heap.size #[.string (ae (iP ins (L.take k)))] 24
 cb:TBx W (w.heap.size+1) #[.string (ae (iw ins (L.take k)))] 24
 bl:Boxed W (w.heap.size+1+1) 22 vl
 bi:Boxed W (w.heap.size+1+1+1) 9 (.string ins)
 lp:W.heap[l0]? =some (.loop rec)
 df:W.heap[D]? =some (.deferred (some []))
theorem TSt.up {w:World}{ins:BA}{L:List Lt}{vl:Value}{l0 D k:Nat}{rec:Loop}{W W':World}(h:TSt w ins L vl l0 D rec k W)(hb:Below W.heap.size W W'):TSt w ins L vl l0 D rec k W':=
 ⟨h.low.trans (hb.mono h.low.size),h.qb.on hb,h.cb.on hb,TBx.on h.bl hb,TBx.on h.bi hb,(hb.block l0 (amA.1 h.lp).1).trans h.lp,(hb.block D (amA.1 h.df).1).trans h.df⟩
theorem TSt.round {w:World}{ins:BA}{L:List Lt}{vl:Value}{l0 D k:Nat}{rec rec':Loop}{W:World}(h:TSt w ins L vl l0 D rec k W)(hl:w.heap.size+1+1+1<l0)(hD:w.heap.size+1+1+1<D)(hne:D≠l0){q c:Int}(hq:iP ins (L.take (k+1))=q)(hc:iw ins (L.take (k+1))=c):
 TSt w ins L vl l0 D rec' (k+1) (((W.setCell ⟨w.heap.size,0,none⟩ (.string (ae q))).setCell ⟨w.heap.size+1,0,none⟩ (.string (ae c))).putObj l0 (.loop rec'))/\((W.setCell ⟨w.heap.size,0,none⟩ (.string (ae q))).setCell ⟨w.heap.size+1,0,none⟩ (.string (ae c))).heap[l0]? =some (.loop rec):=by
 subst hq hc;have b1:=(h.low.setCell (p:=⟨w.heap.size,0,none⟩) ano (.string (ae (iP ins (L.take (k+1)))))).setCell (p:=⟨w.heap.size+1,0,none⟩) (by show w.heap.size<=w.heap.size+1;omega) (.string (ae (iw ins (L.take (k+1)))));have far:∀ {j:Nat} {o:Obj},w.heap.size+1<j->W.heap[j]? =some o->((W.setCell ⟨w.heap.size,0,none⟩ (.string (ae (iP ins (L.take (k+1)))))).setCell ⟨w.heap.size+1,0,none⟩ (.string (ae (iw ins (L.take (k+1)))))).heap[j]? =some o:=fun{j o} h1 h2=>
  (amR _ _ _ _ (by show j≠w.heap.size+1;omega)).trans ((amR _ _ _ _ (by show j≠w.heap.size;omega)).trans h2)
 have hlp:=far (by omega) h.lp;refine⟨⟨aI b1 (by omega) _,((h.qb.set 0 _).other (by omega) _ _).put (by omega) _,(((h.cb.other (by omega) _ _)).set 0 _).put (by omega) _,TBx.put (far (by omega) h.bl) (by omega) _,TBx.put (far (by omega) h.bi) (by omega) _,World.putObj_heap_same (amA.1 hlp).1,(World.putObj_heap_other hne).trans (far (by omega) h.df)⟩,hlp⟩
theorem mD {A:Option Addr}{n c:Nat}{L:List Lt}{ins:BA}(hn:L.length=n)(hm:n<=1000)(hz:∀x∈L,x.le 1000):
 iO (fun w=>Row w A (av aa L)) 12 #[.slice A n c,.string ins] (.tuple #[.string (ae (iP ins L)),.string (ae (iw ins L))]):=by
 intro w hg hi;have HN:=amy hn;have HI:=amy hi;have HG:=amy hg;have HFT:=amy (wh (ins:=ins) hz (by omega));have HZ:=amy hz;have KF:=ajU A n c ins ((w.alloc (.cells #[.string ⟨#[]⟩] 24)).alloc (.cells #[.string ⟨#[]⟩] 24));simp only[amD]at KF;clear hn hi hz hg;refine(callsIn_wide (n:=6)).1 ?_;refine callsIn_of_wp_marks func12 rfl trivial ?_ rfl;simp only[ntmps12,List.size_toArray,amT,List.length_nil,Nat.reduceAdd,Nat.reduceSub,Array.replicate_succ,Array.replicate_zero,List.push_toArray,List.append_toArray,List.nil_append,List.cons_append]
 gi_wp2_with fail
 refine⟨trivial,(callsIn_wide).2 (KF.mono ?_)⟩;rintro e w4 ⟨rfl,rfl⟩;clear KF;have hb4:Below w.heap.size w ((((w.alloc (.cells #[.string ⟨#[]⟩] 24)).alloc (.cells #[.string ⟨#[]⟩] 24)).alloc (.cells #[.slice A n c] 22)).alloc (.cells #[.string ins] 9)):=((anp.alloc (by simp) _).alloc (by simp;omega) _).alloc (by simp;omega) _;have q4:=(((TBx.new w #[.string ⟨#[]⟩] 24).alloc (.cells #[.string ⟨#[]⟩] 24)).alloc (.cells #[.slice A n c] 22)).alloc (.cells #[.string ins] 9);have c4:TBx ((((w.alloc (.cells #[.string ⟨#[]⟩] 24)).alloc (.cells #[.string ⟨#[]⟩] 24)).alloc (.cells #[.slice A n c] 22)).alloc (.cells #[.string ins] 9)) (w.heap.size+1) #[.string ⟨#[]⟩] 24:=by
  have:=((TBx.new (w.alloc (.cells #[.string ⟨#[]⟩] 24)) #[.string ⟨#[]⟩] 24).alloc (.cells #[.slice A n c] 22)).alloc (.cells #[.string ins] 9);rwa[amD]at this
 have l4:TBx ((((w.alloc (.cells #[.string ⟨#[]⟩] 24)).alloc (.cells #[.string ⟨#[]⟩] 24)).alloc (.cells #[.slice A n c] 22)).alloc (.cells #[.string ins] 9)) (w.heap.size+1+1) #[.slice A n c] 22:=by
  have:=(TBx.new ((w.alloc (.cells #[.string ⟨#[]⟩] 24)).alloc (.cells #[.string ⟨#[]⟩] 24)) #[.slice A n c] 22).alloc (.cells #[.string ins] 9);rwa[amD,amD]at this
 have i4:TBx ((((w.alloc (.cells #[.string ⟨#[]⟩] 24)).alloc (.cells #[.string ⟨#[]⟩] 24)).alloc (.cells #[.slice A n c] 22)).alloc (.cells #[.string ins] 9)) (w.heap.size+1+1+1) #[.string ins] 9:=by
  have:=TBx.new (((w.alloc (.cells #[.string ⟨#[]⟩] 24)).alloc (.cells #[.string ⟨#[]⟩] 24)).alloc (.cells #[.slice A n c] 22)) #[.string ins] 9;rwa[amD,amD,amD]at this
 obtain⟨W4,hW4⟩:=eX ((((w.alloc (.cells #[.string ⟨#[]⟩] 24)).alloc (.cells #[.string ⟨#[]⟩] 24)).alloc (.cells #[.slice A n c] 22)).alloc (.cells #[.string ins] 9));have s4:w.heap.size+1+1+1<W4.heap.size:=by rw[<-hW4];simp
 rw[hW4]at hb4 q4 c4 l4 i4⊢
 clear hW4;simp only[]
 gi_wp2_with fail
 refine fQ rfl (by omega) rfl trivial (enters_of func57 (by kernel_rfl) rfl) ?_;intro fn hfn r hr;have hst:r.state= .ready :=by rw[hr]
 have hpe:r.pending=none:=by rw[hr]
 have HS:Hid (TSt w ins L (.slice A n c) (W4.heap.size+1) W4.heap.size r 0 ((W4.alloc (.deferred (some []))).alloc (.loop r))):=by
  have hbb:Below W4.heap.size W4 ((W4.alloc (.deferred (some []))).alloc (.loop r)):=anp.alloc (by simp) _;refine⟨hb4.trans (hbb.mono hb4.size),q4.on hbb,c4.on hbb,l4.on hbb,i4.on hbb,?_,?_⟩
  ·have:=World.alloc_heap_new (W4.alloc (.deferred (some []))) (.loop r)
   rwa[amD]at this
  ·exact(Below.heap_alloc _ _ _ (by simp)).trans (World.alloc_heap_new W4 _)
 have hnn:n<=1000000:=by omega
 refine(of_in (W4.heap.size+1) (w.heap.size+1+1) (w.heap.size+1+1+1) HN.o hnn (fun k W=>TSt w ins L (.slice A n c) (W4.heap.size+1) W4.heap.size r k W) (fun k W h=>⟨HI.o.on h.low,h.bl,h.bi⟩) (fun k W W' h hb=>h.up hb) (fun k W x hx hq h=>⟨h.low,by rw[akl hx hq];exact h.qb,by rw[akm hx hq];exact h.cb,h.bl,h.bi,h.lp,h.df⟩) ?_ _ HS.o).mono ?_
 ·intro k W1 x hk hx hq hG
  have hy:=run_yield (P:=prog) (args:= #[ltV x]) hG.lp (by rw[hr];rfl);refine⟨_,_,_,_,hy,roundIn_of_wpIn (by rw[hr];exact hfn) ?_⟩;have e1:=congrArg Loop.assign hr;have e2:=congrArg Loop.body hr;have e3:=congrArg Loop.tmps hr;have e4:=congrArg Loop.params hr;dsimp only at e1 e2 e3 e4;rw[e1,e2,e3,e4];have HGG:=amy hG;have Hst:=amy hst;have Hpe:=amy hpe;have HQ1:=amy (ahy hx hq);have HC1:=amy (ahz hx hq);have hzx:=HZ.o x (amI hx);have f1:=HFT.o k;have KQ:=abq (Vs.can f1.1 (by omega)) (Vs.arg (s:=x.q) (by have:=hzx.q;omega));have KC:=abq (Vs.can f1.2 (by omega)) (Vs.arg (s:=x.c) (by have:=hzx.c;omega));clear e1 e2 e3 e4 hr hy hG hst hpe HS hx hq hzx f1 q4 c4 l4 i4 hb4;generalize iP ins (L.take k)+ah x.q=q1 at*
  generalize iw ins (L.take k)+ah x.c=c1 at*
  dsimp only[ltV,ltA]
  gi_wp2_with fail
  have HGa:=amy (HGG.o.up ((am3 W1.heap.size W1).alloc ano (.cells #[.string x.id,.string x.ins,.int .i64 x.acq,.int .i64 x.opn,.string x.q,.string x.c,.string x.u] 62)));refine⟨_,run_beginRound HGa.o.lp Hst.o,?_⟩;have hlt:=(amA.1 HGG.o.lp).1;have hl0:W1.heap.size≠W4.heap.size+1:=by omega
  have XP:Bx ((W1.alloc (.cells #[.string x.id,.string x.ins,.int .i64 x.acq,.int .i64 x.opn,.string x.q,.string x.c,.string x.u] 62)).putObj (W4.heap.size+1) (.loop {r with state:=.busy})) W1.heap.size #[.string x.id,.string x.ins,.int .i64 x.acq,.int .i64 x.opn,.string x.q,.string x.c,.string x.u]:=((TBx.new W1 _ 62).put hl0 _).bx;have HGP:Hid (TSt w ins L (.slice A n c) (W4.heap.size+1) W4.heap.size {r with state:=.busy} k ((W1.alloc (.cells #[.string x.id,.string x.ins,.int .i64 x.acq,.int .i64 x.opn,.string x.q,.string x.c,.string x.u] 62)).putObj (W4.heap.size+1) (.loop {r with state:=.busy}))):=
   ⟨aI HGa.o.low (by omega) _,HGa.o.qb.put (by omega) _,HGa.o.cb.put (by omega) _,TBx.put HGa.o.bl (by omega) _,TBx.put HGa.o.bi (by omega) _,World.putObj_heap_same (amA.1 HGa.o.lp).1,(World.putObj_heap_other (by omega)).trans HGa.o.df⟩
  obtain⟨WP,hWP⟩:∃WP,(W1.alloc (.cells #[.string x.id,.string x.ins,.int .i64 x.acq,.int .i64 x.opn,.string x.q,.string x.c,.string x.u] 62)).putObj (W4.heap.size+1) (.loop {r with state:=.busy})=WP:=⟨_,rfl⟩;rw[hWP]at XP HGP⊢
  have hsP:St w WP:=⟨HG.o,HGP.o.low⟩;generalize hqk:ae (iP ins (L.take k))=qk at*
  generalize hck:ae (iw ins (L.take k))=ck at*
  have qb:Bx WP w.heap.size #[.string qk]:=by rw[<-hqk];exact HGP.o.qb.bx
  have cb:Bx WP (w.heap.size+1) #[.string ck]:=by rw[<-hck];exact HGP.o.cb.bx
  have k1:=qb.k 0 (.string qk) rfl;have k2:=cb.k 0 (.string ck) rfl;have k3:=XP.k 4 (.string x.q) rfl;have k4:=XP.k 5 (.string x.c) rfl;clear hWP hlt HGa hqk hck
  gi_wp2_with fail
  refine jP 8 (by kernel_rfl) (by kernel_rfl) (by kernel_rfl) ?_;simp only[List.take_succ_cons,List.take_zero,List.drop_succ_cons,List.drop_zero]
  repeat (go_big_quiet_step (first|(with_reducible exact KQ.kept hsP)|(with_reducible exact KC.kept hsP)))
  refine wpQuiet_nil ?_;rintro _ ⟨u,rfl⟩;have HU:=amy (HGP.o.up u.low);have c0:=k1 u;have d0:=k2 u;have c0f:=HU.o.qb.bx.frozen 0;have d0f:=HU.o.cb.bx.frozen 0;clear k1 k2 k3 k4 KQ KC XP qb cb
  gi_wp2_with fail
  obtain⟨hR1,hR2⟩:=HU.o.round (rec':=r) (by omega) (by omega) (by omega) HQ1.o HC1.o;refine⟨_,_,run_endRound none hR2,rfl,?_⟩;have hlr:({r with state:=if (none:Option Code).isNone then LoopState.ready else .done,pending:=none}:Loop)=r:=by have h1:=Hst.o;have h2:=Hpe.o;cases r;simp_all
  show TSt _ _ _ _ _ _ _ _ (World.putObj _ _ (.loop {r with state:=if (none:Option Code).isNone then LoopState.ready else .done,pending:=none}));rw[hlr];exact hR1
 ·rintro e W5 ⟨⟨v,rfl⟩,hG⟩
  obtain⟨o5,ho5⟩:∃o5:Obj,o5= .loop {r with state:=.exhausted}:=⟨_,rfl⟩;have hend:=run_endLoop (P:=prog) hG.lp (by rw[hst];decide);rw[<-ho5]at hend;rw[hpe]at hend;have hqb:=hG.qb.put (by omega:w.heap.size≠W4.heap.size+1) o5;have hcb:=hG.cb.put (by omega:w.heap.size+1≠W4.heap.size+1) o5;have hlow:Hid (Below w.heap.size w (W5.putObj (W4.heap.size+1) o5)):=aI hG.low (by omega) _;have hdf:Hid ((W5.putObj (W4.heap.size+1) o5).heap[W4.heap.size]? =some (.deferred (some []))):=(World.putObj_heap_other (by omega)).trans hG.df;obtain⟨W6,hW6⟩:=eX (W5.putObj (W4.heap.size+1) o5);rw[hW6]at hend hqb hcb hlow hdf;rw[amK (Nat.le_of_eq HN.o)]at hqb hcb;refine⟨none,W6,hend,?_⟩;have k1:=hqb.bx.c 0 (.string (ae (iP ins L))) rfl;have k2:=hcb.bx.c 0 (.string (ae (iw ins L))) rfl;clear ho5 hr hG hst hpe HS hW6 hend hqb hcb q4 c4 l4 i4 hb4;obtain⟨qs,hqs⟩:=eX (ae (iP ins L));obtain⟨cs,hcs⟩:=eX (ae (iw ins L));rw[hqs]at k1;rw[hcs]at k2;have HQS:=amy hqs;have HCS:=amy hcs;clear hqs hcs;simp only[]
  gi_wp2_with fail
  refine wpIn_wide.2 ?_
  go_quiet (fail)
  gi_wp2_with fail
  have hdfn:(W6.drewN nq).heap[W4.heap.size]? =some (.deferred (some [])):=hdf.o;refine⟨by simp,.inl ⟨_,_,rfl,run_takeDeferred hdfn,?_⟩⟩;have hlown:Below w.heap.size w (W6.drewN nq):=hlow.o.trans (below_drewN _ _ _);exact⟨_,results_tmp2 rfl _ _ _,by rw[HQS.o,HCS.o];rfl,aI hlown (by omega) _⟩
end
end Go.Proofs.YtbkhnggmcheelaaGreatDoor
