/- TopSpunTogether: Lots. Conditions: bounded sizes; variables as laid. -/
import Derived.Test.YtbkhnggmcheelaaGreatDoorGaf
import Derived.Shelf.Strconv.ErrVarAll
import Derived.Laws.EntriesVeiled
set_option linter.unusedSimpArgs false
set_option linter.unusedVariables false
set_option maxHeartbeats 4000000
set_option maxRecDepth 100000
namespace Go.Proofs.YtbkhnggmcheelaaGreatDoor
open Proofs.Tryz
section
open Go.RowKit Go.Shelf Dec QQ
structure Lt where
 id:BA
 ins:BA
 acq:Int
 opn:Int
 q:BA
 c:BA
 u:BA
instance:Inhabited Lt:=⟨⟨⟨#[]⟩,⟨#[]⟩,0,0,⟨#[]⟩,⟨#[]⟩,⟨#[]⟩⟩⟩
def ltA (x:Lt):Array Value:= #[.string x.id,.string x.ins,.int .i64 x.acq,.int .i64 x.opn,.string x.q,.string x.c,.string x.u]
def aa (x:Lt):List Value:=[.string x.id,.string x.ins,.int .i64 x.acq,.int .i64 x.opn,.string x.q,.string x.c,.string x.u]
def ltV (x:Lt):Value:=.agg (ltA x)
theorem aJ (x:Lt):(aa x).length =7:=rfl
def iB (s:BA)(c:UInt8):Int:=Lib.indexByte s.data.toList c
def aa7 (s:BA)(c:UInt8):BA:=bif decide (0<=iB s c)then s.extract 0 (iB s c).toNat else s
def xP (s:BA)(c:UInt8):BA:=bif decide (0<=iB s c)then s.extract ((iB s c).toNat +1) s.size else⟨#[]⟩
def eqB (a b:BA):Bool:=a.toList==b.toList
theorem dH {a b:BA}:eqB a b=true↔a=b:=by
 unfold eqB;rw[aF,aF,beq_iff_eq];exact⟨fun h=>bytes_inj h,fun h=>by rw[h]⟩
def nlB (s:BA):Bool:=s.toList== []
def aim (s:BA):Bool:=match Lib.atoiAll s.data.toList with
 | .ok v=>decide (1<=v)&&(decide (v<=9999)&&(eqB (ae v) s))
 |_=>false
def adT (s:BA):Bool:=aim (xP s 47)&&aG (aa7 s 47)
def sP (d:Int):Bool:=decide (-25567<=d)&&decide (d<=84005)
def nN (x:Lt):Int:=
 bif !(adT x.id)then 23 else bif !(aG x.ins)then 23 else bif !(sP x.acq)then 13 else bif !(sP x.opn)then 13 else bif decide (x.opn<x.acq)then 8 else
 bif chk x.q !=0 then 1 else bif chk x.c !=0 then 1 else bif chk x.u !=0 then 1 else
 bif decide (dW (ah x.q) 0<=0)then 2 else bif decide (dW (ah x.c) 0<0)then 2 else bif !(nlB x.u)&& !(eqB x.u x.q)then 2 else 0
def adW (seen:List BA):List Lt->Int
 | []=>0
 |x::l=>bif nN x !=0 then nN x else bif seen.any (fun i=>eqB i x.id)then 5 else adW (x.id::seen) l
def aN (l:List Lt):Int:=bif decide (1000<l.length)then 4 else adW [] l
structure Lt.le (x:Lt) (k:Nat):Prop where
 id:x.id.size<=100
 ins:x.ins.size<=100
 q:x.q.size<=k
 c:x.c.size<=k
 u:x.u.size<=k
end
section
open Go.RowKit Go.Shelf Dec QQ
theorem NmR {s:BA}(h:s.size<=4611686018427387904):Ret 51 #[.string s] (.bool (aG s)):=fun w _=>aip s h w
theorem ibsX (s:BA)(c:Int)(w:World):(callFunc 291 #[.string s,.int .u8 c]).run prog w= .ok (.value (.int .i64 (Lib.indexByte s.data.toList c.toNat.toUInt8))) w:=by
 rw[run_callFunc_extern (fn:=f291) (by kernel_rfl) (by kernel_rfl) (by kernel_rfl) (by kernel_rfl) (e:=Extern.BytealgIndexByte.indexByte) (by kernel_rfl),Lib.run_indexByteString];rfl
theorem aiF (s:BA)(c:Int):Ret 275 #[.string s,.int .u8 c] (.int .i64 (Lib.indexByte s.data.toList c.toNat.toUInt8)):=by
 intro w hg;have hs:=St.refl hg;have X:=fun u:World=>ibsX s c u
 generalize Lib.indexByte s.data.toList c.toNat.toUInt8=i at*
 go_enter func275,ntmps275
 go_wp2_with fail
 go_ret
 exact⟨rfl,hs.2⟩
theorem adl (s:BA)(c:UInt8):Ret 263 #[.string s,.string ⟨#[c]⟩] (.int .i64 (iB s c)):=by
 intro w hg;have hs:=St.refl hg;have K:=aiF s (c.toNat:Int);rw[show ((c.toNat:Int).toNat.toUInt8)=c by simp]at K;have z:(⟨#[c]⟩:BA).size =1:=rfl;cases hq:(([c]:List UInt8)==s.toList)with
 |true=>
  have e0:iB s c=0:=by
   have h1: [c]=s.toList:=by simpa using hq
   rw[aF]at h1;unfold iB;rw[show s.data.toList=bytes s from rfl, <-h1];simp[Lib.indexByte]
  rw[e0];clear e0 K
  go_enter func263,ntmps263
  go_wp2_with fail
  go_ret
  exact⟨rfl,hs.2⟩
 |false=>
  unfold iB;generalize Lib.indexByte s.data.toList c=i at*
  go_enter func263,ntmps263
  go_wp2_with fail
  refine(show Ret _ #[.string s,.int .u8 (({data:= #[c]}:BA)[0].toNat :Int)] (.int .i64 i)from K).step hs ?_;intro w1 hs hb
  go_wp2_with fail
  go_ret
  exact⟨rfl,hs.2⟩
theorem iB_lt {s:BA}{c:UInt8}(h:0<=iB s c):(iB s c).toNat <s.size:=by
 obtain⟨n,hn⟩:=Int.eq_ofNat_of_zero_le h;have h1:=(Lib.indexByte_some (l:=s.data.toList) (c:=c) (o:=n) hn).1;have h2:=(amH.1 h1).1;rw[hn];simpa using h2
theorem aer (s:BA)(c:UInt8)(hz:s.size<=1000000):Ret 240 #[.string s,.string ⟨#[c]⟩] (.tuple #[.string (aa7 s c),.string (xP s c),.bool (decide (0<=iB s c))]):=by
 intro w hg;have hs:=St.refl hg;have K:=amy (adl s c);have HL:= @iB_lt s c;unfold aa7 xP;generalize iB s c=i at*
 by_cases h:0<=i
 ·have q:decide (0<=i)=true:=am2 h
  rw[q];obtain⟨n,rfl⟩:=Int.eq_ofNat_of_zero_le h;have hl:n<s.size:=HL h;have hn:((n:Int)).toNat =n:=anm n;rw[hn];have hl1:(n:Int)<=(s.size:Int):=by omega
  have hl2:(n:Int)+1<=(s.size:Int):=by omega
  have hp:(0:Int)<=(n:Int)+1:=by omega
  have z:(({data:= #[c]}:BA).size :Int)=1:=rfl;have ew:IntKind.i64.wrap ((n:Int)+1)=(n:Int)+1:=by rw[IntKind.wrap_i64];omega
  have et:((n:Int)+1).toNat =n+1:=by omega
  clear HL h
  go_enter func240,ntmps240
  go_wp2_with fail
  refine K.o.step hs ?_;intro w1 hs hb;clear K
  go_wp2_with fail
  go_quiet (fail)
  go_wp2_with fail
  go_ret3
  exact⟨rfl,hs.2.trans ((below_drewN _ _ _).mono hs.2.size)⟩
 ·have q:decide (0<=i)=false:=am1 h
  rw[q];clear HL
  go_enter func240,ntmps240
  go_wp2_with fail
  refine K.o.step hs ?_;intro w1 hs hb;clear K
  go_wp2_with fail
  go_ret3
  exact⟨rfl,hs.2⟩
theorem abz (s:BA)(c:UInt8)(hz:s.size<=1000000):Ret 197 #[.string s,.string ⟨#[c]⟩] (.tuple #[.string (aa7 s c),.string (xP s c),.bool (decide (0<=iB s c))]):=by
 intro w hg;have hs:=St.refl hg;have K:=aer s c hz;generalize aa7 s c=a at*
 generalize xP s c=z at*
 generalize decide (0<=iB s c)=b at*
 go_enter func197,ntmps197
 go_wp2_with fail
 refine K.step hs ?_;intro w1 hs hb
 go_wp2_with fail
 go_ret3
 exact⟨rfl,hs.2⟩
theorem age (s:BA)(c:UInt8):(aa7 s c).size <=s.size:=by
 unfold aa7;cases decide (0<=iB s c)
 ·exact am4 _
 ·show (s.extract 0 _).size <=_
  rw[ByteArray.size_extract];omega
theorem agd (s:BA)(c:UInt8):(xP s c).size <=s.size:=by
 unfold xP;cases decide (0<=iB s c)
 ·exact Nat.zero_le _
 ·show (s.extract _ _).size <=_
  rw[ByteArray.size_extract];omega
theorem agX {s:BA}(hz:s.size<=1000000){v:Int}(h:Lib.atoiAll s.data.toList= .ok v):Ret 198 #[.string s] (.tuple #[.int .i64 v,.nilIface]):=by
 intro w hg;refine(Any.strconv_Atoi_ok laysC172 s (by omega) v h w).mono ?_;rintro e w' ⟨rfl,h1⟩;refine⟨rfl,?_⟩;rcases h1 with rfl|⟨t,rfl⟩
 ·exact am3 _ _
 ·exact tu _ _ _
theorem agY {s:BA}(hz:s.size<=1000000)(h:∀v,Lib.atoiAll s.data.toList≠ .ok v)(w:World)(hg:Gl w):Calls prog 198 #[.string s] w fun e w'=>∃m t p,e= .returned (.tuple #[.int .i64 m,.iface t p])/\Below w.heap.size w w':=by
 obtain⟨_,tp,p,h1,tq,q,h2⟩:=hg;cases hx:Lib.atoiAll s.data.toList with
 |ok v=>exact absurd hx (h v)
 |range=>
  refine(Any.strconv_Atoi_range_var laysC172 s (by omega) hx tp p w h1).mono ?_;rintro e w' ⟨N,rfl,_,_,hb⟩;exact⟨_,_,_,rfl,hb⟩
 |_=>
  refine(Any.strconv_Atoi_syntax_var laysC172 s (by omega) hx tq q w h2).mono ?_;rintro e w' ⟨N,rfl,_,_,hb⟩;exact⟨_,_,_,rfl,hb⟩
theorem xw {n:Int}(h0:1<=n)(h1:n<=9223372036854775807):Ret 40 #[.int .i64 n] (.string (ae n)):=by
 intro w hg;have e:Lib.itoa n=canon n:=by
  unfold Lib.itoa canon;rw[if_neg (by omega),if_neg (by omega),show n.toNat=n.natAbs by omega,jC _ (by omega)]
 have:=Any.strconv_Itoa laysM171 n (by omega) h1 w hg.1;rw[e]at this;refine this.mono ?_;rintro e w' ⟨rfl,k,os,rfl⟩;exact⟨rfl,Lib.below_grow _ w ano k os⟩
theorem aiC {s:BA}(hz:s.size<=1000):Ret 151 #[.string s] (.bool (adT s)):=by
 intro w hg;have hs:=St.refl hg;have K1:=amy (abz s 47 (by omega));have HA:=age s 47;have HZ:=agd s 47;have K4:=amy (NmR (s:=aa7 s 47) (by omega));have K2:=amy (fun v (h:Lib.atoiAll (xP s 47).data.toList = .ok v)=>agX (s:=xP s 47) (by omega) h);have K2n:=amy (fun(h:∀v,Lib.atoiAll (xP s 47).data.toList ≠ .ok v)=>agY (s:=xP s 47) (by omega) h);unfold adT aim;generalize aG (aa7 s 47)=bn at*
 generalize aa7 s 47=a at*
 generalize xP s 47=z at*
 generalize decide (0<=iB s 47)=b at*
 generalize hr:Lib.atoiAll z.data.toList=r at*
 clear hz HA HZ
 go_enter func151,ntmps151
 go_wp2_with fail
 refine K1.o.step hs ?_;intro w1 hs hb;clear hb K1
 go_wp2_with fail
 cases r with
 |ok v=>
  have K2':=amy (K2.o v rfl);clear K2 K2n;refine K2'.o.step hs ?_;intro w2 hs hb;clear hb K2';by_cases h1:1<=v
  ·have q1:decide (1<=v)=true:=am2 h1
   by_cases h2:v<=9999
   ·have q2:decide (v<=9999)=true:=am2 h2
    have K3:=amy (xw h1 (by omega));obtain⟨cv,hcv⟩:∃x,ae v=x:=⟨_,rfl⟩;rw[hcv]at K3;have HCV:=amy hcv;clear hcv
    go_wp2_with fail
    refine K3.o.step hs ?_;intro w3 hs hb;clear hb K3;cases h5:(cv.toList==z.toList)with
    |true=>
     go_wp2_with fail
     refine K4.o.step hs ?_;intro w4 hs hb;clear hb K4
     go_wp2_with fail
     go_ret
     exact⟨by simp[HCV.o,eqB,h5,q1,q2],hs.2⟩
    |false=>
     go_wp2_with fail
     go_ret
     exact⟨by simp[HCV.o,eqB,h5,q1,q2],hs.2⟩
   ·have q2:decide (v<=9999)=false:=am1 h2
    go_wp2_with fail
    go_ret
    exact⟨by simp[q1,q2],hs.2⟩
  ·have q1:decide (1<=v)=false:=am1 h1
   go_wp2_with fail
   go_ret
   exact⟨by simp[q1],hs.2⟩
 |range=>
  refine(K2n.o (fun v h=>by cases h) _ hs.gl).mono ?_;rintro e w2 ⟨m,t,p,rfl,hb⟩;replace hs:=hs.on hb;clear hb K2 K2n
  go_wp2_with fail
  go_ret
  exact⟨rfl,hs.2⟩
 |_=>
  refine(K2n.o (fun v h=>by cases h) _ hs.gl).mono ?_;rintro e w2 ⟨m,t,p,rfl,hb⟩;replace hs:=hs.on hb;clear hb K2 K2n
  go_wp2_with fail
  go_ret
  exact⟨rfl,hs.2⟩
theorem afE {s:BA}(hz:s.size<=1000):Ret 174 #[.string s] (.bool (adT s)):=by
 intro w hg;have hs:=St.refl hg;have K1:=amy (abz s 47 (by omega));have HA:=age s 47;have HZ:=agd s 47;have K4:=amy (NmR (s:=aa7 s 47) (by omega));have K2:=amy (fun v (h:Lib.atoiAll (xP s 47).data.toList = .ok v)=>agX (s:=xP s 47) (by omega) h);have K2n:=amy (fun(h:∀v,Lib.atoiAll (xP s 47).data.toList ≠ .ok v)=>agY (s:=xP s 47) (by omega) h);unfold adT aim;generalize aG (aa7 s 47)=bn at*
 generalize aa7 s 47=a at*
 generalize xP s 47=z at*
 generalize decide (0<=iB s 47)=b at*
 generalize hr:Lib.atoiAll z.data.toList=r at*
 clear hz HA HZ
 go_enter func174,ntmps174
 go_wp2_with fail
 refine K1.o.step hs ?_;intro w1 hs hb;clear hb K1
 go_wp2_with fail
 cases r with
 |ok v=>
  have K2':=amy (K2.o v rfl);clear K2 K2n;refine K2'.o.step hs ?_;intro w2 hs hb;clear hb K2'
  go_wp2_with fail
  refine K4.o.step hs ?_;intro w4 hs hb;clear hb K4;cases bn
  case false=>(go_wp2_with fail;go_ret;exact⟨by simp,hs.2⟩)
  by_cases h1:1<=v
  ·have q1:decide (1<=v)=true:=am2 h1
   by_cases h2:v<=9999
   ·have q2:decide (v<=9999)=true:=am2 h2
    have K3:=amy (xw h1 (by omega));obtain⟨cv,hcv⟩:∃x,ae v=x:=⟨_,rfl⟩;rw[hcv]at K3;have HCV:=amy hcv;clear hcv
    go_wp2_with fail
    refine K3.o.step hs ?_;intro w3 hs hb;clear hb K3;cases h5:(cv.toList==z.toList)with
    |true=>
     go_wp2_with fail
     go_ret
     exact⟨by simp[HCV.o,eqB,h5,q1,q2],hs.2⟩
    |false=>
     go_wp2_with fail
     go_ret
     exact⟨by simp[HCV.o,eqB,h5,q1,q2],hs.2⟩
   ·have q2:decide (v<=9999)=false:=am1 h2
    go_wp2_with fail
    go_ret
    exact⟨by simp[q1,q2],hs.2⟩
  ·have q1:decide (1<=v)=false:=am1 h1
   go_wp2_with fail
   go_ret
   exact⟨by simp[q1],hs.2⟩
 |range=>
  refine(K2n.o (fun v h=>by cases h) _ hs.gl).mono ?_;rintro e w2 ⟨m,t,p,rfl,hb⟩;replace hs:=hs.on hb;clear hb K2 K2n
  go_wp2_with fail
  refine K4.o.step hs ?_;intro w4 hs hb;clear hb K4;cases bn
  case false=>(go_wp2_with fail;go_ret;exact⟨by simp,hs.2⟩)
  go_wp2_with fail
  go_ret
  exact⟨by simp,hs.2⟩
 |_=>
  refine(K2n.o (fun v h=>by cases h) _ hs.gl).mono ?_;rintro e w2 ⟨m,t,p,rfl,hb⟩;replace hs:=hs.on hb;clear hb K2 K2n
  go_wp2_with fail
  refine K4.o.step hs ?_;intro w4 hs hb;clear hb K4;cases bn
  case false=>(go_wp2_with fail;go_ret;exact⟨by simp,hs.2⟩)
  go_wp2_with fail
  go_ret
  exact⟨by simp,hs.2⟩
end
section
open Go.RowKit Go.Shelf Dec QQ
theorem ab1 (d:Int):Ret 152 #[.int .i64 d] (.bool (sP d)):=by
 intro w hg;have hs:=St.refl hg;unfold sP;by_cases h1: -25567<=d
 ·have q1:decide (-25567<=d)=true:=am2 h1
  rw[q1]
  go_enter func152,ntmps152
  go_wp2_with fail
  go_ret
  exact⟨by simp,hs.2⟩
 ·have q1:decide (-25567<=d)=false:=am1 h1
  rw[q1]
  go_enter func152,ntmps152
  go_wp2_with fail
  go_ret
  exact⟨rfl,hs.2⟩
theorem ab2 {x:Lt}(hz:x.le 1000):Ret 85 #[ltV x] (.int .i64 (nN x)):=by
 intro w hg;have hs:=(St.refl hg).alloc (.cells (ltA x) 62);have X:=Bx.new w (ltA x) 62;have HX:=amy X;clear X;have K1:=amy (aiC (s:=x.id) (by have:=hz.id;omega));have K2:=amy (NmR (s:=x.ins) (by have:=hz.ins;omega));have K3:=amy (ab1 x.acq);have K4:=amy (ab1 x.opn);have K6:=amy (amv (a:=x.q) (by have:=hz.q;omega));have K7:=amy (amv (a:=x.c) (by have:=hz.c;omega));have K8:=amy (amv (a:=x.u) (by have:=hz.u;omega));have K9:=amy (aab (Vs.arg (s:=x.q) (by have:=hz.q;omega)) Vs.nil);have K10:=amy (aab (Vs.arg (s:=x.c) (by have:=hz.c;omega)) Vs.nil);unfold nN;obtain⟨id,ins,acq,opn,q,c,u⟩:=x;unfold ltV ltA;simp only[ltA]at*
 generalize adT id=b1 at*
 generalize aG ins=b2 at*
 generalize sP acq=b3 at*
 generalize sP opn=b4 at*
 generalize chk q=e6 at*
 generalize chk c=e7 at*
 generalize chk u=e8 at*
 generalize dW (ah q) 0=c9 at*
 generalize dW (ah c) 0=c10 at*
 unfold nlB eqB;generalize q5:decide (opn<acq)=b5 at*
 generalize q6:(e6 !=0)=b6 at*
 generalize q7:(e7 !=0)=b7 at*
 generalize q8:(e8 !=0)=b8 at*
 generalize q9:decide (c9<=0)=b9 at*
 generalize q10:decide (c10<0)=b10 at*
 generalize q11:(u.toList== [])=b11 at*
 generalize q12:(u.toList==q.toList)=b12 at*
 clear hz;have x0:=HX.o.c 0 (.string id) rfl
 go_enter func85,ntmps85
 go_wp2_with fail
 clear x0;refine K1.o.step hs ?_;intro w1 hs hb;replace HX:=amy (HX.o.on hb);clear hb K1;cases b1
 case false=>(go_wp2_with fail;go_ret;exact⟨rfl,hs.2⟩)
 have x1:=HX.o.c 1 (.string ins) rfl
 go_wp2_with fail
 clear x1;refine K2.o.step hs ?_;intro w2 hs hb;replace HX:=amy (HX.o.on hb);clear hb K2;cases b2
 case false=>(go_wp2_with fail;go_ret;exact⟨rfl,hs.2⟩)
 have x2:=HX.o.c 2 (.int .i64 acq) rfl
 go_wp2_with fail
 clear x2;refine K3.o.step hs ?_;intro w3 hs hb;replace HX:=amy (HX.o.on hb);clear hb K3;cases b3
 case false=>(go_wp2_with fail;go_ret;exact⟨rfl,hs.2⟩)
 have x3:=HX.o.c 3 (.int .i64 opn) rfl
 go_wp2_with fail
 clear x3;refine K4.o.step hs ?_;intro w4 hs hb;replace HX:=amy (HX.o.on hb);clear hb K4;cases b4
 case false=>(go_wp2_with fail;go_ret;exact⟨rfl,hs.2⟩)
 have x2:=HX.o.c 2 (.int .i64 acq) rfl;have x3:=HX.o.c 3 (.int .i64 opn) rfl;have x4:=HX.o.c 4 (.string q) rfl;have x5:=HX.o.c 5 (.string c) rfl;have x6:=HX.o.c 6 (.string u) rfl;cases b5
 case true=>(go_wp2_with fail;go_ret;exact⟨rfl,hs.2⟩)
 go_wp2_with fail
 have Y:=Bx.new w4 #[.string q,.string c,.string u] 24;have hbA:Below w4.heap.size w4 (w4.alloc (.cells #[.string q,.string c,.string u] 24)):=anp;replace HX:=amy (HX.o.on hbA);replace hs:=hs.on hbA;have HY:=amy Y;have y0:=HY.o.c 0 (.string q) rfl;clear Y hbA;refine wp_loop_rounds 4 ?_;rw[rounds_succ]
 go_wp2_with fail
 clear x2 x3 x4 x5 x6;clear y0;refine K6.o.step hs ?_;intro w5 hs hb;replace HX:=amy (HX.o.on hb);replace HY:=amy (HY.o.on hb);clear hb K6;cases b6
 case true=>(go_wp2_with fail;go_ret;exact⟨rfl,hs.2⟩)
 have y1:=HY.o.c 1 (.string c) rfl
 go_wp2_with fail
 rw[rounds_succ]
 go_wp2_with fail
 clear y1;refine K7.o.step hs ?_;intro w6 hs hb;replace HX:=amy (HX.o.on hb);replace HY:=amy (HY.o.on hb);clear hb K7;cases b7
 case true=>(go_wp2_with fail;go_ret;exact⟨rfl,hs.2⟩)
 have y2:=HY.o.c 2 (.string u) rfl
 go_wp2_with fail
 rw[rounds_succ]
 go_wp2_with fail
 clear y2;refine K8.o.step hs ?_;intro w7 hs hb;replace HX:=amy (HX.o.on hb);replace HY:=amy (HY.o.on hb);clear hb K8;cases b8
 case true=>(go_wp2_with fail;go_ret;exact⟨rfl,hs.2⟩)
 have x4:=HX.o.c 4 (.string q) rfl;have x5:=HX.o.c 5 (.string c) rfl;have x6:=HX.o.c 6 (.string u) rfl
 go_wp2_with fail
 rw[rounds_succ]
 go_wp2_with fail
 clear HY;refine K9.o.step hs ?_;intro w8 hs hb;replace HX:=amy (HX.o.on hb);clear hb K9;cases b9
 case true=>(go_wp2_with fail;go_ret;exact⟨rfl,hs.2⟩)
 clear x4 x5 x6;have x5:=HX.o.c 5 (.string c) rfl
 go_wp2_with fail
 clear x5;refine K10.o.step hs ?_;intro w9 hs hb;replace HX:=amy (HX.o.on hb);clear hb K10;cases b10
 case true=>(go_wp2_with fail;go_ret;exact⟨rfl,hs.2⟩)
 have x4:=HX.o.c 4 (.string q) rfl;have x6:=HX.o.c 6 (.string u) rfl;cases b11
 case true=>(go_wp2_with fail;go_ret;exact⟨rfl,hs.2⟩)
 cases b12
 case false=>(go_wp2_with fail;go_ret;exact⟨rfl,hs.2⟩)
 go_wp2_with fail
 go_ret
 exact⟨rfl,hs.2⟩
end
section
open Go.RowKit Go.Shelf Dec QQ
def opV (f:FuncId)(b:Nat):Value:=.func (.func f) #[] #[.pointer (some ⟨b,0,none⟩)]
def opsV (b:Nat):Value:=.agg #[opV 80 b,opV 81 b,opV 82 b,opV 83 b]
def ug:Value:=.func (.func 79) #[] #[]
theorem iI (w:World):
 Calls prog 31 #[] w fun e w'=>∃b,e= .returned (opsV b)/\Bx w' b #[ug]/\Below w.heap.size w w':=by
 go_enter func31,ntmps31
 go_wp2_with fail
 have B0:=(Bx.new w #[opV 80 (w.heap.size+1),opV 81 (w.heap.size+1),opV 82 (w.heap.size+1),opV 83 (w.heap.size+1)] 90).alloc (.cells #[ug] 54);have y0:=B0.c 0 (opV 80 (w.heap.size+1)) rfl;have y1:=B0.c 1 (opV 81 (w.heap.size+1)) rfl;have y2:=B0.c 2 (opV 82 (w.heap.size+1)) rfl;have y3:=B0.c 3 (opV 83 (w.heap.size+1)) rfl;refine bodyPost_ret (v:=opsV (w.heap.size+1)) ?_ rfl ⟨_,rfl,Bx.new1 _ _ _ _,((am3 _ w).alloc ano _).alloc (by simp) _⟩;unfold opV ug at y0 y1 y2 y3;unfold opsV opV;simp[results,results31,go_sem]
theorem aiw {a b c d:BA}{x y z u:Int}(ha:Vs a x)(hb:Vs b y)(hc:Vs c z)(hd:Vs d u)(g:Nat)(w:World)(hg:Gl w)(hx:Bx w g #[ug])(v1:Vs (ae (x*u)) (x*u))(v2:Vs (ae (z*y)) (z*y)):
 Calls prog 81 #[.string a,.string b,.string c,.string d,.pointer (some ⟨g,0,none⟩)] w fun e w'=>e= .returned (.tuple #[.string (ae (x*u-z*y)),.string (ae (y*u))])/\Below w.heap.size w w':=by
 have hs:=St.refl hg;have K1:=ajN ha hd;have K2:=ajN hc hb;have K3:=ahs v1 v2;have K4:=ajN hb hd;generalize ae (x*u)=r1 at*
 generalize ae (z*y)=r2 at*
 generalize ae (x*u-z*y)=r3 at*
 generalize ae (y*u)=r4 at*
 have x0:=Kept.cell_of (hx.c 0 ug rfl);unfold ug at x0
 go_enter func81,ntmps81
 go_wp2_with fail
 refine ax (by kernel_rfl) (by kernel_rfl) ?_
 repeat (go_big_quiet_step (first|(with_reducible exact K1.kept hs)|(with_reducible exact K2.kept hs)|(with_reducible exact K3.kept hs)|(with_reducible exact K4.kept hs)))
 refine wpQuiet_nil ?_;rintro _ ⟨u1,rfl⟩
 go_wp2_with fail
 go_ret2
 exact⟨rfl,u1.low⟩
theorem abj {a b c d p q:BA}{r:Rat}(g:Nat)(w:World)(hg:Gl w)(hx:Bx w g #[ug])(s1:b.size<=999999)(s2:d.size<=999999)
 (KO:Hid (∀w,Gl w->Bx w g #[ug]->Calls prog 81 #[.string a,.string (dn b),.string c,.string (dn d),.pointer (some ⟨g,0,none⟩)] w fun e w'=>e= .returned (.tuple #[.string p,.string q])/\Below w.heap.size w w'))
 (KM:Ret 32 #[.string p,.string q] (FR r)):
 Calls prog 30 #[opV 81 g,FV a b,FV c d] w fun e w'=>e= .returned (FR r)/\Below w.heap.size w w':=by
 have hs:=St.refl hg;have K1:=dZ (n:=a) s1;have K2:=dZ (n:=c) s2;unfold FR at KM⊢
 unfold FV at K1 K2⊢
 unfold opV;generalize dn b=b' at*
 generalize dn d=d' at*
 generalize frN r=rn at*
 generalize frD r=rd at*
 go_enter func30,ntmps30
 go_wp2_with fail
 refine K1.step (((hs.alloc _).alloc _).alloc _) ?_;intro w1 hs hb;have hx1:=(((hx.alloc _).alloc _).alloc _).on hb;have B1:=((Bx.new1 w _ #[.string c,.string d] 26).alloc _).on hb;have B2:=(Bx.new2 w _ _ #[.string ⟨#[]⟩,.string ⟨#[]⟩] 26).on hb;have x0:=B1.c 0 (.string c) rfl;have x1:=B1.c 1 (.string d) rfl
 go_wp2_with fail
 refine K2.step hs ?_;intro w2 hs hb;have hx2:=hx1.on hb;have B3:=B2.on hb
 go_wp2_with fail
 refine(KO.o _ hs.gl hx2).mono ?_;rintro e w3 ⟨rfl,hb⟩;replace hs:=hs.on hb;have B4:=B3.on hb
 go_wp2_with fail
 refine KM.step hs ?_;intro w4 hs hb;have B5:=B4.on hb;have x2:=B5.c 0 (.string ⟨#[]⟩) rfl;have x3:=B5.c 1 (.string ⟨#[]⟩) rfl;have f2:=B5.frozen 0;have f3:=B5.frozen 1
 go_wp2_with fail
 have B6:=(B5.set 0 (.string rn)).set 1 (.string rd);have y0:=B6.c 0 (.string rn) rfl;have y1:=B6.c 1 (.string rd) rfl;have hs2:=(hs.set (b:=w.heap.size+2) (by omega) 0 (.string rn)).set (b:=w.heap.size+2) (by omega) 1 (.string rd);exact bodyPost_ret (v:=.agg #[.string rn,.string rd]) (by simp[results,results30,go_sem,y0,y1]) rfl ⟨rfl,hs2.2⟩
theorem ahu {a b c d:BA}{x y z u:Int}(ha:Vs a x)(hb:Vs b y)(hc:Vs c z)(hd:Vs d u)(g:Nat)(w:World)(hg:Gl w)(hx:Bx w g #[ug]):
 Calls prog 82 #[.string a,.string b,.string c,.string d,.pointer (some ⟨g,0,none⟩)] w fun e w'=>e= .returned (.tuple #[.string (ae (x*z)),.string (ae (y*u))])/\Below w.heap.size w w':=by
 have hs:=St.refl hg;have K1:=ajN ha hc;have K2:=ajN hb hd;generalize ae (x*z)=r1 at*
 generalize ae (y*u)=r2 at*
 have x0:=Kept.cell_of (hx.c 0 ug rfl);unfold ug at x0
 go_enter func82,ntmps82
 go_wp2_with fail
 refine ax (by kernel_rfl) (by kernel_rfl) ?_
 repeat (go_big_quiet_step (first|(with_reducible exact K1.kept hs)|(with_reducible exact K2.kept hs)))
 refine wpQuiet_nil ?_;rintro _ ⟨u1,rfl⟩
 go_wp2_with fail
 go_ret2
 exact⟨rfl,u1.low⟩
theorem abh {a b c d p q:BA}{r:Rat}(g:Nat)(w:World)(hg:Gl w)(hx:Bx w g #[ug])(s1:b.size<=999999)(s2:d.size<=999999)
 (KO:Hid (∀w,Gl w->Bx w g #[ug]->Calls prog 82 #[.string a,.string (dn b),.string c,.string (dn d),.pointer (some ⟨g,0,none⟩)] w fun e w'=>e= .returned (.tuple #[.string p,.string q])/\Below w.heap.size w w'))
 (KM:Ret 32 #[.string p,.string q] (FR r)):
 Calls prog 30 #[opV 82 g,FV a b,FV c d] w fun e w'=>e= .returned (FR r)/\Below w.heap.size w w':=by
 have hs:=St.refl hg;have K1:=dZ (n:=a) s1;have K2:=dZ (n:=c) s2;unfold FR at KM⊢
 unfold FV at K1 K2⊢
 unfold opV;generalize dn b=b' at*
 generalize dn d=d' at*
 generalize frN r=rn at*
 generalize frD r=rd at*
 go_enter func30,ntmps30
 go_wp2_with fail
 refine K1.step (((hs.alloc _).alloc _).alloc _) ?_;intro w1 hs hb;have hx1:=(((hx.alloc _).alloc _).alloc _).on hb;have B1:=((Bx.new1 w _ #[.string c,.string d] 26).alloc _).on hb;have B2:=(Bx.new2 w _ _ #[.string ⟨#[]⟩,.string ⟨#[]⟩] 26).on hb;have x0:=B1.c 0 (.string c) rfl;have x1:=B1.c 1 (.string d) rfl
 go_wp2_with fail
 refine K2.step hs ?_;intro w2 hs hb;have hx2:=hx1.on hb;have B3:=B2.on hb
 go_wp2_with fail
 refine(KO.o _ hs.gl hx2).mono ?_;rintro e w3 ⟨rfl,hb⟩;replace hs:=hs.on hb;have B4:=B3.on hb
 go_wp2_with fail
 refine KM.step hs ?_;intro w4 hs hb;have B5:=B4.on hb;have x2:=B5.c 0 (.string ⟨#[]⟩) rfl;have x3:=B5.c 1 (.string ⟨#[]⟩) rfl;have f2:=B5.frozen 0;have f3:=B5.frozen 1
 go_wp2_with fail
 have B6:=(B5.set 0 (.string rn)).set 1 (.string rd);have y0:=B6.c 0 (.string rn) rfl;have y1:=B6.c 1 (.string rd) rfl;have hs2:=(hs.set (b:=w.heap.size+2) (by omega) 0 (.string rn)).set (b:=w.heap.size+2) (by omega) 1 (.string rd);exact bodyPost_ret (v:=.agg #[.string rn,.string rd]) (by simp[results,results30,go_sem,y0,y1]) rfl ⟨rfl,hs2.2⟩
theorem akR {a b c d:BA}{x y z u:Int}(ha:Vs a x)(hb:Vs b y)(hc:Vs c z)(hd:Vs d u)(g:Nat)(w:World)(hg:Gl w)(hx:Bx w g #[ug]):
 Calls prog 83 #[.string a,.string b,.string c,.string d,.pointer (some ⟨g,0,none⟩)] w fun e w'=>e= .returned (.tuple #[.string (ae (x*u)),.string (ae (y*z))])/\Below w.heap.size w w':=by
 have hs:=St.refl hg;have K1:=ajN ha hd;have K2:=ajN hb hc;generalize ae (x*u)=r1 at*
 generalize ae (y*z)=r2 at*
 have x0:=Kept.cell_of (hx.c 0 ug rfl);unfold ug at x0
 go_enter func83,ntmps83
 go_wp2_with fail
 refine ax (by kernel_rfl) (by kernel_rfl) ?_
 repeat (go_big_quiet_step (first|(with_reducible exact K1.kept hs)|(with_reducible exact K2.kept hs)))
 refine wpQuiet_nil ?_;rintro _ ⟨u1,rfl⟩
 go_wp2_with fail
 go_ret2
 exact⟨rfl,u1.low⟩
theorem adN {a b c d p q:BA}{r:Rat}(g:Nat)(w:World)(hg:Gl w)(hx:Bx w g #[ug])(s1:b.size<=999999)(s2:d.size<=999999)
 (KO:Hid (∀w,Gl w->Bx w g #[ug]->Calls prog 83 #[.string a,.string (dn b),.string c,.string (dn d),.pointer (some ⟨g,0,none⟩)] w fun e w'=>e= .returned (.tuple #[.string p,.string q])/\Below w.heap.size w w'))
 (KM:Ret 32 #[.string p,.string q] (FR r)):
 Calls prog 30 #[opV 83 g,FV a b,FV c d] w fun e w'=>e= .returned (FR r)/\Below w.heap.size w w':=by
 have hs:=St.refl hg;have K1:=dZ (n:=a) s1;have K2:=dZ (n:=c) s2;unfold FR at KM⊢
 unfold FV at K1 K2⊢
 unfold opV;generalize dn b=b' at*
 generalize dn d=d' at*
 generalize frN r=rn at*
 generalize frD r=rd at*
 go_enter func30,ntmps30
 go_wp2_with fail
 refine K1.step (((hs.alloc _).alloc _).alloc _) ?_;intro w1 hs hb;have hx1:=(((hx.alloc _).alloc _).alloc _).on hb;have B1:=((Bx.new1 w _ #[.string c,.string d] 26).alloc _).on hb;have B2:=(Bx.new2 w _ _ #[.string ⟨#[]⟩,.string ⟨#[]⟩] 26).on hb;have x0:=B1.c 0 (.string c) rfl;have x1:=B1.c 1 (.string d) rfl
 go_wp2_with fail
 refine K2.step hs ?_;intro w2 hs hb;have hx2:=hx1.on hb;have B3:=B2.on hb
 go_wp2_with fail
 refine(KO.o _ hs.gl hx2).mono ?_;rintro e w3 ⟨rfl,hb⟩;replace hs:=hs.on hb;have B4:=B3.on hb
 go_wp2_with fail
 refine KM.step hs ?_;intro w4 hs hb;have B5:=B4.on hb;have x2:=B5.c 0 (.string ⟨#[]⟩) rfl;have x3:=B5.c 1 (.string ⟨#[]⟩) rfl;have f2:=B5.frozen 0;have f3:=B5.frozen 1
 go_wp2_with fail
 have B6:=(B5.set 0 (.string rn)).set 1 (.string rd);have y0:=B6.c 0 (.string rn) rfl;have y1:=B6.c 1 (.string rd) rfl;have hs2:=(hs.set (b:=w.heap.size+2) (by omega) 0 (.string rn)).set (b:=w.heap.size+2) (by omega) 1 (.string rd);exact bodyPost_ret (v:=.agg #[.string rn,.string rd]) (by simp[results,results30,go_sem,y0,y1]) rfl ⟨rfl,hs2.2⟩
end
end Go.Proofs.YtbkhnggmcheelaaGreatDoor
