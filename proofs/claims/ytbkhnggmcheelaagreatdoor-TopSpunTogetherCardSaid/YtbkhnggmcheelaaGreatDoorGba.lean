/- TopSpunTogether: Facts. Conditions: bounded sizes; variables as laid. -/
import Derived.Test.YtbkhnggmcheelaaGreatDoorGax
set_option linter.unusedSimpArgs false
set_option linter.unusedVariables false
set_option maxHeartbeats 4000000
set_option maxRecDepth 100000
namespace Go.Proofs.YtbkhnggmcheelaaGreatDoor
open Proofs.Tryz
section
open Go.RowKit Go.Shelf Dec QQ SP
attribute [local go_sem] Oper.semAt_some
attribute [-go_sem] loadVar storeVar
theorem lv_fk (t:TypeId)(_:t≠30)(_:t≠131)(a:Addr):loadVar t a=(do if<-isAgg t then pure (.agg (<-loadCells a (<-sizeOf t)))else load a):=rfl
theorem sv_fk (t:TypeId)(_:t≠131)(a:Addr)(v:Value):storeVar t a v=(do
 if v.cells.size≠(<-sizeOf t)then stuck "storeVar: the value has not the size of the variable"
 storeCells a v.cells.toList):=rfl
attribute [local go_sem] lv_fk sv_fk
theorem Bx.kind {w:World}{b:Nat}{cs:Array Value}(h:Bx w b cs)(hs:cs.size=17):(loadVar 131 ⟨b,0,none⟩).run prog w= .ok (.agg cs) w:=by
 have:=run_loadVar_mid (P:=prog) w b 0 131 cs.toList (prog.underlying 131).get! (fun j v hv=>by rw[am5];exact h.cell (by simpa using hv)) (by kernel_rfl) (by kernel_rfl) (by rw[Array.length_toList,hs];kernel_rfl);simpa using this
theorem TBx.storeK {w:World}{b:Nat}{cs cs':Array Value}{T:TypeId}(h:TBx w b cs T)(hs:cs.size=17)(hs':cs'.size=17)(h1:cs'.all (·.oneCell')=true):(storeVar 131 ⟨b,0,none⟩ (.agg cs')).run prog w= .ok () (w.setRow b cs'):=
 run_storeVar_row (P:=prog) w b T 131 cs cs' h (by rw[hs'];kernel_rfl) (by rw[hs,hs']) h1
def pQ (n i:Nat):Bool×Bool:=match (ksp n).lim.find? (fun x=>x.1==i)with
 |some x=>x.2
 |none=>(false,false)
theorem alh:((List.range 19).all fun n=>(List.range 10).all fun i=> !(decide (4<=i))||(!((ksp n).has.contains i)||(ksp n).lim.contains (i,pQ n i)))=true:=by decide
theorem alg {n i:Nat}(hn:n<19)(hi:i<10)(h4:4<=i)(hc:(ksp n).has.contains i=true):(i,pQ n i)∈(ksp n).lim :=by
 have h:=amU.1 (amU.1 alh n (List.mem_range.2 hn)) i (List.mem_range.2 hi);rw[am2 h4,hc]at h;exact List.contains_iff_mem.1 (by simpa using h)
def acb (f:Fct)(lp:List Pk)(lo:List Ot)(n i:Nat):Int:=bif (ksp n).has.contains i then cfE f lp lo (ksp n).code (pQ n i).1 (pQ n i).2 i else bif bX f i then 0 else 1
def oI (f:Fct)(lp:List Pk)(lo:List Ot)(n:Nat):Nat->Nat->Int
 |0,_=>0
 |m+1,i=>bif acb f lp lo n i !=0 then acb f lp lo n i else oI f lp lo n m (i+1)
def iy (f:Fct)(lp:List Pk)(lo:List Ot):Int:=
 bif !(aG f.key)then 23 else bif decide (f.st<0)then 2 else bif f.canc then(bif fC f then 0 else 1)else bif decide (f.day< -25567)||decide (84005<f.day)then 13 else
 bif decide (1<=f.kind)&&decide (f.kind<=18)then oI f lp lo f.kind.toNat 13 0 else 7
theorem alo (d:Knd)(mv:Value){i:Nat}(hi:i<13):(uh d mv)[2+i]? =some (.bool (d.h i)):=by
 rcases(by omega:i=0\/i=1\/i=2\/i=3\/i=4\/i=5\/i=6\/i=7\/i=8\/i=9\/i=10\/i=11\/i=12)with rfl|rfl|rfl|rfl|rfl|rfl|rfl|rfl|rfl|rfl|rfl|rfl|rfl<;>rfl
theorem afA (d:Knd){mv:Value}(h:mv.oneCell'=true):(uh d mv).all (·.oneCell')=true:=by
 simpa[uh,Value.oneCell']using h
theorem ahk {base:Nat}{w wx:World}{mv:Value}{i:Nat}{P Q:Bool}(h:LimB base w mv i P Q)(hb:Betw base w wx)(hs:w.heap.size<=wx.heap.size):tL wx mv i P Q:=by
 obtain⟨b1,b2,h1,h2,⟨⟨T1,h3⟩,⟨T2,h4⟩⟩,h5⟩:=h;refine⟨b1,b2,⟨⟨T1,(hb b1 h1 (amA.1 h3).1).trans h3⟩,⟨T2,(hb b2 h2 (amA.1 h4).1).trans h4⟩⟩,fun u hu=>h5 u fun k hk1 hk2=>?_⟩;exact(hu.block k (amS hk2 hs)).trans (hb k hk1 hk2)
end
section
open Go.RowKit Go.Shelf Dec QQ SP
abbrev aGt11 (x0 x1:BA)(x2 x3:Int)(x4 x5 x6:BA):Array Value:= #[.string x0,.string x1,.int .i64 x2,.int .i64 x3,.string x4,.string x5,.string x6]
theorem lL {a:BA}(h:a.size<=9223372036854775807):Ret 49 #[.string a] (.bool (decide (13<a.size))):=by
 intro w hg;have hs:=St.refl hg;have q:decide ((13:Int)<(a.size:Int))=decide (13<a.size):=by rw[ang];omega
 generalize decide (13<a.size)=v at*
 go_enter func49,ntmps49
 go_wp2_with fail
 go_ret
 exact⟨rfl,hs.2⟩
structure FnT where
 n:BA
 d:BA
def qA (s:FnT):List Value:=[.string s.n,.string s.d]
theorem zG (s:FnT):(qA s).length =2:=rfl
def nO (s:FnT):Bool:=decide (13<s.n.size)||decide (13<s.d.size)
theorem alk {A:Option Addr}{n c:Nat}{l:List FnT}(hn:l.length=n)(hm:n<=1000000)(hl:∀s∈l,s.n.size<=9223372036854775807/\s.d.size<=9223372036854775807):iO (fun w=>Row w A (av qA l)) 107 #[.slice A n c] (.bool (l.any nO)):=by
 intro w hg hi;have hs:=St.refl hg;have HN:=amy hn;have HI:=amy hi;have HL:=amy hl;obtain⟨v,hv⟩:=eX (l.any nO);rw[hv];have HV:=amy hv;clear hn hi hl hv
 go_enter func107,ntmps107
 go_wp2_with fail
 go_loopw [3] (fun s wr=>∃k:Nat,k<=n/\s= .int .i64 (k:Int)/\St w wr/\Hid (∀i,i<k->∀t,l[i]? =some t->nO t=false)) (fun s _=>(n-intOf s).toNat)
 case atStart=>exact⟨0,by omega,rfl,hs,fun i h=>by omega⟩
 case round=>
  obtain⟨k,hk,rfl,hs,HP⟩:=hrel;by_cases hkn:k=n
  ·subst hkn
   have q:decide ((k:Int)<(k:Int))=false:=am1 (by omega);have hv:v=false:=by
    rw[<-HV.o,List.any_eq_false];intro s hs;obtain⟨i,hi,rfl⟩:=List.mem_iff_getElem.1 hs;rw[HP.o i (by have:=HN.o;omega) _ (amB hi)];decide
   subst hv
   go_wp2_with fail
   go_ret
   exact⟨rfl,hs.2⟩
  ·have hkl:k<n:=by omega
   have q:decide ((k:Int)<(n:Int))=true:=am2 (by omega);have qn:decide (k<n)=true:=am2 hkl;obtain⟨d,hd⟩:∃d,l[k]? =some d:=⟨l[k]'(by rw[HN.o];exact hkl),by simp⟩;obtain⟨b,o,hA,hb,hcells⟩:=dV (cs:=qA) (m:=2) zG (by decide) (HI.o.on hs.2) hd;subst hA;have hz:=HL.o d (amI hd);have HD:=amy hd;clear hd hkn;obtain⟨f0,f1⟩:=d;have x0:wr.cell? ⟨b,o+k*2,none⟩=some (.string f0):=hcells 0 _ rfl;have x1:wr.cell? ⟨b,o+k*2+1,none⟩=some (.string f1):=hcells 1 _ rfl;clear hcells;dsimp only at hz;obtain⟨hz0,hz1⟩:=hz;obtain⟨t1,q1⟩:∃t,decide (13<f0.size)=t:=⟨_,rfl⟩;obtain⟨t2,q2⟩:∃t,decide (13<f1.size)=t:=⟨_,rfl⟩;have q1i:decide ((13:Int)<(f0.size:Int))=t1:=by rw[<-q1,ang];omega
   have q2i:decide ((13:Int)<(f1.size:Int))=t2:=by rw[<-q2,ang];omega
   have HLN:Hid (nO ⟨f0,f1⟩=(t1||t2)):=by
    show (decide (13<f0.size)||decide (13<f1.size))=_;rw[q1,q2]
   clear q1 q2;have yes:(t1||t2)=true->v=true:=fun h=>by
    rw[<-HV.o,List.any_eq_true];exact⟨_,amI HD.o,by rw[HLN.o];exact h⟩
   cases t1 with
   |true=>
    obtain rfl:v=true:=yes rfl;clear yes
    go_wp2_with fail
    go_ret
    exact⟨rfl,hs.2⟩
   |false=>
    cases t2 with
    |true=>
     obtain rfl:v=true:=yes rfl;clear yes
     go_wp2_with fail
     go_ret
     exact⟨rfl,hs.2⟩
    |false=>
     clear yes
     go_wp2_with fail
     go_roundw
     case rel=>
      refine⟨k+1,by omega,by go_num,hs,fun i hi t ht=>?_⟩;by_cases e:i=k
      ·subst e
       rw[HD.o]at ht;cases ht;exact HLN.o
      ·exact HP.o i (by omega) t ht
     case measure=>simp[intOf];omega
theorem gQ {s:FnT}(h:nO s=false):s.n.size<=13/\s.d.size<=13:=by
 unfold nO at h;simp at h;exact h
theorem kG {a b:BA}(ha:a.size<=9223372036854775807)(hb:b.size<=9223372036854775807):Ret 50 #[FV a b] (.bool (nO ⟨a,b⟩)):=by
 intro w hg;have hs:=(St.refl hg).alloc (.cells #[.string a,.string b] 26);have X:=Bx.new w #[.string a,.string b] 26;have x0:=X.c 0 (.string a) rfl;have x1:=X.c 1 (.string b) rfl;have Y:=Bx.new (w.alloc (.cells #[.string a,.string b] 26)) #[.string a,.string b] 26;rw[amD]at Y;have R:Hid (Row ((w.alloc (.cells #[.string a,.string b] 26)).alloc (.cells #[.string a,.string b] 26)) (some ⟨w.heap.size+1,0,none⟩) (av qA [⟨a,b⟩])):=Row.of Y;have K:=alk (A:=some ⟨w.heap.size+1,0,none⟩) (n:=1) (c:=1) (l:=[⟨a,b⟩]) rfl (by decide) (by intro s hs;simp at hs;subst hs;exact⟨ha,hb⟩);have e:([⟨a,b⟩]:List FnT).any nO=nO ⟨a,b⟩:=by simp
 rw[e]at K;generalize nO ⟨a,b⟩=v at*
 unfold FV;clear Y e ha hb
 go_enter func50,ntmps50
 go_wp2_with fail
 refine K.step (hs.alloc _) R.o ?_;intro w1 hs hb
 go_wp2_with fail
 go_ret
 exact⟨rfl,hs.2⟩
structure Lt.big (x:Lt):Prop where
 id:x.id.size<=9223372036854775807
 ins:x.ins.size<=9223372036854775807
 q:x.q.size<=9223372036854775807
 c:x.c.size<=9223372036854775807
 u:x.u.size<=9223372036854775807
def grL (x:Lt):Bool:=decide (13<x.q.size)||decide (13<x.c.size)||decide (13<x.u.size)||decide (40<x.id.size)||decide (40<x.ins.size)
theorem afL {x:Lt}(h:grL x=false):x.q.size<=13/\x.c.size<=13/\x.u.size<=13/\x.id.size<=40/\x.ins.size<=40:=by
 unfold grL at h;simp at h;omega
theorem alB {x:Lt}(hx:x.big):Ret 47 #[ltV x] (.bool (grL x)):=by
 intro w hg;have hE:grL x=(decide (13<x.q.size)||decide (13<x.c.size)||decide (13<x.u.size)||decide (40<x.id.size)||decide (40<x.ins.size)):=rfl;rw[hE];have K1:=lL hx.q;have K2:=lL hx.c;have K3:=lL hx.u;have q4i:decide ((40:Int)<(x.id.size:Int))=decide (40<x.id.size):=by rw[ang];omega
 have q5i:decide ((40:Int)<(x.ins.size:Int))=decide (40<x.ins.size):=by rw[ang];omega
 generalize decide (13<x.q.size)=t1 at*
 generalize decide (13<x.c.size)=t2 at*
 generalize decide (13<x.u.size)=t3 at*
 generalize decide (40<x.id.size)=t4 at*
 generalize decide (40<x.ins.size)=t5 at*
 clear hx hE;unfold ltV ltA;obtain⟨id,ins,acq,opn,q,c,u⟩:=x;dsimp only at*
 have hs:=(St.refl hg).alloc (.cells (aGt11 id ins acq opn q c u) 62);have HX:=amy (TBx.new w (aGt11 id ins acq opn q c u) 62);have x0:=HX.o.bx.c 0 (.string id) rfl;have x1:=HX.o.bx.c 1 (.string ins) rfl;have x4:=HX.o.bx.c 4 (.string q) rfl;have x5:=HX.o.bx.c 5 (.string c) rfl;have x6:=HX.o.bx.c 6 (.string u) rfl
 go_enter func47,ntmps47
 go_wp2_with fail
 refine K1.step hs ?_;intro wt1 hs hbt1;replace HX:=amy (HX.o.on hbt1);clear hbt1 K1;clear x0 x1 x4 x5 x6;have x0:=HX.o.bx.c 0 (.string id) rfl;have x1:=HX.o.bx.c 1 (.string ins) rfl;have x4:=HX.o.bx.c 4 (.string q) rfl;have x5:=HX.o.bx.c 5 (.string c) rfl;have x6:=HX.o.bx.c 6 (.string u) rfl;cases t1 with
 |true=>
  go_wp2_with fail
  go_ret
  exact⟨by simp,hs.2⟩
 |false=>
  go_wp2_with fail
  refine K2.step hs ?_;intro wt2 hs hbt2;replace HX:=amy (HX.o.on hbt2);clear hbt2 K2;clear x0 x1 x4 x5 x6;have x0:=HX.o.bx.c 0 (.string id) rfl;have x1:=HX.o.bx.c 1 (.string ins) rfl;have x4:=HX.o.bx.c 4 (.string q) rfl;have x5:=HX.o.bx.c 5 (.string c) rfl;have x6:=HX.o.bx.c 6 (.string u) rfl;cases t2 with
  |true=>
   go_wp2_with fail
   go_ret
   exact⟨by simp,hs.2⟩
  |false=>
   go_wp2_with fail
   refine K3.step hs ?_;intro wt3 hs hbt3;replace HX:=amy (HX.o.on hbt3);clear hbt3 K3;clear x0 x1 x4 x5 x6;have x0:=HX.o.bx.c 0 (.string id) rfl;have x1:=HX.o.bx.c 1 (.string ins) rfl;have x4:=HX.o.bx.c 4 (.string q) rfl;have x5:=HX.o.bx.c 5 (.string c) rfl;have x6:=HX.o.bx.c 6 (.string u) rfl;cases t3 with
   |true=>
    go_wp2_with fail
    go_ret
    exact⟨by simp,hs.2⟩
   |false=>
    cases t4 with
    |true=>
     go_wp2_with fail
     go_ret
     exact⟨by simp,hs.2⟩
    |false=>
     cases t5 with
     |true=>
      go_wp2_with fail
      go_ret
      exact⟨by simp,hs.2⟩
     |false=>
      go_wp2_with fail
      go_ret
      exact⟨by simp,hs.2⟩
def alA (n:Nat)(l:List Lt):Bool:=(decide (12<n)&&decide (n<999)||decide (1002<n))||l.any grL
theorem gr_any {A:Option Addr}{n c:Nat}{l:List Lt}(hn:l.length=n)(hm:n<=9223372036854775807)(hz:∀x∈l,x.big):iO (fun w=>Row w A (av aa l)) 15 #[.slice A n c] (.bool (alA n l)):=by
 intro w hg hi;have hs:=St.refl hg;have HN:=amy hn;have HI:=amy hi;have HZ:=amy hz;obtain⟨v,hv⟩:=eX (alA n l);rw[hv];have HV:Hid (((decide (12<n)&&decide (n<999)||decide (1002<n))||l.any grL)=v):=hv;clear hn hi hz hv
 go_enter func15,ntmps15
 have q1:decide ((12:Int)<(n:Int))=decide (12<n):=by rw[ang];omega
 have q2:decide ((n:Int)<999)=decide (n<999):=by rw[ang];omega
 have q3:decide ((1002:Int)<(n:Int))=decide (1002<n):=by rw[ang];omega
 obtain⟨b1,hb1⟩:∃b,decide (12<n)=b:=⟨_,rfl⟩;obtain⟨b2,hb2⟩:∃b,decide (n<999)=b:=⟨_,rfl⟩;obtain⟨b3,hb3⟩:∃b,decide (1002<n)=b:=⟨_,rfl⟩;rw[hb1]at q1;rw[hb2]at q2;rw[hb3]at q3;by_cases hbb:(b1&&b2||b3)=true
 case pos=>
  have hvt:v=true:=by rw[<-HV.o,hb1,hb2,hb3,hbb];rfl
  subst hvt;clear HV hb1 hb2 hb3;cases b1<;>cases b2<;>cases b3<;>first
   |exact absurd hbb (by decide)
   |(go_wp2_with fail
     go_ret
     exact⟨rfl,hs.2⟩)
 have hbf:(b1&&b2||b3)=false:=by simpa using hbb
 have HV2:Hid (l.any grL=v):=by show _=_;rw[<-HV.o,hb1,hb2,hb3,hbf];rfl
 clear HV hb1 hb2 hb3 hbb
 go_upto_region 1 with (fail)
 go_cut [16] (fun s16 wx=>s16= .bool false/\wx=w)
 case first=>
  clear HV2 HN HI HZ;cases b1<;>cases b2<;>cases b3<;>first
   |exact absurd hbf (by decide)
   |(go_wp2_with fail
     go_meet
     exact⟨rfl,rfl⟩)
 case rest=>
 obtain⟨rfl,rfl⟩:=hcut;clear q1 q2 q3 hbf
 go_wp2_with fail
 go_loopw [3] (fun s wr=>∃k:Nat,k<=n/\s= .int .i64 (k:Int)/\St wc wr/\Hid (∀i,i<k->∀t,l[i]? =some t->grL t=false)) (fun s _=>(n-intOf s).toNat)
 case atStart=>exact⟨0,by omega,rfl,hs,fun i h=>by omega⟩
 case round=>
  obtain⟨k,hk,rfl,hs,HP⟩:=hrel;by_cases hkn:k=n
  ·subst hkn
   have q:decide ((k:Int)<(k:Int))=false:=am1 (by omega);have hv:v=false:=by
    rw[<-HV2.o,List.any_eq_false];intro s hs;obtain⟨i,hi,rfl⟩:=List.mem_iff_getElem.1 hs;rw[HP.o i (by have:=HN.o;omega) _ (amB hi)];decide
   subst hv
   go_wp2_with fail
   go_ret
   exact⟨rfl,hs.2⟩
  ·have hkl:k<n:=by omega
   have q:decide ((k:Int)<(n:Int))=true:=am2 (by omega);have qn:decide (k<n)=true:=am2 hkl;obtain⟨d,hd⟩:∃d,l[k]? =some d:=⟨l[k]'(by rw[HN.o];exact hkl),by simp⟩;obtain⟨b,o,hA,hb,hcells⟩:=dV (cs:=aa) (m:=7) aJ (by decide) (HI.o.on hs.2) hd;subst hA;have K:=alB (HZ.o d (amI hd));have HD:=amy hd;clear hd hkn;obtain⟨t1,ht1⟩:∃t,grL d=t:=⟨_,rfl⟩;rw[ht1]at K;have HT:=amy ht1;clear ht1;unfold ltV ltA at K;obtain⟨id,ins,acq,opn,qq,c',u⟩:=d;obtain⟨x0,x1,x2,x3,x4,x5,x6⟩:=dI hcells;dsimp only at*
   clear hcells
   go_wp2_with fail
   refine K.step hs ?_;intro w2 hs hb2;clear K x0 x1 x2 x3 x4 x5 x6;cases t1 with
   |true=>
    obtain rfl:v=true:=by
     rw[<-HV2.o,List.any_eq_true];exact⟨_,amI HD.o,HT.o⟩
    go_wp2_with fail
    go_ret
    exact⟨rfl,hs.2⟩
   |false=>
    go_wp2_with fail
    go_roundw
    case rel=>
     refine⟨k+1,by omega,by go_num,hs,fun i hi t ht=>?_⟩;by_cases e:i=k
     ·subst e
      rw[HD.o]at ht;cases ht;exact HT.o
     ·exact HP.o i (by omega) t ht
    case measure=>simp[intOf];omega
end
end Go.Proofs.YtbkhnggmcheelaaGreatDoor
