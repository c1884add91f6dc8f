/- TopSpunTogether: Exchanges. Conditions: bounded sizes; variables as laid. -/
import Derived.Test.YtbkhnggmcheelaaGreatDoorGbc
set_option linter.unusedSimpArgs false
set_option linter.unusedVariables false
set_option maxHeartbeats 4000000
set_option maxRecDepth 100000
namespace Go.Proofs.YtbkhnggmcheelaaGreatDoor
open Proofs.Tryz
section
open Go.RowKit Go.Shelf Dec QQ SP
attribute [local go_sem] Oper.semAt_some
theorem abW (x:Lt):Ret 89 #[ltV x] (.string x.q):=by
 intro w hg;have hs:=(St.refl hg).alloc (.cells (ltA x) 62);have X:=Bx.new w (ltA x) 62;unfold ltV ltA at*
 have x4:=X.c 4 (.string x.q) rfl
 go_enter func89,ntmps89
 go_wp2_with fail
 go_ret
 exact⟨rfl,hs.2⟩
theorem aiu (x:Lt):Ret 91 #[ltV x] (.string x.c):=by
 intro w hg;have hs:=(St.refl hg).alloc (.cells (ltA x) 62);have X:=Bx.new w (ltA x) 62;unfold ltV ltA at*
 have x5:=X.c 5 (.string x.c) rfl
 go_enter func91,ntmps91
 go_wp2_with fail
 go_ret
 exact⟨rfl,hs.2⟩
def mdL (t:BA)(ws:List BA):List Int:=if t.toList== []then List.replicate ws.length 0 else dX t ws
theorem xz {A:Option Addr}{n c k0:Nat}{t:BA}{l:List Lt}{g:FuncId}{fl:Lt->BA}(hgf:g=89\/g=91)(HW:∀x:Lt,Ret g #[ltV x] (.string (fl x)))(hn:l.length=n)(h12:n<=1000)(hk0:k0<=4000)(ht:t.size<=k0)(hz:∀x∈l,(fl x).size <=k0)(w:World)(hg:Gl w)(hr:Row w A (av aa l)):
 Calls prog 90 #[.string t,.slice A n c,.func (.func g) #[] #[]] w fun e w'=>∃v,e= .returned v/\dw aO 24 1 w.heap.size w' v n (mdL t (l.map fl))/\Below w.heap.size w w':=by
 rcases hgf with rfl|rfl
 all_goals
  have hs:=St.refl hg;obtain⟨out,hout⟩:∃o,mdL t (l.map fl)=o:=⟨_,rfl⟩;rw[hout];have HOUT:=amy hout;have HN:=amy hn;have HR:=amy hr;have HWW:=amy HW;have HZ:Hid (∀s∈l.map fl,s.size<=k0):=fun s hs=>by
   obtain⟨x,hx,rfl⟩:=amN.1 hs;exact hz x hx
  have HG:=amy hg;have HO0:Hid (World.ownsRow w w.heap.size 24 1 (.slice none 0 0) 0 []):=World.ownsRow_nil _ _ _ _;obtain⟨i0,hi0,hz0,hz1,hz2⟩:=info_parts afG;have HM:∀u:World,(Instr.makeSlice 153 (.int .i64 (n:Int)) (.int .i64 (n:Int))).run prog u= .ok (.slice (some ⟨u.heap.size,0,none⟩) n n) (u.alloc (.cells (madeCells #[.string ⟨#[]⟩] n) 24)):=by
   intro u;have:=run_make u 153 24 i0 (.string ⟨#[]⟩) (by kernel_rfl) hi0 hz0 .i64 .i64 (n:Int) (n:Int) (by omega) (Int.le_refl _) (by rw[hz2];omega) (by omega);rw[anm,hz1,Nat.mul_one]at this;exact this
  have HMM:=amy HM;have Hi:=amy hi0;have Hz0:=amy hz0;have Hz1:=amy hz1;have Hz2:=amy hz2;clear hi0 hz0 hz1 hz2 hr hn hz HW HM hg hout
  go_enter func90,ntmps90
  go_wp2_with fail
  go_loopw [14,7] (fun s v wr=>∃k:Nat,k<=n/\s= .int .i64 (k:Int)/\(∃A1 n1 c1,v= .slice A1 n1 c1)/\St w wr/\Hid (World.ownsRow wr w.heap.size 24 1 v k ((l.take k).map fun x=>.string (fl x)))) (fun s _ _=>(n-intOf s).toNat)
  case atStart=>exact⟨0,by omega,rfl,⟨_,_,_,rfl⟩,hs,HO0⟩
  case round=>
   clear hs HO0;obtain⟨k,hk,rfl,⟨A1,n1,c1,rfl⟩,hs,HO⟩:=hrel;by_cases hkn:k=n
   ·replace hkn:=hkn.symm
    subst hkn;have q:decide ((n:Int)<(n:Int))=false:=am1 (by omega);have hrw:=iD HO.o;rw[amK (Nat.le_of_eq HN.o)]at hrw;have e9:=hrw.1.symm;replace hrw:=hrw.2;subst e9;have eq1:(l.map fun x=>(Value.string (fl x)))=(l.map fl).map sv:=by rw[List.map_map];rfl
    rw[eq1]at hrw;have hlw:(l.map fl).length =n:=by rw[am6];exact HN.o
    have HLW:=amy hlw;have HRW:=amy hrw;clear eq1 hrw hlw;generalize l.map fl=ws at*
    cases ht0:(t.toList== [])with
    |true=>
     have HM1:=HMM.o wr;obtain rfl:out=List.replicate n 0:=by rw[<-HOUT.o];unfold mdL;rw[if_pos ht0,HLW.o]
     go_wp2_with fail
     go_ret
     have:=vQ (w:=wr) (n:=n) (by omega);exact⟨.slice (some ⟨wr.heap.size,0,none⟩) n n,rfl,⟨this.1,aS this.2 hs.2.size⟩,(hs.alloc _).2⟩
    |false=>
     have HOU:Hid (dX t ws=out):=by show _=_;rw[<-HOUT.o];unfold mdL;rw[if_neg (by rw[ht0];decide)]
     have K:=amy (uw (A:=A1) (c:=c1) (n:=n) (k0:=k0) (t:=t) (ws:=ws) HLW.o (.inl h12) (by omega) hk0 ht HZ.o wr hs.gl HRW.o);have HLn:Hid ((tV (ah t) (iv ws)).length =n):=by show _=_;rw[dz,aQ,HLW.o]
     by_cases he:alE t ws=0
     ·have e0:out=tV (ah t) (iv ws):=by rw[<-HOU.o];unfold dX;rw[if_neg (by simp[he])]
      have e1:alS t ws=out:=by rw[e0];exact if_pos he
      rw[<-e0]at HLn;rw[he,e1]at K;clear he e0 e1 HRW HZ HMM
      go_wp2_with fail
      refine K.o.mono ?_;rintro e w1 ⟨v,rfl,ho,hb⟩;have hl:=ho.1;have HO:=amy ho;have HB:=amy hb;clear ho hb K
      go_wp2_with fail
      go_ret
      refine⟨v,rfl,⟨HLn.o,?_⟩,hs.2.trans (HB.o.mono hs.2.size)⟩;have:=HO.o.2;rw[HLn.o]at this;exact aS this hs.2.size
     ·have q:(alE t ws !=0)=true:=by simpa using he
      obtain rfl:out=List.replicate n 0:=by rw[<-HOU.o];unfold dX;rw[if_pos he,HLW.o]
      generalize alE t ws=ee at*
      generalize alS t ws=xs at*
      clear HRW HZ he
      go_wp2_with fail
      refine K.o.mono ?_;rintro e w1 ⟨v,rfl,ho,hb⟩;have HB:=amy hb;have HM1:=HMM.o w1;clear ho hb K
      go_wp2_with fail
      go_ret
      have:=vQ (w:=w1) (n:=n) (by omega);exact⟨.slice (some ⟨w1.heap.size,0,none⟩) n n,rfl,⟨this.1,aS this.2 (hs.2.trans (HB.o.mono hs.2.size)).size⟩,hs.2.trans ((HB.o.alloc HB.o.size _).mono hs.2.size)⟩
   ·have hkl:k<n:=by omega
    have q:decide ((k:Int)<(n:Int))=true:=am2 (by omega);have qn:decide (k<n)=true:=am2 hkl;obtain⟨x,hd⟩:∃d,l[k]? =some d:=⟨l[k]'(by rw[HN.o];exact hkl),by simp⟩;obtain⟨b,o,hA,hb,hcells⟩:=dV (cs:=aa) (m:=7) aJ (by decide) (HR.o.on hs.2) hd;obtain⟨x0,x1,x2,x3,x4,x5,x6⟩:=dI hcells;have HE:Hid ((l.take (k+1)).map (fun x=>(Value.string (fl x)))=(l.take k).map (fun x=>(Value.string (fl x)))++ [.string (fl x)]):=by
     show _=_;rw[ani,hd];simp
    have K:=HWW.o x;unfold ltV ltA at K;generalize hfx:fl x=fx at*
    generalize hxs:(l.take k).map (fun x=>(Value.string (fl x)))=xs at*
    subst hA;have hk4:k<=1000:=by omega
    have y:=(Bx.new wr #[.string x.id,.string x.ins,.int .i64 x.acq,.int .i64 x.opn,.string x.q,.string x.c,.string x.u] 62);have hs1:=hs.alloc (.cells #[.string x.id,.string x.ins,.int .i64 x.acq,.int .i64 x.opn,.string x.q,.string x.c,.string x.u] 62);have HO1:=amy (HO.o.alloc (.cells #[.string x.id,.string x.ins,.int .i64 x.acq,.int .i64 x.opn,.string x.q,.string x.c,.string x.u] 62));clear hd hkn hcells hfx hxs
    go_wp2_with fail
    refine K.step hs1 ?_;intro w2 hs2 hb2;have HO2:=amy (own_below HO1.o hb2);clear K x0 x1 x2 x3 x4 x5 x6 y hs1 HO1 hb2 HO;have hsz2:=hs2.2.size;have HRd:Hid (Reads (w2.alloc (.cells #[.string fx] 24)) (w2.alloc (.cells #[.string fx] 24)).heap.size 1 (some ⟨w2.heap.size,0,none⟩) 1 [.string fx]):=fD (Row.of (Bx.new w2 #[.string fx] 24)) rfl (by decide)
    go_wp2_with (at_builtin;refine aB _ rfl (.tmp 18) (.tmp 22) 153 rfl w.heap.size 24 i0 (.string ⟨#[]⟩) 1 16 (by kernel_rfl) Hi.o Hz0.o Hz1.o Hz2.o rfl (by omega) _ k xs rfl (HO2.o.alloc _) _ (some ⟨w2.heap.size,0,none⟩) 1 1 [.string fx] rfl HRd.o (by intro u hu;simp at hu;subst hu;rfl) (by unfold maxLen;omega) (by omega) (by simp;omega) ?_;intro v7 w7 hown7 hg7 _;obtain⟨A7,c7,rfl⟩:=bW hown7;have HO7:=amy hown7;have HG7:=amy hg7;clear hown7 hg7)
    go_roundw
    case rel=>
     have h0:=hs2.alloc (.cells #[.string fx] 24);have ho:=HO2.o.alloc (.cells #[.string fx] 24);refine⟨k+1,by omega,by go_num,⟨_,_,_,rfl⟩,⟨hs.1,h0.2.grown HG7.o h0.2.size (fE ho)⟩,?_⟩;rw[HE.o];exact HO7
    case measure=>simp[intOf];omega
structure Sh2 (w:World) (A:Option Addr) (n c:Nat) (ns ps:List Int) (bn bp:Nat) (An Ap:Option Addr) (cn cp:Nat) (W:World):Prop where
 low:Below w.heap.size w W
 xl:TBx W w.heap.size #[.slice A n c] 22
 xn:TBx W bn #[.slice An n cn] 153
 xp:TBx W bp #[.slice Ap n cp] 153
 rn:dw aO 24 1 w.heap.size W (.slice An n cn) n ns
 rp:dw aO 24 1 w.heap.size W (.slice Ap n cp) n ps
 hb:w.heap.size<bn/\w.heap.size<bp/\bn≠bp
theorem ael {w V:World}{A A1 A2:Option Addr}{n c c1 c2 p q:Nat}{ns ps:List Int}(low:Below w.heap.size w V)(xl:TBx V w.heap.size #[.slice A n c] 22)(P:TBx V p #[.slice none 0 0] 153)(Q:TBx V q #[.slice none 0 0] 153)(hp:w.heap.size<p)(hq:w.heap.size<q)(hne:p≠q)
 (o1:dw aO 24 1 w.heap.size V (.slice A1 n c1) n ns) (o2:dw aO 24 1 w.heap.size V (.slice A2 n c2) n ps):Sh2 w A n c ns ps p q A1 A2 c1 c2 ((V.setCell ⟨p,0,none⟩ (.slice A1 n c1)).setCell ⟨q,0,none⟩ (.slice A2 n c2)):=by
 have Q1:=Q.other (fun e=>hne e.symm) 0 (.slice A1 n c1);have kk:∀ {A3:Option Addr} {c3:Nat} {xs:List Int},dw aO 24 1 w.heap.size V (.slice A3 n c3) n xs->dw aO 24 1 w.heap.size ((V.setCell ⟨p,0,none⟩ (.slice A1 n c1)).setCell ⟨q,0,none⟩ (.slice A2 n c2)) (.slice A3 n c3) n xs:=fun h=>
  ⟨h.1,aP (aP h.2 P (fun cur e=>by injection e with _ e;revert e;decide) (aD _ _ _ _)) Q1 (fun cur e=>by injection e with _ e;revert e;decide) (aD _ _ _ _)⟩
 exact⟨(low.setCell (p:=⟨p,0,none⟩) (Nat.le_of_lt hp) _).setCell (p:=⟨q,0,none⟩) (Nat.le_of_lt hq) _,(xl.other (Nat.ne_of_lt hp) 0 _).other (Nat.ne_of_lt hq) 0 _,(P.set 0 _).other hne 0 _,Q1.set 0 _,kk o1,kk o2,hp,hq,hne⟩
theorem ad2 {V:World}{p q:Nat}(h:TBx V p #[.slice none 0 0] 153/\TBx V q #[.slice none 0 0] 153/\p≠q):V.cell? ⟨p,0,none⟩=some (.slice none 0 0)/\V.cell? ⟨q,0,none⟩=some (.slice none 0 0)/\V.frozen? ⟨p,0,none⟩=false/\V.frozen? ⟨q,0,none⟩=false/\
 (∀x,(V.setCell ⟨p,0,none⟩ x).cell? ⟨q,0,none⟩=some (.slice none 0 0))/\(∀x,(V.setCell ⟨q,0,none⟩ x).cell? ⟨p,0,none⟩=some (.slice none 0 0))/\(∀x,(V.setCell ⟨p,0,none⟩ x).frozen? ⟨q,0,none⟩=false)/\(∀x,(V.setCell ⟨q,0,none⟩ x).frozen? ⟨p,0,none⟩=false):=
 ⟨h.1.bx.cell rfl,h.2.1.bx.cell rfl,h.1.bx.frozen 0,h.2.1.bx.frozen 0,fun x=>(h.2.1.other (fun e=>h.2.2 e.symm) 0 x).bx.cell rfl,fun x=>(h.1.other h.2.2 0 x).bx.cell rfl,fun x=>(h.2.1.other (fun e=>h.2.2 e.symm) 0 x).bx.frozen 0,fun x=>(h.1.other h.2.2 0 x).bx.frozen 0⟩
theorem agS {V:World}{b p q:Nat}{v:Value}{T:TypeId}(h:TBx V b #[v] T)(hpq:TBx V p #[.slice none 0 0] 153/\TBx V q #[.slice none 0 0] 153/\p≠q)(hp:b≠p)(hq:b≠q):(∀x,(V.setCell ⟨p,0,none⟩ x).cell? ⟨b,0,none⟩=some v)/\(∀x,(V.setCell ⟨q,0,none⟩ x).cell? ⟨b,0,none⟩=some v)/\
 (∀x y,((V.setCell ⟨p,0,none⟩ x).setCell ⟨q,0,none⟩ y).cell? ⟨b,0,none⟩=some v)/\(∀x y,((V.setCell ⟨q,0,none⟩ x).setCell ⟨p,0,none⟩ y).cell? ⟨b,0,none⟩=some v):=
 ⟨fun x=>(h.other hp 0 x).bx.cell rfl,fun x=>(h.other hq 0 x).bx.cell rfl,fun x y=>((h.other hp 0 x).other hq 0 y).bx.cell rfl,fun x y=>((h.other hq 0 x).other hp 0 y).bx.cell rfl⟩
structure Sv (W0 w:World) (n:Nat) (ns ps:List Int) (A1 A2:Option Addr) (c1 c2:Nat) (V:World):Prop where
 low:Below W0.heap.size W0 V
 o1:dw aO 24 1 w.heap.size V (.slice A1 n c1) n ns
 o2:dw aO 24 1 w.heap.size V (.slice A2 n c2) n ps
theorem Sv.alloc {W0 w V:World}{n c1 c2:Nat}{ns ps:List Int}{A1 A2:Option Addr}(h:Sv W0 w n ns ps A1 A2 c1 c2 V)(o:Obj):Sv W0 w n ns ps A1 A2 c1 c2 (V.alloc o):=⟨h.low.alloc h.low.size o,⟨h.o1.1,h.o1.2.alloc o⟩,⟨h.o2.1,h.o2.2.alloc o⟩⟩
theorem aaT {B:World}{b p:Nat}{v:Value}{T:TypeId}(hP:TBx B p #[.slice none 0 0] 153)(hX:TBx B b #[v] T)(hne:b≠p):(∀x,(B.alloc (.cells #[x] 153)).cell? ⟨p,0,none⟩=some (.slice none 0 0))/\(∀x,(B.alloc (.cells #[x] 153)).frozen? ⟨p,0,none⟩=false)/\(∀x,(B.alloc (.cells #[x] 153)).cell? ⟨b,0,none⟩=some v)/\
 (∀x y,((B.alloc (.cells #[x] 153)).setCell ⟨p,0,none⟩ y).cell? ⟨b,0,none⟩=some v):=
 ⟨fun x=>(hP.alloc _).bx.cell rfl,fun x=>(hP.alloc _).bx.frozen 0,fun x=>(hX.alloc _).bx.cell rfl,fun x y=>((hX.alloc _).other hne 0 y).bx.cell rfl⟩
theorem TBx.new1 (w:World)(o:Obj)(cs:Array Value)(T:TypeId):TBx ((w.alloc o).alloc (.cells cs T)) (w.heap.size+1) cs T:=by have:=TBx.new (w.alloc o) cs T;rwa[amD]at this
theorem aek {w B:World}{A A1 A2:Option Addr}{n c c1 c2:Nat}{ns ps:List Int}(low:Below w.heap.size w B)(xl:TBx B w.heap.size #[.slice A n c] 22)(o1:dw aO 24 1 w.heap.size B (.slice A1 n c1) n ns)(o2:dw aO 24 1 w.heap.size B (.slice A2 n c2) n ps):
 Sh2 w A n c ns ps B.heap.size (B.heap.size+1) A1 A2 c1 c2 ((B.alloc (.cells #[.slice A1 n c1] 153)).alloc (.cells #[.slice A2 n c2] 153))/\Sh2 w A n c ns ps (B.heap.size+1) B.heap.size A1 A2 c1 c2 ((B.alloc (.cells #[.slice A2 n c2] 153)).alloc (.cells #[.slice A1 n c1] 153)):=by
 have hl:=xl.bx.lt;have lo:∀o o':Obj,Below w.heap.size w ((B.alloc o).alloc o'):=fun o o'=>(low.alloc low.size o).alloc (low.alloc low.size o).size o'
 exact⟨⟨lo _ _,(xl.alloc _).alloc _,(TBx.new B _ _).alloc _,TBx.new1 _ _ _ _,⟨o1.1,(o1.2.alloc _).alloc _⟩,⟨o2.1,(o2.2.alloc _).alloc _⟩,hl,by omega,by omega⟩,⟨lo _ _,(xl.alloc _).alloc _,TBx.new1 _ _ _ _,(TBx.new B _ _).alloc _,⟨o1.1,(o1.2.alloc _).alloc _⟩,⟨o2.1,(o2.2.alloc _).alloc _⟩,by omega,hl,by omega⟩⟩
theorem ahM {w B:World}{A A1 A2:Option Addr}{n c c1 c2 p:Nat}{ns ps:List Int}(low:Below w.heap.size w B)(xl:TBx B w.heap.size #[.slice A n c] 22)(P:TBx B p #[.slice none 0 0] 153)(hp:w.heap.size<p)
 (o1:dw aO 24 1 w.heap.size B (.slice A1 n c1) n ns) (o2:dw aO 24 1 w.heap.size B (.slice A2 n c2) n ps):Sh2 w A n c ns ps B.heap.size p A1 A2 c1 c2 ((B.alloc (.cells #[.slice A1 n c1] 153)).setCell ⟨p,0,none⟩ (.slice A2 n c2)):=by
 have hl:=xl.bx.lt;have hl2:=P.bx.lt;have kk:∀ {A3:Option Addr} {c3:Nat} {xs:List Int},dw aO 24 1 w.heap.size B (.slice A3 n c3) n xs->dw aO 24 1 w.heap.size ((B.alloc (.cells #[.slice A1 n c1] 153)).setCell ⟨p,0,none⟩ (.slice A2 n c2)) (.slice A3 n c3) n xs:=fun h=>
  ⟨h.1,aP (h.2.alloc _) (P.alloc _) (fun cur e=>by injection e with _ e;revert e;decide) (aD _ _ _ _)⟩
 exact⟨(low.alloc low.size _).setCell (p:=⟨p,0,none⟩) (Nat.le_of_lt hp) _,(xl.alloc _).other (Nat.ne_of_lt hp) 0 _,(TBx.new B _ _).other (by omega) 0 _,(P.alloc _).set 0 _,kk o1,kk o2,by omega,hp,by omega⟩
structure ShW (w:World) (A:Option Addr) (n c:Nat) (ns ps ks:List Int) (bl bn bp bk:Nat) (An Ap Ak:Option Addr) (cn cp ck:Nat) (W:World):Prop where
 low:Below w.heap.size w W
 xl:TBx W bl #[.slice A n c] 22
 xn:TBx W bn #[.slice An n cn] 153
 xp:TBx W bp #[.slice Ap n cp] 153
 xk:TBx W bk #[.slice Ak n ck] 153
 rn:dw aO 24 1 w.heap.size W (.slice An n cn) n ns
 rp:dw aO 24 1 w.heap.size W (.slice Ap n cp) n ps
 rk:dw aO 24 1 w.heap.size W (.slice Ak n ck) n ks
theorem aaM {A:Option Addr}{n c k0:Nat}{t1 t2 t3:BA}{l:List Lt}(hn:l.length=n)(h12:n<=1000)(hk0:k0<=4000)(ht1:t1.size<=k0)(ht2:t2.size<=k0)(ht3:t3.size<=k0)(hzq:∀x∈l,x.q.size<=k0)(hzc:∀x∈l,x.c.size<=k0)(w:World)(hg:Gl w)(hr:Row w A (av aa l)):
 Calls prog 38 #[.slice A n c,.string t1,.string t2,.string t3] w fun e w'=>∃bl bn bp bk An Ap Ak cn cp ck,e= .returned (.func (.func 92) #[] #[.pointer (some ⟨bl,0,none⟩),.pointer (some ⟨bn,0,none⟩),.pointer (some ⟨bp,0,none⟩),.pointer (some ⟨bk,0,none⟩)])/\ShW w A n c (mdL t1 (l.map (·.q))) (mdL t2 (l.map (·.q))) (mdL t3 (l.map (·.c))) bl bn bp bk An Ap Ak cn cp ck w':=by
 have hs:=(St.refl hg).alloc (.cells #[.slice A n c] 22);have X:=TBx.new w #[.slice A n c] 22;have HR:=amy hr;have HD1:=amy (fun v hgv hrv=>xz (A:=A) (n:=n) (c:=c) (k0:=k0) (t:=t1) (l:=l) (.inl rfl) abW hn h12 hk0 ht1 hzq v hgv hrv);have HD2:=amy (fun v hgv hrv=>xz (A:=A) (n:=n) (c:=c) (k0:=k0) (t:=t2) (l:=l) (.inl rfl) abW hn h12 hk0 ht2 hzq v hgv hrv);have HD3:=amy (fun v hgv hrv=>xz (A:=A) (n:=n) (c:=c) (k0:=k0) (t:=t3) (l:=l) (.inr rfl) aiu hn h12 hk0 ht3 hzc v hgv hrv);generalize mdL t1 (l.map (·.q))=ns at*
 generalize mdL t2 (l.map (·.q))=ps at*
 generalize mdL t3 (l.map (·.c))=ks at*
 have HX:=amy X;clear hn hzq hzc ht1 ht2 ht3 hr X hg
 go_enter func38,ntmps38
 go_wp2_with fail
 obtain⟨W0,hW0⟩:=eX (w.alloc (.cells #[.slice A n c] 22));have hsz0:w.heap.size<W0.heap.size:=by rw[<-hW0];simp
 rw[hW0]at hs HX⊢
 have HS0:=amy hs;have HSZ:=amy hsz0;have HGR:Hid (∀v,Below W0.heap.size W0 v->Gl v/\Row v A (av aa l)/\v.cell? ⟨w.heap.size,0,none⟩=some (.slice A n c)):=fun v hv=>⟨HS0.o.gl.below hv,HR.o.on (HS0.o.2.trans (hv.mono HS0.o.2.size)),(HX.o.on hv).bx.cell (i:=0) rfl⟩
 have BL0:Hid (Below W0.heap.size W0 W0.drew):=(am3 _ _).drew;have BL0a:Hid (Below W0.heap.size W0 (W0.alloc (.cells #[.slice none 0 0] 153)).drew):=anp.drew;have BL0b:Hid (Below W0.heap.size W0 ((W0.alloc (.cells #[.slice none 0 0] 153)).alloc (.cells #[.slice none 0 0] 153)).drew):=(anp.alloc ((am3 _ W0).alloc ano _).size _).drew;clear hW0 hs
 go_cut [10,11] (fun s10 s11 wx=>∃bn bp An Ap cn cp,s10= .pointer (some ⟨bn,0,none⟩)/\s11= .pointer (some ⟨bp,0,none⟩)/\Hid (Sh2 w A n c ns ps bn bp An Ap cn cp wx))
 case first=>
  clear HD3
  go_region_held3 (fun v=>v.cell? ⟨w.heap.size,0,none⟩=some (.slice A n c))
   (first
    |with_reducible exact(HGR.o _ BL0.o).2.2
    |with_reducible exact(HGR.o _ BL0a.o).2.2
    |with_reducible exact(HGR.o _ BL0b.o).2.2
    |with_reducible exact(HGR.o _ BL1.o).2.2
    |with_reducible exact(HGR.o _ (BL1.o.alloc BL1.o.size _)).2.2
    |with_reducible exact(HGR.o _ ((BL1.o.alloc BL1.o.size _).alloc (BL1.o.alloc BL1.o.size _).size _)).2.2
    |with_reducible exact(HGR.o _ BL2.o).2.2
    |with_reducible exact(HGR.o _ (BL2.o.alloc BL2.o.size _)).2.2
    |with_reducible exact(HGR.o _ ((BL2.o.alloc BL2.o.size _).alloc (BL2.o.alloc BL2.o.size _).size _)).2.2
    |exact k1 _
    |exact k2 _
    |exact k3 _ _
    |exact k4 _ _
    |exact l3 _
    |exact l4 _ _
    |fail)
   (first
    |(go_at_call 90;(with_reducible refine(HD1.o W0.drew (HGR.o _ (BL0.o)).1 (HGR.o _ (BL0.o)).2.1).mono ?_);rintro e w1 ⟨v1,rfl,ho1,hb1⟩;obtain⟨A1,c1,rfl⟩:=bW ho1.2;have BL1:Hid (Below W0.heap.size W0 w1):=(BL0.o).trans (hb1.mono (BL0.o).size);have HO1:=amy (show dw aO 24 1 w.heap.size w1 _ n ns from⟨ho1.1,aS ho1.2 (amG (Nat.le_of_lt HSZ.o) (BL0.o).size)⟩);clear ho1 hb1)
    |(go_at_call 90;(with_reducible refine(HD1.o (W0.alloc (.cells #[.slice none 0 0] 153)).drew (HGR.o _ (BL0a.o)).1 (HGR.o _ (BL0a.o)).2.1).mono ?_);rintro e w1 ⟨v1,rfl,ho1,hb1⟩;obtain⟨A1,c1,rfl⟩:=bW ho1.2;have BL1:Hid (Below W0.heap.size W0 w1):=(BL0a.o).trans (hb1.mono (BL0a.o).size);have HO1:=amy (show dw aO 24 1 w.heap.size w1 _ n ns from⟨ho1.1,aS ho1.2 (amG (Nat.le_of_lt HSZ.o) (BL0a.o).size)⟩);have T1:Hid (TBx w1 W0.heap.size #[.slice none 0 0] 153):=(show TBx (W0.alloc (.cells #[.slice none 0 0] 153)).drew W0.heap.size #[.slice none 0 0] 153 from TBx.new W0 #[.slice none 0 0] 153).on hb1;clear ho1 hb1)
    |(go_at_call 90;(with_reducible refine(HD1.o ((W0.alloc (.cells #[.slice none 0 0] 153)).alloc (.cells #[.slice none 0 0] 153)).drew (HGR.o _ (BL0b.o)).1 (HGR.o _ (BL0b.o)).2.1).mono ?_);rintro e w1 ⟨v1,rfl,ho1,hb1⟩;obtain⟨A1,c1,rfl⟩:=bW ho1.2;have BL1:Hid (Below W0.heap.size W0 w1):=(BL0b.o).trans (hb1.mono (BL0b.o).size);have HO1:=amy (show dw aO 24 1 w.heap.size w1 _ n ns from⟨ho1.1,aS ho1.2 (amG (Nat.le_of_lt HSZ.o) (BL0b.o).size)⟩);have T1:Hid (TBx w1 W0.heap.size #[.slice none 0 0] 153):=(show TBx ((W0.alloc (.cells #[.slice none 0 0] 153)).alloc (.cells #[.slice none 0 0] 153)).drew W0.heap.size #[.slice none 0 0] 153 from(TBx.new W0 #[.slice none 0 0] 153).alloc _).on hb1;have T2:Hid (TBx w1 (W0.heap.size+1) #[.slice none 0 0] 153):=(show TBx ((W0.alloc (.cells #[.slice none 0 0] 153)).alloc (.cells #[.slice none 0 0] 153)).drew (W0.heap.size+1) #[.slice none 0 0] 153 from TBx.new1 W0 (.cells #[.slice none 0 0] 153) #[.slice none 0 0] 153).on hb1;clear ho1 hb1)
    |(go_at_call 90;(with_reducible refine(HD2.o w1 (HGR.o _ (BL1.o)).1 (HGR.o _ (BL1.o)).2.1).mono ?_);rintro e w2 ⟨v2,rfl,ho2,hb2⟩;obtain⟨A2,c2,rfl⟩:=bW ho2.2;have BL2:Hid (Below W0.heap.size W0 w2):=(BL1.o).trans (hb2.mono (BL1.o).size);have HV0:Sv W0 w n ns ps A1 A2 c1 c2 w2:=⟨BL2.o,⟨HO1.o.1,own_below HO1.o.2 hb2⟩,⟨ho2.1,aS ho2.2 (amG (Nat.le_of_lt HSZ.o) (BL1.o).size)⟩⟩;(first|(have HPQ:Hid (TBx w2 W0.heap.size #[.slice none 0 0] 153/\TBx w2 (W0.heap.size+1) #[.slice none 0 0] 153/\W0.heap.size≠(W0.heap.size+1)):=⟨T1.o.on hb2,T2.o.on hb2,by omega⟩;have HV:=amy (HV0))|(have HPQ:Hid (TBx (w2.alloc (.cells #[.slice none 0 0] 153)) W0.heap.size #[.slice none 0 0] 153/\TBx (w2.alloc (.cells #[.slice none 0 0] 153)) w2.heap.size #[.slice none 0 0] 153/\W0.heap.size≠w2.heap.size):=⟨(T1.o.on hb2).alloc _,TBx.new w2 #[.slice none 0 0] 153,by have:=(T1.o.on hb2).bx.lt;omega⟩;have HV:=amy (HV0.alloc (.cells #[.slice none 0 0] 153));have HVC:=amy HV0;have HVB:=amy (HV0);have HPB:Hid (TBx _ W0.heap.size #[.slice none 0 0] 153):=T1.o.on hb2;obtain⟨l1,l2,l3,l4⟩:=aaT HPB.o (HX.o.on HVB.o.low) (by have:=HSZ.o;have:=BL1.o.size;have:=BL2.o.size;omega))|(have HPQ:Hid (TBx ((w2.alloc (.cells #[.slice none 0 0] 153)).alloc (.cells #[.slice none 0 0] 153)) w2.heap.size #[.slice none 0 0] 153/\TBx ((w2.alloc (.cells #[.slice none 0 0] 153)).alloc (.cells #[.slice none 0 0] 153)) (w2.heap.size+1) #[.slice none 0 0] 153/\w2.heap.size≠(w2.heap.size+1)):=⟨(TBx.new w2 #[.slice none 0 0] 153).alloc _,TBx.new1 w2 (.cells #[.slice none 0 0] 153) #[.slice none 0 0] 153,by omega⟩;have HV:=amy ((HV0.alloc (.cells #[.slice none 0 0] 153)).alloc (.cells #[.slice none 0 0] 153));have HVC:=amy HV0;have HVB:=amy (HV0.alloc (.cells #[.slice none 0 0] 153));have HPB:Hid (TBx _ w2.heap.size #[.slice none 0 0] 153):=TBx.new w2 #[.slice none 0 0] 153;obtain⟨l1,l2,l3,l4⟩:=aaT HPB.o (HX.o.on HVB.o.low) (by have:=HSZ.o;have:=BL1.o.size;have:=BL2.o.size;omega))|fail);obtain⟨e1,e2,e3,e4,e5,e6,e7,e8⟩:=ad2 HPQ.o;obtain⟨k1,k2,k3,k4⟩:=agS (HX.o.on HV.o.low) HPQ.o (by have:=HSZ.o;have:=BL1.o.size;have:=BL2.o.size;omega) (by have:=HSZ.o;have:=BL1.o.size;have:=BL2.o.size;omega);clear HV0 ho2 hb2)
    |(go_at_call 90;(with_reducible refine(HD2.o (w1.alloc (.cells #[.slice none 0 0] 153)) (HGR.o _ (BL1.o.alloc BL1.o.size _)).1 (HGR.o _ (BL1.o.alloc BL1.o.size _)).2.1).mono ?_);rintro e w2 ⟨v2,rfl,ho2,hb2⟩;obtain⟨A2,c2,rfl⟩:=bW ho2.2;have BL2:Hid (Below W0.heap.size W0 w2):=(BL1.o.alloc BL1.o.size _).trans (hb2.mono (BL1.o.alloc BL1.o.size _).size);have HV0:Sv W0 w n ns ps A1 A2 c1 c2 w2:=⟨BL2.o,⟨HO1.o.1,own_below (HO1.o.2.alloc _) hb2⟩,⟨ho2.1,aS ho2.2 (amG (Nat.le_of_lt HSZ.o) (BL1.o.alloc BL1.o.size _).size)⟩⟩;(first|(have HPQ:Hid (TBx w2 W0.heap.size #[.slice none 0 0] 153/\TBx w2 w1.heap.size #[.slice none 0 0] 153/\W0.heap.size≠w1.heap.size):=⟨(T1.o.alloc _).on hb2,(TBx.new w1 #[.slice none 0 0] 153).on hb2,by have:=T1.o.bx.lt;omega⟩;have HV:=amy (HV0))|(have HPQ:Hid (TBx (w2.alloc (.cells #[.slice none 0 0] 153)) w1.heap.size #[.slice none 0 0] 153/\TBx (w2.alloc (.cells #[.slice none 0 0] 153)) w2.heap.size #[.slice none 0 0] 153/\w1.heap.size≠w2.heap.size):=⟨((TBx.new w1 #[.slice none 0 0] 153).on hb2).alloc _,TBx.new w2 #[.slice none 0 0] 153,by have:=((TBx.new w1 #[.slice none 0 0] 153).on hb2).bx.lt;omega⟩;have HV:=amy (HV0.alloc (.cells #[.slice none 0 0] 153));have HVC:=amy HV0;have HVB:=amy (HV0);have HPB:Hid (TBx _ w1.heap.size #[.slice none 0 0] 153):=(TBx.new w1 #[.slice none 0 0] 153).on hb2;obtain⟨l1,l2,l3,l4⟩:=aaT HPB.o (HX.o.on HVB.o.low) (by have:=HSZ.o;have:=BL1.o.size;have:=BL2.o.size;omega))|fail);obtain⟨e1,e2,e3,e4,e5,e6,e7,e8⟩:=ad2 HPQ.o;obtain⟨k1,k2,k3,k4⟩:=agS (HX.o.on HV.o.low) HPQ.o (by have:=HSZ.o;have:=BL1.o.size;have:=BL2.o.size;omega) (by have:=HSZ.o;have:=BL1.o.size;have:=BL2.o.size;omega);clear HV0 ho2 hb2)
    |(go_at_call 90;(with_reducible refine(HD2.o ((w1.alloc (.cells #[.slice none 0 0] 153)).alloc (.cells #[.slice none 0 0] 153)) (HGR.o _ ((BL1.o.alloc BL1.o.size _).alloc (BL1.o.alloc BL1.o.size _).size _)).1 (HGR.o _ ((BL1.o.alloc BL1.o.size _).alloc (BL1.o.alloc BL1.o.size _).size _)).2.1).mono ?_);rintro e w2 ⟨v2,rfl,ho2,hb2⟩;obtain⟨A2,c2,rfl⟩:=bW ho2.2;have BL2:Hid (Below W0.heap.size W0 w2):=((BL1.o.alloc BL1.o.size _).alloc (BL1.o.alloc BL1.o.size _).size _).trans (hb2.mono ((BL1.o.alloc BL1.o.size _).alloc (BL1.o.alloc BL1.o.size _).size _).size);have HV0:Sv W0 w n ns ps A1 A2 c1 c2 w2:=⟨BL2.o,⟨HO1.o.1,own_below ((HO1.o.2.alloc _).alloc _) hb2⟩,⟨ho2.1,aS ho2.2 (amG (Nat.le_of_lt HSZ.o) ((BL1.o.alloc BL1.o.size _).alloc (BL1.o.alloc BL1.o.size _).size _).size)⟩⟩;(first|(have HPQ:Hid (TBx w2 w1.heap.size #[.slice none 0 0] 153/\TBx w2 (w1.heap.size+1) #[.slice none 0 0] 153/\w1.heap.size≠(w1.heap.size+1)):=⟨((TBx.new w1 #[.slice none 0 0] 153).alloc _).on hb2,(TBx.new1 w1 (.cells #[.slice none 0 0] 153) #[.slice none 0 0] 153).on hb2,by omega⟩;have HV:=amy (HV0))|fail);obtain⟨e1,e2,e3,e4,e5,e6,e7,e8⟩:=ad2 HPQ.o;obtain⟨k1,k2,k3,k4⟩:=agS (HX.o.on HV.o.low) HPQ.o (by have:=HSZ.o;have:=BL1.o.size;have:=BL2.o.size;omega) (by have:=HSZ.o;have:=BL1.o.size;have:=BL2.o.size;omega);clear HV0 ho2 hb2)
    |fail)
  all_goals
   go_wp2_with fail
   go_meet
   refine⟨_,_,A1,A2,c1,c2,rfl,rfl,?_⟩;have hlow:=HS0.o.2.trans (HV.o.low.mono HS0.o.2.size);have hxl:=HX.o.on HV.o.low;have hl1:=HPQ.o.1.bx.lt
   first
    |exact ael hlow hxl HPQ.o.1 HPQ.o.2.1 (by have:=HSZ.o;have:=BL2.o.size;have:=BL1.o.size;omega) (by have:=HSZ.o;have:=BL2.o.size;have:=BL1.o.size;omega) HPQ.o.2.2 HV.o.o1 HV.o.o2
    |exact ahM (HS0.o.2.trans (HVB.o.low.mono HS0.o.2.size)) (HX.o.on HVB.o.low) HPB.o (by have:=HSZ.o;have:=BL2.o.size;have:=BL1.o.size;omega) HVB.o.o1 HVB.o.o2
    |exact(aek (HS0.o.2.trans (HVC.o.low.mono HS0.o.2.size)) (HX.o.on HVC.o.low) HVC.o.o1 HVC.o.o2).1
    |exact(aek (HS0.o.2.trans (HVC.o.low.mono HS0.o.2.size)) (HX.o.on HVC.o.low) HVC.o.o1 HVC.o.o2).2
    |exact ael hlow hxl HPQ.o.2.1 HPQ.o.1 (by have:=HSZ.o;have:=BL2.o.size;have:=BL1.o.size;omega) (by have:=HSZ.o;have:=BL2.o.size;have:=BL1.o.size;omega) (fun e=>HPQ.o.2.2 e.symm) HV.o.o1 HV.o.o2
 case rest=>
  obtain⟨bn,bp,An,Ap,cn,cp,rfl,rfl,H⟩:=hcut;have hsc:St w wc:=⟨HS0.o.1,H.o.low⟩;have x0:=H.o.xl.bx.c 0 (.slice A n c) rfl;have KD:=HD3.o wc hsc.gl (HR.o.on H.o.low);clear HD1 HD2 HD3 HGR BL0 BL0a BL0b HX HS0 HSZ hsz0
  go_wp2_with fail
  refine KD.mono ?_;rintro e w3 ⟨v3,rfl,ho3,hb3⟩;obtain⟨Ak,ck,rfl⟩:=bW ho3.2;have HO3:=amy ho3;have HB3:=amy hb3;clear KD x0 ho3 hb3
  go_wp2_with fail
  go_ret
  have hl:=H.o.low.trans (HB3.o.mono H.o.low.size);exact⟨w.heap.size,bn,bp,w3.heap.size,An,Ap,Ak,cn,cp,ck,rfl,hl.alloc hl.size _,(H.o.xl.on HB3.o).alloc _,(H.o.xn.on HB3.o).alloc _,(H.o.xp.on HB3.o).alloc _,TBx.new _ _ _,⟨H.o.rn.1,(own_below H.o.rn.2 HB3.o).alloc _⟩,⟨H.o.rp.1,(own_below H.o.rp.2 HB3.o).alloc _⟩,⟨HO3.o.1,(aS HO3.o.2 H.o.low.size).alloc _⟩⟩
end
section
open Go.RowKit Go.Shelf Dec QQ SP
theorem tY {I:BA}{l L:List Lt}{x:Lt}(h:vM l x L)(hx:x.ins≠I):ak I L=ak I l:=by
 obtain⟨k,hk,rfl,hd⟩:=h;have hxx:eqB x.ins I=false:=by
  cases e:eqB x.ins I with
  |false=>rfl
  |true=>exact absurd (dH.1 e) hx
 unfold jm ak;rw[List.filter_append,List.filter_append,show [x].filter (fun y=>eqB y.ins I)=[]by simp[hxx],List.nil_append, <-List.filter_append,List.take_append_drop]
theorem OpnAll.other {I:BA}{L xs M:List Lt}(h:OpnAll L xs M)(hx:∀x∈xs,x.ins≠I):ak I M=ak I L:=by
 induction h with
 |nil=>rfl
 |snoc _ _ ho ih=>rw[tY ho (hx _ (by simp)),ih (fun y hy=>hx y (by simp[hy]))]
theorem OpnAll.okS {L xs M:List Lt}(h:OpnAll L xs M)(hx:xs≠ []):aN M=0:=by
 cases h with
 |nil=>exact absurd rfl hx
 |snoc _ he ho=>exact(uU ho.perm).2 (uT he)
theorem kS {I J:BA}(h:I≠J)(l:List Lt):ak I (dC J l)=ak I l:=by
 unfold ak dC;rw[List.filter_filter];refine List.filter_congr fun x _=>?_
 cases e:eqB x.ins I with
 |false=>rfl
 |true=>
  have:eqB x.ins J=false:=by
   cases e2:eqB x.ins J with
   |false=>rfl
   |true=>exact absurd ((dH.1 e).symm.trans (dH.1 e2)) h
  rw[this];rfl
theorem rnd_nn {m:Int}{q:Rat}(h:0<=q):0<=pO m q:=by
 have h0:0<=q.floor:=Rat.le_floor_iff.2 h;rcases yC m q with e|⟨_,e⟩<;>omega
theorem al4 {T:Int}{ws:List BA}(hT:0<=T):∀x∈dX (ae T) ws,0<=x:=by
 intro x hx;unfold dX at hx;split at hx
 ·rw[List.eq_of_mem_replicate hx];exact Int.le_refl 0
 ·rename_i h
  have ho:=(qH.1 (Classical.not_not.1 h)).ok;rw[aK]at hx;unfold tV at hx;rw[if_neg (by omega)]at hx;obtain⟨i,hi⟩:=List.mem_iff_getElem?.1 hx;have hl:i<(iv ws).length :=by
   have:=(amH.1 hi).1;rwa[abJ]at this
  have:=akI (T:=T) ho hT hl;rwa[iE hi]at this
theorem vY {I:BA}{l:List Lt}(hl:aN l=0)(h0:ak I l≠ []):0<(iv ((ak I l).map (·.q))).sum :=by
 have hf:=iM hl I;have h1:0<=(iv ((ak I l).map (·.q))).sum :=by
  have:∀L:List Int,(∀x∈L,0<=x)->0<=L.sum:=fun L=>by
   induction L with
   |nil=>intro _;exact Int.le_refl 0
   |cons a L ih=>intro h;rw[List.sum_cons];have:=h a amJ;have:=ih fun x hx=>h x (amL _ hx);omega
  exact this _ (aaU hf.wq)
 by_cases h2:(iv ((ak I l).map (·.q))).sum =0
 ·obtain⟨x,hx⟩:=List.exists_mem_of_ne_nil _ h0
  have h3:=eT (aaU hf.wq) h2 (ah x.q) (amN.2 ⟨x.q,amN.2 ⟨x,hx,rfl⟩,rfl⟩);have:=(hf.q x hx).2;omega
 ·omega
section
variable {m:MapS} {l R:List Lt} {I J:BA} {N M:Int}
theorem jX:(eH m l M).length =(ak m.ins l).length :=by unfold eH mcL dX;split<;>simp[dz,aQ]
theorem aix (hM:0<=M):∀x∈eH m l M,0<=x:=al4 hM
theorem zh (hl:aN l=0)(hM:0<=M)(h0:ak m.ins l≠ []):iZ m l M=List.replicate (ak m.ins l).length 0:=by
 unfold iZ;have hf:=iM hl m.ins;have h1:=jX (m:=m) (l:=l) (M:=M);have hp:=List.length_pos_iff.2 h0;rw[aci (by rw[am6,h1];exact hp) (by rw[am6,h1];exact hf.n) (agP (aix hM)),am6,h1]
theorem alD (hl:aN l=0)(hM:0<=M)(h0:ak m.ins l≠ [])(z:Int):bD m l z M=afN m (ak m.ins l) (zg m l z) (eH m l M) (List.replicate (ak m.ins l).length 0):=by
 unfold bD;rw[zh hl hM h0]
theorem aiQ (z:Int):(bD m l z M).length =(ak m.ins l).length :=by unfold bD;exact dS _ _ _ _ _
theorem alC (h0:ak m.ins l≠ [])(z:Int):bD m l z M≠ []:=fun e=>h0 (amX (by rw[<-aiQ (m:=m) (l:=l) (M:=M) z,e];rfl))
theorem ahH {z:Int}(hi:m.ins=I)(ho:m.oth=J)(hJ:J≠I)(hJ0:ak J l=[])(h0:ak I l≠ [])(h:MapFineK m l z M R):ak J R=bD m l z M:=by
 subst hi;have:=(h.some h0).2.sel (I:=J) (fun x hx=>(xA x hx).trans ho);rw[this];unfold acV;rw[mM hJ,hJ0,List.nil_append]
theorem abw {z:Int}(hi:m.ins=I)(ho:m.oth=J)(hJ:J≠I)(h0:ak I l≠ [])(h:MapFineK m l z M R):ak I R=lessL (eH m l M) 0 (ak I l):=by
 subst hi;have:=(h.some h0).2.other (I:=m.ins) (fun x hx e=>hJ (ho.symm.trans ((xA x hx).symm.trans e)));rw[this];unfold acV;rw[aau]
theorem ww {z:Int}(hl:aN l=0)(h:MapFineK m l z M R):aN R=0:=by
 by_cases h0:ak m.ins l=[]
 ·rw[h.none h0];exact hl
 ·exact(h.some h0).2.okS (alC h0 z)
theorem mF (hl:aN l=0)(hM:0<=M)(hi:m.ins=I)(ho:m.oth=J)(hJ:J≠I)(hJ0:ak J l=[])(h0:ak I l≠ [])(h:MapFineK m l (N*(iv ((ak I l).map (·.q))).sum) M R):
 (ak J R).map (·.q)=((iv ((ak I l).map (·.q))).map (N* ·)).map ae/\(ak J R).map (·.c)=(eH m l M).map ae/\ak J R≠ []/\(ak J R).length =(ak I l).length :=by
 have e:=ahH hi ho hJ hJ0 h0 h;subst hi;rw[e,alD hl hM h0,afS hl rfl h0];refine⟨aj2 (by simp[aQ]),aj3 jX,?_,by rw[dS]⟩;intro h2;have:=congrArg List.length h2;rw[dS]at this;exact h0 (amX this)
theorem aeh (hl:aN l=0)(hM:0<=M)(hi:m.ins=I)(ho:m.oth=J)(hJ:J≠I)(hJ0:ak J l=[])(h0:ak I l≠ [])(h:MapFineK m l (N*(iv ((ak I l).map (·.q))).sum) M R):iP J R=N*(iv ((ak I l).map (·.q))).sum :=by
 unfold iP;rw[(mF hl hM hi ho hJ hJ0 h0 h).1,nC,vZ]
theorem aei (hl:aN l=0)(hM:0<=M)(hi:m.ins=I)(ho:m.oth=J)(hJ:J≠I)(hJ0:ak J l=[])(h0:ak I l≠ [])(h:MapFineK m l (N*(iv ((ak I l).map (·.q))).sum) M R):iw J R=(eH m l M).sum :=by
 unfold iw;rw[(mF hl hM hi ho hJ hJ0 h0 h).2.1,nC]
theorem back_n (hN:1<=N)(hl:aN l=0)(hM:0<=M)(hi:m.ins=I)(ho:m.oth=J)(hJ:J≠I)(hJ0:ak J l=[])(h0:ak I l≠ [])(h:MapFineK m l (N*(iv ((ak I l).map (·.q))).sum) M R):
 mdL (ae (iv ((ak I l).map (·.q))).sum) ((ak J R).map (·.q))=iv ((ak I l).map (·.q)):=by
 have hf:=iM hl I;have hp:=vY hl h0;unfold mdL;rw[nil_eq,am1 (by omega),(mF hl hM hi ho hJ hJ0 h0 h).1];exact af9 N hN (by simpa[aQ]using List.length_pos_iff.2 h0) (by simpa[aQ]using hf.n) (aaU hf.wq)
theorem back_c (hl:aN l=0)(hM:0<=M)(hi:m.ins=I)(ho:m.oth=J)(hJ:J≠I)(hJ0:ak J l=[])(h0:ak I l≠ [])(h:MapFineK m l (N*(iv ((ak I l).map (·.q))).sum) M R):
 mdL (ae (iw J R)) ((ak J R).map (·.c))=iv ((ak J R).map (·.c)):=by
 have hR:=ww hl h;have hf:=iM hR J;have hne:=(mF hl hM hi ho hJ hJ0 h0 h).2.2.1;unfold mdL;rw[nil_eq];by_cases e:iw J R=0
 ·rw[am2 e,if_pos rfl]
  refine(List.eq_replicate_iff.2 ⟨aQ _,?_⟩).symm;exact eT (aaU hf.wc) e
 ·rw[am1 e,if_neg (by decide)]
  exact af8 (by rw[am6];exact List.length_pos_iff.2 hne) (by rw[am6];exact hf.n) hf.wc
end
end
section
open Go.RowKit Go.Shelf Dec QQ SP
def exM (f:Fct)(t:Ot):MapS:=⟨f.key,f.day,f.ins,t.oth,t.rn,t.rd,⟨#[]⟩,⟨#[]⟩,⟨#[]⟩,⟨#[]⟩,false⟩
def dO (f:Fct)(t:Ot)(l:List Lt)(ns:List Int):List Lt:=afN (exM f t) (ak f.ins l) ns (iv ((ak f.ins l).map (·.c))) (List.replicate (ak f.ins l).length 0)
end
section
open Go.RowKit Go.Shelf Dec QQ SP
section
variable {m:MapS} {l R R2:List Lt} {I J:BA} {N M:Int} {g:Fct} {t:Ot}
theorem exf_q {ns:List Int}(hg:g.ins=J)(hn:ns.length=(ak J R).length):(dO g t R ns).map (·.q)=ns.map ae:=by
 subst hg;exact aj2 hn
theorem exf_c {ns:List Int}(hg:g.ins=J):(dO g t R ns).map (·.c)=(iv ((ak J R).map (·.c))).map ae:=by
 subst hg;exact aj3 (by simp[aQ])
theorem alQ {ns:List Int}(hg:g.ins=J):(dO g t R ns).length =(ak J R).length :=by
 subst hg;exact dS _ _ _ _ _
theorem aa0 {ns:List Int}:∀x∈dO g t R ns,x.ins=t.oth:=fun x hx=>xA x hx
theorem end_q (hl:aN l=0)(hM:0<=M)(hi:m.ins=I)(ho:m.oth=J)(hJ:J≠I)(hJ0:ak J l=[])(h0:ak I l≠ [])(h:MapFineK m l (N*(iv ((ak I l).map (·.q))).sum) M R)
 (hg:g.ins=J) (ht:t.oth=I) (h2:OpnAll (dC J R) (dO g t R (iv ((ak I l).map (·.q)))) R2):iP I R2=iP I l+iP I l:=by
 have hs:=h2.sel (I:=I) (fun x hx=>(aa0 x hx).trans ht);have hn:=(mF hl hM hi ho hJ hJ0 h0 h).2.2.2;unfold iP;rw[hs,kS (fun e=>hJ e.symm),abw hi ho hJ h0 h,List.map_append,afw,exf_q hg (by rw[aQ,am6,hn])];unfold iv;rw[List.map_append,List.sum_append];have:=nC (List.map ah ((ak I l).map (·.q)));unfold iv at this;rw[this]
theorem end_c (hl:aN l=0)(hM:0<=M)(hi:m.ins=I)(ho:m.oth=J)(hJ:J≠I)(hJ0:ak J l=[])(h0:ak I l≠ [])(h:MapFineK m l (N*(iv ((ak I l).map (·.q))).sum) M R)
 (hg:g.ins=J) (ht:t.oth=I) {ns:List Int} (h2:OpnAll (dC J R) (dO g t R ns) R2):iw I R2=iw I l:=by
 have hs:=h2.sel (I:=I) (fun x hx=>(aa0 x hx).trans ht);have hc:=(mF hl hM hi ho hJ hJ0 h0 h).2.1;have hL:=afx (ak I l) (eH m l M) 0 (by rw[jX,hi,am5]);rw[List.drop_zero]at hL;unfold iw;rw[hs,kS (fun e=>hJ e.symm),abw hi ho hJ h0 h,List.map_append,exf_c hg,hc, <-hL,nC];unfold iv;rw[List.map_append,List.sum_append];have:=nC (eH m l M);unfold iv at this;rw[this]
theorem end_j (hJ:J≠I)(ht:t.oth=I){ns:List Int}(h2:OpnAll (dC J R) (dO g t R ns) R2):ak J R2=[]:=by
 rw[h2.other (I:=J) (fun x hx e=>hJ (e.symm.trans ((aa0 x hx).trans ht))),aeo]
theorem afY (hN:1<=N)(hl:aN l=0)(hM:0<=M)(hi:m.ins=I)(ho:m.oth=J)(hJ:J≠I)(hJ0:ak J l=[])(h0:ak I l≠ [])(h:MapFineK m l (N*(iv ((ak I l).map (·.q))).sum) M R)
 (hg:g.ins=J) (ht:t.oth=I) (hc:aG g.key=true) (hI:aG I=true) (hid:∀x∈dO g t R (iv ((ak I l).map (·.q))),∀y∈R,y.id≠x.id) {k:Nat} {L:List Lt} {x:Lt}
 (hx:(dO g t R (iv ((ak I l).map (·.q))))[k]? =some x) (hL:OpnAll (dC J R) ((dO g t R (iv ((ak I l).map (·.q)))).take k) L):kR L x=0:=by
 have hR:=ww hl h;have hf:=iM hl I;have hn:=(mF hl hM hi ho hJ hJ0 h0 h).2.2.2;have hkJ:k<(ak J R).length :=by
  have:=(amH.1 hx).1;rwa[alQ hg]at this
 have hk1:k<1000:=by have:=hf.n;omega
 have at':∀j (hj:j<(ak J R).length),(dO g t R (iv ((ak I l).map (·.q))))[j]? =some (frL (exM g t) (ak J R)[j] j (iv ((ak I l).map (·.q)))[j]! (iv ((ak J R).map (·.c)))[j]! (List.replicate (ak J R).length (0:Int))[j]!):=by
  intro j hj;subst hg;exact lM (amB hj)
 have ex:=anj (hx.symm.trans (at' k hkJ));have hxm:x∈dO g t R (iv ((ak I l).map (·.q))):=amI hx;have hlx:nN x=0:=by
  have hm:=iC (List.getElem_mem hkJ);obtain⟨a1,a2,a3,a4,a5,a6,a7,a8,a9,a10,a11⟩:=(nA _).1 (((bH R).1 hR).2.1 _ hm.1);have eq:(iv ((ak I l).map (·.q)))[k]! =ah ((ak I l)[k]'(by omega)).q :=by
   rw[getElem!_pos _ k (by simp[aQ];omega)];unfold iv;rw[List.getElem_map,List.getElem_map]
  have ec:(iv ((ak J R).map (·.c)))[k]! =ah ((ak J R)[k]).c :=by
   rw[getElem!_pos _ k (by simp[aQ];omega)];unfold iv;rw[List.getElem_map,List.getElem_map]
  have ez:(List.replicate (ak J R).length (0:Int))[k]! =0:=by
   rw[getElem!_pos _ k (by simpa using hkJ)];simp
  have q0:=(hf.q _ (List.getElem_mem (by omega:k<(ak I l).length))).2;rw[ex,eq,ec,ez];refine(nA _).2 ⟨aiH hc hk1,by show aG t.oth=true;rw[ht];exact hI,a3,a4,a5,gK _,gK _,gK _,?_,?_,.inr (dH.2 rfl)⟩
  ·show¬dW (ah (ae _)) 0<=0
   rw[aK];unfold dW
   (repeat' split)<;>omega
  ·show¬dW (ah (ae _)) 0<0
   rw[aK,Int.sub_zero];exact a10
 refine hL.next (zl hR List.filter_sublist) hlx ?_ ?_
 ·intro y hy
  rcases ane.1 hy with hy|hy
  ·exact hid x hxm y (List.mem_filter.1 hy).1
  ·obtain⟨j,hj⟩:=List.mem_iff_getElem?.1 hy
   have hjk:j<k:=by
    have:=(amH.1 hj).1;rw[amO]at this;omega
   rw[amZ,if_pos hjk,at' j (by omega)]at hj;injection hj with hj
   subst hj;rw[ex];intro e;have:=alx (cause:=g.key) e;omega
 ·have:=xJ J R
  have h1000:=((bH R).1 hR).1;rw[amO];omega
end
end
section
open Go.RowKit Go.Shelf Dec
theorem yD {fn:Func}{t u v x:Tmp}(h:fn.results= #[.tmp t,.tmp u,.tmp v,.tmp x])(tmps:Array Value)(P:Program)(w:World):
 (results fn tmps).run P w= .ok (.tuple #[tmps.getD t undef,tmps.getD u undef,tmps.getD v undef,tmps.getD x undef]) w:=by
 simp[results,h]
end
end Go.Proofs.YtbkhnggmcheelaaGreatDoor
