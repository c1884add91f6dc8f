/- TopSpunTogether: Mappings of lots that keep what they map. Conditions: bounded sizes; variables as laid. -/
import Derived.Test.YtbkhnggmcheelaaGreatDoorGam
set_option linter.unusedSimpArgs false
set_option linter.unusedVariables false
set_option maxHeartbeats 4000000
set_option maxRecDepth 100000
namespace Go.Proofs.YtbkhnggmcheelaaGreatDoor
open Proofs.Tryz
section
open Go.RowKit Go.Shelf Dec QQ SP
attribute [local go_sem] Oper.semAt_some
abbrev tN (x0 x1:BA)(x2 x3:Int)(x4 x5 x6:BA):Array Value:= #[.string x0,.string x1,.int .i64 x2,.int .i64 x3,.string x4,.string x5,.string x6]
def TBx (w:World)(b:Nat)(cs:Array Value)(T:TypeId):Prop:=w.heap[b]? =some (.cells cs T (0,0))
theorem TBx.bx {w:World}{b:Nat}{cs:Array Value}{T:TypeId}(h:TBx w b cs T):Bx w b cs:=⟨_,h⟩
theorem TBx.on {w w':World}{b:Nat}{cs:Array Value}{T:TypeId}(h:TBx w b cs T)(hb:Below w.heap.size w w'):TBx w' b cs T:=(hb.block b (amA.1 h).1).trans h
theorem TBx.alloc {w:World}{b:Nat}{cs:Array Value}{T:TypeId}(h:TBx w b cs T)(o:Obj):TBx (w.alloc o) b cs T:=h.on anp
theorem TBx.new (w:World)(cs:Array Value)(T:TypeId):TBx (w.alloc (.cells cs T)) w.heap.size cs T:=bJ w _
theorem TBx.grown {w w':World}{b base n size:Nat}{cs:Array Value}{T T':TypeId}{v:Value}{xs:List Value}(h:TBx w b cs T)(ho:w.ownsRow base T' size v n xs)(hg:w.grownBy w' v.ownBlock)(hT:T≠T'):TBx w' b cs T:=
 (hg.block _ (amA.1 h).1 (own_ne ho h (fun cur e=>by injection e with _ e;exact hT e))).trans h
theorem TBx.set {w:World}{b:Nat}{cs:Array Value}{T:TypeId}(h:TBx w b cs T)(i:Nat)(v:Value):TBx (w.setCell ⟨b,i,none⟩ v) b (cs.setIfInBounds i v) T:=by
 have h':w.heap[b]? =some (.cells cs T (0,0)):=h;show (w.setCell ⟨b,i,none⟩ v).heap[b]? =_;simp[World.setCell,Array.getElem?_modify,h']
theorem TBx.other {w:World}{b c:Nat}{cs:Array Value}{T:TypeId}(h:TBx w b cs T)(hne:b≠c)(i:Nat)(v:Value):TBx (w.setCell ⟨c,i,none⟩ v) b cs T:=(amR w _ v b hne).trans h
theorem akQ {w w':World}{base n s:Nat}{T:TypeId}{v:Value}{xs:List Value}(h:w.ownsRow base T s v n xs)(he:∀g,v.ownBlock=some g->w'.heap[g]? =w.heap[g]?):w'.ownsRow base T s v n xs:=by
 refine⟨h.1,?_⟩;rcases h.2 with h2|⟨g,cap,cur,e1,e2,e3,r⟩
 ·exact .inl h2
 ·exact .inr ⟨g,cap,cur,e1,e2,(he g (by rw[e1];rfl)).trans e3,r⟩
theorem akO {w:World}{base n s:Nat}{T:TypeId}{v:Value}{xs:List Value}(h:w.ownsRow base T s v n xs){g:Nat}(hg:v.ownBlock=some g):g<w.heap.size:=by
 rcases h.2 with ⟨rfl,_⟩|⟨g',cap,cur,rfl,_,e,_⟩
 ·cases hg
 ·injection hg with hg
  subst hg;exact(amA.1 e).1
def dC (ins:BA)(l:List Lt):List Lt:=l.filter fun x=> !eqB x.ins ins
theorem ai8 {ins:BA}{l:List Lt}{k:Nat}{x:Lt}(h:l[k]? =some x)(hx:eqB x.ins ins=true):dC ins (l.take (k+1))=dC ins (l.take k):=by
 unfold dC;rw[ani,h,List.filter_append];simp[hx]
theorem zM {ins:BA}{l:List Lt}{k:Nat}{x:Lt}(h:l[k]? =some x)(hx:eqB x.ins ins=false):dC ins (l.take (k+1))=dC ins (l.take k)++ [x]:=by
 unfold dC;rw[ani,h,List.filter_append];simp[hx]
theorem af5 {ins:BA}{l:List Lt}(k:Nat):(dC ins (l.take k)).length <=l.length:=by
 unfold dC;refine amG (List.length_filter_le _ _) ?_;rw[amO];omega
theorem aeQ (p:PlS){A':Option Addr}{n' c':Nat}{l:List Lt}{ms:List Int}{K:Nat}(hk:p.m.keep=true)(hn:l.length=n')(hm:n'<=1000000)(hz:∀x∈l,x.le 1000)(hsl:(ak p.m.ins l).length =p.n)(hml:ms.length=p.n)(hK:K<=5000)(hzm:∀x∈ms,Fit K x):
 RetO (fun w=>Row w A' (av aa l)/\pW w p.AM ms) 73 #[plV p,.slice A' n' c'] fun B w' v=>dw aa 62 7 B w' v (eu p.m.ins ms 0 l).length (eu p.m.ins ms 0 l):=by
 intro w hg hi;have hs:=(St.refl hg).alloc (.cells (plA p) 155);have X:=TBx.new w (plA p) 155;have HN:=amy hn;have HR:=amy hi.1;have HRM:=amy hi.2;have HZ:=amy hz;have HZM:=amy hzm;have HSL:=amy hsl;have HML:=amy hml;have hjn:∀k,(ak p.m.ins (l.take k)).length <=1000000:=fun k=>amG (pY k) (by rw[hn];exact hm)
 have HJ:=amy hjn;obtain⟨⟨cause,day,ins,oth,rn,rd,sn,sd,pn,pd,keep⟩,A,n,c,parts,an,ad,AN,cN,AM,cM,AF,cF,AP,cP⟩:=p;dsimp only[plV,plA]at*
 subst hk;have HX:=amy X;have HO0:Hid (World.ownsRow (w.alloc (.cells #[.string cause,.int .i64 day,.string ins,.string oth,.string rn,.string rd,.string sn,.string sd,.string pn,.string pd,.bool true,.slice A n c,.string parts,.string an,.string ad,.slice AN n cN,.slice AM n cM,.slice AF n cF,.slice AP n cP] 155)) w.heap.size 62 7 (.slice none 0 0) 0 []):=World.ownsRow_nil _ _ _ _;obtain⟨i0,hi0,hz0,hz1,hz2⟩:=info_parts aaV;have Hi:=amy hi0;have Hz0:=amy hz0;have Hz1:=amy hz1;have Hz2:=amy hz2;clear hi0 hz0 hz1 hz2 X hi hn hz hzm hsl hml hjn
 go_enter func73,ntmps73
 go_wp2_with fail
 go_loopw [11,5,6] (fun s v t wr=>∃(k:Nat) (V:Value),k<=n'/\v=V/\s= .int .i64 (k:Int)/\t= .int .i64 ((ak ins (l.take k)).length :Int)/\St w wr/\Hid (TBx wr w.heap.size #[.string cause,.int .i64 day,.string ins,.string oth,.string rn,.string rd,.string sn,.string sd,.string pn,.string pd,.bool true,.slice A n c,.string parts,.string an,.string ad,.slice AN n cN,.slice AM n cM,.slice AF n cF,.slice AP n cP] 155)/\Hid (World.ownsRow wr w.heap.size 62 7 V (eu ins ms 0 (l.take k)).length (av aa (eu ins ms 0 (l.take k))))) (fun s _ _ _=>(n'-intOf s).toNat)
 case atStart=>exact⟨0,_,by omega,rfl,rfl,rfl,hs,HX,HO0⟩
 case round=>
  clear hs HX HO0;obtain⟨k,V,hk,hV,rfl,rfl,hs,HX,HO⟩:=hrel;replace hV:=hV.symm;subst hV;by_cases hkn:k=n'
  ·subst hkn
   have q:decide ((k:Int)<(k:Int))=false:=am1 (by omega)
   go_wp2_with fail
   go_ret
   have h:=HO.o;rw[amK (Nat.le_of_eq HN.o)]at h;exact⟨_,rfl,⟨rfl,h⟩,hs.2⟩
  ·have hkl:k<n':=by omega
   have q:decide ((k:Int)<(n':Int))=true:=am2 (by omega);have qn:decide (k<n')=true:=am2 hkl;obtain⟨x,hd⟩:∃d,l[k]? =some d:=⟨l[k]'(by rw[HN.o];exact hkl),by simp⟩;obtain⟨b,o,hA,hb,hcells⟩:=dV (cs:=aa) (m:=7) aJ (by decide) (HR.o.on hs.2) hd;obtain⟨x0,x1,x2,x3,x4,x5,x6⟩:=dI hcells;have HD:=amy hd;subst hA;have hmn:(eu ins ms 0 (l.take k)).length <=1000000:=by
    rw[qc,amO,HN.o];omega
   have hba:Below wr.heap.size wr (wr.alloc (.cells (tN x.id x.ins x.acq x.opn x.q x.c x.u) 62)):=anp;have HXA:=amy (HX.o.on hba);have y2:=HXA.o.bx.c 2 (.string ins) rfl;have y10:=HXA.o.bx.c 10 (.bool true) rfl;have hjz:=HJ.o k;clear hd hkn hcells;cases hq:eqB x.ins ins with
   |true=>
    have hq2:(x.ins.toList==ins.toList)=true:=hq;have hj:=ahN HD.o hq;rw[HSL.o]at hj;have hjm:(ak ins (l.take k)).length <ms.length:=by rw[HML.o];exact hj
    obtain⟨b1,o1,e1,l1,c1⟩:=(HRM.o.on (hs.alloc (.cells (tN x.id x.ins x.acq x.opn x.q x.c x.u) 62)).2).at hjm;have KS:=ahs (a:=x.c) (x:=ah x.c) ⟨rfl,by have:=(HZ.o x (amI HD.o)).c;omega⟩ (Vs.can (HZM.o _ (List.getElem_mem hjm)) (by omega));have e8:ms[(ak ins (l.take k)).length]! =ms[(ak ins (l.take k)).length]:=getElem!_pos ms _ hjm;have HE:Hid (av aa (eu ins ms 0 (l.take (k+1)))=av aa (eu ins ms 0 (l.take k))++aa (ja x ms[(ak ins (l.take k)).length])):=by
     show _=_;rw[abE HD.o hq,jd,e8]
    have HEn:Hid ((eu ins ms 0 (l.take (k+1))).length =(eu ins ms 0 (l.take k)).length +1):=by
     show _=_;rw[abE HD.o hq,am0];rfl
    have HES:Hid ((ak ins (l.take (k+1))).length =(ak ins (l.take k)).length +1):=by
     show _=_;rw[kC HD.o hq,am0];rfl
    have HE2:Hid (av aa (eu ins ms 0 (l.take (k+1)))=av aa (eu ins ms 0 (l.take k))++ [.string x.id,.string x.ins,.int .i64 x.acq,.int .i64 x.opn,.string x.q,.string (ae (ah x.c-ms[(ak ins (l.take k)).length])),.string x.u]):=HE.o;clear HE e8;subst e1;generalize ae (ah x.c-ms[(ak ins (l.take k)).length])=nc at*
    generalize ae ms[(ak ins (l.take k)).length]=mc at*
    generalize hm2:(eu ins ms 0 (l.take k)).length =m at*
    generalize hl2:av aa (eu ins ms 0 (l.take k))=fl at*
    generalize hj2:(ak ins (l.take k)).length =j at*
    clear hm2 hl2 hj2;have qj:(j:Int)<(n:Int):=by omega
    have qj2:decide (j<n)=true:=am2 hj;have BD:=TBx.new wr (tN x.id x.ins x.acq x.opn x.q x.c x.u) 62;have hsA:=hs.alloc (.cells (tN x.id x.ins x.acq x.opn x.q x.c x.u) 62);have hlx:w.heap.size<=wr.heap.size:=hs.2.size;have hne:w.heap.size≠wr.heap.size:=by
     have:=(amA.1 HX.o).1;omega
    have HOA:=amy (HO.o.alloc (.cells (tN x.id x.ins x.acq x.opn x.q x.c x.u) 62));have hog:Hid (∀g,V.ownBlock=some g->g<wr.heap.size):=fun g hg=>akO HO.o hg
    have hrA:Hid (wr.heap.size+1=(wr.alloc (.cells (tN x.id x.ins x.acq x.opn x.q x.c x.u) 62)).heap.size):=by show _=_;simp
    go_wp2_with fail
    obtain⟨W7,hW7⟩:=eX (wr.alloc (.cells (tN x.id x.ins x.acq x.opn x.q x.c x.u) 62));rw[hW7]at BD hsA HXA HOA l1 c1 hrA⊢
    have hX7:=HXA.o;obtain⟨bx,hbx⟩:=eX (wr.heap.size);rw[hbx]at BD hlx hne hog hrA⊢
    clear hW7 hba x0 x1 x2 x3 x4 x5 x6 y2 y10 hs HX HO;have k5:=BD.bx.k 5 (.string x.c) rfl;have k16:=hX7.bx.k 16 (.slice (some ⟨b1,o1,none⟩) n cM) rfl;have kn0:∀u:Kept W7,u.W.cell? ⟨b1,o1+j,none⟩=some (.string mc):=Kept.cell_of c1;refine bA 9 (by kernel_rfl) (by kernel_rfl) ?_;simp only[List.take_succ_cons,List.take_zero,List.drop_succ_cons,List.drop_zero]
    repeat (go_big_quiet_step (first|(with_reducible exact KS.kept hsA)))
    refine wpQuiet_nil ?_;rintro _ ⟨u,rfl⟩;clear k5 k16 kn0 c1;have f5:=(BD.on u.low).bx.frozen 5;have c5:=(BD.on u.low).bx.c 5 (.string x.c) rfl;have T9:=(BD.on u.low).set 5 (.string nc);have z0:=T9.bx.c 0 (.string x.id) rfl;have z1:=T9.bx.c 1 (.string x.ins) rfl;have z2:=T9.bx.c 2 (.int .i64 x.acq) rfl;have z3:=T9.bx.c 3 (.int .i64 x.opn) rfl;have z4:=T9.bx.c 4 (.string x.q) rfl;have z5:=T9.bx.c 5 (.string nc) rfl;have z6:=T9.bx.c 6 (.string x.u) rfl;have HS9:Hid (St w (u.W.setCell ⟨bx,5,none⟩ (.string nc))):=⟨hsA.1,(hsA.2.trans (u.low.mono hsA.2.size)).setCell (p:=⟨bx,5,none⟩) hlx _⟩;have HO9:Hid (World.ownsRow (u.W.setCell ⟨bx,5,none⟩ (.string nc)) w.heap.size 62 7 V m fl):=akQ (own_below HOA.o u.low) (fun g hg=>amR _ _ _ _ (by have:=hog.o g hg;show g≠bx;omega));have HX9:Hid (TBx (u.W.setCell ⟨bx,5,none⟩ (.string nc)) w.heap.size #[.string cause,.int .i64 day,.string ins,.string oth,.string rn,.string rd,.string sn,.string sd,.string pn,.string pd,.bool true,.slice A n c,.string parts,.string an,.string ad,.slice AN n cN,.slice (some ⟨b1,o1,none⟩) n cM,.slice AF n cF,.slice AP n cP] 155):=(hX7.on u.low).other hne _ _;have hz9:w.heap.size<=u.W.heap.size:=amG hsA.2.size u.low.size;have HRd:Hid (Reads ((u.W.setCell ⟨bx,5,none⟩ (.string nc)).alloc (.cells (tN x.id x.ins x.acq x.opn x.q nc x.u) 62)) ((u.W.setCell ⟨bx,5,none⟩ (.string nc)).alloc (.cells (tN x.id x.ins x.acq x.opn x.q nc x.u) 62)).heap.size 7 (some ⟨u.W.heap.size,0,none⟩) 1 [.string x.id,.string x.ins,.int .i64 x.acq,.int .i64 x.opn,.string x.q,.string nc,.string x.u]):=by
     have:=Row.of (Bx.new (u.W.setCell ⟨bx,5,none⟩ (.string nc)) (tN x.id x.ins x.acq x.opn x.q nc x.u) 62);rw[show (u.W.setCell ⟨bx,5,none⟩ (.string nc)).heap.size =u.W.heap.size by simp]at this;exact fD this rfl (by decide)
    have hone:∀v∈([.string x.id,.string x.ins,.int .i64 x.acq,.int .i64 x.opn,.string x.q,.string nc,.string x.u]:List Value),v.oneCell'=true:=dh ⟨x.id,x.ins,x.acq,x.opn,x.q,nc,x.u⟩;clear T9 hX7 BD HXA HOA
    go_wp2_with (at_builtin;refine aB _ rfl (.tmp 36) (.tmp 38) 22 rfl w.heap.size 62 i0 (.agg #[.string ⟨#[]⟩,.string ⟨#[]⟩,.int .i64 0,.int .i64 0,.string ⟨#[]⟩,.string ⟨#[]⟩,.string ⟨#[]⟩]) 7 96 (by kernel_rfl) Hi.o Hz0.o Hz1.o Hz2.o rfl (by omega) _ m fl rfl (HO9.o.alloc _) _ (some ⟨u.W.heap.size,0,none⟩) 1 1 [.string x.id,.string x.ins,.int .i64 x.acq,.int .i64 x.opn,.string x.q,.string nc,.string x.u] rfl HRd.o hone (by unfold maxLen;omega) (by omega) (by simp;omega) ?_;intro v7 w7 hown7 hg7 _;have HO7:=amy hown7;have HG7:=amy hg7;clear hown7 hg7)
    go_roundw
    case rel=>
     have h0:=HS9.o.alloc (.cells (tN x.id x.ins x.acq x.opn x.q nc x.u) 62);have ho:=HO9.o.alloc (.cells (tN x.id x.ins x.acq x.opn x.q nc x.u) 62);refine⟨k+1,_,by omega,rfl,by go_num,?_,⟨HS9.o.1,h0.2.grown HG7.o h0.2.size (fE ho)⟩,?_,?_⟩
     ·rw[HES.o]
      go_num
     ·exact amy ((HX9.o.alloc _).grown ho HG7.o (by decide))
     ·rw[HE2.o,HEn.o];exact HO7
    case measure=>simp[intOf];omega
   |false=>
    have hq2:(x.ins.toList==ins.toList)=false:=hq;have HE:Hid (av aa (eu ins ms 0 (l.take (k+1)))=av aa (eu ins ms 0 (l.take k))++aa x):=by
     show _=_;rw[aeD HD.o hq,jd]
    have HEn:Hid ((eu ins ms 0 (l.take (k+1))).length =(eu ins ms 0 (l.take k)).length +1):=by
     show _=_;rw[aeD HD.o hq,am0];rfl
    have HES:Hid (ak ins (l.take (k+1))=ak ins (l.take k)):=wC HD.o hq;generalize hm2:(eu ins ms 0 (l.take k)).length =m at*
    generalize hl2:av aa (eu ins ms 0 (l.take k))=fl at*
    clear hm2 hl2 hba;have hsz:=hs.2.size;have HRd:Hid (Reads ((wr.alloc (.cells (tN x.id x.ins x.acq x.opn x.q x.c x.u) 62)).alloc (.cells (tN x.id x.ins x.acq x.opn x.q x.c x.u) 62)) ((wr.alloc (.cells (tN x.id x.ins x.acq x.opn x.q x.c x.u) 62)).alloc (.cells (tN x.id x.ins x.acq x.opn x.q x.c x.u) 62)).heap.size 7 (some ⟨wr.heap.size+1,0,none⟩) 1 (aa x)):=by
     have:=Row.of (Bx.new (wr.alloc (.cells (tN x.id x.ins x.acq x.opn x.q x.c x.u) 62)) (tN x.id x.ins x.acq x.opn x.q x.c x.u) 62);rw[amD]at this;exact fD this rfl (by decide)
    go_wp2_with (at_builtin;refine aB _ rfl (.tmp 36) (.tmp 38) 22 rfl w.heap.size 62 i0 (.agg #[.string ⟨#[]⟩,.string ⟨#[]⟩,.int .i64 0,.int .i64 0,.string ⟨#[]⟩,.string ⟨#[]⟩,.string ⟨#[]⟩]) 7 96 (by kernel_rfl) Hi.o Hz0.o Hz1.o Hz2.o rfl (by omega) _ m fl rfl ((HO.o.alloc _).alloc _) _ (some ⟨wr.heap.size+1,0,none⟩) 1 1 (aa x) rfl HRd.o (dh x) (by unfold maxLen;omega) (by omega) (by simp;omega) ?_;intro v7 w7 hown7 hg7 _;have HO7:=amy hown7;have HG7:=amy hg7;clear hown7 hg7)
    go_roundw
    case rel=>
     have h0:=((hs.alloc (.cells (tN x.id x.ins x.acq x.opn x.q x.c x.u) 62)).alloc (.cells (tN x.id x.ins x.acq x.opn x.q x.c x.u) 62));have ho:=((HO.o.alloc (.cells (tN x.id x.ins x.acq x.opn x.q x.c x.u) 62)).alloc (.cells (tN x.id x.ins x.acq x.opn x.q x.c x.u) 62));refine⟨k+1,_,by omega,rfl,by go_num,by rw[HES.o],⟨hs.1,h0.2.grown HG7.o h0.2.size (fE ho)⟩,?_,?_⟩
     ·exact amy (((HX.o.alloc _).alloc _).grown ho HG7.o (by decide))
     ·rw[HE.o,HEn.o];exact HO7
    case measure=>simp[intOf];omega
end
section
open Go.RowKit Go.Shelf Dec QQ SP
abbrev jL (x0 x1 x2 x3 x4 x5:BA):Array Value:= #[.string x0,.string x1,.string x2,.string x3,.string x4,.string x5]
theorem ab4:(prog.info? 105).map (fun i=>(i.zero,i.size,i.bytes))=some (some (.agg #[.string ⟨#[]⟩,.string ⟨#[]⟩,.string ⟨#[]⟩,.string ⟨#[]⟩,.string ⟨#[]⟩,.string ⟨#[]⟩]),6,96):=by kernel_rfl
def adY (base Bo M:Nat)(W:World):Prop:=∃v m xs,m<=M/\TBx W Bo #[v] 37/\W.ownsRow base 105 6 v m xs
theorem TBx.boxed {w:World}{b:Nat}{v:Value}{T:TypeId}(h:TBx w b #[v] T):Boxed w b T v:=h
structure SLeft (base Bo M:Nat) (W W':World):Prop where
 st:adY base Bo M W'
 low:Below base W W'
 far:∀b o,W.heap[b]? =some o->b≠Bo->(∀cur,o≠ .cells cur 105 (0,0))->W'.heap[b]? =some o
theorem SLeft.tb {base Bo M:Nat}{W W':World}(h:SLeft base Bo M W W'){b:Nat}{cs:Array Value}{T:TypeId}(ht:TBx W b cs T)(hne:b≠Bo)(hT:T≠105):TBx W' b cs T:=h.far b _ ht hne (fun cur e=>by injection e with _ e;exact hT e)
theorem adY.on {base Bo M:Nat}{W W':World}(h:adY base Bo M W)(hb:Below W.heap.size W W'):adY base Bo M W':=by
 obtain⟨v,m,xs,hm,h1,h2⟩:=h;exact⟨v,m,xs,hm,h1.on hb,own_below h2 hb⟩
theorem adY.up {base Bo M M':Nat}{W:World}(h:adY base Bo M W)(hM:M<=M'):adY base Bo M' W:=by
 obtain⟨v,m,xs,hm,h1,h2⟩:=h;exact⟨v,m,xs,amG hm hM,h1,h2⟩
theorem acz {base Bo M:Nat}(a0 a1 a2 a3 a4 a5:BA)(W:World)(hb:base<=Bo)(hM:M<=1000000)(hz:base<=W.heap.size)(h:adY base Bo M W):
 Calls prog 146 #[.agg (jL a0 a1 a2 a3 a4 a5),.pointer (some ⟨Bo,0,none⟩)] W fun e W'=>(∃v,e= .returned v)/\SLeft base Bo (M+1) W W':=by
 obtain⟨v,m,xs,hm,h1,h2⟩:=h;have hba:Below W.heap.size W (W.alloc (.cells (jL a0 a1 a2 a3 a4 a5) 105)):=anp;have hbb:Below W.heap.size W ((W.alloc (.cells (jL a0 a1 a2 a3 a4 a5) 105)).alloc (.cells (jL a0 a1 a2 a3 a4 a5) 105)):=hba.alloc (by simp) _;have X:=Bx.new W (jL a0 a1 a2 a3 a4 a5) 105;have y0:=X.c 0 (.string a0) rfl;have y1:=X.c 1 (.string a1) rfl;have y2:=X.c 2 (.string a2) rfl;have y3:=X.c 3 (.string a3) rfl;have y4:=X.c 4 (.string a4) rfl;have y5:=X.c 5 (.string a5) rfl;have z0:=(h1.on hba).bx.c 0 v rfl;obtain⟨i0,hi0,hz0,hz1,hz2⟩:=info_parts ab4;have Hi:=amy hi0;have Hz0:=amy hz0;have Hz1:=amy hz1;have Hz2:=amy hz2;clear hi0 hz0 hz1 hz2;have HO:=amy (own_below h2 hbb);have H1:=amy (h1.on hbb);have HM:=amy hm;have HRd:Hid (Reads ((W.alloc (.cells (jL a0 a1 a2 a3 a4 a5) 105)).alloc (.cells (jL a0 a1 a2 a3 a4 a5) 105)) ((W.alloc (.cells (jL a0 a1 a2 a3 a4 a5) 105)).alloc (.cells (jL a0 a1 a2 a3 a4 a5) 105)).heap.size 6 (some ⟨W.heap.size+1,0,none⟩) 1 [.string a0,.string a1,.string a2,.string a3,.string a4,.string a5]):=by
  have:=Row.of (Bx.new (W.alloc (.cells (jL a0 a1 a2 a3 a4 a5) 105)) (jL a0 a1 a2 a3 a4 a5) 105);rw[amD]at this;exact fD this rfl (by decide)
 have HQ:Hid (adY base Bo (M+1) (W.alloc (.cells (jL a0 a1 a2 a3 a4 a5) 105))):=adY.up ⟨v,m,xs,hm,h1.on hba,own_below h2 hba⟩ (by omega);have HBA:Hid (Below base W (W.alloc (.cells (jL a0 a1 a2 a3 a4 a5) 105))):=hba.mono hz;have HBB:Hid (Below base W ((W.alloc (.cells (jL a0 a1 a2 a3 a4 a5) 105)).alloc (.cells (jL a0 a1 a2 a3 a4 a5) 105))):=hbb.mono hz;have HFA:Hid (Below W.heap.size W (W.alloc (.cells (jL a0 a1 a2 a3 a4 a5) 105))):=hba;have HFB:Hid (Below W.heap.size W ((W.alloc (.cells (jL a0 a1 a2 a3 a4 a5) 105)).alloc (.cells (jL a0 a1 a2 a3 a4 a5) 105))):=hbb;have g0:(W.alloc (.cells (jL a0 a1 a2 a3 a4 a5) 105)).frozen? ⟨Bo,0,none⟩=false:=(h1.on hba).bx.frozen 0;clear X h1 h2 hba hbb
 go_enter func146,ntmps146
 generalize q3:(a3.toList== [])=b3 at*
 generalize q4:(a4.toList== [])=b4 at*
 generalize q5:(a5.toList== [])=b5 at*
 have go:True:=trivial;by_cases hall:b3=true/\b4=true/\b5=true
 ·obtain⟨rfl,rfl,rfl⟩:=hall
  go_wp2_with fail
  go_end0
  exact⟨⟨_,rfl⟩,HQ.o,HBA.o,fun b o ht _ _=>(HFA.o.block b (amA.1 ht).1).trans ht⟩
 ·cases b3<;>cases b4<;>cases b5<;>simp only[not_true_eq_false,and_self,amQ,false_and,and_false,not_false_eq_true]at hall
  all_goals
   go_wp2_with (at_builtin;refine aB _ rfl (.tmp 16) (.tmp 18) 37 rfl base 105 i0 (.agg #[.string ⟨#[]⟩,.string ⟨#[]⟩,.string ⟨#[]⟩,.string ⟨#[]⟩,.string ⟨#[]⟩,.string ⟨#[]⟩]) 6 96 (by kernel_rfl) Hi.o Hz0.o Hz1.o Hz2.o rfl (by omega) _ m xs rfl HO.o _ (some ⟨W.heap.size+1,0,none⟩) 1 1 [.string a0,.string a1,.string a2,.string a3,.string a4,.string a5] rfl HRd.o (by simp[Value.oneCell']) (by unfold maxLen;omega) (by omega) (by simp;omega) ?_;intro v7 w7 hown7 hg7 _;obtain⟨g7,cap7,rfl⟩:=ownsRow_succ hown7;have HO7:=amy hown7;have HG7:=amy hg7;have H7:=amy (H1.o.grown HO.o hg7 (by decide));have f7:=H7.o.bx.frozen 0;have c7:=H7.o.bx.c 0 v rfl;clear hown7 hg7)
   go_end0
   refine⟨⟨_,rfl⟩,⟨_,m+1,_,by have:=HM.o;omega,Boxed.set _ H7.o.boxed,aP HO7.o H7.o (fun cur e=>by injection e with _ e;revert e;decide) (grownBy_setCell' _ _ _)⟩,(HBB.o.grown HG7.o (amG hz HBB.o.size) (fE HO.o)).setCell (p:=⟨Bo,0,none⟩) hb _,fun b o ht hne hT=>?_⟩;have h2:=(HFB.o.block b (amA.1 ht).1).trans ht;exact(amR _ _ _ _ hne).trans ((HG7.o.block b (amA.1 h2).1 (own_ne HO.o h2 hT)).trans h2)
end
section
open Go.RowKit Go.Shelf Dec QQ SP
attribute [local go_sem] Oper.semAt_some
attribute [-go_sem] loadVar
attribute [local go_sem] ajX
abbrev pU (x0:BA)(x1:Int)(x2 x3 x4 x5 x6 x7 x8 x9:BA)(x10:Option Addr)(x11 x12:Nat)(x13 x14 x15:BA)(x16:Option Addr)(x17 x18:Nat)(x19:Option Addr)(x20 x21:Nat)(x22:Option Addr)(x23 x24:Nat)(x25:Option Addr)(x26 x27:Nat):Array Value:= #[.string x0,.int .i64 x1,.string x2,.string x3,.string x4,.string x5,.string x6,.string x7,.string x8,.string x9,.bool true,.slice x10 x11 x12,.string x13,.string x14,.string x15,.slice x16 x17 x18,.slice x19 x20 x21,.slice x22 x23 x24,.slice x25 x26 x27]
abbrev ag6 (x0 x1:BA)(x2 x3:Int)(x4 x5 x6:BA):Array Value:= #[.string x0,.string x1,.int .i64 x2,.int .i64 x3,.string x4,.string x5,.string x6]
theorem alr:(prog.info? 9).map (fun i=>(i.zero,i.size,i.bytes))=some (some (.string ⟨#[]⟩),1,16):=by kernel_rfl
def ToR (n k:Nat)(cs:Array Value):Prop:=cs.size=n/\∀i,i<n->∃s:BA,cs[i]? =some (.string s)/\(i<k->(s.toList== [])=false)
theorem ToR.made (n:Nat):ToR n 0 (madeCells #[.string ⟨#[]⟩] n):=by
 refine⟨size_madeCells _ _,fun i hi=>⟨⟨#[]⟩,?_,fun h=>absurd h (by omega)⟩⟩;rw[Array.getElem?_eq_getElem (by rw[size_madeCells];exact hi)];simp[madeCells,Nat.mod_one]
theorem ToR.set {n k:Nat}{cs:Array Value}(h:ToR n k cs)(hk:k<n){s:BA}(hs:(s.toList== [])=false):ToR n (k+1) (cs.setIfInBounds k (.string s)):=by
 refine⟨by simp[h.1],fun i hi=>?_⟩;by_cases e:i=k
 ·subst e
  exact⟨s,by simp[h.1,hk],fun _=>hs⟩
 ·obtain⟨t,h1,h2⟩:=h.2 i hi
  refine⟨t,?_,fun h3=>h2 (by omega)⟩;rw[<-h1];simp[Array.getElem?_setIfInBounds,Ne.symm e]
structure SSt (w:World) (pc:Array Value) (n l0 D:Nat) (rec:Loop) (k:Nat) (W:World):Prop where
 low:Below w.heap.size w W
 pb:TBx W w.heap.size pc 155
 st:TBx W (w.heap.size+1) #[.slice none 0 0] 37
 tr:∃cs,ToR n k cs/\TBx W (w.heap.size+2) cs 9
 tv:TBx W (w.heap.size+3) #[.slice (some ⟨w.heap.size+2,0,none⟩) n n] 237
 pf:TBx W (w.heap.size+4) pc 155
 lp:W.heap[l0]? =some (.loop rec)
 df:W.heap[D]? =some (.deferred (some []))
theorem SSt.up {w:World}{pc:Array Value}{n l0 D k:Nat}{rec:Loop}{W W':World}(h:SSt w pc n l0 D rec k W)(hb:Below W.heap.size W W'):SSt w pc n l0 D rec k W':=by
 obtain⟨cs,h1,h2⟩:=h.tr;exact⟨h.low.trans (hb.mono h.low.size),h.pb.on hb,h.st.on hb,⟨cs,h1,h2.on hb⟩,h.tv.on hb,h.pf.on hb,(hb.block l0 (amA.1 h.lp).1).trans h.lp,(hb.block D (amA.1 h.df).1).trans h.df⟩
theorem TBx.put {w:World}{b l:Nat}{cs:Array Value}{T:TypeId}(h:TBx w b cs T)(hne:b≠l)(o:Obj):TBx (w.putObj l o) b cs T:=(World.putObj_heap_other hne).trans h
theorem SSt.round {w:World}{pc:Array Value}{n l0 D k:Nat}{rec:Loop}{W:World}(h:SSt w pc n l0 D rec k W)(hk:k<n)(hl:w.heap.size+5<=l0)(hD:w.heap.size+5<=D)(hne:D≠l0)(o1 o2:Obj){s:BA}(hs:(s.toList== [])=false):
 SSt w pc n l0 D rec (k+1) ((((W.alloc o1).putObj l0 o2).setCell ⟨w.heap.size+2,k,none⟩ (.string s)).putObj l0 (.loop rec)):=by
 have h1:=h.up ((am3 W.heap.size W).alloc ano o1);obtain⟨cs,hc1,hc2⟩:=h1.tr;have hll:l0<(W.alloc o1).heap.size :=(amA.1 h1.lp).1;have b1:=aI h1.low (by omega:w.heap.size<=l0) o2;have b2:=b1.setCell (p:=⟨w.heap.size+2,k,none⟩) (by show w.heap.size<=w.heap.size+2;omega) (.string s);refine⟨aI b2 (by omega) _,((h1.pb.put (by omega) _).other (by omega) _ _).put (by omega) _,((h1.st.put (by omega) _).other (by omega) _ _).put (by omega) _,⟨_,hc1.set hk hs,((hc2.put (by omega) _).set k (.string s)).put (by omega) _⟩,((h1.tv.put (by omega) _).other (by omega) _ _).put (by omega) _,((h1.pf.put (by omega) _).other (by omega) _ _).put (by omega) _,World.putObj_heap_same ?_,?_⟩
 ·exact amS hll (by simp)
 ·refine(World.putObj_heap_other hne).trans ((amR _ _ _ _ ?_).trans ((World.putObj_heap_other hne).trans h1.df))
  show D≠w.heap.size+2;omega
structure S2t (w:World) (pc:Array Value) (n D M:Nat) (W:World):Prop where
 low:Below w.heap.size w W
 pb:TBx W w.heap.size pc 155
 st:adY w.heap.size (w.heap.size+1) M W
 tr:∃cs,ToR n n cs/\TBx W (w.heap.size+2) cs 9
 tv:TBx W (w.heap.size+3) #[.slice (some ⟨w.heap.size+2,0,none⟩) n n] 237
 df:W.heap[D]? =some (.deferred (some []))
theorem S2t.up {w:World}{pc:Array Value}{n D M:Nat}{W W':World}(h:S2t w pc n D M W)(hb:Below W.heap.size W W'):S2t w pc n D M W':=by
 obtain⟨cs,h1,h2⟩:=h.tr;exact⟨h.low.trans (hb.mono h.low.size),h.pb.on hb,h.st.on hb,⟨cs,h1,h2.on hb⟩,h.tv.on hb,(hb.block D (amA.1 h.df).1).trans h.df⟩
theorem S2t.left {w:World}{pc:Array Value}{n D M:Nat}{W W':World}(h:S2t w pc n D M W)(hl:SLeft w.heap.size (w.heap.size+1) (M+1) W W')(hD:D≠w.heap.size+1):S2t w pc n D (M+1) W':=by
 obtain⟨cs,h1,h2⟩:=h.tr;exact⟨h.low.trans hl.low,hl.tb h.pb (by omega) (by decide),hl.st,⟨cs,h1,hl.tb h2 (by omega) (by decide)⟩,hl.tb h.tv (by omega) (by decide),hl.far _ _ h.df hD (fun cur e=>by cases e)⟩
theorem idS_ne (cause:BA)(k:Nat):((idS cause k).toList == [])=false:=by
 have h:(idS cause k).size ≠0:=by
  unfold idS;rw[ByteArray.size_append,ByteArray.size_append];show cause.size+1+_≠0;omega
 cases hq:((idS cause k).toList == [])with
 |false=>rfl
 |true=>
  have h2:(idS cause k).toList =[]:=by simpa using hq
  rw[aF]at h2;exact absurd (by rw[bR];rw[h2];rfl) h
theorem acY (p:PlS){old:List Lt}{ns ms fs:List Int}{K:Nat}(hk:p.m.keep=true)(hq:(p.parts.toList== [])=false)(hp:PlOk p old ns ms fs K)(hn0:1<=p.n)(w:World)(hl:PlW p old ns ms fs w):
 Calls prog 75 #[plV p] w fun e w'=>(∃A n c,e= .returned (.slice A n c))/\Below w.heap.size w w':=by
 have HP:=amy hp;have HL:=amy hl;have hnn:=hp.n;have KF:=nV p;obtain⟨p0,hp0⟩:∃q,p=q:=⟨_,rfl⟩;have HP0:=amy hp0;obtain⟨⟨cause,day,ins,oth,rn,rd,sn,sd,pn,pd,keep⟩,A,n,c,parts,an,ad,AN,cN,AM,cM,AF,cF,AP,cP⟩:=p;dsimp only[plV,plA]at*
 subst hk;clear hp hl hp0;replace HP:Hid (PlOk p0 old ns ms fs K):=by rw[<-HP0.o];exact HP
 replace HL:Hid (PlW p0 old ns ms fs w):=by rw[<-HP0.o];exact HL
 have HC:Hid (plA p0=(pU cause day ins oth rn rd sn sd pn pd A n c parts an ad AN n cN AM n cM AF n cF AP n cP)):=by show plA p0=_;rw[<-HP0.o];rfl
 have HCa:Hid (p0.m.cause=cause/\p0.n=n):=by rw[<-HP0.o];exact⟨rfl,rfl⟩
 have HM:∀u:World,(Instr.makeSlice 237 (.int .i64 (n:Int)) (.int .i64 (n:Int))).run prog u= .ok (.slice (some ⟨u.heap.size,0,none⟩) n n) (u.alloc (.cells (madeCells #[.string ⟨#[]⟩] n) 9)):=by
  intro u;obtain⟨i0,hi,hz0,hz1,hz2⟩:=info_parts alr;have:=run_make u 237 9 i0 (.string ⟨#[]⟩) (by kernel_rfl) hi hz0 .i64 .i64 (n:Int) (n:Int) (by omega) (Int.le_refl _) (by rw[hz2];omega) (by omega);rw[hz1,anm,Nat.mul_one]at this;exact this
 have a1:=TBx.new w (pU cause day ins oth rn rd sn sd pn pd A n c parts an ad AN n cN AM n cM AF n cF AP n cP) 155;have b1:=TBx.new (w.alloc (.cells (pU cause day ins oth rn rd sn sd pn pd A n c parts an ad AN n cN AM n cM AF n cF AP n cP) 155)) #[.slice none 0 0] 37;have c1:=TBx.new ((w.alloc (.cells (pU cause day ins oth rn rd sn sd pn pd A n c parts an ad AN n cN AM n cM AF n cF AP n cP) 155)).alloc (.cells #[.slice none 0 0] 37)) (madeCells #[.string ⟨#[]⟩] n) 9;have d1:=TBx.new (((w.alloc (.cells (pU cause day ins oth rn rd sn sd pn pd A n c parts an ad AN n cN AM n cM AF n cF AP n cP) 155)).alloc (.cells #[.slice none 0 0] 37)).alloc (.cells (madeCells #[.string ⟨#[]⟩] n) 9)) #[.slice (some ⟨w.heap.size+2,0,none⟩) n n] 237;have hb4:Below w.heap.size w ((((w.alloc (.cells (pU cause day ins oth rn rd sn sd pn pd A n c parts an ad AN n cN AM n cM AF n cF AP n cP) 155)).alloc (.cells #[.slice none 0 0] 37)).alloc (.cells (madeCells #[.string ⟨#[]⟩] n) 9)).alloc (.cells #[.slice (some ⟨w.heap.size+2,0,none⟩) n n] 237)):=((anp.alloc (by simp) _).alloc (by simp;omega) _).alloc (by simp;omega) _;have a4:=((a1.alloc (.cells #[.slice none 0 0] 37)).alloc (.cells (madeCells #[.string ⟨#[]⟩] n) 9)).alloc (.cells #[.slice (some ⟨w.heap.size+2,0,none⟩) n n] 237);have b4:=(b1.alloc (.cells (madeCells #[.string ⟨#[]⟩] n) 9)).alloc (.cells #[.slice (some ⟨w.heap.size+2,0,none⟩) n n] 237);have c4:=c1.alloc (.cells #[.slice (some ⟨w.heap.size+2,0,none⟩) n n] 237);have s4:((((w.alloc (.cells (pU cause day ins oth rn rd sn sd pn pd A n c parts an ad AN n cN AM n cM AF n cF AP n cP) 155)).alloc (.cells #[.slice none 0 0] 37)).alloc (.cells (madeCells #[.string ⟨#[]⟩] n) 9)).alloc (.cells #[.slice (some ⟨w.heap.size+2,0,none⟩) n n] 237)).heap.size =w.heap.size+4:=by simp
 simp only[amD]at b4 c4 d1;have k1:=(a1.alloc (.cells #[.slice none 0 0] 37)).bx.c 11 (.slice A n c) rfl;have kp:=a4.bx.plan rfl;clear a1 b1 c1;refine(callsIn_wide (n:=6)).1 ?_;refine callsIn_of_wp_marks func75 rfl trivial ?_ rfl;simp only[ntmps75,List.size_toArray,amT,List.length_nil,Nat.reduceAdd,Nat.reduceSub,Array.replicate_succ,Array.replicate_zero,List.push_toArray,List.append_toArray,List.nil_append,List.cons_append]
 gi_wp2_with fail
 refine⟨trivial,(callsIn_wide).2 ((KF _).mono ?_)⟩;rintro e w5 ⟨rfl,rfl⟩;have hb5:Below w.heap.size w (((((w.alloc (.cells (pU cause day ins oth rn rd sn sd pn pd A n c parts an ad AN n cN AM n cM AF n cF AP n cP) 155)).alloc (.cells #[.slice none 0 0] 37)).alloc (.cells (madeCells #[.string ⟨#[]⟩] n) 9)).alloc (.cells #[.slice (some ⟨w.heap.size+2,0,none⟩) n n] 237)).alloc (.cells (pU cause day ins oth rn rd sn sd pn pd A n c parts an ad AN n cN AM n cM AF n cF AP n cP) 155)):=hb4.alloc (by rw[s4];omega) _;have a5:=a4.alloc (.cells (pU cause day ins oth rn rd sn sd pn pd A n c parts an ad AN n cN AM n cM AF n cF AP n cP) 155);have b5:=b4.alloc (.cells (pU cause day ins oth rn rd sn sd pn pd A n c parts an ad AN n cN AM n cM AF n cF AP n cP) 155);have c5:=c4.alloc (.cells (pU cause day ins oth rn rd sn sd pn pd A n c parts an ad AN n cN AM n cM AF n cF AP n cP) 155);have d5:=d1.alloc (.cells (pU cause day ins oth rn rd sn sd pn pd A n c parts an ad AN n cN AM n cM AF n cF AP n cP) 155);have e5:=TBx.new ((((w.alloc (.cells (pU cause day ins oth rn rd sn sd pn pd A n c parts an ad AN n cN AM n cM AF n cF AP n cP) 155)).alloc (.cells #[.slice none 0 0] 37)).alloc (.cells (madeCells #[.string ⟨#[]⟩] n) 9)).alloc (.cells #[.slice (some ⟨w.heap.size+2,0,none⟩) n n] 237)) (pU cause day ins oth rn rd sn sd pn pd A n c parts an ad AN n cN AM n cM AF n cF AP n cP) 155;have s5:(((((w.alloc (.cells (pU cause day ins oth rn rd sn sd pn pd A n c parts an ad AN n cN AM n cM AF n cF AP n cP) 155)).alloc (.cells #[.slice none 0 0] 37)).alloc (.cells (madeCells #[.string ⟨#[]⟩] n) 9)).alloc (.cells #[.slice (some ⟨w.heap.size+2,0,none⟩) n n] 237)).alloc (.cells (pU cause day ins oth rn rd sn sd pn pd A n c parts an ad AN n cN AM n cM AF n cF AP n cP) 155)).heap.size =w.heap.size+5:=by simp
 obtain⟨W5,hW5⟩:=eX (((((w.alloc (.cells (pU cause day ins oth rn rd sn sd pn pd A n c parts an ad AN n cN AM n cM AF n cF AP n cP) 155)).alloc (.cells #[.slice none 0 0] 37)).alloc (.cells (madeCells #[.string ⟨#[]⟩] n) 9)).alloc (.cells #[.slice (some ⟨w.heap.size+2,0,none⟩) n n] 237)).alloc (.cells (pU cause day ins oth rn rd sn sd pn pd A n c parts an ad AN n cN AM n cM AF n cF AP n cP) 155));rw[s4]at e5⊢
 rw[hW5]at hb5 a5 b5 c5 d5 e5 s5⊢
 replace s5:=Nat.le_of_eq s5.symm;clear a4 b4 c4 d1 hb4 s4 kp k1 hW5;simp only[]
 gi_wp2_with fail
 refine fQ rfl (by omega) rfl trivial (enters_of func142 (by kernel_rfl) rfl) ?_;intro fn hfn r hr;have hst:r.state= .ready :=by rw[hr]
 have hpe:r.pending=none:=by rw[hr]
 have HS:Hid (SSt w (pU cause day ins oth rn rd sn sd pn pd A n c parts an ad AN n cN AM n cM AF n cF AP n cP) n (W5.heap.size+1) W5.heap.size r 0 ((W5.alloc (.deferred (some []))).alloc (.loop r))):=by
  have hbb:Below W5.heap.size W5 ((W5.alloc (.deferred (some []))).alloc (.loop r)):=anp.alloc (by simp) _;refine⟨hb5.trans (hbb.mono hb5.size),a5.on hbb,b5.on hbb,⟨_,ToR.made n,c5.on hbb⟩,d5.on hbb,e5.on hbb,?_,?_⟩
  ·have:=World.alloc_heap_new (W5.alloc (.deferred (some []))) (.loop r)
   rwa[amD]at this
  ·exact(Below.heap_alloc _ _ _ (by simp)).trans (World.alloc_heap_new W5 _)
 refine(xB (p:=p0) (W5.heap.size+1) (w.heap.size+4) HP.o (fun k W=>SSt w (pU cause day ins oth rn rd sn sd pn pd A n c parts an ad AN n cN AM n cM AF n cF AP n cP) n (W5.heap.size+1) W5.heap.size r k W) (fun W=>False) (fun k W h=>⟨HL.o.on h.low,by unfold PBox;rw[HC.o];exact h.pf⟩) (fun k W W' h hb=>h.up hb) ?_ _ HS.o).mono ?_
 ·intro k W1 x hk hx hG
  have hy:=run_yield (P:=prog) (args:= #[.int .i64 (k:Int),ltV (frL p0.m x k ns[k]! ms[k]! fs[k]!)]) hG.lp (by rw[hr];rfl);refine⟨_,_,_,_,hy,roundIn_of_wpIn (by rw[hr];exact hfn) ?_⟩;have e1:=congrArg Loop.assign hr;have e2:=congrArg Loop.body hr;have e3:=congrArg Loop.tmps hr;have e4:=congrArg Loop.params hr;dsimp only at e1 e2 e3 e4;rw[e1,e2,e3,e4];have HG:=amy hG;have Hst:=amy hst;have Hpe:=amy hpe;clear e1 e2 e3 e4 hr hy hG hst hpe HS hx;have hkn:k<n:=by have:=HCa.o.2;omega
  have hid:=idS_ne p0.m.cause (k+1);dsimp only[ltV,ltA,frL];generalize idS p0.m.cause (k+1)=nid at*
  generalize ae ns[k]! =c1 at*
  generalize ae (ms[k]! -fs[k]!)=c2 at*
  gi_wp2_with fail
  have HGa:=amy (HG.o.up ((am3 W1.heap.size W1).alloc ano (.cells (ag6 nid p0.m.oth x.acq x.opn c1 c2 c1) 62)));refine⟨_,run_beginRound HGa.o.lp Hst.o,?_⟩;have hl0:W1.heap.size≠W5.heap.size+1:=by have:=(amA.1 HG.o.lp).1;omega
  have XP:Bx ((W1.alloc (.cells (ag6 nid p0.m.oth x.acq x.opn c1 c2 c1) 62)).putObj (W5.heap.size+1) (.loop {r with state:=.busy})) W1.heap.size (ag6 nid p0.m.oth x.acq x.opn c1 c2 c1):=⟨_,(World.putObj_heap_other hl0).trans (bJ W1 _)⟩;have VP:=HGa.o.tv.put (by omega:w.heap.size+3≠W5.heap.size+1) (.loop {r with state:=.busy});obtain⟨cs,hcs,hct⟩:=HGa.o.tr;have TP:=hct.put (by omega:w.heap.size+2≠W5.heap.size+1) (.loop {r with state:=.busy});have HRR:=amy (HG.o.round hkn (by omega) (by omega) (by omega) (.cells (ag6 nid p0.m.oth x.acq x.opn c1 c2 c1) 62) (.loop {r with state:=.busy}) hid);obtain⟨WP,hWP⟩:∃WP,(W1.alloc (.cells (ag6 nid p0.m.oth x.acq x.opn c1 c2 c1) 62)).putObj (W5.heap.size+1) (.loop {r with state:=.busy})=WP:=⟨_,rfl⟩;have hlpP:WP.heap[W5.heap.size+1]? =some (.loop {r with state:=.busy}):=by rw[<-hWP];exact World.putObj_heap_same (amA.1 HGa.o.lp).1
  rw[hWP]at XP VP TP HRR⊢
  obtain⟨t,ht1,ht2⟩:=hcs.2 k hkn;have z0:=XP.c 0 (.string nid) rfl;have vc:=VP.bx.c 0 (.slice (some ⟨w.heap.size+2,0,none⟩) n n) rfl;have tc:=TP.bx.c k (.string t) ht1;have tf:=TP.bx.frozen k;have qk:decide (k<n)=true:=am2 hkn;have qk2:(k:Int)<(n:Int):=by omega
  have hlpS:(WP.setCell ⟨w.heap.size+2,k,none⟩ (.string nid)).heap[W5.heap.size+1]? =some (.loop {r with state:=.busy}):=(amR _ _ _ _ (by show W5.heap.size+1≠w.heap.size+2;omega)).trans hlpP;have HLS:=amy hlpS;clear hWP hcs hct hid ht1 ht2 hlpP hlpS XP VP TP
  gi_wp2_with fail
  refine⟨_,_,run_endRound none HLS.o,.inl ⟨rfl,?_⟩⟩;have hlr:({r with state:=if (none:Option Code).isNone then LoopState.ready else .done,pending:=none}:Loop)=r:=by have h1:=Hst.o;have h2:=Hpe.o;cases r;simp_all
  show SSt _ _ _ _ _ _ _ (World.putObj _ _ (.loop {r with state:=if (none:Option Code).isNone then LoopState.ready else .done,pending:=none}));rw[hlr];exact HRR.o
 ·rintro e W4 ⟨⟨v,rfl⟩,hor⟩
  have hG:=hor.resolve_right (fun h=>h);clear hor;obtain⟨o5,ho5⟩:∃o5:Obj,o5= .loop {r with state:=.exhausted}:=⟨_,rfl⟩;have hend:=run_endLoop (P:=prog) hG.lp (by rw[hst];decide);rw[<-ho5]at hend;clear ho5;rw[hpe]at hend;have hlp:W5.heap.size+1<W4.heap.size:=(amA.1 hG.lp).1;have hb6:Below w.heap.size w (W4.putObj (W5.heap.size+1) o5):=aI hG.low (by omega) _;have a6:=hG.pb.put (by omega:w.heap.size≠W5.heap.size+1) o5;have b6:=hG.st.put (by omega:w.heap.size+1≠W5.heap.size+1) o5;obtain⟨cs,hcs,hct⟩:=hG.tr;have c6:=hct.put (by omega:w.heap.size+2≠W5.heap.size+1) o5;have d6:=hG.tv.put (by omega:w.heap.size+3≠W5.heap.size+1) o5;have df6:(W4.putObj (W5.heap.size+1) o5).heap[W5.heap.size]? =some (.deferred (some [])):=(World.putObj_heap_other (by omega)).trans hG.df;obtain⟨W6,hW6⟩:=eX (W4.putObj (W5.heap.size+1) o5);rw[hW6]at hend hb6 a6 b6 c6 d6 df6;refine⟨none,W6,hend,?_⟩;have HA6:=amy a6;have HB6:Hid (adY w.heap.size (w.heap.size+1) 0 W6):=⟨_,0,[],am4 _,b6,World.ownsRow_nil _ _ _ _⟩;have HC6:Hid (∃cs,ToR n n cs/\TBx W6 (w.heap.size+2) cs 9):=⟨cs,by rw[HCa.o.2]at hcs;exact hcs,c6⟩;have HD6:=amy d6;have HF6:=amy df6;have HBB:=amy hb6;have x11:=a6.bx.c 11 (.slice A n c) rfl;clear hr hG hst hpe HS hW6 hend hcs hct c6 a6 b6 d6 df6 hb6 hlp;simp only[];have H2:Hid (S2t w (pU cause day ins oth rn rd sn sd pn pd A n c parts an ad AN n cN AM n cM AF n cF AP n cP) n W5.heap.size 0 W6):=⟨HBB.o,HA6.o,HB6.o,HC6.o,HD6.o,HF6.o⟩;clear HA6 HB6 HC6 HD6 HF6 HBB
  gi_wp2_with fail
  refine wpIn_wide.2 ?_;clear x11;simp only[List.cons_append,List.nil_append]
  go_loopw [28] (fun s wr=>∃k:Nat,k<=n/\s= .int .i64 (k:Int)/\Hid (S2t w (pU cause day ins oth rn rd sn sd pn pd A n c parts an ad AN n cN AM n cM AF n cF AP n cP) n W5.heap.size (2*k) wr)) (fun s _=>(n-intOf s).toNat)
  case atStart=>exact⟨0,by omega,rfl,H2⟩
  case round=>
   clear H2;obtain⟨k,hk,rfl,H⟩:=hrel;by_cases hkn:k=n
   ·subst hkn
    have q:decide ((k:Int)<(k:Int))=false:=am1 (by omega);obtain⟨v,m,xs,hm,hv,hown⟩:=H.o.st;have vc:=hv.bx.c 0 v rfl;clear hv hm;have hvv:∃A n c,v= .slice A n c:=by
     rcases hown.2 with ⟨rfl,_⟩|⟨g,cap,cur,rfl,_⟩
     ·exact⟨_,_,_,rfl⟩
     ·exact⟨_,_,_,rfl⟩
    obtain⟨Av,nv,cv,rfl⟩:=hvv;clear hown
    go_wp2_with fail
    gi_wp2_with fail
    refine⟨by simp,.inl ⟨_,_,rfl,run_takeDeferred H.o.df,?_⟩⟩;refine⟨_,results_tmp rfl _ _ _,⟨_,_,_,rfl⟩,aI H.o.low (by omega) _⟩
   ·have hkl:k<n:=by omega
    have q:decide ((k:Int)<(n:Int))=true:=am2 (by omega);have qn:(k:Int)<(n:Int):=by omega
    have qn2:decide (k<n)=true:=am2 hkl;have hnp:=HCa.o.2;obtain⟨x,hx⟩:∃x,old[k]? =some x:=⟨old[k]'(by have:=HP.o.lo;omega),by simp⟩;have hA0:p0.A=A/\p0.AN=AN/\p0.AM=AM/\p0.AF=AF:=by rw[<-HP0.o];exact⟨rfl,rfl,rfl,rfl⟩
    obtain⟨b2,o2,e2,l2,hcells⟩:=dV (cs:=aa) (m:=7) aJ (by decide) (HL.o.on H.o.low).ro hx;obtain⟨y0,y1,y2,y3,y4,y5,y6⟩:=dI hcells;rw[hA0.1]at e2;have KMV:=uI p0 HP.o.lm HP.o.lf (by omega:k<p0.n) HP.o.kk HP.o.zm HP.o.zf (by omega);have hpv:plV p0= .agg (pU cause day ins oth rn rd sn sd pn pd A n c parts an ad AN n cN AM n cM AF n cF AP n cP):=by rw[<-HC.o];rfl
    rw[hpv,hA0.2.2.1,hA0.2.2.2]at KMV;have hba:Below wr.heap.size wr (wr.alloc (.cells (ag6 x.id x.ins x.acq x.opn x.q x.c x.u) 62)):=anp;have HA:=amy (H.o.up hba);have BD:=TBx.new wr (ag6 x.id x.ins x.acq x.opn x.q x.c x.u) 62;have x11:=H.o.pb.bx.c 11 (.slice A n c) rfl;subst e2;generalize ae (ms[k]! -fs[k]!)=cm at*
    clear hcells hx;have hgA:Gl (wr.alloc (.cells (ag6 x.id x.ins x.acq x.opn x.q x.c x.u) 62)):=HL.o.gl.below HA.o.low;have hsA:St w (wr.alloc (.cells (ag6 x.id x.ins x.acq x.opn x.q x.c x.u) 62)):=⟨HL.o.gl,HA.o.low⟩;obtain⟨cs,hcs,hct⟩:=HA.o.tr;obtain⟨t,ht1,ht2⟩:=hcs.2 k hkl;replace ht2:=ht2 hkl;have PBA:=HA.o.pb;have TVA:=HA.o.tv;have vq:=BD.bx.c 4 (.string x.q) rfl;have vk:=PBA.bx.c 10 (.bool true) rfl;have vp:=PBA.bx.c 12 (.string parts) rfl;have vt:=TVA.bx.c 0 (.slice (some ⟨w.heap.size+2,0,none⟩) n n) rfl;have vr:=hct.bx.c k (.string t) ht1
    go_wp2_with fail
    have hbxl:w.heap.size+3<wr.heap.size:=(amA.1 H.o.tv).1;have hWn:wr.heap.size<(wr.alloc (.cells (ag6 x.id x.ins x.acq x.opn x.q x.c x.u) 62)).heap.size :=by simp
    have hRN:=(HL.o.on HA.o.low).rn;have hRM:=(HL.o.on HA.o.low).rm;have hRF:=(HL.o.on HA.o.low).rf;rw[hA0.2.1]at hRN;rw[hA0.2.2.1]at hRM;rw[hA0.2.2.2]at hRF;obtain⟨bN,oN,eN,lN,cNk⟩:=hRN.at (k:=k) (by have:=HP.o.ln;omega);obtain⟨bF,oF,eF,lF,cFk⟩:=hRF.at (k:=k) (by have:=HP.o.lf;omega);subst eN eF;generalize ae (ns[k]'(by have:=HP.o.ln;omega))=nk at*
    generalize ae (fs[k]'(by have:=HP.o.lf;omega))=fk at*
    obtain⟨W7,hW7⟩:=eX (wr.alloc (.cells (ag6 x.id x.ins x.acq x.opn x.q x.c x.u) 62));rw[hW7]at HA BD hgA hsA hct PBA TVA hWn vr hRM hRF lN cNk lF cFk⊢
    generalize wr.heap.size=bx at*
    have kpl0:∀u:Kept W7,(loadVar 155 ⟨w.heap.size,0,none⟩).run prog u.W= .ok (.agg (pU cause day ins oth rn rd sn sd pn pd (some ⟨b2,o2,none⟩) n c parts an ad (some ⟨bN,oN,none⟩) n cN AM n cM (some ⟨bF,oF,none⟩) n cF AP n cP)) u.W:=fun u=>(PBA.on u.low).bx.plan rfl
    have kf0:=PBA.bx.k 0 (.string cause) rfl;have kf15:=PBA.bx.k 15 (.slice (some ⟨bN,oN,none⟩) n cN) rfl;have kx0:=BD.bx.k 0 (.string x.id) rfl;have kv0:=TVA.bx.k 0 (.slice (some ⟨w.heap.size+2,0,none⟩) n n) rfl;have kt0:=hct.bx.k k (.string t) ht1;have kn0:∀u:Kept W7,u.W.cell? ⟨bN,oN+k,none⟩=some (.string nk):=Kept.cell_of cNk;have hII:∀u:Kept W7,pW u.W AM ms/\pW u.W (some ⟨bF,oF,none⟩) fs:=fun u=>⟨hRM.on u.low,hRF.on u.low⟩
    refine bA 20 (by kernel_rfl) (by kernel_rfl) ?_;simp only[List.take_succ_cons,List.take_zero,List.drop_succ_cons,List.drop_zero]
    repeat (go_big_quiet_step (first|(with_reducible exact dY KMV (St.refl hgA) hII)))
    refine wpQuiet_nil ?_;rintro _ ⟨u,rfl⟩;have HU1:=amy (HA.o.up u.low);have hsu:w.heap.size<=u.W.heap.size:=HU1.o.low.size;have HBD:=amy BD;have HLW:=amy u.low;clear kpl0 kf0 kf15 kx0 kv0 kt0 kn0 hII KMV vt vr
    go_wp2_with fail
    refine(acz _ _ _ _ _ _ u.W (by omega) (by omega) hsu HU1.o.st).mono ?_;rintro e w8 ⟨⟨v8,rfl⟩,hl8⟩;have HL8:=amy hl8;have HU2:=amy (HU1.o.left hl8 (by omega));have BD8:=hl8.tb (BD.on u.low) (by omega) (by decide);clear hl8
    go_wp2_with fail
    have hRF8:=(HL.o.on HU2.o.low).rf;rw[hA0.2.2.2]at hRF8;obtain⟨bG,oG,eG,lG,cGk⟩:=hRF8.at (k:=k) (by have:=HP.o.lf;omega);injection eG with eG
    injection eG with eG1 eG2
    subst eG1 eG2;generalize ae (fs[k]'(by have:=HP.o.lf;omega))=fk8 at*
    have PB8:=HU2.o.pb;have kf0:=PB8.bx.k 0 (.string cause) rfl;have kf17:=PB8.bx.k 17 (.slice (some ⟨bF,oF,none⟩) n cF) rfl;have kx0:=BD8.bx.k 0 (.string x.id) rfl;have kn0:∀u:Kept w8,u.W.cell? ⟨bF,oF+k,none⟩=some (.string fk8):=Kept.cell_of cGk;refine bA 13 (by kernel_rfl) (by kernel_rfl) ?_;simp only[List.take_succ_cons,List.take_zero,List.drop_succ_cons,List.drop_zero]
    repeat (go_big_quiet_step (fail))
    refine wpQuiet_nil ?_;rintro _ ⟨u8,rfl⟩;have HU3:=amy (HU2.o.up u8.low);have hsu8:w.heap.size<=u8.W.heap.size:=HU3.o.low.size;clear kf0 kf17 kx0 kn0 BD8 PB8 cGk
    go_wp2_with fail
    refine(acz _ _ _ _ _ _ u8.W (by omega) (by omega) hsu8 HU3.o.st).mono ?_;rintro e w9 ⟨⟨v9,rfl⟩,hl9⟩;have HU4:=amy (HU3.o.left hl9 (by omega));rw[show 2*k+1+1=2*(k+1)by omega]at HU4;clear hl9
    go_wp2_with fail
    go_roundw
    case rel=>exact⟨k+1,by omega,by go_num,HU4⟩
    case measure=>simp[intOf];omega
end
end Go.Proofs.YtbkhnggmcheelaaGreatDoor
