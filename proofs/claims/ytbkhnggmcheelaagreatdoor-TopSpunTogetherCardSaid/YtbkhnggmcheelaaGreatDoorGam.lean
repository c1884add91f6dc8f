/- TopSpunTogether: Mappings of lots. Conditions: bounded sizes; variables as laid. -/
import Derived.Test.YtbkhnggmcheelaaGreatDoorGal
set_option linter.unusedSimpArgs false
set_option linter.unusedVariables false
set_option maxHeartbeats 4000000
set_option maxRecDepth 100000
namespace Go.Proofs.YtbkhnggmcheelaaGreatDoor
open Proofs.Tryz
section
open Go.RowKit Go.Shelf Dec QQ SP
attribute [local go_sem] Oper.semAt_some
attribute [-go_sem] loadVar
theorem ajX (t:TypeId)(_:t≠155)(a:Addr):loadVar t a=(do if<-isAgg t then pure (.agg (<-loadCells a (<-sizeOf t)))else load a):=rfl
attribute [local go_sem] ajX
theorem Bx.plan {w:World}{b:Nat}{cs:Array Value}(h:Bx w b cs)(hs:cs.size=19):(loadVar 155 ⟨b,0,none⟩).run prog w= .ok (.agg cs) w:=by
 have:=run_loadVar_mid (P:=prog) w b 0 155 cs.toList (prog.underlying 155).get! (fun j v hv=>by rw[am5];exact h.cell (by simpa using hv)) (by kernel_rfl) (by kernel_rfl) (by rw[Array.length_toList,hs];kernel_rfl);simpa using this
theorem uC {I:World->Prop}{w0 w:World}{f:FuncId}{args:Array Value}{V:Value}{S:Type}{W:S->World}(h:iO I f args V)(hs:St w0 w)(hI:∀u,I (W u))(hk:∀u,Below w.heap.size w (W u))(hc:∀u w'',Below (W u).heap.size (W u) w''->∃u',w''=W u'){u:S}:
 Calls prog f args (W u) fun e w''=>e= .returned V/\∃u',w''=W u':=
 (h (W u) (hs.gl.below (hk u)) (hI u)).mono fun _ w'' ⟨he,hb⟩=>⟨he,hc u w'' hb⟩
def frL (m:MapS)(x:Lt)(k:Nat)(nk mk fk:Int):Lt:=⟨idS m.cause (k+1),m.oth,x.acq,x.opn,ae nk,ae (mk-fk),ae nk⟩
structure PlOk (p:PlS) (old:List Lt) (ns ms fs:List Int) (K:Nat):Prop where
 lo:old.length=p.n
 ln:ns.length=p.n
 lm:ms.length=p.n
 lf:fs.length=p.n
 n:p.n<=1000
 kk:K<=5000
 nz:∀x∈ns,x≠0
 zm:∀x∈ms,Fit K x
 zf:∀x∈fs,Fit K x
 cz:p.m.cause.size<=1000
structure PlW (p:PlS) (old:List Lt) (ns ms fs:List Int) (W:World):Prop where
 gl:Gl W
 ro:Row W p.A (av aa old)
 rn:pW W p.AN ns
 rm:pW W p.AM ms
 rf:pW W p.AF fs
theorem PlW.on {p:PlS}{old:List Lt}{ns ms fs:List Int}{W W':World}(h:PlW p old ns ms fs W)(hb:Below W.heap.size W W'):PlW p old ns ms fs W':=⟨h.gl.below hb,h.ro.on hb,h.rn.on hb,h.rm.on hb,h.rf.on hb⟩
theorem ab9 {l:List Int}{i:Nat}(h:i<l.length):l[i]! ∈l:=by rw[getElem!_pos l i h];exact List.getElem_mem h
def PBox (W:World)(b:Nat)(p:PlS):Prop:=W.heap[b]? =some (.cells (plA p) 155 (0,0))
theorem PBox.bx {W:World}{b:Nat}{p:PlS}(h:PBox W b p):Bx W b (plA p):=⟨_,h⟩
theorem xB {p:PlS}{old:List Lt}{ns ms fs:List Int}{K:Nat}(l0 Bp:Nat)(hp:PlOk p old ns ms fs K)(Inv:Nat->World->Prop)(Stop:World->Prop)
 (hG:∀k W,Inv k W->PlW p old ns ms fs W/\PBox W Bp p) (hU:∀k W W',Inv k W->Below W.heap.size W W'->Inv k W')
 (hY:∀k W1 x,k<p.n->old[k]? =some x->Inv k W1->YieldAt Fence.wide 4 prog l0 #[.int .i64 (k:Int),ltV (frL p.m x k ns[k]! ms[k]! fs[k]!)] W1 fun e W'=>(e= .returned (.bool true)/\Inv (k+1) W')\/(e= .returned (.bool false)/\Stop W'))
 (W:World) (h0:Inv 0 W):
 CallsIn Fence.wide 5 prog 142 #[.func (.yield l0) #[] #[],.pointer (some ⟨Bp,0,none⟩)] W fun en W'=>(∃v,en= .returned v)/\(Inv p.n W'\/Stop W'):=by
 have HG:=amy hG;have HU:=amy hU;have HY:=amy hY;have H0:=amy h0;have HP:=amy hp;have hn:=hp.n;have KI:=fun k (h1:1<=k) (hk:k<=1000000)=>akN p hp.cz h1 hk
 have KMV:=fun k (hk:k<p.n)=>uI p hp.lm hp.lf hk hp.kk hp.zm hp.zf (by omega)
 have HKI:=amy KI;have HKM:=amy KMV;have HPE:Hid (PlS->True):=fun _=>trivial
 clear hG hU hY h0 hp KI KMV;obtain⟨p0,hp0⟩:∃q,p=q:=⟨_,rfl⟩;have HP0:=amy hp0;obtain⟨⟨cause,day,ins,oth,rn,rd,sn,sd,pn,pd,keep⟩,A,n,c,parts,an,ad,AN,cN,AM,cM,AF,cF,AP,cP⟩:=p;dsimp only[plV,plA]at*
 have hB0:Bx W Bp (plA p0):=by have:=(HG.o 0 W H0.o).2.bx;rw[hp0]at this;exact this
 clear hp0;have C0:Bx W Bp #[.string cause,.int .i64 day,.string ins,.string oth,.string rn,.string rd,.string sn,.string sd,.string pn,.string pd,.bool keep,.slice A n c,.string parts,.string an,.string ad,.slice AN n cN,.slice AM n cM,.slice AF n cF,.slice AP n cP]:=by have:=hB0;rw[<-HP0.o]at this;exact this
 have x11:=C0.c 11 (.slice A n c) rfl;have x15:=C0.c 15 (.slice AN n cN) rfl;clear hB0;refine callsIn_of_wp func142 rfl trivial ?_ rfl;simp only[ntmps142,List.size_toArray,amT,List.length_nil,Nat.reduceAdd,Nat.reduceSub,Array.replicate_succ,Array.replicate_zero,List.push_toArray,List.append_toArray,List.nil_append,List.cons_append]
 gi_wp2_with fail
 gi_loopw [12,3] (fun s r wr=>∃k:Nat,k<=n/\s= .int .i64 (k:Int)/\r= .string ⟨#[]⟩/\Hid (Inv 0 wr)) (fun s _ _=>(n-intOf s).toNat)
 case atStart=>exact⟨0,by omega,rfl,rfl,H0⟩
 case round=>
  obtain⟨k,hk,rfl,rfl,H⟩:=hrel;clear x11 x15;have C1:Bx wr Bp #[.string cause,.int .i64 day,.string ins,.string oth,.string rn,.string rd,.string sn,.string sd,.string pn,.string pd,.bool keep,.slice A n c,.string parts,.string an,.string ad,.slice AN n cN,.slice AM n cM,.slice AF n cF,.slice AP n cP]:=(HG.o 0 wr H.o).2.bx;have x11:=C1.c 11 (.slice A n c) rfl;have x15:=C1.c 15 (.slice AN n cN) rfl;by_cases hkn:k=n
  ·replace hkn:=hkn.symm
   subst hkn;have q:decide ((n:Int)<(n:Int))=false:=am1 (by omega)
   gi_wp2_with fail
   clear q x11 x15 C1
   gi_loopw [30,3,4] (fun s r t wr=>∃j:Nat,j<=n/\s= .int .i64 (j:Int)/\r= .string ⟨#[]⟩/\t= .int .i64 (j:Int)/\Hid (Inv j wr)) (fun s _ _ _=>(n-intOf s).toNat)
   case atStart=>exact⟨0,by omega,rfl,rfl,rfl,H⟩
   case round=>
    obtain⟨j,hj,rfl,rfl,rfl,H⟩:=hrel;have C2:Bx wr Bp #[.string cause,.int .i64 day,.string ins,.string oth,.string rn,.string rd,.string sn,.string sd,.string pn,.string pd,.bool keep,.slice A n c,.string parts,.string an,.string ad,.slice AN n cN,.slice AM n cM,.slice AF n cF,.slice AP n cP]:=(HG.o j wr H.o).2.bx;have hgl2:Gl wr:=(HG.o j wr H.o).1.gl;have x15:=C2.c 15 (.slice AN n cN) rfl;by_cases hjn:j=n
    ·subst hjn
     have q:decide ((j:Int)<(j:Int))=false:=am1 (by omega)
     gi_wp2_with fail
     go_end0
     exact⟨⟨_,rfl⟩,.inl H.o⟩
    have hjl:j<n:=by omega
    have q:decide ((j:Int)<(n:Int))=true:=am2 (by omega);have qn:(j:Int)<(n:Int):=by omega
    have qn2:decide (j<n)=true:=am2 hjl;have hl:j<ns.length:=by have:=HP.o.ln;dsimp only at this;omega
    have hlm:j<ms.length:=by have:=HP.o.lm;dsimp only at this;omega
    obtain⟨b1,o1,e1,l1,c1⟩:=(HG.o j wr H.o).1.rn.at hl;obtain⟨x,hx⟩:∃x,old[j]? =some x:=⟨old[j]'(by have:=HP.o.lo;dsimp only at this;omega),by simp⟩;obtain⟨b2,o2,e2,l2,hcells⟩:=dV (cs:=aa) (m:=7) aJ (by decide) (HG.o j wr H.o).1.ro hx;obtain⟨y0,y1,y2,y3,y4,y5,y6⟩:=dI hcells;dsimp only at e1 e2;subst e1 e2;have KI1:=HKI.o (j+1) (by omega) (by have:=HP.o.n;dsimp only at this;omega);have KM1:=HKM.o j hjl;have KA:=abq (x:=ms[j]! -fs[j]!) (Vs.can (Fit.sub (HP.o.zm _ (ab9 hlm)) (HP.o.zf _ (ab9 (by have:=HP.o.lf;dsimp only at this;omega)))) (by have:=HP.o.kk;omega)) Vs.nil;rw[Int.add_zero]at KA;have HYJ:=amy (fun W1=>HY.o j W1 x hjl hx);have hz:((ae ns[j]).toList == [])=false:=by
     rw[nil_eq];simpa using HP.o.nz _ (List.getElem_mem hl)
    have gn:ns[j]! =ns[j]:=getElem!_pos ns j hl;rw[gn]at HYJ;unfold frL ltV ltA at HYJ;have hji:((j+1:Nat):Int)=(j:Int)+1:=by omega
    rw[hji]at KI1;dsimp only at HYJ KI1 KM1;generalize idS cause (j+1)=ids at*
    generalize ae ns[j]=sn1 at*
    generalize ae (ms[j]! -fs[j]!)=sm1 at*
    clear hcells gn hx;obtain⟨xid,xins,xacq,xopn,xq,xc,xu⟩:=x;dsimp only at y0 y1 y2 y3 y4 y5 y6 HYJ;have hba:Below wr.heap.size wr (wr.alloc (.cells #[.string xid,.string xins,.int .i64 xacq,.int .i64 xopn,.string xq,.string xc,.string xu] 62)):=anp;have BD:=Bx.new wr #[.string xid,.string xins,.int .i64 xacq,.int .i64 xopn,.string xq,.string xc,.string xu] 62;have hi:=HU.o j _ _ H.o hba;have hGl3:=(HG.o j _ hi).1;have C3:=C2.on hba;have x15b:=C3.c 15 (.slice (some ⟨b1,o1,none⟩) n cN) rfl;have c1b:=(hba.cell (p:=⟨b1,o1+j,none⟩) l1).trans c1
    gi_wp2_with fail
    refine wpIn_wide.2 ?_;obtain⟨W3,hW3⟩:=eX (wr.alloc (.cells #[.string xid,.string xins,.int .i64 xacq,.int .i64 xopn,.string xq,.string xc,.string xu] 62));have l1':=amS l1 hba.size;rw[hW3]at BD hi hGl3 C3 c1b l1'⊢
    generalize wr.heap.size=bx at*
    clear x15 x15b c1 y0 y1 y2 y3 y4 y5 y6 hba;have hs3:=St.refl hGl3.gl;have hIM:pW W3 AM ms/\pW W3 AF fs:=⟨hGl3.rm,hGl3.rf⟩;refine gm 27 26 8 #[.string ⟨#[]⟩,.string ⟨#[]⟩,.int .i64 0,.int .i64 0,.string ⟨#[]⟩,.string ⟨#[]⟩,.string ⟨#[]⟩] (by kernel_rfl) (by kernel_rfl) (by kernel_rfl) (by omega) rfl (by kernel_rfl) ⟨_,8,_,rfl,rfl,rfl,fun _ _=>by simp[execOp,go_sem,ptrTo];rfl⟩ ?_;apply Exists.intro;refine⟨fun S W hne hk hcl=>?_,?_⟩
    ·simp only[List.take_succ_cons,List.take_zero,ib,anf,List.not_mem_nil,or_false,Nat.reduceAdd,Nat.reduceEqDiff,reduceIte,am5]
     have kk2:=BD.in hk (i:=2) (v:=.int .i64 xacq) rfl;have kk3:=BD.in hk (i:=3) (v:=.int .i64 xopn) rfl;have kp0:=C3.in hk (i:=0) (v:=.string cause) rfl;have kp1:=C3.in hk (i:=1) (v:=.int .i64 day) rfl;have kp2:=C3.in hk (i:=2) (v:=.string ins) rfl;have kp3:=C3.in hk (i:=3) (v:=.string oth) rfl;have kp4:=C3.in hk (i:=4) (v:=.string rn) rfl;have kp5:=C3.in hk (i:=5) (v:=.string rd) rfl;have kp6:=C3.in hk (i:=6) (v:=.string sn) rfl;have kp7:=C3.in hk (i:=7) (v:=.string sd) rfl;have kp8:=C3.in hk (i:=8) (v:=.string pn) rfl;have kp9:=C3.in hk (i:=9) (v:=.string pd) rfl;have kp10:=C3.in hk (i:=10) (v:=.bool keep) rfl;have kp11:=C3.in hk (i:=11) (v:=.slice (some ⟨b2,o2,none⟩) n c) rfl;have kp12:=C3.in hk (i:=12) (v:=.string parts) rfl;have kp13:=C3.in hk (i:=13) (v:=.string an) rfl;have kp14:=C3.in hk (i:=14) (v:=.string ad) rfl;have kp15:=C3.in hk (i:=15) (v:=.slice (some ⟨b1,o1,none⟩) n cN) rfl;have kp16:=C3.in hk (i:=16) (v:=.slice AM n cM) rfl;have kp17:=C3.in hk (i:=17) (v:=.slice AF n cF) rfl;have kp18:=C3.in hk (i:=18) (v:=.slice AP n cP) rfl;have kpl:∀u:S,(loadVar 155 ⟨Bp,0,none⟩).run prog (W u)= .ok (.agg #[.string cause,.int .i64 day,.string ins,.string oth,.string rn,.string rd,.string sn,.string sd,.string pn,.string pd,.bool keep,.slice (some ⟨b2,o2,none⟩) n c,.string parts,.string an,.string ad,.slice (some ⟨b1,o1,none⟩) n cN,.slice AM n cM,.slice AF n cF,.slice AP n cP]) (W u):=fun u=>(C3.on (hk u)).plan rfl
     have kr:∀u:S,(W u).cell? ⟨b1,o1+j,none⟩=some (.string sn1):=fun u=>((hk u).cell (p:=⟨b1,o1+j,none⟩) l1').trans c1b
     have hII:∀u:S,pW (W u) AM ms/\pW (W u) AF fs:=fun u=>⟨hIM.1.on (hk u),hIM.2.on (hk u)⟩
     repeat (go_big_quiet_step (first|(with_reducible exact KI1.fresh hs3 hk hcl)|(with_reducible exact uC KM1 hs3 hII hk hcl)|(with_reducible exact KA.fresh hs3 hk hcl)))
     exact wpQuiet_nil rfl
    intro b8 v hb8 hv hx8;simp only[List.drop_succ_cons,List.drop_zero,ptrTo];have e0:=hx8.c 0 (.string ⟨#[]⟩) rfl;have g0:=hx8.frozen 0;have e1:=hx8.c 1 (.string ⟨#[]⟩) rfl;have g1:=hx8.frozen 1;have e2:=hx8.c 2 (.int .i64 0) rfl;have g2:=hx8.frozen 2;have e3:=hx8.c 3 (.int .i64 0) rfl;have g3:=hx8.frozen 3;have e4:=hx8.c 4 (.string ⟨#[]⟩) rfl;have g4:=hx8.frozen 4;have e5:=hx8.c 5 (.string ⟨#[]⟩) rfl;have g5:=hx8.frozen 5;have e6:=hx8.c 6 (.string ⟨#[]⟩) rfl;have g6:=hx8.frozen 6
    go_wp2_with fail
    obtain⟨W5,hW5,X8,hi5⟩:∃W5,(((((((v.setCell ⟨b8,0,none⟩ (.string ids)).setCell ⟨b8,1,none⟩ (.string oth)).setCell ⟨b8,2,none⟩ (.int .i64 xacq)).setCell ⟨b8,3,none⟩ (.int .i64 xopn)).setCell ⟨b8,4,none⟩ (.string sn1)).setCell ⟨b8,5,none⟩ (.string sm1)).setCell ⟨b8,6,none⟩ (.string sn1))=W5/\Bx W5 b8 #[.string ids,.string oth,.int .i64 xacq,.int .i64 xopn,.string sn1,.string sm1,.string sn1]/\Inv j W5:=⟨_,rfl,(((((((hx8.set 0 (.string ids)).set 1 (.string oth)).set 2 (.int .i64 xacq)).set 3 (.int .i64 xopn)).set 4 (.string sn1)).set 5 (.string sm1)).set 6 (.string sn1)),HU.o j _ _ hi (((((((hv.setCell (p:=⟨b8,0,none⟩) hb8 _).setCell (p:=⟨b8,1,none⟩) hb8 _).setCell (p:=⟨b8,2,none⟩) hb8 _).setCell (p:=⟨b8,3,none⟩) hb8 _).setCell (p:=⟨b8,4,none⟩) hb8 _).setCell (p:=⟨b8,5,none⟩) hb8 _).setCell (p:=⟨b8,6,none⟩) hb8 _)⟩;rw[hW5];clear e0 e1 e2 e3 e4 e5 e6 g0 g1 g2 g3 g4 g5 g6 hx8 hv hW5 BD hi C3 hGl3 c1b KI1 KM1 KA;have z0:=X8.c 0 (.string ids) rfl;have z1:=X8.c 1 (.string oth) rfl;have z2:=X8.c 2 (.int .i64 xacq) rfl;have z3:=X8.c 3 (.int .i64 xopn) rfl;have z4:=X8.c 4 (.string sn1) rfl;have z5:=X8.c 5 (.string sm1) rfl;have z6:=X8.c 6 (.string sn1) rfl;obtain⟨fn,tmps,assign,body,hy,hR⟩:=HYJ.o W5 hi5;have HRR:=amy hR;clear hR
    gi_wp2_with fail
    refine HRR.o.mono ?_;rintro e W6 hor;rcases hor with ⟨rfl,hn6⟩|⟨rfl,hn6⟩
    ·have HN6:=amy hn6
     clear hn6
     gi_wp2_with fail
     go_roundw
     case rel=>exact⟨j+1,by omega,by go_num,rfl,by go_num,HN6⟩
     case measure=>simp[intOf];omega
    ·have HN6:=amy hn6
     clear hn6
     gi_wp2_with fail
     (try simp only[Exit.inBlock,Exit.then])
     refine bodyPost_ret (results_none rfl _ _ _) rfl ?_;exact⟨⟨_,rfl⟩,.inr HN6.o⟩
  ·have hkl:k<n:=by omega
   have q:decide ((k:Int)<(n:Int))=true:=am2 (by omega);have qn:(k:Int)<(n:Int):=by omega
   have hl:k<ns.length:=by have:=HP.o.ln;dsimp only at this;omega
   obtain⟨b1,o1,e1,l1,c1⟩:=(HG.o 0 wr H.o).1.rn.at hl;dsimp only at e1;have hz:((ae ns[k]).toList == [])=false:=by
    rw[nil_eq];simpa using HP.o.nz _ (List.getElem_mem hl)
   generalize ae ns[k]=sn at*
   subst e1
   gi_wp2_with fail
   go_roundw
   case rel=>exact⟨k+1,by omega,by go_num,rfl,H⟩
   case measure=>simp[intOf];omega
end
section
open Go.RowKit Go.Shelf Dec QQ
attribute [local go_sem] Oper.semAt_some
abbrev pV (x0 x1:BA)(x2 x3:Int)(x4 x5 x6:BA):Array Value:= #[.string x0,.string x1,.int .i64 x2,.int .i64 x3,.string x4,.string x5,.string x6]
def ak (ins:BA)(l:List Lt):List Lt:=l.filter fun x=>eqB x.ins ins
theorem kC {ins:BA}{l:List Lt}{k:Nat}{x:Lt}(h:l[k]? =some x)(hx:eqB x.ins ins=true):ak ins (l.take (k+1))=ak ins (l.take k)++ [x]:=by
 unfold ak;rw[ani,h,List.filter_append];simp[hx]
theorem wC {ins:BA}{l:List Lt}{k:Nat}{x:Lt}(h:l[k]? =some x)(hx:eqB x.ins ins=false):ak ins (l.take (k+1))=ak ins (l.take k):=by
 unfold ak;rw[ani,h,List.filter_append];simp[hx]
theorem pY {ins:BA}{l:List Lt}(k:Nat):(ak ins (l.take k)).length <=l.length:=by
 unfold ak;refine amG (List.length_filter_le _ _) ?_;rw[amO];omega
theorem ajU (A:Option Addr)(n c:Nat)(ins:BA)(w:World):
 Calls prog 20 #[.slice A n c,.string ins] w fun e w'=>e= .returned (.func (.func 57) #[] #[.pointer (some ⟨w.heap.size,0,none⟩),.pointer (some ⟨w.heap.size+1,0,none⟩)])/\w'=(w.alloc (.cells #[.slice A n c] 22)).alloc (.cells #[.string ins] 9):=by
 go_enter func20,ntmps20
 go_wp2
 go_ret
 simp
theorem of_in {A:Option Addr}{n c:Nat}{L:List Lt}{ins:BA}(l0 Bl Bi:Nat)(hn:L.length=n)(hm:n<=1000000)(Inv:Nat->World->Prop)
 (hG:∀k W,Inv k W->Row W A (av aa L)/\Boxed W Bl 22 (.slice A n c)/\Boxed W Bi 9 (.string ins)) (hU:∀k W W',Inv k W->Below W.heap.size W W'->Inv k W')
 (hS:∀k W x,L[k]? =some x->eqB x.ins ins=false->Inv k W->Inv (k+1) W)
 (hY:∀k W1 x,k<n->L[k]? =some x->eqB x.ins ins=true->Inv k W1->YieldAt Fence.wide 4 prog l0 #[ltV x] W1 fun e W'=>e= .returned (.bool true)/\Inv (k+1) W')
 (W:World) (h0:Inv 0 W):
 CallsIn Fence.wide 5 prog 57 #[.func (.yield l0) #[] #[],.pointer (some ⟨Bl,0,none⟩),.pointer (some ⟨Bi,0,none⟩)] W fun en W'=>(∃v,en= .returned v)/\Inv n W':=by
 have HG:=amy hG;have HU:=amy hU;have HS:=amy hS;have HY:=amy hY;have HN:=amy hn;have H0:=amy h0;have c0:=(hG 0 W h0).2.1.cell;clear hG hU hS hY hn h0;refine callsIn_of_wp func57 rfl trivial ?_ rfl;simp only[ntmps57,List.size_toArray,amT,List.length_nil,Nat.reduceAdd,Nat.reduceSub,Array.replicate_succ,Array.replicate_zero,List.push_toArray,List.append_toArray,List.nil_append,List.cons_append]
 gi_wp2_with fail
 clear c0
 gi_loopw [8] (fun s wr=>∃k:Nat,k<=n/\s= .int .i64 (k:Int)/\Hid (Inv k wr)) (fun s _=>(n-intOf s).toNat)
 case atStart=>exact⟨0,by omega,rfl,H0⟩
 case round=>
  obtain⟨k,hk,rfl,H⟩:=hrel;by_cases hkn:k=n
  ·subst hkn
   have q:decide ((k:Int)<(k:Int))=false:=am1 (by omega)
   gi_wp2_with fail
   go_end0
   exact⟨⟨_,rfl⟩,H.o⟩
  ·have hkl:k<n:=by omega
   have q:decide ((k:Int)<(n:Int))=true:=am2 (by omega);have qn:decide (k<n)=true:=am2 hkl;obtain⟨x,hd⟩:∃d,L[k]? =some d:=⟨L[k]'(by rw[HN.o];exact hkl),by simp⟩;obtain⟨b,o,hA,hb,hcells⟩:=dV (cs:=aa) (m:=7) aJ (by decide) (HG.o k wr H.o).1 hd;obtain⟨x0,x1,x2,x3,x4,x5,x6⟩:=dI hcells;have HYD:=amy (fun W1 h1 h=>HY.o k W1 x hkl hd h1 h);have HSD:=amy (fun W1 h1 h=>HS.o k W1 x hd h1 h);subst hA;clear hd hkn hcells;have hba:Below wr.heap.size wr (wr.alloc (.cells (pV x.id x.ins x.acq x.opn x.q x.c x.u) 62)):=anp;have BD:=amy (Bx.new wr (pV x.id x.ins x.acq x.opn x.q x.c x.u) 62);have hi:=HU.o k _ _ H.o hba;have HI2:=amy hi;have ci:=(HG.o k _ hi).2.2.cell;dsimp only[ltV,ltA]at HYD;clear hi hba H;cases hq:eqB x.ins ins with
   |false=>
    have hq2:(x.ins.toList==ins.toList)=false:=hq;refine wpIn_wide.2 ?_
    go_wp2_with fail
    go_roundw
    case rel=>exact⟨k+1,by omega,by go_num,HSD.o _ hq HI2.o⟩
    case measure=>simp[intOf];omega
   |true=>
    have hq2:(x.ins.toList==ins.toList)=true:=hq;obtain⟨fn,tmps,assign,body,hy,hR⟩:=HYD.o _ hq HI2.o;have HRR:=amy hR;clear hR
    gi_wp2_with fail
    refine HRR.o.mono ?_;rintro e W6 ⟨rfl,hn6⟩;have HN6:=amy hn6;clear hn6
    gi_wp2_with fail
    go_roundw
    case rel=>exact⟨k+1,by omega,by go_num,HN6⟩
    case measure=>simp[intOf];omega
structure LSt (w:World) (L:List Lt) (ins:BA) (A:Option Addr) (n c Bl Bi Bo l0 D:Nat) (rec:Loop) (k:Nat) (W:World):Prop where
 low:Below w.heap.size w W
 row:Row w A (av aa L)
 bl:Boxed W Bl 22 (.slice A n c)
 bi:Boxed W Bi 9 (.string ins)
 bo:∃v,Boxed W Bo 22 v/\W.ownsRow w.heap.size 62 7 v (ak ins (L.take k)).length (av aa (ak ins (L.take k)))
 lp:W.heap[l0]? =some (.loop rec)
 df:W.heap[D]? =some (.deferred (some []))
theorem LSt.up {w:World}{L:List Lt}{ins:BA}{A:Option Addr}{n c Bl Bi Bo l0 D k:Nat}{rec:Loop}{W W':World}(h:LSt w L ins A n c Bl Bi Bo l0 D rec k W)(hb:Below W.heap.size W W'):LSt w L ins A n c Bl Bi Bo l0 D rec k W':=by
 obtain⟨v,h1,h2⟩:=h.bo;exact⟨h.low.trans (hb.mono h.low.size),h.row,aT h.bl hb,aT h.bi hb,⟨v,aT h1 hb,own_below h2 hb⟩,(hb.block l0 (amA.1 h.lp).1).trans h.lp,(hb.block D (amA.1 h.df).1).trans h.df⟩
theorem ajG {A:Option Addr}{n c Bl Bi:Nat}{L:List Lt}{ins:BA}(hn:L.length=n)(hm:n<=1000000)(w:World)(hr:Row w A (av aa L))(hbl:Boxed w Bl 22 (.slice A n c))(hbi:Boxed w Bi 9 (.string ins)):
 Calls prog 56 #[.slice none 0 0,.func (.func 57) #[] #[.pointer (some ⟨Bl,0,none⟩),.pointer (some ⟨Bi,0,none⟩)]] w fun e w'=>∃v,e= .returned v/\dw aa 62 7 w.heap.size w' v (ak ins L).length (ak ins L)/\Below w.heap.size w w':=by
 have Hr:=amy hr;have HN:=amy hn;have hltl:Bl<w.heap.size:=(amA.1 hbl).1;have hlti:Bi<w.heap.size:=(amA.1 hbi).1;have HBL:=amy hbl;have HBI:=amy hbi;clear hr hn hbl hbi;refine(callsIn_wide (n:=6)).1 ?_;refine callsIn_of_wp_marks func56 rfl trivial ?_ rfl;simp only[ntmps56,List.size_toArray,amT,List.length_nil,Nat.reduceAdd,Nat.reduceSub,Array.replicate_succ,Array.replicate_zero,List.push_toArray,List.append_toArray,List.nil_append,List.cons_append]
 gi_wp2_with fail
 have Bo3:=amy (Boxed.new w 22 (.slice none 0 0));have Hb3:Hid (Below w.heap.size w (w.alloc (.cells #[.slice none 0 0] 22))):=anp;have Bl3:Hid (Boxed (w.alloc (.cells #[.slice none 0 0] 22)) Bl 22 (.slice A n c)):=HBL.o.alloc _;have Bi3:Hid (Boxed (w.alloc (.cells #[.slice none 0 0] 22)) Bi 9 (.string ins)):=HBI.o.alloc _;have hs3:(w.alloc (.cells #[.slice none 0 0] 22)).heap.size =w.heap.size+1:=amD _ _;have Hs3:=amy hs3;clear hs3;obtain⟨w3,hw3⟩:∃x,w.alloc (.cells #[.slice none 0 0] 22)=x:=⟨_,rfl⟩;rw[hw3]at Bo3 Hb3 Bl3 Bi3 Hs3⊢
 clear hw3;refine fQ rfl (by omega) rfl trivial (enters_of func57 (by kernel_rfl) rfl) ?_;intro fn hfn r hr;have hst:r.state= .ready :=by rw[hr]
 have hpe:r.pending=none:=by rw[hr]
 have HS:Hid (LSt w L ins A n c Bl Bi w.heap.size (w3.heap.size+1) w3.heap.size r 0 ((w3.alloc (.deferred (some []))).alloc (.loop r))):=by
  have hbb:Below w3.heap.size w3 ((w3.alloc (.deferred (some []))).alloc (.loop r)):=anp.alloc (by simp) _;refine⟨Hb3.o.trans (hbb.mono Hb3.o.size),Hr.o,aT Bl3.o hbb,aT Bi3.o hbb,⟨_,aT Bo3.o hbb,World.ownsRow_nil _ _ _ _⟩,?_,?_⟩
  ·have:=World.alloc_heap_new (w3.alloc (.deferred (some []))) (.loop r)
   rwa[amD]at this
  ·exact(Below.heap_alloc _ _ _ (by simp)).trans (World.alloc_heap_new w3 _)
 refine(of_in (A:=A) (n:=n) (c:=c) (L:=L) (ins:=ins) (w3.heap.size+1) Bl Bi HN.o hm (fun k W=>LSt w L ins A n c Bl Bi w.heap.size (w3.heap.size+1) w3.heap.size r k W) (fun k W h=>⟨h.row.on h.low,h.bl,h.bi⟩) (fun k W W' h hb=>h.up hb) (fun k W x hx hq h=>⟨h.low,h.row,h.bl,h.bi,by rw[wC hx hq];exact h.bo,h.lp,h.df⟩) ?_ _ HS.o).mono ?_
 ·intro k W1 x hk hx hq hG
  have hy:=run_yield (P:=prog) (args:= #[ltV x]) hG.lp (by rw[hr];rfl);refine⟨_,_,_,_,hy,roundIn_of_wpIn (by rw[hr];exact hfn) ?_⟩;have e1:=congrArg Loop.assign hr;have e2:=congrArg Loop.body hr;have e3:=congrArg Loop.tmps hr;have e4:=congrArg Loop.params hr;dsimp only at e1 e2 e3 e4;rw[e1,e2,e3,e4];have HG:=amy hG;have Hst:=amy hst;have Hpe:=amy hpe;have HX:Hid (av aa (ak ins (L.take (k+1)))=av aa (ak ins (L.take k))++aa x):=by
   show _=_;rw[kC hx hq,jd]
  have HXn:Hid ((ak ins (L.take (k+1))).length =(ak ins (L.take k)).length +1):=by
   show _=_;rw[kC hx hq,am0];rfl
  have hmn:(ak ins (L.take k)).length <=1000000:=amG (pY k) (by rw[HN.o];exact hm);have HXX:=amy (⟨hx,hq⟩:L[k]? =some x/\eqB x.ins ins=true);obtain⟨m,hmm⟩:=eX ((ak ins (L.take k)).length );have HBO:Hid (∃v,Boxed W1 w.heap.size 22 v/\W1.ownsRow w.heap.size 62 7 v m (av aa (ak ins (L.take k)))):=by
   have:=hG.bo;rw[hmm]at this;exact this
  rw[hmm]at HXn hmn;clear e1 e2 e3 e4 hr hy hG hst hpe HS hx hq hmm;dsimp only[ltV,ltA]
  gi_wp2_with fail
  have hbb:Below W1.heap.size W1 (W1.alloc (.cells (pV x.id x.ins x.acq x.opn x.q x.c x.u) 62)):=anp;have HGa:=amy (HG.o.up hbb);refine⟨_,run_beginRound HGa.o.lp Hst.o,?_⟩;obtain⟨v,hv,hown⟩:=HBO.o;have HV:=amy hv;have HO:=amy hown;have hl0:W1.heap.size≠w3.heap.size+1:=by have:=(amA.1 HG.o.lp).1;omega
  have hBo:w.heap.size≠w3.heap.size+1:=by have:=Hs3.o;omega
  have XP:Bx ((W1.alloc (.cells (pV x.id x.ins x.acq x.opn x.q x.c x.u) 62)).putObj (w3.heap.size+1) (.loop {r with state:=.busy})) W1.heap.size (pV x.id x.ins x.acq x.opn x.q x.c x.u):=⟨_,(World.putObj_heap_other hl0).trans (bJ W1 _)⟩;have VP:=dQ (hv.alloc (.cells (pV x.id x.ins x.acq x.opn x.q x.c x.u) 62)) hBo (.loop {r with state:=.busy});have HOP:Hid (World.ownsRow ((W1.alloc (.cells (pV x.id x.ins x.acq x.opn x.q x.c x.u) 62)).putObj (w3.heap.size+1) (.loop {r with state:=.busy})) w.heap.size 62 7 v m (av aa (ak ins (L.take k)))):=ownsRow_putObj (World.ownsRow.alloc hown _) _ HGa.o.lp rfl;have hsz:w.heap.size<=((W1.alloc (.cells (pV x.id x.ins x.acq x.opn x.q x.c x.u) 62)).putObj (w3.heap.size+1) (.loop {r with state:=.busy})).heap.size :=by have:=HG.o.low.size;simp;omega
  obtain⟨WP,hWP⟩:∃WP,(W1.alloc (.cells (pV x.id x.ins x.acq x.opn x.q x.c x.u) 62)).putObj (w3.heap.size+1) (.loop {r with state:=.busy})=WP:=⟨_,rfl⟩;have HWP:=amy hWP;rw[hWP]at XP VP HOP hsz⊢
  clear hWP hv hown hbb;have vc:=VP.cell;have vf:=VP.frozen;have z0:=XP.c 0 (.string x.id) rfl;have z1:=XP.c 1 (.string x.ins) rfl;have z2:=XP.c 2 (.int .i64 x.acq) rfl;have z3:=XP.c 3 (.int .i64 x.opn) rfl;have z4:=XP.c 4 (.string x.q) rfl;have z5:=XP.c 5 (.string x.c) rfl;have z6:=XP.c 6 (.string x.u) rfl;obtain⟨i0,hi,hz0,hz1,hz2⟩:=info_parts aaV;have Hi:=amy hi;have Hz0:=amy hz0;have Hz1:=amy hz1;have Hz2:=amy hz2;clear hi hz0 hz1 hz2;have vc2:=(VP.alloc (.cells (pV x.id x.ins x.acq x.opn x.q x.c x.u) 62)).cell
  gi_wp2_with (gi_at_builtin;refine wpListIn_append_own _ rfl _ _ 22 rfl w.heap.size 62 i0 (.agg #[.string ⟨#[]⟩,.string ⟨#[]⟩,.int .i64 0,.int .i64 0,.string ⟨#[]⟩,.string ⟨#[]⟩,.string ⟨#[]⟩]) 7 96 underlying22 Hi.o Hz0.o Hz1.o Hz2.o rfl (by omega) _ m (av aa (ak ins (L.take k))) rfl (World.ownsRow.alloc HOP.o _) ⟨WP.heap.size,0,none⟩ 1 1 (aa x) rfl rfl (agL WP 62 [.string x.id,.string x.ins,.int .i64 x.acq,.int .i64 x.opn,.string x.q,.string x.c,.string x.u]) (dh _) (by unfold maxLen;omega) (by omega) (by simp;omega) ?_;intro v' w5 hown' hgrow _;obtain⟨g',cap',rfl⟩:=ownsRow_succ hown';have hrd:RoundP w.heap.size w.heap.size (w3.heap.size+1) 22 62 r W1 (.cells (pV x.id x.ins x.acq x.opn x.q x.c x.u) 62) (.cells (pV x.id x.ins x.acq x.opn x.q x.c x.u) 62) v m (av aa (ak ins (L.take k))) w5 (.slice (some ⟨g',0,none⟩) (m+1) cap') (av aa (ak ins (L.take k))++aa x):=⟨HG.o.lp,HV.o,HO.o,hown',by rw[HWP.o];exact hgrow,by decide,hBo⟩;have HRD:=amy hrd;have vc5:=hrd.bo5.cell;have vf5:=hrd.bo5.frozen;clear hown' hgrow hrd)
  refine⟨_,_,run_endRound none (HRD.o.lp6 _),rfl,?_⟩;have hlr:({r with state:=if (none:Option Code).isNone then LoopState.ready else .done,pending:=none}:Loop)=r:=by have h1:=Hst.o;have h2:=Hpe.o;cases r;simp_all
  refine⟨HRD.o.below HG.o.low rfl (by have:=Hb3.o.size;omega) (by omega) _,HG.o.row,HRD.o.far _ HG.o.bl (by have:=Hs3.o;omega) (by omega) (fun cur e=>by injection e with _ e;exact absurd e (by decide)),HRD.o.far _ HG.o.bi (by have:=Hs3.o;omega) (by omega) (fun cur e=>by injection e with _ e;exact absurd e (by decide)),⟨_,HRD.o.box _,?_⟩,?_,HRD.o.far _ HG.o.df (by omega) (by have:=Hs3.o;omega) (fun cur e=>by cases e)⟩
  ·rw[HX.o,HXn.o];exact HRD.o.row _
  ·rw[HRD.o.loop,hlr]
 ·rintro e W4 ⟨⟨v,rfl⟩,hG⟩
  obtain⟨o5,ho5⟩:∃o5:Obj,o5= .loop {r with state:=.exhausted}:=⟨_,rfl⟩;have hend:=run_endLoop (P:=prog) hG.lp (by rw[hst];decide);rw[<-ho5]at hend;clear ho5;rw[hpe]at hend;obtain⟨v2,hv2,hown2⟩:=hG.bo;have hnl:w.heap.size≠w3.heap.size+1:=by have:=Hs3.o;omega
  have b1:=dQ hv2 hnl o5;have cB:=b1.cell;have hlp:w3.heap.size+1<W4.heap.size:=(amA.1 hG.lp).1;have HB5:Hid (Below w.heap.size w (W4.putObj (w3.heap.size+1) o5)):=aI hG.low (by have:=Hb3.o.size;omega) _;have HD5:Hid ((W4.putObj (w3.heap.size+1) o5).heap[w3.heap.size]? =some (.deferred (some []))):=(World.putObj_heap_other (by omega)).trans hG.df;have HO5:Hid (dw aa 62 7 w.heap.size (W4.putObj (w3.heap.size+1) o5) v2 (ak ins L).length (ak ins L)):=by
   refine⟨rfl,?_⟩;have:=ownsRow_putObj hown2 o5 hG.lp rfl;rwa[amK (Nat.le_of_eq HN.o)]at this
  obtain⟨W5,hW5⟩:=eX (W4.putObj (w3.heap.size+1) o5);rw[hW5]at hend cB HB5 HD5 HO5;refine⟨none,W5,hend,?_⟩;clear hr hG hst hpe b1 HS hW5 hend hv2 hown2
  gi_wp2_with fail
  refine⟨by simp,.inl ⟨_,_,rfl,run_takeDeferred HD5.o,?_⟩⟩;refine⟨_,results_tmp rfl _ _ _,v2,rfl,⟨HO5.o.1,ownsRow_putObj HO5.o.2 _ HD5.o rfl⟩,aI HB5.o (by have:=Hb3.o.size;omega) _⟩
theorem aa8 {A:Option Addr}{n c Bl Bi:Nat}{L:List Lt}{ins:BA}(hn:L.length=n)(hm:n<=1000000)(w:World)(hr:Row w A (av aa L))(hbl:Boxed w Bl 22 (.slice A n c))(hbi:Boxed w Bi 9 (.string ins)):
 Calls prog 19 #[.func (.func 57) #[] #[.pointer (some ⟨Bl,0,none⟩),.pointer (some ⟨Bi,0,none⟩)]] w fun e w'=>∃v,e= .returned v/\dw aa 62 7 w.heap.size w' v (ak ins L).length (ak ins L)/\Below w.heap.size w w':=by
 have K:=ajG hn hm w hr hbl hbi;clear hn hr hbl hbi
 go_enter func19,ntmps19
 go_wp2_with fail
 refine K.mono ?_;rintro e w1 ⟨v,rfl,ho,hb⟩;have HO:=amy ho;clear ho K
 go_wp2_with fail
 go_ret
 exact⟨_,rfl,HO.o,hb⟩
def RetO (I:World->Prop)(f:FuncId)(args:Array Value)(R:Nat->World->Value->Prop):Prop:=∀w,Gl w->I w->Calls prog f args w fun e w'=>∃v,e= .returned v/\R w.heap.size w' v/\Below w.heap.size w w'
theorem tJ {A:Option Addr}{n c:Nat}{L:List Lt}{ins:BA}(hn:L.length=n)(hm:n<=1000000):
 RetO (fun w=>Row w A (av aa L)) 6 #[.slice A n c,.string ins] fun B w' v=>dw aa 62 7 B w' v (ak ins L).length (ak ins L):=by
 intro w hg hi;have K1:=ajU A n c ins w;have hbA:Below w.heap.size w ((w.alloc (.cells #[.slice A n c] 22)).alloc (.cells #[.string ins] 9)):=anp.alloc (by simp) _;have b1:Boxed ((w.alloc (.cells #[.slice A n c] 22)).alloc (.cells #[.string ins] 9)) w.heap.size 22 (.slice A n c):=(Boxed.new w _ _).alloc _;have b2:Boxed ((w.alloc (.cells #[.slice A n c] 22)).alloc (.cells #[.string ins] 9)) (w.heap.size+1) 9 (.string ins):=by
  have:=Boxed.new (w.alloc (.cells #[.slice A n c] 22)) 9 (.string ins);rwa[amD]at this
 have K2:=aa8 (c:=c) hn hm _ (hi.on hbA) b1 b2;have H1:=amy hbA;have hsz:((w.alloc (.cells #[.slice A n c] 22)).alloc (.cells #[.string ins] 9)).heap.size =w.heap.size+2:=by simp
 have HSZ:=amy hsz;obtain⟨w1,hw1⟩:∃x,(w.alloc (.cells #[.slice A n c] 22)).alloc (.cells #[.string ins] 9)=x:=⟨_,rfl⟩;rw[hw1]at K1 K2 H1 HSZ;clear hn hi hbA b1 b2 hsz hw1
 go_enter func6,ntmps6
 go_wp2_with fail
 refine K1.mono ?_;rintro e w2 ⟨rfl,rfl⟩
 go_wp2_with fail
 refine K2.mono ?_;rintro e w3 ⟨v,rfl,ho,hb⟩;have HO:=amy ho;clear ho K1 K2
 go_wp2_with fail
 go_ret
 have:=HSZ.o;exact⟨_,rfl,⟨HO.o.1,aS HO.o.2 (by omega)⟩,H1.o.trans (hb.mono (by omega))⟩
end
section
open Go.RowKit Go.Shelf Dec QQ
def ja (x:Lt)(d:Int):Lt:={x with c:=ae (ah x.c-d)}
def eu (I:BA)(ms:List Int):Nat->List Lt->List Lt
 |_,[]=>[]
 |i,x::l=>bif eqB x.ins I then ja x ms[i]! ::eu I ms (i+1) l else x::eu I ms i l
theorem qY {I:BA}{x:Lt}{l:List Lt}(h:eqB x.ins I=true):ak I (x::l)=x::ak I l:=by unfold ak;rw[List.filter_cons,if_pos h]
theorem lv {I:BA}{x:Lt}{l:List Lt}(h:eqB x.ins I=false):ak I (x::l)=ak I l:=by unfold ak;rw[List.filter_cons,if_neg (by rw[h];decide)]
theorem jl {I:BA}{ms:List Int}:∀(l r:List Lt) (i:Nat),eu I ms i (l++r)=eu I ms i l++eu I ms (i+(ak I l).length) r
 | [],r,i=>rfl
 |x::l,r,i=>by
  cases hx:eqB x.ins I with
  |true=>
   show (bif eqB x.ins I then ja x ms[i]! ::eu I ms (i+1) (l++r)else x::eu I ms i (l++r))=(bif eqB x.ins I then ja x ms[i]! ::eu I ms (i+1) l else x::eu I ms i l)++_;rw[hx,qY hx,jl l r (i+1),amT,show i+((ak I l).length +1)=i+1+(ak I l).length by omega];rfl
  |false=>
   show (bif eqB x.ins I then ja x ms[i]! ::eu I ms (i+1) (l++r)else x::eu I ms i (l++r))=(bif eqB x.ins I then ja x ms[i]! ::eu I ms (i+1) l else x::eu I ms i l)++_;rw[hx,lv hx,jl l r i];rfl
theorem abE {I:BA}{ms:List Int}{l:List Lt}{k:Nat}{x:Lt}(h:l[k]? =some x)(hx:eqB x.ins I=true):eu I ms 0 (l.take (k+1))=eu I ms 0 (l.take k)++ [ja x ms[(ak I (l.take k)).length]!]:=by
 rw[ani,h,jl,am5];show _++(bif eqB x.ins I then _ else _)=_;rw[hx];rfl
theorem aeD {I:BA}{ms:List Int}{l:List Lt}{k:Nat}{x:Lt}(h:l[k]? =some x)(hx:eqB x.ins I=false):eu I ms 0 (l.take (k+1))=eu I ms 0 (l.take k)++ [x]:=by
 rw[ani,h,jl,am5];show _++(bif eqB x.ins I then _ else _)=_;rw[hx];rfl
theorem qc {I:BA}{ms:List Int}:∀(l:List Lt) (i:Nat),(eu I ms i l).length =l.length
 | [],i=>rfl
 |x::l,i=>by
  show (bif eqB x.ins I then ja x ms[i]! ::eu I ms (i+1) l else x::eu I ms i l).length =_;cases eqB x.ins I
  ·show (x::eu I ms i l).length =_
   rw[amT,amT,qc l i]
  ·show (ja x ms[i]! ::eu I ms (i+1) l).length =_
   rw[amT,amT,qc l (i+1)]
theorem ahN {I:BA}{l:List Lt}{k:Nat}{x:Lt}(h:l[k]? =some x)(hx:eqB x.ins I=true):(ak I (l.take k)).length <(ak I l).length :=by
 have h1:ak I l=ak I (l.take (k+1))++ak I (l.drop (k+1)):=by
  unfold ak;rw[<-List.filter_append,List.take_append_drop]
 rw[h1,kC h hx,am0,am0,List.length_singleton];omega
end
end Go.Proofs.YtbkhnggmcheelaaGreatDoor
