/- Mappings of lots: the new lots, one after the other. Conditions: numbers of bounded length; the library's variables lie as the program's text lays them. Mappings of lots: the lots that are kept. Conditions: lists of bounded length; the library's variables lie as the program's text lays them. Mappings of lots: the steps. Conditions: lists of bounded length; the library's variables lie as the program's text lays them. -/
import Derived.Deep.RegionHeld3
import Derived.Deep.MidRow
import Derived.Test.YtjknklinhegdoaaGreatDoorGao
import Derived.Test.YtjknklinhegdoaaGreatDoorGak
set_option linter.unusedSimpArgs false
set_option linter.unusedVariables false
set_option maxHeartbeats 4000000
set_option maxRecDepth 100000
namespace Go.Proofs.YtjknklinhegdoaaGreatDoor
open Go.RowKit Go.Shelf Dec QQ SP
attribute [local go_sem] Oper.semAt_some
attribute [-go_sem] loadVar
theorem aiQ (t:TypeId)(_:t≠162)(a:Addr):loadVar t a=(do if←isAgg t then pure (.agg (←loadCells a (←sizeOf t)))else load a):=rfl
attribute [local go_sem] aiQ
theorem Bx.plan {w:World}{b:Nat}{cs:Array Value}(h:Bx w b cs)(hs:cs.size=19):(loadVar 162 ⟨b,0,none⟩).run Tryz.prog w= .ok (.agg cs) w:=by
 have:=run_loadVar_mid (P:=Tryz.prog) w b 0 162 cs.toList (Tryz.prog.underlying 162).get! (fun j v hv=>by rw[Nat.zero_add];exact h.cell (by simpa using hv)) (by kernel_rfl) (by kernel_rfl) (by rw[Array.length_toList,hs];kernel_rfl);simpa using this
theorem sO {I:World→Prop}{w0 w:World}{f:FuncId}{args:Array Value}{V:Value}{S:Type}{W:S→World}(h:ig I f args V)(hs:St w0 w)(hI:∀u,I (W u))(hk:∀u,Below w.heap.size w (W u))(hc:∀u w'',Below (W u).heap.size (W u) w''→∃u',w''=W u'){u:S}:
 Calls Tryz.prog f args (W u) fun e w''=>e= .returned V∧∃u',w''=W u':=
 (h (W u) (hs.gl.below (hk u)) (hI u)).mono fun _ w'' ⟨he,hb⟩=>⟨he,hc u w'' hb⟩
def frL (m:MapS)(x:Lt)(k:Nat)(nk mk fk:Int):Lt:=⟨idS m.cause (k+1),m.oth,x.acq,x.opn,ag nk,ag (mk-fk),ag nk⟩
structure PlOk (p:PlS) (old:List Lt) (ns ms fs:List Int) (K:Nat):Prop where
 lo:old.length=p.n
 ln:ns.length=p.n
 lm:ms.length=p.n
 lf:fs.length=p.n
 n:p.n≤1000
 kk:K≤5000
 nz:∀x∈ns,x≠0
 zm:∀x∈ms,Fit K x
 zf:∀x∈fs,Fit K x
 cz:p.m.cause.size≤1000
structure PlW (p:PlS) (old:List Lt) (ns ms fs:List Int) (W:World):Prop where
 gl:Gl W
 ro:Row W p.A (au aa old)
 rn:si W p.AN ns
 rm:si W p.AM ms
 rf:si W p.AF fs
theorem PlW.on {p:PlS}{old:List Lt}{ns ms fs:List Int}{W W':World}(h:PlW p old ns ms fs W)(hb:Below W.heap.size W W'):PlW p old ns ms fs W':=⟨h.gl.below hb,h.ro.on hb,h.rn.on hb,h.rm.on hb,h.rf.on hb⟩
theorem abf {l:List Int}{i:Nat}(h:i<l.length):l[i]! ∈l:=by rw[getElem!_pos l i h];exact List.getElem_mem h
def PBox (W:World)(b:Nat)(p:PlS):Prop:=W.heap[b]? =some (.cells (plA p) 162 (0,0))
theorem PBox.bx {W:World}{b:Nat}{p:PlS}(h:PBox W b p):Bx W b (plA p):=⟨_,h⟩
theorem vJ {p:PlS}{old:List Lt}{ns ms fs:List Int}{K:Nat}(l0 Bp:Nat)(hp:PlOk p old ns ms fs K)(Inv:Nat→World→Prop)(Stop:World→Prop)
 (hG:∀k W,Inv k W→PlW p old ns ms fs W∧PBox W Bp p) (hU:∀k W W',Inv k W→Below W.heap.size W W'→Inv k W')
 (hY:∀k W1 x,k<p.n→old[k]? =some x→Inv k W1→YieldAt Fence.wide 4 Tryz.prog l0 #[.int .i64 (k:Int),ltV (frL p.m x k ns[k]! ms[k]! fs[k]!)] W1 fun e W'=>(e= .returned (.bool true)∧Inv (k+1) W')∨(e= .returned (.bool false)∧Stop W'))
 (W:World) (h0:Inv 0 W):
 CallsIn Fence.wide 5 Tryz.prog 151 #[.func (.yield l0) #[] #[],.pointer (some ⟨Bp,0,none⟩)] W fun en W'=>(∃v,en= .returned v)∧(Inv p.n W'∨Stop W'):=by
 have HG:=ala hG;have HU:=ala hU;have HY:=ala hY;have H0:=ala h0;have HP:=ala hp;have hn:=hp.n;have KI:=fun k (h1:1≤k) (hk:k≤1000000)=>ajD p hp.cz h1 hk
 have KMV:=fun k (hk:k<p.n)=>tu p hp.lm hp.lf hk hp.kk hp.zm hp.zf (by omega)
 have HKI:=ala KI;have HKM:=ala KMV;have HPE:Hid (PlS→True):=fun _=>trivial
 clear hG hU hY h0 hp KI KMV;obtain⟨p0,hp0⟩:∃q,p=q:=⟨_,rfl⟩;have HP0:=ala hp0;obtain⟨⟨cause,day,ins,oth,rn,rd,sn,sd,pn,pd,keep⟩,A,n,c,parts,an,ad,AN,cN,AM,cM,AF,cF,AP,cP⟩:=p;dsimp only[plV,plA]at*
 have hB0:Bx W Bp (plA p0):=by have:=(HG.out 0 W H0.out).2.bx;rw[hp0]at this;exact this
 clear hp0;have C0:Bx W Bp #[.string cause,.int .i64 day,.string ins,.string oth,.string rn,.string rd,.string sn,.string sd,.string pn,.string pd,.bool keep,.slice A n c,.string parts,.string an,.string ad,.slice AN n cN,.slice AM n cM,.slice AF n cF,.slice AP n cP]:=by have:=hB0;rw[←HP0.out]at this;exact this
 have x11:=C0.cell (i:=11) (v:=.slice A n c) rfl;have x15:=C0.cell (i:=15) (v:=.slice AN n cN) rfl;clear hB0;refine callsIn_of_wp Tryz.func151 rfl trivial ?_ rfl;simp only[Tryz.ntmps151,List.size_toArray,aly,List.length_nil,Nat.reduceAdd,Nat.reduceSub,Array.replicate_succ,Array.replicate_zero,List.push_toArray,List.append_toArray,List.nil_append,List.cons_append]
 gi_wp2_with fail
 gi_loopw [12,3] (fun s r wr=>∃k:Nat,k≤n∧s= .int .i64 (k:Int)∧r= .string ⟨#[]⟩∧Hid (Inv 0 wr)) (fun s _ _=>(n-intOf s).toNat)
 case atStart=>exact⟨0,by omega,rfl,rfl,H0⟩
 case round=>
  obtain⟨k,hk,rfl,rfl,H⟩:=hrel;clear x11 x15;have C1:Bx wr Bp #[.string cause,.int .i64 day,.string ins,.string oth,.string rn,.string rd,.string sn,.string sd,.string pn,.string pd,.bool keep,.slice A n c,.string parts,.string an,.string ad,.slice AN n cN,.slice AM n cM,.slice AF n cF,.slice AP n cP]:=(HG.out 0 wr H.out).2.bx;have x11:=C1.cell (i:=11) (v:=.slice A n c) rfl;have x15:=C1.cell (i:=15) (v:=.slice AN n cN) rfl;by_cases hkn:k=n
  ·replace hkn:=hkn.symm
   subst hkn;have q:decide ((n:Int)<(n:Int))=false:=alH (by omega)
   gi_wp2_with fail
   clear q x11 x15 C1
   gi_loopw [30,3,4] (fun s r t wr=>∃j:Nat,j≤n∧s= .int .i64 (j:Int)∧r= .string ⟨#[]⟩∧t= .int .i64 (j:Int)∧Hid (Inv j wr)) (fun s _ _ _=>(n-intOf s).toNat)
   case atStart=>exact⟨0,by omega,rfl,rfl,rfl,H⟩
   case round=>
    obtain⟨j,hj,rfl,rfl,rfl,H⟩:=hrel;have C2:Bx wr Bp #[.string cause,.int .i64 day,.string ins,.string oth,.string rn,.string rd,.string sn,.string sd,.string pn,.string pd,.bool keep,.slice A n c,.string parts,.string an,.string ad,.slice AN n cN,.slice AM n cM,.slice AF n cF,.slice AP n cP]:=(HG.out j wr H.out).2.bx;have hgl2:Gl wr:=(HG.out j wr H.out).1.gl;have x15:=C2.cell (i:=15) (v:=.slice AN n cN) rfl;by_cases hjn:j=n
    ·subst hjn
     have q:decide ((j:Int)<(j:Int))=false:=alH (by omega)
     gi_wp2_with fail
     go_end0
     exact⟨⟨_,rfl⟩,.inl H.out⟩
    have hjl:j<n:=by omega
    have q:decide ((j:Int)<(n:Int))=true:=alI (by omega);have qn:(j:Int)<(n:Int):=by omega
    have qn2:decide (j<n)=true:=alI hjl;have hl:j<ns.length:=by have:=HP.out.ln;dsimp only at this;omega
    have hlm:j<ms.length:=by have:=HP.out.lm;dsimp only at this;omega
    obtain⟨b1,o1,e1,l1,c1⟩:=(HG.out j wr H.out).1.rn.at hl;obtain⟨x,hx⟩:∃x,old[j]? =some x:=⟨old[j]'(by have:=HP.out.lo;dsimp only at this;omega),by simp⟩;obtain⟨b2,o2,e2,l2,hcells⟩:=eT (cs:=aa) (m:=7) aM (by decide) (HG.out j wr H.out).1.ro hx;obtain⟨y0,y1,y2,y3,y4,y5,y6⟩:=eD hcells;dsimp only at e1 e2;subst e1 e2;have KI1:=HKI.out (j+1) (by omega) (by have:=HP.out.n;dsimp only at this;omega);have KM1:=HKM.out j hjl;have KA:=agr (x:=ms[j]! -fs[j]!) (Vs.can (Fit.sub (HP.out.zm _ (abf hlm)) (HP.out.zf _ (abf (by have:=HP.out.lf;dsimp only at this;omega)))) (by have:=HP.out.kk;omega)) Vs.nil;rw[Int.add_zero]at KA;have HYJ:=ala (fun W1=>HY.out j W1 x hjl hx);have hz:((ag ns[j]).toList == [])=false:=by
     rw[nil_eq];simpa using HP.out.nz _ (List.getElem_mem hl)
    have gn:ns[j]! =ns[j]:=getElem!_pos ns j hl;rw[gn]at HYJ;unfold frL ltV ltA at HYJ;have hji:((j+1:Nat):Int)=(j:Int)+1:=by omega
    rw[hji]at KI1;dsimp only at HYJ KI1 KM1;generalize idS cause (j+1)=ids at*
    generalize ag ns[j]=sn1 at*
    generalize ag (ms[j]! -fs[j]!)=sm1 at*
    clear hcells gn hx;obtain⟨xid,xins,xacq,xopn,xq,xc,xu⟩:=x;dsimp only at y0 y1 y2 y3 y4 y5 y6 HYJ;have hba:Below wr.heap.size wr (wr.alloc (.cells #[.string xid,.string xins,.int .i64 xacq,.int .i64 xopn,.string xq,.string xc,.string xu] 47)):=alL;have BD:=Bx.new wr #[.string xid,.string xins,.int .i64 xacq,.int .i64 xopn,.string xq,.string xc,.string xu] 47;have hi:=HU.out j _ _ H.out hba;have hGl3:=(HG.out j _ hi).1;have C3:=C2.on hba;have x15b:=C3.cell (i:=15) (v:=.slice (some ⟨b1,o1,none⟩) n cN) rfl;have c1b:=(hba.cell (p:=⟨b1,o1+j,none⟩) l1).trans c1
    gi_wp2_with fail
    refine wpIn_wide.2 ?_;obtain⟨W3,hW3⟩:∃W3,wr.alloc (.cells #[.string xid,.string xins,.int .i64 xacq,.int .i64 xopn,.string xq,.string xc,.string xu] 47)=W3:=⟨_,rfl⟩;have l1':=alx l1 hba.size;rw[hW3]at BD hi hGl3 C3 c1b l1'⊢
    generalize wr.heap.size=bx at*
    clear x15 x15b c1 y0 y1 y2 y3 y4 y5 y6 hba;have hs3:=St.refl hGl3.gl;have hIM:si W3 AM ms∧si W3 AF fs:=⟨hGl3.rm,hGl3.rf⟩;refine jh 27 26 8 #[.string ⟨#[]⟩,.string ⟨#[]⟩,.int .i64 0,.int .i64 0,.string ⟨#[]⟩,.string ⟨#[]⟩,.string ⟨#[]⟩] (by kernel_rfl) (by kernel_rfl) (by kernel_rfl) (by omega) rfl (by kernel_rfl) ⟨_,8,_,rfl,rfl,rfl,fun _ _=>by simp[execOp,go_sem,ptrTo];rfl⟩ ?_;apply Exists.intro;refine⟨fun S W hne hk hcl=>?_,?_⟩
    ·simp only[List.take_succ_cons,List.take_zero,gQ,List.mem_cons,List.not_mem_nil,or_false,Nat.reduceAdd,Nat.reduceEqDiff,reduceIte,Nat.zero_add]
     have kk2:=BD.in hk (i:=2) (v:=.int .i64 xacq) rfl;have kk3:=BD.in hk (i:=3) (v:=.int .i64 xopn) rfl;have kp0:=C3.in hk (i:=0) (v:=.string cause) rfl;have kp1:=C3.in hk (i:=1) (v:=.int .i64 day) rfl;have kp2:=C3.in hk (i:=2) (v:=.string ins) rfl;have kp3:=C3.in hk (i:=3) (v:=.string oth) rfl;have kp4:=C3.in hk (i:=4) (v:=.string rn) rfl;have kp5:=C3.in hk (i:=5) (v:=.string rd) rfl;have kp6:=C3.in hk (i:=6) (v:=.string sn) rfl;have kp7:=C3.in hk (i:=7) (v:=.string sd) rfl;have kp8:=C3.in hk (i:=8) (v:=.string pn) rfl;have kp9:=C3.in hk (i:=9) (v:=.string pd) rfl;have kp10:=C3.in hk (i:=10) (v:=.bool keep) rfl;have kp11:=C3.in hk (i:=11) (v:=.slice (some ⟨b2,o2,none⟩) n c) rfl;have kp12:=C3.in hk (i:=12) (v:=.string parts) rfl;have kp13:=C3.in hk (i:=13) (v:=.string an) rfl;have kp14:=C3.in hk (i:=14) (v:=.string ad) rfl;have kp15:=C3.in hk (i:=15) (v:=.slice (some ⟨b1,o1,none⟩) n cN) rfl;have kp16:=C3.in hk (i:=16) (v:=.slice AM n cM) rfl;have kp17:=C3.in hk (i:=17) (v:=.slice AF n cF) rfl;have kp18:=C3.in hk (i:=18) (v:=.slice AP n cP) rfl;have kpl:∀u:S,(loadVar 162 ⟨Bp,0,none⟩).run Tryz.prog (W u)= .ok (.agg #[.string cause,.int .i64 day,.string ins,.string oth,.string rn,.string rd,.string sn,.string sd,.string pn,.string pd,.bool keep,.slice (some ⟨b2,o2,none⟩) n c,.string parts,.string an,.string ad,.slice (some ⟨b1,o1,none⟩) n cN,.slice AM n cM,.slice AF n cF,.slice AP n cP]) (W u):=fun u=>(C3.on (hk u)).plan rfl
     have kr:∀u:S,(W u).cell? ⟨b1,o1+j,none⟩=some (.string sn1):=fun u=>((hk u).cell (p:=⟨b1,o1+j,none⟩) l1').trans c1b
     have hII:∀u:S,si (W u) AM ms∧si (W u) AF fs:=fun u=>⟨hIM.1.on (hk u),hIM.2.on (hk u)⟩
     repeat (go_big_quiet_step (first|(with_reducible exact KI1.fresh hs3 hk hcl)|(with_reducible exact sO KM1 hs3 hII hk hcl)|(with_reducible exact KA.fresh hs3 hk hcl)))
     exact wpQuiet_nil rfl
    intro b8 v hb8 hv hx8;simp only[List.drop_succ_cons,List.drop_zero,ptrTo];have e0:=hx8.cell (i:=0) (v:=.string ⟨#[]⟩) rfl;have g0:=hx8.frozen 0;have e1:=hx8.cell (i:=1) (v:=.string ⟨#[]⟩) rfl;have g1:=hx8.frozen 1;have e2:=hx8.cell (i:=2) (v:=.int .i64 0) rfl;have g2:=hx8.frozen 2;have e3:=hx8.cell (i:=3) (v:=.int .i64 0) rfl;have g3:=hx8.frozen 3;have e4:=hx8.cell (i:=4) (v:=.string ⟨#[]⟩) rfl;have g4:=hx8.frozen 4;have e5:=hx8.cell (i:=5) (v:=.string ⟨#[]⟩) rfl;have g5:=hx8.frozen 5;have e6:=hx8.cell (i:=6) (v:=.string ⟨#[]⟩) rfl;have g6:=hx8.frozen 6
    go_wp2_with fail
    obtain⟨W5,hW5,X8,hi5⟩:∃W5,(((((((v.setCell ⟨b8,0,none⟩ (.string ids)).setCell ⟨b8,1,none⟩ (.string oth)).setCell ⟨b8,2,none⟩ (.int .i64 xacq)).setCell ⟨b8,3,none⟩ (.int .i64 xopn)).setCell ⟨b8,4,none⟩ (.string sn1)).setCell ⟨b8,5,none⟩ (.string sm1)).setCell ⟨b8,6,none⟩ (.string sn1))=W5∧Bx W5 b8 #[.string ids,.string oth,.int .i64 xacq,.int .i64 xopn,.string sn1,.string sm1,.string sn1]∧Inv j W5:=⟨_,rfl,(((((((hx8.set 0 (.string ids)).set 1 (.string oth)).set 2 (.int .i64 xacq)).set 3 (.int .i64 xopn)).set 4 (.string sn1)).set 5 (.string sm1)).set 6 (.string sn1)),HU.out j _ _ hi (((((((hv.setCell (p:=⟨b8,0,none⟩) hb8 _).setCell (p:=⟨b8,1,none⟩) hb8 _).setCell (p:=⟨b8,2,none⟩) hb8 _).setCell (p:=⟨b8,3,none⟩) hb8 _).setCell (p:=⟨b8,4,none⟩) hb8 _).setCell (p:=⟨b8,5,none⟩) hb8 _).setCell (p:=⟨b8,6,none⟩) hb8 _)⟩;rw[hW5];clear e0 e1 e2 e3 e4 e5 e6 g0 g1 g2 g3 g4 g5 g6 hx8 hv hW5 BD hi C3 hGl3 c1b KI1 KM1 KA;have z0:=X8.cell (i:=0) (v:=.string ids) rfl;have z1:=X8.cell (i:=1) (v:=.string oth) rfl;have z2:=X8.cell (i:=2) (v:=.int .i64 xacq) rfl;have z3:=X8.cell (i:=3) (v:=.int .i64 xopn) rfl;have z4:=X8.cell (i:=4) (v:=.string sn1) rfl;have z5:=X8.cell (i:=5) (v:=.string sm1) rfl;have z6:=X8.cell (i:=6) (v:=.string sn1) rfl;obtain⟨fn,tmps,assign,body,hy,hR⟩:=HYJ.out W5 hi5;have HRR:=ala hR;clear hR
    gi_wp2_with fail
    refine HRR.out.mono ?_;rintro e W6 hor;rcases hor with ⟨rfl,hn6⟩|⟨rfl,hn6⟩
    ·have HN6:=ala hn6
     clear hn6
     gi_wp2_with fail
     go_roundw
     case rel=>exact⟨j+1,by omega,by go_num,rfl,by go_num,HN6⟩
     case measure=>simp[intOf];omega
    ·have HN6:=ala hn6
     clear hn6
     gi_wp2_with fail
     (try simp only[Exit.inBlock,Exit.then])
     refine bodyPost_ret (results_none rfl _ _ _) rfl ?_;exact⟨⟨_,rfl⟩,.inr HN6.out⟩
  ·have hkl:k<n:=by omega
   have q:decide ((k:Int)<(n:Int))=true:=alI (by omega);have qn:(k:Int)<(n:Int):=by omega
   have hl:k<ns.length:=by have:=HP.out.ln;dsimp only at this;omega
   obtain⟨b1,o1,e1,l1,c1⟩:=(HG.out 0 wr H.out).1.rn.at hl;dsimp only at e1;have hz:((ag ns[k]).toList == [])=false:=by
    rw[nil_eq];simpa using HP.out.nz _ (List.getElem_mem hl)
   generalize ag ns[k]=sn at*
   subst e1
   gi_wp2_with fail
   go_roundw
   case rel=>exact⟨k+1,by omega,by go_num,rfl,H⟩
   case measure=>simp[intOf];omega
end Go.Proofs.YtjknklinhegdoaaGreatDoor
namespace Go.Proofs.YtjknklinhegdoaaGreatDoor
open Go.RowKit Go.Shelf Dec QQ SP
abbrev rA (x0 x1:ByteArray)(x2 x3:Int)(x4 x5 x6:ByteArray):Array Value:= #[.string x0,.string x1,.int .i64 x2,.int .i64 x3,.string x4,.string x5,.string x6]
def TBx (w:World)(b:Nat)(cs:Array Value)(T:TypeId):Prop:=w.heap[b]? =some (.cells cs T (0,0))
theorem TBx.bx {w:World}{b:Nat}{cs:Array Value}{T:TypeId}(h:TBx w b cs T):Bx w b cs:=⟨_,h⟩
theorem TBx.on {w w':World}{b:Nat}{cs:Array Value}{T:TypeId}(h:TBx w b cs T)(hb:Below w.heap.size w w'):TBx w' b cs T:=(hb.block b (alc.1 h).1).trans h
theorem TBx.alloc {w:World}{b:Nat}{cs:Array Value}{T:TypeId}(h:TBx w b cs T)(o:Obj):TBx (w.alloc o) b cs T:=h.on alL
theorem TBx.new (w:World)(cs:Array Value)(T:TypeId):TBx (w.alloc (.cells cs T)) w.heap.size cs T:=aZ w _
theorem TBx.grown {w w':World}{b base n size:Nat}{cs:Array Value}{T T':TypeId}{v:Value}{xs:List Value}(h:TBx w b cs T)(ho:w.ownsRow base T' size v n xs)(hg:w.grownBy w' v.ownBlock)(hT:T≠T'):TBx w' b cs T:=
 (hg.block _ (alc.1 h).1 (own_ne ho h (fun cur e=>by injection e with _ e;exact hT e))).trans h
def dw (ins:ByteArray)(l:List Lt):List Lt:=l.filter fun x=> !eqB x.ins ins
theorem ah0 {ins:ByteArray}{l:List Lt}{k:Nat}{x:Lt}(h:l[k]? =some x)(hx:eqB x.ins ins=true):dw ins (l.take (k+1))=dw ins (l.take k):=by
 unfold dw;rw[List.take_add_one,h,List.filter_append];simp[hx]
theorem yn {ins:ByteArray}{l:List Lt}{k:Nat}{x:Lt}(h:l[k]? =some x)(hx:eqB x.ins ins=false):dw ins (l.take (k+1))=dw ins (l.take k)++ [x]:=by
 unfold dw;rw[List.take_add_one,h,List.filter_append];simp[hx]
theorem ae5 {ins:ByteArray}{l:List Lt}(k:Nat):(dw ins (l.take k)).length ≤l.length:=by
 unfold dw;refine ali (List.length_filter_le _ _) ?_;rw[alr];omega
theorem adX (p:PlS){A':Option Addr}{n' c':Nat}{l:List Lt}(hk:p.m.keep=false)(hn:l.length=n')(hm:n'≤1000000):
 RetO (fun w=>Row w A' (au aa l)) 79 #[plV p,.slice A' n' c'] fun B w' v=>fM aa 47 7 B w' v (dw p.m.ins l).length (dw p.m.ins l):=by
 intro w hg hi;have hs:=(St.refl hg).alloc (.cells (plA p) 162);have X:=TBx.new w (plA p) 162;have HN:=ala hn;have HR:=ala hi;obtain⟨⟨cause,day,ins,oth,rn,rd,sn,sd,pn,pd,keep⟩,A,n,c,parts,an,ad,AN,cN,AM,cM,AF,cF,AP,cP⟩:=p;dsimp only[plV,plA]at*
 subst hk;have HX:=ala X;have HO0:Hid (World.ownsRow (w.alloc (.cells #[.string cause,.int .i64 day,.string ins,.string oth,.string rn,.string rd,.string sn,.string sd,.string pn,.string pd,.bool false,.slice A n c,.string parts,.string an,.string ad,.slice AN n cN,.slice AM n cM,.slice AF n cF,.slice AP n cP] 162)) w.heap.size 47 7 (.slice none 0 0) 0 []):=World.ownsRow_nil _ _ _ _;obtain⟨i0,hi0,hz0,hz1,hz2⟩:=info_parts aeH;have Hi:=ala hi0;have Hz0:=ala hz0;have Hz1:=ala hz1;have Hz2:=ala hz2;clear hi0 hz0 hz1 hz2 X hi hn
 go_enter Tryz.func79,Tryz.ntmps79
 go_wp2_with fail
 go_loopw [11,5] (fun s v wr=>∃k:Nat,k≤n'∧s= .int .i64 (k:Int)∧St w wr∧Hid (TBx wr w.heap.size #[.string cause,.int .i64 day,.string ins,.string oth,.string rn,.string rd,.string sn,.string sd,.string pn,.string pd,.bool false,.slice A n c,.string parts,.string an,.string ad,.slice AN n cN,.slice AM n cM,.slice AF n cF,.slice AP n cP] 162)∧Hid (World.ownsRow wr w.heap.size 47 7 v (dw ins (l.take k)).length (au aa (dw ins (l.take k))))) (fun s _ _=>(n'-intOf s).toNat)
 case atStart=>exact⟨0,by omega,rfl,hs,HX,HO0⟩
 case round=>
  clear hs HX HO0;obtain⟨k,hk,rfl,hs,HX,HO⟩:=hrel;by_cases hkn:k=n'
  ·subst hkn
   have q:decide ((k:Int)<(k:Int))=false:=alH (by omega)
   go_wp2_with fail
   go_ret
   have h:=HO.out;rw[aln (Nat.le_of_eq HN.out)]at h;exact⟨_,rfl,⟨rfl,h⟩,hs.2⟩
  ·have hkl:k<n':=by omega
   have q:decide ((k:Int)<(n':Int))=true:=alI (by omega);have qn:decide (k<n')=true:=alI hkl;obtain⟨x,hd⟩:∃d,l[k]? =some d:=⟨l[k]'(by rw[HN.out];exact hkl),by simp⟩;obtain⟨b,o,hA,hb,hcells⟩:=eT (cs:=aa) (m:=7) aM (by decide) (HR.out.on hs.2) hd;obtain⟨x0,x1,x2,x3,x4,x5,x6⟩:=eD hcells;have HD:=ala hd;subst hA;have hmn:(dw ins (l.take k)).length ≤1000000:=ali (ae5 k) (by rw[HN.out];exact hm);have hba:Below wr.heap.size wr (wr.alloc (.cells (rA x.id x.ins x.acq x.opn x.q x.c x.u) 47)):=alL;have y2:=(HX.out.on hba).bx.cell (i:=2) (v:=.string ins) rfl;have y10:=(HX.out.on hba).bx.cell (i:=10) (v:=.bool false) rfl;clear hd hkn hcells hba;cases hq:eqB x.ins ins with
   |true=>
    have hq2:(x.ins.toList==ins.toList)=true:=hq
    go_wp2_with fail
    go_roundw
    case rel=>exact⟨k+1,by omega,by go_num,hs.alloc _,ala (HX.out.alloc _),by rw[ah0 HD.out hq];exact ala (HO.out.alloc _)⟩
    case measure=>simp[intOf];omega
   |false=>
    have hq2:(x.ins.toList==ins.toList)=false:=hq;have HE:Hid (au aa (dw ins (l.take (k+1)))=au aa (dw ins (l.take k))++aa x):=by
     show _=_;rw[yn HD.out hq,uf]
    have HEn:Hid ((dw ins (l.take (k+1))).length =(dw ins (l.take k)).length +1):=by
     show _=_;rw[yn HD.out hq,alG];rfl
    generalize hm2:(dw ins (l.take k)).length =m at*
    generalize hl2:au aa (dw ins (l.take k))=fl at*
    clear hm2 hl2;have hsz:=hs.2.size;have HRd:Hid (Reads ((wr.alloc (.cells (rA x.id x.ins x.acq x.opn x.q x.c x.u) 47)).alloc (.cells (rA x.id x.ins x.acq x.opn x.q x.c x.u) 47)) ((wr.alloc (.cells (rA x.id x.ins x.acq x.opn x.q x.c x.u) 47)).alloc (.cells (rA x.id x.ins x.acq x.opn x.q x.c x.u) 47)).heap.size 7 (some ⟨wr.heap.size+1,0,none⟩) 1 (aa x)):=by
     have:=Row.of (Bx.new (wr.alloc (.cells (rA x.id x.ins x.acq x.opn x.q x.c x.u) 47)) (rA x.id x.ins x.acq x.opn x.q x.c x.u) 47);rw[alf]at this;exact lu this rfl (by decide)
    go_wp2_with (at_builtin;refine aF _ rfl (.tmp 36) (.tmp 38) 22 rfl w.heap.size 47 i0 (.agg #[.string ⟨#[]⟩,.string ⟨#[]⟩,.int .i64 0,.int .i64 0,.string ⟨#[]⟩,.string ⟨#[]⟩,.string ⟨#[]⟩]) 7 96 (by kernel_rfl) Hi.out Hz0.out Hz1.out Hz2.out rfl (by omega) _ m fl rfl ((HO.out.alloc _).alloc _) _ (some ⟨wr.heap.size+1,0,none⟩) 1 1 (aa x) rfl HRd.out (dQ x) (by unfold maxLen;omega) (by omega) (by simp;omega) ?_;intro v7 w7 hown7 hg7 _;have HO7:=ala hown7;have HG7:=ala hg7;clear hown7 hg7)
    go_roundw
    case rel=>
     have h0:=((hs.alloc (.cells (rA x.id x.ins x.acq x.opn x.q x.c x.u) 47)).alloc (.cells (rA x.id x.ins x.acq x.opn x.q x.c x.u) 47));have ho:=((HO.out.alloc (.cells (rA x.id x.ins x.acq x.opn x.q x.c x.u) 47)).alloc (.cells (rA x.id x.ins x.acq x.opn x.q x.c x.u) 47));refine⟨k+1,by omega,by go_num,⟨hs.1,h0.2.grown HG7.out h0.2.size (qh ho)⟩,?_,?_⟩
     ·exact ala (((HX.out.alloc _).alloc _).grown ho HG7.out (by decide))
     ·rw[HE.out,HEn.out];exact HO7
    case measure=>simp[intOf];omega
end Go.Proofs.YtjknklinhegdoaaGreatDoor
namespace Go.Proofs.YtjknklinhegdoaaGreatDoor
open Go.RowKit Go.Shelf Dec QQ SP
abbrev jg (x0 x1 x2 x3 x4 x5:ByteArray):Array Value:= #[.string x0,.string x1,.string x2,.string x3,.string x4,.string x5]
theorem ahB:(Tryz.prog.info? 112).map (fun i=>(i.zero,i.size,i.bytes))=some (some (.agg #[.string ⟨#[]⟩,.string ⟨#[]⟩,.string ⟨#[]⟩,.string ⟨#[]⟩,.string ⟨#[]⟩,.string ⟨#[]⟩]),6,96):=by kernel_rfl
def ac6 (base Bo M:Nat)(W:World):Prop:=∃v m xs,m≤M∧TBx W Bo #[v] 38∧W.ownsRow base 112 6 v m xs
theorem TBx.boxed {w:World}{b:Nat}{v:Value}{T:TypeId}(h:TBx w b #[v] T):Boxed w b T v:=h
structure SLeft (base Bo M:Nat) (W W':World):Prop where
 st:ac6 base Bo M W'
 low:Below base W W'
 far:∀b o,W.heap[b]? =some o→b≠Bo→(∀cur,o≠ .cells cur 112 (0,0))→W'.heap[b]? =some o
theorem SLeft.tb {base Bo M:Nat}{W W':World}(h:SLeft base Bo M W W'){b:Nat}{cs:Array Value}{T:TypeId}(ht:TBx W b cs T)(hne:b≠Bo)(hT:T≠112):TBx W' b cs T:=h.far b _ ht hne (fun cur e=>by injection e with _ e;exact hT e)
theorem ac6.on {base Bo M:Nat}{W W':World}(h:ac6 base Bo M W)(hb:Below W.heap.size W W'):ac6 base Bo M W':=by
 obtain⟨v,m,xs,hm,h1,h2⟩:=h;exact⟨v,m,xs,hm,h1.on hb,own_below h2 hb⟩
theorem ac6.up {base Bo M M':Nat}{W:World}(h:ac6 base Bo M W)(hM:M≤M'):ac6 base Bo M' W:=by
 obtain⟨v,m,xs,hm,h1,h2⟩:=h;exact⟨v,m,xs,ali hm hM,h1,h2⟩
theorem abH {base Bo M:Nat}(a0 a1 a2 a3 a4 a5:ByteArray)(W:World)(hb:base≤Bo)(hM:M≤1000000)(hz:base≤W.heap.size)(h:ac6 base Bo M W):
 Calls Tryz.prog 155 #[.agg (jg a0 a1 a2 a3 a4 a5),.pointer (some ⟨Bo,0,none⟩)] W fun e W'=>(∃v,e= .returned v)∧SLeft base Bo (M+1) W W':=by
 obtain⟨v,m,xs,hm,h1,h2⟩:=h;have hba:Below W.heap.size W (W.alloc (.cells (jg a0 a1 a2 a3 a4 a5) 112)):=alL;have hbb:Below W.heap.size W ((W.alloc (.cells (jg a0 a1 a2 a3 a4 a5) 112)).alloc (.cells (jg a0 a1 a2 a3 a4 a5) 112)):=hba.alloc (by simp) _;have X:=Bx.new W (jg a0 a1 a2 a3 a4 a5) 112;have y0:=X.cell (i:=0) (v:=.string a0) rfl;have y1:=X.cell (i:=1) (v:=.string a1) rfl;have y2:=X.cell (i:=2) (v:=.string a2) rfl;have y3:=X.cell (i:=3) (v:=.string a3) rfl;have y4:=X.cell (i:=4) (v:=.string a4) rfl;have y5:=X.cell (i:=5) (v:=.string a5) rfl;have z0:=(h1.on hba).bx.cell (i:=0) (v:=v) rfl;obtain⟨i0,hi0,hz0,hz1,hz2⟩:=info_parts ahB;have Hi:=ala hi0;have Hz0:=ala hz0;have Hz1:=ala hz1;have Hz2:=ala hz2;clear hi0 hz0 hz1 hz2;have HO:=ala (own_below h2 hbb);have H1:=ala (h1.on hbb);have HM:=ala hm;have HRd:Hid (Reads ((W.alloc (.cells (jg a0 a1 a2 a3 a4 a5) 112)).alloc (.cells (jg a0 a1 a2 a3 a4 a5) 112)) ((W.alloc (.cells (jg a0 a1 a2 a3 a4 a5) 112)).alloc (.cells (jg a0 a1 a2 a3 a4 a5) 112)).heap.size 6 (some ⟨W.heap.size+1,0,none⟩) 1 [.string a0,.string a1,.string a2,.string a3,.string a4,.string a5]):=by
  have:=Row.of (Bx.new (W.alloc (.cells (jg a0 a1 a2 a3 a4 a5) 112)) (jg a0 a1 a2 a3 a4 a5) 112);rw[alf]at this;exact lu this rfl (by decide)
 have HQ:Hid (ac6 base Bo (M+1) (W.alloc (.cells (jg a0 a1 a2 a3 a4 a5) 112))):=ac6.up ⟨v,m,xs,hm,h1.on hba,own_below h2 hba⟩ (by omega);have HBA:Hid (Below base W (W.alloc (.cells (jg a0 a1 a2 a3 a4 a5) 112))):=hba.mono hz;have HBB:Hid (Below base W ((W.alloc (.cells (jg a0 a1 a2 a3 a4 a5) 112)).alloc (.cells (jg a0 a1 a2 a3 a4 a5) 112))):=hbb.mono hz;have HFA:Hid (Below W.heap.size W (W.alloc (.cells (jg a0 a1 a2 a3 a4 a5) 112))):=hba;have HFB:Hid (Below W.heap.size W ((W.alloc (.cells (jg a0 a1 a2 a3 a4 a5) 112)).alloc (.cells (jg a0 a1 a2 a3 a4 a5) 112))):=hbb;have g0:(W.alloc (.cells (jg a0 a1 a2 a3 a4 a5) 112)).frozen? ⟨Bo,0,none⟩=false:=(h1.on hba).bx.frozen 0;clear X h1 h2 hba hbb
 go_enter Tryz.func155,Tryz.ntmps155
 generalize q3:(a3.toList== [])=b3 at*
 generalize q4:(a4.toList== [])=b4 at*
 generalize q5:(a5.toList== [])=b5 at*
 have go:True:=trivial;by_cases hall:b3=true∧b4=true∧b5=true
 ·obtain⟨rfl,rfl,rfl⟩:=hall
  go_wp2_with fail
  go_end0
  exact⟨⟨_,rfl⟩,HQ.out,HBA.out,fun b o ht _ _=>(HFA.out.block b (alc.1 ht).1).trans ht⟩
 ·cases b3<;>cases b4<;>cases b5<;>simp only[not_true_eq_false,and_self,alu,false_and,and_false,not_false_eq_true]at hall
  all_goals
   go_wp2_with (at_builtin;refine aF _ rfl (.tmp 16) (.tmp 18) 38 rfl base 112 i0 (.agg #[.string ⟨#[]⟩,.string ⟨#[]⟩,.string ⟨#[]⟩,.string ⟨#[]⟩,.string ⟨#[]⟩,.string ⟨#[]⟩]) 6 96 (by kernel_rfl) Hi.out Hz0.out Hz1.out Hz2.out rfl (by omega) _ m xs rfl HO.out _ (some ⟨W.heap.size+1,0,none⟩) 1 1 [.string a0,.string a1,.string a2,.string a3,.string a4,.string a5] rfl HRd.out (by simp[Value.oneCell']) (by unfold maxLen;omega) (by omega) (by simp;omega) ?_;intro v7 w7 hown7 hg7 _;obtain⟨g7,cap7,rfl⟩:=ownsRow_succ hown7;have HO7:=ala hown7;have HG7:=ala hg7;have H7:=ala (H1.out.grown HO.out hg7 (by decide));have f7:=H7.out.bx.frozen 0;have c7:=H7.out.bx.cell (i:=0) (v:=v) rfl;clear hown7 hg7)
   go_end0
   refine⟨⟨_,rfl⟩,⟨_,m+1,_,by have:=HM.out;omega,Boxed.set _ H7.out.boxed,bX HO7.out H7.out (fun cur e=>by injection e with _ e;revert e;decide) (grownBy_setCell' _ _ _)⟩,(HBB.out.grown HG7.out (ali hz HBB.out.size) (qh HO.out)).setCell (p:=⟨Bo,0,none⟩) hb _,fun b o ht hne hT=>?_⟩;have h2:=(HFB.out.block b (alc.1 ht).1).trans ht;exact(alv _ _ _ _ hne).trans ((HG7.out.block b (alc.1 h2).1 (own_ne HO.out h2 hT)).trans h2)
end Go.Proofs.YtjknklinhegdoaaGreatDoor
