/- TopSpunTogether: Lots. Conditions: bounded sizes; variables as laid. -/
import Derived.Test.YtbkhnggmcheelaaGreatDoorGbe
set_option linter.unusedSimpArgs false
set_option linter.unusedVariables false
set_option maxHeartbeats 4000000
set_option maxRecDepth 100000
namespace Go.Proofs.YtbkhnggmcheelaaGreatDoor
open Proofs.Tryz
open Go.RowKit Go.Shelf Dec QQ
attribute [local go_sem] Oper.semAt_some
theorem akP {w:World}{base n s:Nat}{T:TypeId}{v:Value}{xs:List Value}(h:w.ownsRow base T s v n xs){g:Nat}(hg:v.ownBlock=some g):g<w.heap.size:=by
 rcases h.2 with ⟨rfl,_⟩|⟨g',cap,cur,rfl,_,h3,_⟩
 ·cases hg
 ·have:g'=g:=by simpa[Value.ownBlock]using hg
  rw[<-this];exact(amA.1 h3).1
theorem wN {A:Option Addr}{n c:Nat}{l:List Lt}{x:Lt}(hn:l.length=n)(hm:n<=1000000)(hz:∀y∈l,y.le 1000)(hx:x.le 1000)(w:World)(hg:Gl w)(hr:Row w A (av aa l)):
 Calls prog 42 #[.slice A n c,ltV x] w fun e w'=>Below w.heap.size w w'/\∃v,e= .returned (.tuple #[v,.int .i64 (kR l x)])/\(kR l x=0->∃L,vM l x L/\dw aa 62 7 w.heap.size w' v (n+1) L):=by
 have hs:=(St.refl hg).alloc (.cells (ltA x) 62);have X:=Bx.new w (ltA x) 62;have K1:=amy (qx (A:=A) (c:=c) hn hm hz);have K2:=amy (ab2 hx);have K3:=amy (rY (A:=A) (c:=c) (id:=x.id) hn hm);have HR:=amy (hr.on ((am3 _ _).alloc ano (.cells (ltA x) 62)));have HN:=amy hn;have HX:=amy X;have hE:kR l x=bif aN l !=0 then 1 else bif nN x !=0 then nN x else bif l.any (fun y=>eqB y.id x.id)then 5 else bif decide (1000<=n)then 4 else 0:=by rw[<-hn];rfl
 have HE:=amy hE;obtain⟨x0,hx0⟩:∃x0,x0=x:=⟨_,rfl⟩;have HX0:=amy hx0;generalize hoe:kR l x=oe at*
 generalize (l.any fun y=>eqB y.id x.id)=bf at*
 generalize nN x=le at*
 generalize aN l=la at*
 generalize max (afv l x.id) 0=ix at*
 obtain⟨xid,xins,xacq,xopn,xq,xc,xu⟩:=x;dsimp only[ltV,ltA]at*
 clear hn hz hr hE hg hx hx0 hoe;have z0:=X.c 0 (.string xid) rfl;have z1:=X.c 1 (.string xins) rfl
 go_enter func42,ntmps42
 go_wp2_with fail
 refine(K1.o).step hs HR.o ?_;intro w1 hs hb1;have X1:=HX.o.on hb1;have HR1:=amy (HR.o.on hb1);have HX1:=amy X1;clear K1 z0 z1 X hb1 X1 HR HX;by_cases hla:la=0
 case neg=>
  have q:(la !=0)=true:=by simpa using hla
  have q2:(la==0)=false:=by simpa using hla
  have hoe:oe=1:=by rw[HE.o,q];rfl
  subst hoe;clear HE
  go_wp2_with fail
  go_ret2
  exact⟨hs.2,_,rfl,fun h=>absurd h (by decide)⟩
 subst hla;have HE:=amy (show oe=bif le !=0 then le else bif bf then 5 else bif decide (1000<=n)then 4 else 0 from HE.o);have z0:=HX1.o.c 0 (.string xid) rfl;have z1:=HX1.o.c 1 (.string xins) rfl;have z2:=HX1.o.c 2 (.int .i64 xacq) rfl;have z3:=HX1.o.c 3 (.int .i64 xopn) rfl;have z4:=HX1.o.c 4 (.string xq) rfl;have z5:=HX1.o.c 5 (.string xc) rfl;have z6:=HX1.o.c 6 (.string xu) rfl
 go_wp2_with fail
 refine(K2.o).step hs ?_;intro w2 hs hb2;have HR2:=amy (HR1.o.on hb2);have HX2:=amy (HX1.o.on hb2);clear z0 z1 z2 z3 z4 z5 z6 HX1 HR1 hb2 K2;by_cases hle:le=0
 case neg=>
  have q:(le !=0)=true:=by simpa using hle
  have q2:(le==0)=false:=by simpa using hle
  have hoe:oe=le:=by rw[HE.o,q];rfl
  subst hoe;clear HE
  go_wp2_with fail
  go_ret2
  exact⟨hs.2,_,rfl,fun h=>absurd h hle⟩
 subst hle;have HE:=amy (show oe=bif bf then 5 else bif decide (1000<=n)then 4 else 0 from HE.o);have z0:=HX2.o.c 0 (.string xid) rfl
 go_wp2_with fail
 refine(K3.o).step hs HR2.o ?_;intro w3 hs hb3;have HR3:=amy (HR2.o.on hb3);have HX3:=amy (HX2.o.on hb3);clear z0 HX2 HR2 hb3 K3;cases bf with
 |true=>
  have hoe:oe=5:=HE.o;subst hoe;clear HE
  go_wp2_with fail
  go_ret2
  exact⟨hs.2,_,rfl,fun h=>absurd h (by decide)⟩
 |false=>
  have HE:=amy (show oe=bif decide (1000<=n)then 4 else 0 from HE.o);by_cases h1000:1000<=n
  ·have q:decide ((1000:Int)<=(n:Int))=true:=am2 (by omega)
   have q2:(1000:Int)<=(n:Int):=by omega
   have hoe:oe=4:=by rw[HE.o,am2 h1000];rfl
   subst hoe;clear HE
   go_wp2_with fail
   go_ret2
   exact⟨hs.2,_,rfl,fun h=>absurd h (by decide)⟩
  have q:decide ((1000:Int)<=(n:Int))=false:=am1 (by omega);have hoe:oe=0:=by rw[HE.o,am1 h1000];rfl
  subst hoe;clear HE
  go_wp2_with fail
  clear q
  go_loopw [33,9] (fun s t wr=>∃k a:Nat,k<=n/\a<=k/\s= .int .i64 (k:Int)/\t= .int .i64 (a:Int)/\St w wr/\Hid (Row wr A (av aa l))/\Hid (Bx wr w.heap.size #[.string xid,.string xins,.int .i64 xacq,.int .i64 xopn,.string xq,.string xc,.string xu])/\Hid (∀i,a<=i->i<k->∀y,l[i]? =some y->eqB y.ins xins=false)) (fun s _ _=>(n-intOf s).toNat)
  case atStart=>exact⟨0,0,by omega,by omega,rfl,rfl,hs,HR3,HX3,fun i _ h=>by omega⟩
  case round=>
   clear HR3 HX3;obtain⟨k,a,hk,ha,rfl,rfl,hs,HR3,HX3,HL⟩:=hrel;by_cases hkn:k=n
   ·subst hkn
    have q:decide ((k:Int)<(k:Int))=false:=am1 (by omega)
    go_wp2_with fail
    have BL0:Hid (Below wr.heap.size wr wr.drew):=(am3 _ _).drew;have BL0a:Hid (Below wr.heap.size wr (wr.drew.alloc (.cells #[.string xid,.string xins,.int .i64 xacq,.int .i64 xopn,.string xq,.string xc,.string xu] 62))):=BL0.o.alloc BL0.o.size _;have BL0c:Hid (Below wr.heap.size wr ((wr.alloc (.cells #[.string xid,.string xins,.int .i64 xacq,.int .i64 xopn,.string xq,.string xc,.string xu] 62)).drew)):=BL0a.o;have hSOK:Hid (∀v,Below wr.heap.size wr v->v.cell? ⟨w.heap.size,0,none⟩=some (.string xid)/\v.cell? ⟨w.heap.size,1,none⟩=some (.string xins)/\v.cell? ⟨w.heap.size,2,none⟩=some (.int .i64 xacq)/\v.cell? ⟨w.heap.size,3,none⟩=some (.int .i64 xopn)/\v.cell? ⟨w.heap.size,4,none⟩=some (.string xq)/\v.cell? ⟨w.heap.size,5,none⟩=some (.string xc)/\v.cell? ⟨w.heap.size,6,none⟩=some (.string xu)):=fun v hv=>
     have h:=HX3.o.on hv
     ⟨h.cell (i:=0) rfl,h.cell (i:=1) rfl,h.cell (i:=2) rfl,h.cell (i:=3) rfl,h.cell (i:=4) rfl,h.cell (i:=5) rfl,h.cell (i:=6) rfl⟩
    go_region_held3 (fun v=>v.cell? ⟨w.heap.size,0,none⟩=some (.string xid)/\v.cell? ⟨w.heap.size,1,none⟩=some (.string xins)/\v.cell? ⟨w.heap.size,2,none⟩=some (.int .i64 xacq)/\v.cell? ⟨w.heap.size,3,none⟩=some (.int .i64 xopn)/\v.cell? ⟨w.heap.size,4,none⟩=some (.string xq)/\v.cell? ⟨w.heap.size,5,none⟩=some (.string xc)/\v.cell? ⟨w.heap.size,6,none⟩=some (.string xu))
     (first|with_reducible exact hSOK.o _ BL4.o|with_reducible exact hSOK.o _ BL1b.o|with_reducible exact hSOK.o _ BL1a.o|with_reducible exact hSOK.o _ (BL1a.o.alloc BL1a.o.size _)|with_reducible exact hSOK.o _ BL0.o|with_reducible exact hSOK.o _ BL0a.o|with_reducible exact hSOK.o _ BL0c.o)
     (first
      |(go_at_call 34;refine(acr HN.o hm wr.drew (HR3.o.on BL0.o)).mono ?_;rintro e w3 ⟨v3,rfl,ho3,hb3⟩;have BL1a:Hid (Below wr.heap.size wr w3):=BL0.o.trans (hb3.mono BL0.o.size);have HO3a:=amy ho3;clear ho3 hb3)
      |(go_at_call 34;refine(acr HN.o hm (wr.drew.alloc (.cells #[.string xid,.string xins,.int .i64 xacq,.int .i64 xopn,.string xq,.string xc,.string xu] 62)) (HR3.o.on BL0a.o)).mono ?_;rintro e w3 ⟨v3,rfl,ho3,hb3⟩;have BL1b:Hid (Below wr.heap.size wr w3):=BL0a.o.trans (hb3.mono BL0a.o.size);have HO3b:=amy ho3;have HB3b:=amy hb3;clear ho3 hb3)
      |(go_at_call 96;refine(insL (w:=w3.alloc (.cells #[.string xid,.string xins,.int .i64 xacq,.int .i64 xopn,.string xq,.string xc,.string xu] 62)) (base:=wr.heap.size) (n:=k) (i:=a) (gy:=w3.heap.size) (xs:=av aa l) (ys:=aa ⟨xid,xins,xacq,xopn,xq,xc,xu⟩) (HO3a.o.2.alloc _) (by have:=BL1a.o.size;simp;omega) ha hm (World.alloc_heap_new w3 _) rfl (fun e=>by have:=akP HO3a.o.2 e.symm;omega) (xD dh l) (dh _)).mono ?_;rintro e w4 ⟨v4,rfl,hg4,ho4⟩;have BL4:Hid (Below wr.heap.size wr w4):=(BL1a.o.alloc BL1a.o.size _).grown hg4 (by have:=BL1a.o.size;simp;omega) (wM HO3a.o.2);have HO4:=amy ho4;clear hg4 ho4)
      |(go_at_call 96;refine(insL (w:=w3) (base:=wr.heap.size) (n:=k) (i:=a) (gy:=wr.heap.size) (xs:=av aa l) (ys:=aa ⟨xid,xins,xacq,xopn,xq,xc,xu⟩) (aS HO3b.o.2 (by simp)) (by have:=BL1b.o.size;omega) ha hm ((HB3b.o.block wr.heap.size (by simp)).trans (World.alloc_heap_new wr.drew _)) rfl (fun e=>by have:=wM HO3b.o.2 _ e.symm;simp at this;omega) (xD dh l) (dh _)).mono ?_;rintro e w4 ⟨v4,rfl,hg4,ho4⟩;have BL4:Hid (Below wr.heap.size wr w4):=BL1b.o.grown hg4 BL1b.o.size (wM (aS HO3b.o.2 (by simp)));have HO4:=amy ho4;clear hg4 ho4))
    all_goals
     go_wp2_with fail
     go_ret2
     refine⟨hs.2.trans (BL4.o.mono hs.2.size),_,rfl,⟨jm l a [x0],⟨a,by rw[HN.o];exact ha,by rw[HX0.o],?_⟩,?_⟩⟩
     ·intro y hy
      obtain⟨i,hi⟩:=List.mem_iff_getElem?.1 hy;rw[List.getElem?_drop]at hi;exact HL.o (a+i) (by omega) (by have:=(amH.1 hi).1;rw[HN.o]at this;exact this) y hi
     ·refine⟨by unfold jm;simp[HN.o];omega,?_⟩
      rw[aiT (by rw[HN.o];exact ha),HX0.o];exact aS HO4.o hs.2.size
   ·have hkl:k<n:=by omega
    have q:decide ((k:Int)<(n:Int))=true:=am2 (by omega);have qn:decide (k<n)=true:=am2 hkl;obtain⟨d,hd⟩:∃d,l[k]? =some d:=⟨l[k]'(by rw[HN.o];exact hkl),by simp⟩;obtain⟨b,o,hA,hb,hcells⟩:=dV (cs:=aa) (m:=7) aJ (by decide) HR3.o hd;subst hA;have HD:=amy hd;obtain⟨x0,x1,x2,x3,x4,x5,x6⟩:=dI hcells;clear hcells hd;have hba:Below wr.heap.size wr (wr.alloc (.cells (ltA d) 62)):=anp;have Y:=(HX3.o.on hba).c 1 (.string xins) rfl;have YD:=(Bx.new wr (ltA d) 62).c 1 (.string d.ins) rfl;dsimp only[ltA]at Y YD
    go_wp2_with fail
    ·refine⟨⟨k+1,k+1,by omega,am4 _,by go_num,by go_num,hs.alloc _,HR3.o.on hba,HX3.o.on hba,fun i h1 h2=>by omega⟩,?_⟩
     simp[intOf];omega
    ·rename_i hq
     refine⟨⟨k+1,a,by omega,by omega,by go_num,rfl,hs.alloc _,HR3.o.on hba,HX3.o.on hba,fun i h1 h2 y hy=>?_⟩,?_⟩
     ·by_cases e:i=k
      ·subst e
       have:=anj (HD.o.symm.trans hy);subst this;exact hq.2
      ·exact HL.o i h1 (by omega) y hy
     ·simp[intOf]
      omega
end Go.Proofs.YtbkhnggmcheelaaGreatDoor
