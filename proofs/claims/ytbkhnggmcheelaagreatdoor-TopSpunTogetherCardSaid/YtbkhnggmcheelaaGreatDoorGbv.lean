/- TopSpunTogether: Checks. Conditions: bounded sizes; variables as laid. -/
import Derived.Test.YtbkhnggmcheelaaGreatDoorGbh
import Derived.Test.YtbkhnggmcheelaaGreatDoorFk7a
import Derived.Test.YtbkhnggmcheelaaGreatDoorFk7b
set_option linter.unusedSimpArgs false
set_option linter.unusedVariables false
set_option maxHeartbeats 4000000
set_option maxRecDepth 100000
namespace Go.Proofs.YtbkhnggmcheelaaGreatDoor
open Proofs.Tryz
open Go.RowKit Go.Shelf Dec QQ SP
attribute [local go_sem] Oper.semAt_some
section
attribute [-go_sem] loadVar
attribute [local go_sem] afr
theorem ahQ (f:Fct)(hc:f.canc=true):Ret 52 #[gI f,.agg (gA f)] (.bool (fC f)):=by
 cases hH:((f.day==0)&&((f.kind==0)&&((f.ins.toList.isEmpty)&&((f.oth.toList.isEmpty)&&((f.cur.toList.isEmpty)&&((f.tgt.toList.isEmpty)&&((f.q.toList.isEmpty)&&((f.a.toList.isEmpty)))))))))
 ·exact akt f hc hH
 ·simp only[amC]at hH
  obtain⟨h0,h1,h2,h3,h4,h5,h6,h7⟩:=hH;exact aku f hc h0 h1 h2 h3 h4 h5 h6 h7
end
section
attribute [-go_sem] loadVar storeVar
attribute [local go_sem] lv_fk sv_fk
theorem vw (f:Fct){lp:List Pk}{lo:List Ot}(hI:FcI f lp lo):iO (FcW f lp lo) 18 #[gI f] (.int .i64 (iy f lp lo)):=by
 intro w hg hw;have hs:=(St.refl hg).alloc (.cells (bK f) 30);have HX:=amy (TBx.new w (bK f) 30);have HW:=amy (hw.on (bal w (.cells (bK f) 30)));have HI:=amy hI;have K1:=NmR (s:=f.key) (by have:=hI.le.key;omega);have hE:iy f lp lo=bif !(aG f.key)then 23 else bif decide (f.st<0)then 2 else bif f.canc then(bif fC f then 0 else 1)else bif decide (f.day< -25567)||decide (84005<f.day)then 13 else
 bif decide (1<=f.kind)&&decide (f.kind<=18)then oI f lp lo f.kind.toNat 13 0 else 7:=rfl
 generalize iy f lp lo=oe at*
 obtain⟨bn,hbn⟩:=eX (aG f.key);rw[hbn]at hE K1;have HE:=amy hE;clear hw hI hg hE hbn;unfold gI;have x0:=HX.o.bx.c 0 (.string f.key) rfl
 go_enter func18,ntmps18
 go_wp2_with fail
 refine K1.step hs ?_;intro w1 hs hb1;replace HX:=amy (HX.o.on hb1);replace HW:=amy (HW.o.on hb1);clear K1 x0 hb1;cases bn with
 |false=>
  have hoe:oe=23:=HE.o;subst hoe;clear HE
  go_wp2_with fail
  go_ret
  exact⟨rfl,hs.2⟩
 |true=>
 have HE2:Hid (oe=bif decide (f.st<0)then 2 else bif f.canc then(bif fC f then 0 else 1)else bif decide (f.day< -25567)||decide (84005<f.day)then 13 else
  bif decide (1<=f.kind)&&decide (f.kind<=18)then oI f lp lo f.kind.toNat 13 0 else 7):=HE.o
 clear HE;have x1:=HX.o.bx.c 1 (.int .i64 f.st) rfl;by_cases hst:f.st<0
 case pos=>
  have q1:decide (f.st<0)=true:=am2 hst;have hoe:oe=2:=by rw[HE2.o,q1];rfl
  subst hoe;clear HE2
  go_wp2_with fail
  go_ret
  exact⟨rfl,hs.2⟩
 have q1:decide (f.st<0)=false:=am1 hst;have HE3:Hid (oe=bif f.canc then(bif fC f then 0 else 1)else bif decide (f.day< -25567)||decide (84005<f.day)then 13 else
  bif decide (1<=f.kind)&&decide (f.kind<=18)then oI f lp lo f.kind.toNat 13 0 else 7):=by show _=_;rw[HE2.o,q1];rfl
 clear HE2;have x2:=HX.o.bx.c 2 (.bool f.canc) rfl;obtain⟨cc,hcc⟩:=eX (f.canc);rw[hcc]at x2;cases cc with
 |true=>
  have K2:=ahQ f hcc;unfold gI at K2;have x0:=HX.o.bx.c 0 (.string f.key) rfl;have xf:=HX.o.bx.fact rfl;have hoe:oe=bif fC f then 0 else 1:=by rw[HE3.o,hcc];rfl
  obtain⟨sb,hsb⟩:=eX (fC f);rw[hsb]at hoe K2;clear HE3 hcc hsb
  go_wp2_with fail
  refine K2.step hs ?_;intro w2 hs hb2;clear x0 x1 x2 xf;cases sb with
  |true=>
   replace hoe:oe=0:=hoe;subst hoe
   go_wp2_with fail
   go_ret
   exact⟨rfl,hs.2⟩
  |false=>
   replace hoe:oe=1:=hoe;subst hoe
   go_wp2_with fail
   go_ret
   exact⟨rfl,hs.2⟩
 |false=>
 have HE4:Hid (oe=bif decide (f.day< -25567)||decide (84005<f.day)then 13 else
  bif decide (1<=f.kind)&&decide (f.kind<=18)then oI f lp lo f.kind.toNat 13 0 else 7):=by show _=_;rw[HE3.o,hcc];rfl
 clear HE3 hcc;have x3:=HX.o.bx.c 3 (.int .i64 f.day) rfl;by_cases hd1:f.day< -25567
 case pos=>
  have q2:decide (f.day< -25567)=true:=am2 hd1;have hoe:oe=13:=by rw[HE4.o,q2];rfl
  subst hoe;clear HE4
  go_wp2_with fail
  go_ret
  exact⟨rfl,hs.2⟩
 have q2:decide (f.day< -25567)=false:=am1 hd1;by_cases hd2:84005<f.day
 case pos=>
  have q3:decide (84005<f.day)=true:=am2 hd2;have hoe:oe=13:=by rw[HE4.o,q2,q3];rfl
  subst hoe;clear HE4
  go_wp2_with fail
  go_ret
  exact⟨rfl,hs.2⟩
 have q3:decide (84005<f.day)=false:=am1 hd2;have HE5:Hid (oe=bif decide (1<=f.kind)&&decide (f.kind<=18)then oI f lp lo f.kind.toNat 13 0 else 7):=by show _=_;rw[HE4.o,q2,q3];rfl
 clear HE4
 go_wp2_with fail
 have hgl:Hid (∀v,Below w1.heap.size w1 v->Gl v):=fun v hv=>hs.gl.below hv
 have hSOK:Hid (∀v,Below w1.heap.size w1 v->v.cell? ⟨w.heap.size,4,none⟩=some (.int .i64 f.kind)):=fun v hv=>(HX.o.on hv).bx.cell (i:=4) rfl
 have BL0:Hid (Below w1.heap.size w1 w1.drew):=(am3 _ _).drew;have BL0b:Hid (Below w1.heap.size w1 (w1.drew.alloc (.cells #[.string ⟨#[]⟩,.int .i64 0,.bool false,.bool false,.bool false,.bool false,.bool false,.bool false,.bool false,.bool false,.bool false,.bool false,.bool false,.bool false,.bool false,.map none,.bool false] 131))):=BL0.o.alloc BL0.o.size _;have BL0c:Hid (Below w1.heap.size w1 ((w1.alloc (.cells #[.string ⟨#[]⟩,.int .i64 0,.bool false,.bool false,.bool false,.bool false,.bool false,.bool false,.bool false,.bool false,.bool false,.bool false,.bool false,.bool false,.bool false,.map none,.bool false] 131)).drew)):=BL0b.o;have TA0b:Hid (TBx (w1.drew.alloc (.cells #[.string ⟨#[]⟩,.int .i64 0,.bool false,.bool false,.bool false,.bool false,.bool false,.bool false,.bool false,.bool false,.bool false,.bool false,.bool false,.bool false,.bool false,.map none,.bool false] 131)) w1.heap.size #[.string ⟨#[]⟩,.int .i64 0,.bool false,.bool false,.bool false,.bool false,.bool false,.bool false,.bool false,.bool false,.bool false,.bool false,.bool false,.bool false,.bool false,.map none,.bool false] 131):=TBx.new w1.drew _ _;have HS1:∀(v:World) (d:Knd) (nm:Value),nm.oneCell'=true->(storeVar 131 ⟨v.heap.size,0,none⟩ (.agg (uh d nm))).run prog (v.alloc (.cells #[.string ⟨#[]⟩,.int .i64 0,.bool false,.bool false,.bool false,.bool false,.bool false,.bool false,.bool false,.bool false,.bool false,.bool false,.bool false,.bool false,.bool false,.map none,.bool false] 131))= .ok () (v.alloc (.cells (uh d nm) 131)):=fun v d nm h1=>by
  rw[TBx.storeK (TBx.new v #[.string ⟨#[]⟩,.int .i64 0,.bool false,.bool false,.bool false,.bool false,.bool false,.bool false,.bool false,.bool false,.bool false,.bool false,.bool false,.bool false,.bool false,.map none,.bool false] 131) rfl rfl (afA d h1),World.setRow_alloc_new]
 have HS1h:=amy HS1;clear HS1 q1 q2 q3
 go_cut [3,4]from 32 to 38 (fun s3 s4 wx=>∃(bk:Nat) (d:Knd) (nm:Value) (is:Bool),s3= .pointer (some ⟨bk,0,none⟩)/\s4= .bool is/\Hid (Below w1.heap.size w1 wx/\TBx wx bk (uh d nm) 131/\w1.heap.size<=bk)/\Hid ((is=true->1<=f.kind/\f.kind<=18/\(∀i,d.h i=(ksp f.kind.toNat).has.contains i)/\d.code=(ksp f.kind.toNat).code /\∀x∈(ksp f.kind.toNat).lim,tL wx nm x.1 x.2.1 x.2.2)/\(is=false->¬(1<=f.kind/\f.kind<=18))))
 case first=>
  go_region_held3 (fun v=>v.cell? ⟨w.heap.size,4,none⟩=some (.int .i64 f.kind))
   (first|with_reducible exact hSOK.o _ BL2a.o|with_reducible exact hSOK.o _ BL2b.o|with_reducible exact hSOK.o _ (BL2a.o.alloc BL2a.o.size _)|with_reducible exact hSOK.o _ (below_setRow BL2b.o ano _)|with_reducible exact hSOK.o _ BL0.o|with_reducible exact hSOK.o _ BL0b.o|with_reducible exact hSOK.o _ BL0c.o)
   (first
     |(go_at_call 53;refine(zu w1.drew (hgl.o _ BL0.o)).mono ?_;rintro e w2 ⟨mv,rfl,hk,hb2⟩;have BL2a:Hid (Below w1.heap.size w1 w2):=BL0.o.trans (hb2.mono BL0.o.size);obtain⟨d,nm,is,h1,h2,h3,h4⟩:=hk f.kind;unfold ajY at h2;have L1:=h2 w2 (fun k _ _=>rfl);have L2:=h2 (w2.alloc (.cells #[.string ⟨#[]⟩,.int .i64 0,.bool false,.bool false,.bool false,.bool false,.bool false,.bool false,.bool false,.bool false,.bool false,.bool false,.bool false,.bool false,.bool false,.map none,.bool false] 131)) (fun k _ hk2=>Below.heap_alloc _ _ _ hk2);have S1:=HS1h.o w2 d nm h1;have H3a:=amy (And.intro h3 h4);clear h2 h3 h4 hk hb2 h1)
     |(go_at_call 53;refine(zu (w1.drew.alloc (.cells #[.string ⟨#[]⟩,.int .i64 0,.bool false,.bool false,.bool false,.bool false,.bool false,.bool false,.bool false,.bool false,.bool false,.bool false,.bool false,.bool false,.bool false,.map none,.bool false] 131)) (hgl.o _ BL0b.o)).mono ?_;rintro e w2 ⟨mv,rfl,hk,hb2⟩;have BL2b:Hid (Below w1.heap.size w1 w2):=BL0b.o.trans (hb2.mono BL0b.o.size);have TA2b:=amy (TA0b.o.on hb2);obtain⟨d,nm,is,h1,h2,h3,h4⟩:=hk f.kind;unfold ajY at h2;have L1:=h2 w2 (fun k _ _=>rfl);have S1:=TA2b.o.storeK (cs':=uh d nm) rfl rfl (afA d h1);have H3b:=amy (And.intro h3 h4);clear h2 h3 h4 hk hb2 h1))
  all_goals (go_wp2_with fail;go_meet)
  all_goals first
   |(refine⟨_,d,nm,is,rfl,rfl,⟨BL2a.o.alloc BL2a.o.size _,TBx.new _ _ _,BL2a.o.size⟩,fun h=>?_,H3a.o.2⟩
     obtain⟨g1,g2,g3,g4,g5⟩:=H3a.o.1 h;exact⟨g1,g2,g3,g4,fun x hx=>ahk (g5 x hx) (fun k _ hk2=>Below.heap_alloc _ _ _ hk2) (by simp)⟩)
   |(refine⟨_,d,nm,is,rfl,rfl,⟨below_setRow BL2b.o ano _,TA2b.o.row _,am4 _⟩,fun h=>?_,H3b.o.2⟩
     obtain⟨g1,g2,g3,g4,g5⟩:=H3b.o.1 h;exact⟨g1,g2,g3,g4,fun x hx=>ahk (g5 x hx) (fun k hk1 _=>setRow_other _ _ _ _ (by simp at hk1;omega)) (by simp)⟩)
 case rest=>
  obtain⟨bk,d,nm,is,rfl,rfl,H1,H2⟩:=hcut;have hs2:=hs.on H1.o.1;replace HX:=amy (HX.o.on H1.o.1);replace HW:=amy (HW.o.on H1.o.1);have HK:=amy H1.o.2.1;clear hgl hSOK BL0 BL0b BL0c TA0b HS1h x1 x2 x3 H1;cases is with
  |false=>
   have hnk:=H2.o.2 rfl;have hoe:oe=7:=by
    rw[HE5.o];by_cases h1:1<=f.kind
    ·by_cases h2:f.kind<=18
     ·exact absurd ⟨h1,h2⟩ hnk
     ·rw[am1 h2,Bool.and_false];rfl
    ·rw[am1 h1];rfl
   subst hoe;clear HE5 hnk H2
   go_wp2_with fail
   go_ret
   exact⟨rfl,hs2.2⟩
  |true=>
   obtain⟨hk1,hk2,hdh,hdc,hlim⟩:=H2.o.1 rfl;have HE6:Hid (oe=oI f lp lo f.kind.toNat (13-0) 0):=by show _=_;rw[HE5.o,am2 hk1,am2 hk2];rfl
   have HDH:=amy hdh;have HDC:=amy hdc;have HLM:Hid (∀x∈(ksp f.kind.toNat).lim,tL wc nm x.1 x.2.1 x.2.2):=hlim;have hn19:f.kind.toNat<19:=by omega
   clear HE5 H2 hdh hdc hlim;obtain⟨n,hn⟩:=eX (f.kind.toNat);rw[hn]at HE6 HDH HDC HLM hn19;clear hn hk1 hk2
   go_wp2_with fail
   go_loopw [41] (fun s wr=>∃i:Nat,i<=13/\s= .int .i64 (i:Int)/\St w wr/\Hid (TBx wr w.heap.size (bK f) 30)/\Hid (FcW f lp lo wr)/\Hid (TBx wr bk (uh d nm) 131)/\Hid (∀x∈(ksp n).lim,tL wr nm x.1 x.2.1 x.2.2)/\Hid (oe=oI f lp lo n (13-i) i)) (fun s _=>(13-intOf s).toNat)
   case atStart=>exact⟨0,by omega,rfl,hs2,HX,HW,HK,HLM,HE6⟩
   case round=>
    clear HX HW HK HLM HE6;obtain⟨i,hi,rfl,hs3,HX,HW,HK,HLM,HE⟩:=hrel;by_cases hi13:i=13
    ·subst hi13
     have q:decide (((13:Nat):Int)<13)=false:=by decide
     have hoe:oe=0:=HE.o;subst hoe;clear HE
     go_wp2_with fail
     go_ret
     exact⟨rfl,hs3.2⟩
    ·have hi2:i<13:=by omega
     have q:decide ((i:Int)<13)=true:=am2 (by omega);have q0:decide (i<13)=true:=am2 hi2;have hHE:oe=bif acb f lp lo n i !=0 then acb f lp lo n i else oI f lp lo n (13-(i+1)) (i+1):=by
      rw[HE.o,show 13-i=(13-(i+1))+1 by omega];rfl
     have HE1:=amy hHE;have xk:=HK.o.bx.cell (i:=2+i) (v:=.bool (d.h i)) (alo d nm hi2);obtain⟨hb,hhb⟩:=eX (d.h i);have HHB:=amy hhb;rw[hhb]at xk;clear HE hHE hhb;have xf:=HX.o.bx.fact rfl;cases hb with
     |true=>
      have xkk:=HK.o.bx.kind rfl;have hcon:(ksp n).has.contains i=true:=by rw[<-HDH.o];exact HHB.o
      have hfld:acb f lp lo n i=cfE f lp lo d.code (pQ n i).1 (pQ n i).2 i:=by unfold acb;rw[hcon,HDC.o];rfl
      rw[hfld]at HE1;have K:=cf_any f HI.o d nm (pQ n i).1 (pQ n i).2 hi2 rfl;have HL4:Hid (4<=i->i<=9->tL wr nm i (pQ n i).1 (pQ n i).2):=fun h4 h9=>HLM.o _ (alg hn19 (by omega) h4 hcon)
      generalize cfE f lp lo d.code (pQ n i).1 (pQ n i).2 i=e1 at*
      unfold gI ajY at K;clear hcon hfld
      go_wp2_with fail
      refine K.step hs3 ⟨HW.o,HL4.o⟩ ?_;intro w4 hs4 hb4;replace HX:=amy (HX.o.on hb4);replace HW:=amy (HW.o.on hb4);replace HK:=amy (HK.o.on hb4);replace HLM:Hid (∀x∈(ksp n).lim,tL w4 nm x.1 x.2.1 x.2.2):=fun x hx=>(HLM.o x hx).on hb4
      clear xk xf xkk K HL4 hb4;by_cases he:e1=0
      case neg=>
       have q1:(e1 !=0)=true:=by simpa using he
       have q2:(e1==0)=false:=by simpa using he
       have hoe:oe=e1:=by rw[HE1.o,q1];rfl
       subst hoe;clear HE1
       go_wp2_with fail
       go_ret
       exact⟨rfl,hs4.2⟩
      subst he
      go_wp2_with fail
      go_roundw
      case rel=>exact⟨i+1,by omega,by go_num,hs4,HX,HW,HK,HLM,HE1.o⟩
      case measure=>simp[intOf];omega
     |false=>
      have hcon:(ksp n).has.contains i=false:=by rw[<-HDH.o];exact HHB.o
      have hfld:acb f lp lo n i=bif bX f i then 0 else 1:=by unfold acb;rw[hcon];rfl
      rw[hfld]at HE1;have K:=afZ f hi2 (j:=(i:Int)) rfl;unfold gI at K;obtain⟨eb,heb⟩:=eX (bX f i);rw[heb]at K HE1;clear hcon hfld heb
      go_wp2_with fail
      refine K.step hs3 ?_;intro w4 hs4 hb4;replace HX:=amy (HX.o.on hb4);replace HW:=amy (HW.o.on hb4);replace HK:=amy (HK.o.on hb4);replace HLM:Hid (∀x∈(ksp n).lim,tL w4 nm x.1 x.2.1 x.2.2):=fun x hx=>(HLM.o x hx).on hb4
      clear xk xf K hb4;cases eb with
      |false=>
       have hoe:oe=1:=HE1.o;subst hoe;clear HE1
       go_wp2_with fail
       go_ret
       exact⟨rfl,hs4.2⟩
      |true=>
       go_wp2_with fail
       go_roundw
       case rel=>exact⟨i+1,by omega,by go_num,hs4,HX,HW,HK,HLM,HE1.o⟩
       case measure=>simp[intOf];omega
end
section
attribute [-go_sem] loadVar storeVar
abbrev aPa1 (x0:BA)(x1:Int)(x2 x3 x4 x5 x6 x7 x8 x9:BA):Array Value:= #[.string x0,.int .i64 x1,.string x2,.string x3,.string x4,.string x5,.string x6,.string x7,.string x8,.string x9,.bool true]
abbrev aPa2:Array Value:= #[.string ⟨#[]⟩,.int .i64 0,.string ⟨#[]⟩,.string ⟨#[]⟩,.string ⟨#[]⟩,.string ⟨#[]⟩,.string ⟨#[]⟩,.string ⟨#[]⟩,.string ⟨#[]⟩,.string ⟨#[]⟩,.bool false]
theorem lv_pn (t:TypeId)(_:t≠30)(_:t≠76)(_:t≠40)(a:Addr):loadVar t a=(do if<-isAgg t then pure (.agg (<-loadCells a (<-sizeOf t)))else load a):=rfl
theorem sv_pn (t:TypeId)(_:t≠76)(_:t≠40)(a:Addr)(v:Value):storeVar t a v=(do
 if v.cells.size≠(<-sizeOf t)then stuck "storeVar: the value has not the size of the variable"
 storeCells a v.cells.toList):=rfl
attribute [local go_sem] lv_pn sv_pn
theorem TBx.storeM {w:World}{b:Nat}{cs cs':Array Value}{T:TypeId}(h:TBx w b cs T)(hs:cs.size=11)(hs':cs'.size=11)(h1:cs'.all (·.oneCell')=true):(storeVar 76 ⟨b,0,none⟩ (.agg cs')).run prog w= .ok () (w.setRow b cs'):=
 run_storeVar_row (P:=prog) w b T 76 cs cs' h (by rw[hs'];kernel_rfl) (by rw[hs,hs']) h1
theorem one4 {a b c:Value}(h1:a.oneCell'=true)(h2:b.oneCell'=true)(h3:c.oneCell'=true):(#[a,.slice none 0 0,b,c]:Array Value).all (·.oneCell')=true:=by
 have e:(Value.slice none 0 0).oneCell' =true:=rfl;simp[h1,h2,h3,e]
theorem uK (f:Fct){lp:List Pk}{lo:List Ot}(hI:FcI f lp lo):iO (FcW f lp lo) 5 #[gI f] (.int .i64 (ym f lp lo)):=by
 intro w hg hw;have hs:=(St.refl hg).alloc (.cells (bK f) 30);have HX:=amy (TBx.new w (bK f) 30);have HW:=amy (hw.on (bal w (.cells (bK f) 30)));have K:=vw f hI;have hE:ym f lp lo=bif iy f lp lo !=0 then iy f lp lo else bif f.kind !=9 then 7 else 0:=rfl;generalize ym f lp lo=oe at*
 generalize iy f lp lo=fe at*
 have HE:=amy hE;clear hw hI hg hE;unfold gI at*
 have xf:=HX.o.bx.fact rfl
 go_enter func5,ntmps5
 go_wp2_with fail
 refine K.step hs HW.o ?_;intro w1 hs hb;replace HX:=amy (HX.o.on hb);clear xf K HW hb;by_cases hfe:fe=0
 case neg=>
  have q1:(fe !=0)=true:=by simpa using hfe
  have q2:(fe==0)=false:=by simpa using hfe
  have hoe:oe=fe:=by rw[HE.o,q1];rfl
  subst hoe;clear HE
  go_wp2_with fail
  go_ret
  exact⟨rfl,hs.2⟩
 subst hfe;have x4:=HX.o.bx.c 4 (.int .i64 f.kind) rfl;obtain⟨kk,hkk⟩:=eX ((f.kind !=9));have hoe:oe=bif kk then 7 else 0:=by rw[HE.o,hkk];rfl
 clear HE;cases kk with
 |true=>
  replace hoe:oe=7:=hoe;subst hoe;have q3:(f.kind==9)=false:=by simpa using hkk
  go_wp2_with fail
  go_ret
  exact⟨rfl,hs.2⟩
 |false=>
  replace hoe:oe=0:=hoe;subst hoe;have q3:(f.kind==9)=true:=by simpa using hkk
  go_wp2_with fail
  go_ret
  exact⟨rfl,hs.2⟩
theorem acW (f:Fct){lp:List Pk}{lo:List Ot}(hI:FcI f lp lo){A:Option Addr}{n c:Nat}{l:List Lt}(hn:l.length=n)(hm:n<=1000000)(hz:∀x∈l,x.le 1000):iO (fun w=>Row w A (av aa l)/\FcW f lp lo w) 24 #[.slice A n c,gI f] (.bool (aN l==0&&ym f lp lo==0)):=by
 intro w hg hi;have hs:=(St.refl hg).alloc (.cells (bK f) 30);have HX:=amy (TBx.new w (bK f) 30);have HR:=amy (hi.1.on (bal w (.cells (bK f) 30)));have HW:=amy (hi.2.on (bal w (.cells (bK f) 30)));have K1:=amy (qx (A:=A) (c:=c) hn hm hz);have K2:=amy (uK f hI);generalize aN l=e at*
 generalize ym f lp lo=e2 at*
 generalize q0:(e==0)=b at*
 generalize q9:(e2==0)=b2 at*
 clear hi hn hz hI;unfold gI at*
 go_enter func24,ntmps24
 go_wp2_with fail
 refine K1.o.step hs HR.o ?_;intro w1 hs hb;replace HX:=amy (HX.o.on hb);replace HW:=amy (HW.o.on hb);clear hb K1;cases b with
 |false=>
  go_wp2_with fail
  go_ret
  exact⟨rfl,hs.2⟩
 |true=>
  have xf:=HX.o.bx.fact rfl
  go_wp2_with fail
  refine K2.o.step hs HW.o ?_;intro w2 hs hb;clear xf
  go_wp2_with fail
  go_ret
  exact⟨rfl,hs.2⟩
theorem aay (f:Fct)(w:World):Calls prog 25 #[gI f] w fun e w'=>e= .returned (.func (.func 69) #[] #[.pointer (some ⟨w.heap.size,0,none⟩)])/\w'=w.alloc (.cells (bK f) 30):=by
 unfold gI
 go_enter func25,ntmps25
 go_wp2
 go_ret
 exact⟨rfl,rfl⟩
theorem ah9 (f:Fct){b:Nat}:iO (fun w=>TBx w b (bK f) 30) 69 #[.pointer (some ⟨b,0,none⟩)] (mpV (cZ f)):=by
 intro w hg hi;have hs:=(St.refl hg).alloc (.cells aPa2 76);have hX:=hi.on (bal w (.cells aPa2 76));have x0:=hX.bx.c 0 (.string f.key) rfl;have x3:=hX.bx.c 3 (.int .i64 f.day) rfl;have x5:=hX.bx.c 5 (.string f.ins) rfl;have x6:=hX.bx.c 6 (.string f.oth) rfl;have x12:=hX.bx.c 12 (.string f.pn) rfl;have x13:=hX.bx.c 13 (.string f.pd) rfl;have x14:=hX.bx.c 14 (.string f.rn) rfl;have x15:=hX.bx.c 15 (.string f.rd) rfl;have x16:=hX.bx.c 16 (.string f.sn) rfl;have x17:=hX.bx.c 17 (.string f.sd) rfl;have hst:(storeVar 76 ⟨w.heap.size,0,none⟩ (.agg (aPa1 f.key f.day f.ins f.oth f.rn f.rd f.sn f.sd f.pn f.pd))).run prog (w.alloc (.cells aPa2 76))= .ok () (w.alloc (.cells (aPa1 f.key f.day f.ins f.oth f.rn f.rd f.sn f.sd f.pn f.pd) 76)):=by
  rw[TBx.storeM (TBx.new w aPa2 76) rfl rfl (by simp[Value.oneCell']),World.setRow_alloc_new]
 have r9:=(TBx.new w (aPa1 f.key f.day f.ins f.oth f.rn f.rd f.sn f.sd f.pn f.pd) 76).bx.mapping rfl;have hb:Below w.heap.size w (w.alloc (.cells (aPa1 f.key f.day f.ins f.oth f.rn f.rd f.sn f.sd f.pn f.pd) 76)):=bal _ _;show Calls _ _ _ _ fun e w'=>e= .returned (.agg (aPa1 f.key f.day f.ins f.oth f.rn f.rd f.sn f.sd f.pn f.pd))/\_
 clear hX hi
 go_enter func69,ntmps69
 go_wp2_with fail
 refine bodyPost_ret (v:=.agg (aPa1 f.key f.day f.ins f.oth f.rn f.rd f.sn f.sd f.pn f.pd)) (by simp[results,results69,go_sem,r9]) rfl ⟨rfl,hb⟩
abbrev adX:Array Value:= #[.slice none 0 0,.slice none 0 0,.slice none 0 0,.slice none 0 0]
structure MapHypK (m:MapS) (l:List Lt) (z M:Int):Prop where
 mo:MOk m
 ex:∃r pr sh:Rat,Vq m.rn m.rd r/\bP 1000 r/\Vq m.pn m.pd pr/\bP 1000 pr/\Vq m.sn m.sd sh/\bP 1000 sh/\pO 1 (sh*((iv ((ak m.ins l).map (·.c))).sum :Rat))=M/\((iv (mqL m l)).sum :Rat)*r=(z:Rat)
 mf:Fit 3900 M
 ms:∀x∈eH m l M,Fit 3000 x
 fs:∀x∈iZ m l M,Fit 3000 x
 nz:∀x∈zg m l z,x≠0
 z0:ak m.ins l≠ []->z≠0
 fr:∀x∈bD m l z M,x.le 1000
 rd:∀x∈acV m l M,x.le 1000
 fp:∀x∈dX ⟨#[]⟩ (mqL m l),Fit 3000 x
def PnAns (m:MapS)(l:List Lt)(z M:Int)(base:Nat)(w':World)(v:Value):Prop:=
 ∃vL vS vE er,v= .tuple #[.agg #[vL,.slice none 0 0,vS,vE],.int .i64 er]/\vL.oneCell'=true/\vS.oneCell'=true/\vE.oneCell'=true/\
  ((aN l=0/\er=0/\∃R,MapFineK m l z M R/\dw aa 62 7 base w' vL R.length R)\/er≠0)
structure Fa (w:World) (f:Fct) (rc:Array Value) (W:World):Prop where
 low:Below w.heap.size w W
 fb:TBx W w.heap.size (bK f) 30
 rb:TBx W (w.heap.size+1) rc 40
theorem Fa.on {w:World}{f:Fct}{rc:Array Value}{W W':World}(h:Fa w f rc W)(hb:Below W.heap.size W W'):Fa w f rc W':=⟨h.low.trans (hb.mono h.low.size),h.fb.on hb,h.rb.on hb⟩
theorem Fa.set {w:World}{f:Fct}{rc:Array Value}{W:World}(h:Fa w f rc W)(rc':Array Value):Fa w f rc' (W.setRow (w.heap.size+1) rc'):=⟨below_setRow h.low (by omega) _,h.fb.rowOther (by omega) _,h.rb.row _⟩
theorem Fa.setC {w:World}{f:Fct}{rc:Array Value}{W:World}(h:Fa w f rc W){b:Nat}(hb:w.heap.size+1<b)(j:Nat)(v:Value):Fa w f rc (W.setCell ⟨b,j,none⟩ v):=⟨h.low.setCell (p:=⟨b,j,none⟩) (by show w.heap.size<=b;omega) _,h.fb.other (by omega) _ _,h.rb.other (by omega) _ _⟩
theorem Fa.o {w:World}{f:Fct}{rc:Array Value}{W:World}{base n:Nat}{v:Value}{xs:List Lt}(h:Fa w f rc W)(ho:dw aa 62 7 base W v n xs)(rc':Array Value):dw aa 62 7 base (W.setRow (w.heap.size+1) rc') v n xs:=
 ⟨ho.1,aP ho.2 h.rb (fun cur e=>by injection e with _ e;revert e;decide) (di _ _ _)⟩
theorem ac1 (f:Fct){lp:List Pk}{lo:List Ot}(hI:FcI f lp lo)(hsp:ym f lp lo=0){A:Option Addr}{n c:Nat}{l:List Lt}{z M:Int}(hn:l.length=n)(hm:n<=1000000)(hz:∀x∈l,x.le 1000)(hh:aN l=0->MapHypK (cZ f) l z M)(w:World)(hg:Gl w)(hr:Row w A (av aa l))(hw:FcW f lp lo w):
 Calls prog 8 #[.slice A n c,gI f] w fun e w'=>Below w.heap.size w w'/\∃v,e= .returned v/\PnAns (cZ f) l z M w.heap.size w' v:=by
 have K1:=acW f hI (A:=A) (c:=c) hn hm hz;rw[hsp,show ((0:Int)==0)=true from rfl,Bool.and_true]at K1;have hs:=((St.refl hg).alloc (.cells (bK f) 30)).alloc (.cells adX 40);have F0:Fa w f adX ((w.alloc (.cells (bK f) 30)).alloc (.cells adX 40)):=⟨hs.2,(TBx.new w (bK f) 30).alloc _,by
  have:=TBx.new (w.alloc (.cells (bK f) 30)) adX 40;rwa[amD]at this⟩
 have HF:=amy F0;have HR:=amy (hr.on hs.2);have HW:=amy (hw.on hs.2);have HN:=amy hn;have HZ:=amy hz;have HH:=amy hh;obtain⟨lb,hlb⟩:=eX ((aN l==0));rw[hlb]at K1;have HLB:=amy hlb;have HK1:=amy K1;clear hn hz hh hI hsp hg hr hw hlb K1;have xf:=F0.fb.bx.fact rfl;clear F0;unfold gI at*
 go_enter func8,ntmps8
 go_wp2_with fail
 refine(HK1.o).step hs ⟨HR.o,HW.o⟩ ?_;intro w1 hs hb1;replace HF:=amy (HF.o.on hb1);replace HR:=amy (HR.o.on hb1);clear hb1 HK1 xf HW;cases lb with
 |false=>
  have hst1:=HF.o.rb.storeR (cs':=adX) rfl rfl (by simp[Value.oneCell']);have HF9:=amy (HF.o.set adX);have r9:=HF9.o.rb.bx.result rfl;clear HR
  go_wp2_with fail
  refine bodyPost_ret (v:=.tuple #[.agg adX,.int .i64 1]) (by simp[results,results8,go_sem,r9]) rfl ⟨HF9.o.low,_,rfl,_,_,_,1,rfl,rfl,rfl,rfl,.inr (by decide)⟩
 |true=>
 have hle:aN l=0:=by simpa using HLB.o
 have HLE:=amy hle;have HH1:=amy (HH.o hle);clear HH HLB hle;have xf:=HF.o.fb.bx.fact rfl
 go_wp2_with fail
 refine(aay f _).mono ?_;rintro e w2 ⟨rfl,rfl⟩;have hb2:=bal w1 (.cells (bK f) 30);replace HF:=amy (HF.o.on hb2);replace HR:=amy (HR.o.on hb2);have HB:=amy (TBx.new w1 (bK f) 30);have hs2:=hs.on hb2;clear xf hs hb2;obtain⟨W2,hW2⟩:=eX (w1.alloc (.cells (bK f) 30));rw[hW2]at HF HR HB hs2⊢
 clear hW2;obtain⟨bf,hbf⟩:=eX (w1.heap.size);rw[hbf]at HB⊢
 clear hbf;have KP:=amy (ah9 f (b:=bf));obtain⟨r,pr,sh,hr,hrf,hpp,hpf,hsh,hshf,hM,hwz⟩:=HH1.o.ex;have KM:=amy (fun W (g:Gl W) (h:Row W A (av aa l))=>ala (c':=c) (cZ f) rfl HH1.o.mo HN.o HLE.o HZ.o hr hrf hsh hshf hM HH1.o.mf HH1.o.rd hpp hpf hwz HH1.o.ms HH1.o.fs HH1.o.nz HH1.o.z0 HH1.o.fr W g h);have KC:=amy (ajz (A':=A) (c':=c) (cZ f) HH1.o.mo HN.o HLE.o HZ.o hr hrf hsh hshf hM HH1.o.mf hpp hpf hwz HH1.o.ms HH1.o.fp);have KV:=amy (afl (A':=A) (c':=c) (cZ f) HH1.o.mo HN.o HLE.o HZ.o hr hrf hsh hshf hM HH1.o.mf hpp hpf hwz HH1.o.ms HH1.o.fs);have KO:=amy (tJ (A:=A) (n:=n) (c:=c) (L:=l) (ins:=f.ins) HN.o (by omega));clear HH1 hr hrf hpp hpf hwz hsh hshf hM;have hmp:mpV (cZ f)= .agg #[.string f.key,.int .i64 f.day,.string f.ins,.string f.oth,.string f.rn,.string f.rd,.string f.sn,.string f.sd,.string f.pn,.string f.pd,.bool true]:=rfl;rw[hmp]at KM KC KV KP
 go_wp2_with fail
 refine(KP.o).step hs2 HB.o ?_;intro w3 hs3 hb3;replace HF:=amy (HF.o.on hb3);replace HR:=amy (HR.o.on hb3);replace HB:=amy (HB.o.on hb3);clear hb3 hs2
 go_wp2_with fail
 refine(KM.o _ hs3.gl HR.o).mono ?_;rintro e w4 ⟨hb4,v4,rfl,vL,vS,er,rfl,o1,o2,hor⟩;have hs4:=hs3.on hb4;replace HF:=amy (HF.o.on hb4);have hltb:w.heap.size+1<w4.heap.size:=(amA.1 HF.o.rb).1;replace HR:=amy (HR.o.on hb4);replace HB:=amy (HB.o.on hb4);have HOR:=amy hor;have HS4:(storeVar 40 ⟨w4.heap.size,0,none⟩ (.agg #[vL,.slice none 0 0,vS,.slice none 0 0])).run prog (w4.alloc (.cells adX 40))= .ok () (w4.alloc (.cells #[vL,.slice none 0 0,vS,.slice none 0 0] 40)):=by
  rw[TBx.storeR (TBx.new w4 adX 40) rfl rfl (one4 o1 o2 rfl),World.setRow_alloc_new]
 have HB5:Hid (Below w4.heap.size w4 (w4.alloc (.cells #[vL,.slice none 0 0,vS,.slice none 0 0] 40))):=bal _ _;have O1:=amy o1;have O2:=amy o2;have hs5:=hs4.on HB5.o;clear hb4 hor o1 o2 KM hmp;by_cases he:er=0
 case neg=>
  have q1:(er !=0)=true:=by simpa using he
  have q2:(er==0)=false:=by simpa using he
  have HF8:=amy (HF.o.on HB5.o);have hst1:=HF8.o.rb.storeR (cs':=adX) rfl rfl (by simp[Value.oneCell']);have HF9:=amy (HF8.o.set adX);have r9:=HF9.o.rb.bx.result rfl;clear HR KC KV KO HB KP
  go_wp2_with fail
  refine bodyPost_ret (v:=.tuple #[.agg adX,.int .i64 er]) (by simp[results,results8,go_sem,r9]) rfl ⟨HF9.o.low,_,rfl,_,_,_,er,rfl,rfl,rfl,rfl,.inr he⟩
 subst he;have HG:Hid (∃R,MapFineK (cZ f) l z M R/\dw aa 62 7 w3.heap.size w4 vL R.length R):=by
  rcases HOR.o with ⟨_,h⟩|h|⟨h,_⟩
  ·exact h
  ·cases h
  ·cases h
 have HT7:Hid (TBx (w4.alloc (.cells #[vL,.slice none 0 0,vS,.slice none 0 0] 40)) w4.heap.size #[vL,.slice none 0 0,vS,.slice none 0 0] 40):=TBx.new _ _ _;replace HF:=amy (HF.o.on HB5.o);replace HR:=amy (HR.o.on HB5.o);replace HB:=amy (HB.o.on HB5.o);have x5:=HF.o.fb.bx.c 5 (.string f.ins) rfl;clear HOR
 go_wp2_with fail
 refine(KO.o _ hs5.gl HR.o).mono ?_;rintro e w6 ⟨v6,rfl,ho6,hb6⟩;obtain⟨A6,c6,rfl⟩:=bW ho6.2;have hs6:=hs5.on hb6;replace HF:=amy (HF.o.on hb6);replace HR:=amy (HR.o.on hb6);replace HB:=amy (HB.o.on hb6);replace HT7:=amy (HT7.o.on hb6);obtain⟨R,hR,hO⟩:=HG.o;have HR1:=amy hR;have HO:=amy ((hO.on HB5.o).on hb6);clear HG hR hO ho6 KO x5;obtain⟨kc,hkc⟩:=eX ((ak f.ins l).length );rw[hkc];clear hkc hb6;by_cases hk0:kc=0
 case pos=>
  have q1:((kc:Int)==0)=true:=by simpa using hk0
  have q2:(kc:Int)=0:=by omega
  have t7:=HT7.o.bx.result rfl;have hst1:=HF.o.rb.storeR (cs':= #[vL,.slice none 0 0,vS,.slice none 0 0]) rfl rfl (one4 O1.o O2.o rfl);have HF9:=amy (HF.o.set #[vL,.slice none 0 0,vS,.slice none 0 0]);have r9:=HF9.o.rb.bx.result rfl;have HO9:=amy (HF.o.o HO.o #[vL,.slice none 0 0,vS,.slice none 0 0]);clear HR KC KV HB KP
  go_wp2_with fail
  refine bodyPost_ret (v:=.tuple #[.agg #[vL,.slice none 0 0,vS,.slice none 0 0],.int .i64 0]) (by simp[results,results8,go_sem,r9]) rfl ⟨HF9.o.low,_,rfl,_,_,_,0,rfl,O1.o,O2.o,rfl,.inl ⟨HLE.o,rfl,R,HR1.o,HO9.o.1,aS HO9.o.2 (by have:=hs3.2.size;omega)⟩⟩
 have q1:((kc:Int)==0)=false:=by simpa using hk0
 have q2:¬(kc:Int)=0:=by omega
 obtain⟨sc,hsc⟩:=eX (ae (iv ((dX ⟨#[]⟩ ((ak (cZ f).ins l).map (·.q))).map ae)).sum );rw[hsc]at KC;clear hsc
 go_wp2_with fail
 refine(KP.o).step hs6 HB.o ?_;intro w6b hs6b hb6b;replace HF:=amy (HF.o.on hb6b);replace HR:=amy (HR.o.on hb6b);replace HB:=amy (HB.o.on hb6b);replace HT7:=amy (HT7.o.on hb6b);replace HO:=amy (HO.o.on hb6b);clear hb6b hs6
 go_wp2_with fail
 refine(KC.o).step hs6b HR.o ?_;intro w7 hs7 hb7;replace HF:=amy (HF.o.on hb7);replace HR:=amy (HR.o.on hb7);replace HB:=amy (HB.o.on hb7);replace HT7:=amy (HT7.o.on hb7);replace HO:=amy (HO.o.on hb7);clear hb7 KC hs6b;obtain⟨s1,s2,s3,KV⟩:=KV.o;have HKV:=amy KV;clear KV
 go_wp2_with fail
 refine(KP.o).step hs7 HB.o ?_;intro w7b hs7b hb7b;replace HF:=amy (HF.o.on hb7b);replace HR:=amy (HR.o.on hb7b);replace HT7:=amy (HT7.o.on hb7b);replace HO:=amy (HO.o.on hb7b);clear hb7b hs7 HB KP
 go_wp2_with fail
 refine(HKV.o).step hs7b HR.o ?_;intro w8 hs8 hb8;replace HF:=amy (HF.o.on hb8);replace HT7:=amy (HT7.o.on hb8);replace HO:=amy (HO.o.on hb8);clear hb8 HKV HR;have hlt7:w4.heap.size<w8.heap.size:=(amA.1 HT7.o).1;have bb0:Below w8.heap.size w8 ((w8.alloc (.cells #[.string ⟨#[99,97,115,104]⟩,.string sc,.string ⟨#[99,111,115,116]⟩,.string s2,.string ⟨#[109,111,118,101,100]⟩,.string s1] 82)).alloc (.cells #[.int .i64 11,.int .i64 f.day,.string f.key,.string f.ins,.string f.oth,.string ⟨#[]⟩,.slice (some ⟨w8.heap.size,0,none⟩) 3 3] 85)):=anp.alloc (by simp) _;have f7:=(HT7.o.on bb0).bx.frozen 3;have c7:=(HT7.o.on bb0).bx.c 3 (.slice none 0 0) rfl;have f7b:=HT7.o.bx.frozen 3;have c7b:=HT7.o.bx.c 3 (.slice none 0 0) rfl;have T8:=HT7.o.set 3 (.slice (some ⟨w8.heap.size+1,0,none⟩) 1 1);have F8:=HF.o.setC hltb 3 (.slice (some ⟨w8.heap.size+1,0,none⟩) 1 1);have O8:dw aa 62 7 w3.heap.size (w8.setCell ⟨w4.heap.size,3,none⟩ (.slice (some ⟨w8.heap.size+1,0,none⟩) 1 1)) vL R.length R:=⟨HO.o.1,aP HO.o.2 HT7.o (fun cur e=>by injection e with _ e;revert e;decide) (aD _ _ _ _)⟩;have bb:Below (w8.setCell ⟨w4.heap.size,3,none⟩ (.slice (some ⟨w8.heap.size+1,0,none⟩) 1 1)).heap.size (w8.setCell ⟨w4.heap.size,3,none⟩ (.slice (some ⟨w8.heap.size+1,0,none⟩) 1 1)) (((w8.setCell ⟨w4.heap.size,3,none⟩ (.slice (some ⟨w8.heap.size+1,0,none⟩) 1 1)).alloc (.cells #[.string ⟨#[99,97,115,104]⟩,.string sc,.string ⟨#[99,111,115,116]⟩,.string s2,.string ⟨#[109,111,118,101,100]⟩,.string s1] 82)).alloc (.cells #[.int .i64 11,.int .i64 f.day,.string f.key,.string f.ins,.string f.oth,.string ⟨#[]⟩,.slice (some ⟨w8.heap.size,0,none⟩) 3 3] 85)):=anp.alloc (by simp) _;have T9:=T8.on bb;have t9:=T9.bx.result rfl;have F9:=F8.on bb;have O9:=O8.on bb;have hst1:=F9.rb.storeR (cs':= #[vL,.slice none 0 0,vS,(.slice (some ⟨w8.heap.size+1,0,none⟩) 1 1)]) rfl rfl (one4 O1.o O2.o rfl);have HF9:=amy (F9.set #[vL,.slice none 0 0,vS,(.slice (some ⟨w8.heap.size+1,0,none⟩) 1 1)]);have r9:=HF9.o.rb.bx.result rfl;have HO9:=amy (F9.o O9 #[vL,.slice none 0 0,vS,(.slice (some ⟨w8.heap.size+1,0,none⟩) 1 1)]);have x0:=HF.o.fb.bx.c 0 (.string f.key) rfl;have x3:=HF.o.fb.bx.c 3 (.int .i64 f.day) rfl;have x5:=HF.o.fb.bx.c 5 (.string f.ins) rfl;have x6:=HF.o.fb.bx.c 6 (.string f.oth) rfl;clear T9 F9 O9 bb T8 F8 O8 bb0
 go_wp2_with fail
 refine bodyPost_ret (v:=.tuple #[.agg #[vL,.slice none 0 0,vS,(.slice (some ⟨w8.heap.size+1,0,none⟩) 1 1)],.int .i64 0]) (by simp[results,results8,go_sem,r9]) rfl ⟨HF9.o.low,_,rfl,_,_,_,0,rfl,O1.o,O2.o,rfl,.inl ⟨HLE.o,rfl,R,HR1.o,HO9.o.1,aS HO9.o.2 (by have:=hs3.2.size;omega)⟩⟩
end
end Go.Proofs.YtbkhnggmcheelaaGreatDoor
