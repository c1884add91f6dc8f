/- Facts: Same, for a cancelled fact. Conditions: texts of bounded length; the library's variables lie as the program's text lays them. Facts: fact.Check. Conditions: texts of bounded length; the library's variables lie as the program's text lays them. Splits: split.Check, effect. Conditions: texts of bounded length; the library's variables lie as the program's text lays them. Copies between rows whose elements have several cells; insertion into a list of rows. No condition. Lots: what opening a lot answers. Plain definitions; no condition. -/
import Derived.Test.YtjknklinhegdoaaGreatDoorFk7a
import Derived.Test.YtjknklinhegdoaaGreatDoorFk7b
import Derived.Deep.RegionHeld3
import Derived.Test.YtjknklinhegdoaaGreatDoorGat
import Derived.Test.YtjknklinhegdoaaGreatDoorGba
import Derived.Test.YtjknklinhegdoaaGreatDoorAa
import Derived.Laws.CopyOwn
import Derived.Laws.AppendOwn
import Derived.Lib.AppendZerosOnto
import Derived.Lib.Overlaps
import Derived.Laws.Externs
import Derived.Lib.IndexLaws
import Derived.Shelf.Strconv.ErrVarAll
import Derived.LoopN
import Derived.Maps.OwnOps
import Derived.Maps.Views
import Derived.Laws.IdiomCopy
import Derived.Deep.MidRow
import Derived.Test.YtjknklinhegdoaaGreatDoorGah
import Derived.Test.YtjknklinhegdoaaGreatDoorGai
set_option linter.unusedSimpArgs false
set_option linter.unusedVariables false
set_option maxHeartbeats 4000000
set_option maxRecDepth 100000
namespace Go.Proofs.YtjknklinhegdoaaGreatDoor
open Go.RowKit Go.Shelf Dec QQ SP
attribute [local go_sem] Oper.semAt_some
attribute [-go_sem] loadVar
attribute [local go_sem] aa3
theorem agM (f:Fct)(hc:f.canc=true):Ret 60 #[fI f,.agg (gA f)] (.bool (eU f)):=by
 cases hH:((f.day==0)&&((f.kind==0)&&((f.ins.toList.isEmpty)&&((f.oth.toList.isEmpty)&&((f.cur.toList.isEmpty)&&((f.tgt.toList.isEmpty)&&((f.q.toList.isEmpty)&&((f.a.toList.isEmpty)))))))))
 ·exact ajj f hc hH
 ·simp only[ale]at hH
  obtain⟨h0,h1,h2,h3,h4,h5,h6,h7⟩:=hH;exact ajk f hc h0 h1 h2 h3 h4 h5 h6 h7
end Go.Proofs.YtjknklinhegdoaaGreatDoor
namespace Go.Proofs.YtjknklinhegdoaaGreatDoor
open Go.RowKit Go.Shelf Dec QQ SP
attribute [local go_sem] Oper.semAt_some
attribute [-go_sem] loadVar storeVar
theorem lv_fk (t:TypeId)(_:t≠30)(_:t≠138)(a:Addr):loadVar t a=(do if←isAgg t then pure (.agg (←loadCells a (←sizeOf t)))else load a):=rfl
theorem sv_fk (t:TypeId)(_:t≠138)(a:Addr)(v:Value):storeVar t a v=(do
 if v.cells.size≠(←sizeOf t)then stuck "storeVar: the value has not the size of the variable"
 storeCells a v.cells.toList):=rfl
attribute [local go_sem] lv_fk sv_fk
theorem Bx.kind {w:World}{b:Nat}{cs:Array Value}(h:Bx w b cs)(hs:cs.size=17):(loadVar 138 ⟨b,0,none⟩).run Tryz.prog w= .ok (.agg cs) w:=by
 have:=run_loadVar_mid (P:=Tryz.prog) w b 0 138 cs.toList (Tryz.prog.underlying 138).get! (fun j v hv=>by rw[Nat.zero_add];exact h.cell (by simpa using hv)) (by kernel_rfl) (by kernel_rfl) (by rw[Array.length_toList,hs];kernel_rfl);simpa using this
theorem TBx.storeK {w:World}{b:Nat}{cs cs':Array Value}{T:TypeId}(h:TBx w b cs T)(hs:cs.size=17)(hs':cs'.size=17)(h1:cs'.all (·.oneCell')=true):(storeVar 138 ⟨b,0,none⟩ (.agg cs')).run Tryz.prog w= .ok () (w.setRow b cs'):=
 run_storeVar_row (P:=Tryz.prog) w b T 138 cs cs' h (by rw[hs'];kernel_rfl) (by rw[hs,hs']) h1
def nY (n i:Nat):Bool×Bool:=match (ksp n).lim.find? (fun x=>x.1==i)with
 |some x=>x.2
 |none=>(false,false)
theorem aj3:((List.range 19).all fun n=>(List.range 10).all fun i=> !(decide (4≤i))||(!((ksp n).has.contains i)||(ksp n).lim.contains (i,nY n i)))=true:=by decide
theorem aj2 {n i:Nat}(hn:n<19)(hi:i<10)(h4:4≤i)(hc:(ksp n).has.contains i=true):(i,nY n i)∈(ksp n).lim :=by
 have h:=alz.1 (alz.1 aj3 n (List.mem_range.2 hn)) i (List.mem_range.2 hi);rw[alI h4,hc]at h;exact List.contains_iff_mem.1 (by simpa using h)
def abk (f:Fct)(lp:List Pk)(lo:List Ot)(n i:Nat):Int:=bif (ksp n).has.contains i then cfE f lp lo (ksp n).code (nY n i).1 (nY n i).2 i else bif bL f i then 0 else 1
def nC (f:Fct)(lp:List Pk)(lo:List Ot)(n:Nat):Nat→Nat→Int
 |0,_=>0
 |m+1,i=>bif abk f lp lo n i !=0 then abk f lp lo n i else nC f lp lo n m (i+1)
def gL (f:Fct)(lp:List Pk)(lo:List Ot):Int:=
 bif !(aG f.key)then 23 else bif decide (f.st<0)then 2 else bif f.canc then(bif eU f then 0 else 1)else bif decide (f.day< -25567)||decide (84005<f.day)then 13 else
 bif decide (1≤f.kind)&&decide (f.kind≤18)then nC f lp lo f.kind.toNat 13 0 else 7
theorem aj8 (d:Knd)(mv:Value){i:Nat}(hi:i<13):(rT d mv)[2+i]? =some (.bool (d.h i)):=by
 rcases(by omega:i=0∨i=1∨i=2∨i=3∨i=4∨i=5∨i=6∨i=7∨i=8∨i=9∨i=10∨i=11∨i=12)with rfl|rfl|rfl|rfl|rfl|rfl|rfl|rfl|rfl|rfl|rfl|rfl|rfl<;>rfl
theorem aeD (d:Knd){mv:Value}(h:mv.oneCell'=true):(rT d mv).all (·.oneCell')=true:=by
 simpa[rT,Value.oneCell']using h
theorem alU {base:Nat}{w wx:World}{mv:Value}{i:Nat}{P Q:Bool}(h:LimB base w mv i P Q)(hb:Betw base w wx)(hs:w.heap.size≤wx.heap.size):su wx mv i P Q:=by
 obtain⟨b1,b2,h1,h2,⟨⟨T1,h3⟩,⟨T2,h4⟩⟩,h5⟩:=h;refine⟨b1,b2,⟨⟨T1,(hb b1 h1 (alc.1 h3).1).trans h3⟩,⟨T2,(hb b2 h2 (alc.1 h4).1).trans h4⟩⟩,fun u hu=>h5 u fun k hk1 hk2=>?_⟩;exact(hu.block k (alx hk2 hs)).trans (hb k hk1 hk2)
theorem uh (f:Fct){lp:List Pk}{lo:List Ot}(hI:FcI f lp lo):ig (FcW f lp lo) 24 #[fI f] (.int .i64 (gL f lp lo)):=by
 intro w hg hw;have hs:=(St.refl hg).alloc (.cells (bv f) 30);have HX:=ala (TBx.new w (bv f) 30);have HW:=ala (hw.on (bal w (.cells (bv f) 30)));have HI:=ala hI;have K1:=NmR (s:=f.key) (by have:=hI.le.key;omega);have hE:gL f lp lo=bif !(aG f.key)then 23 else bif decide (f.st<0)then 2 else bif f.canc then(bif eU f then 0 else 1)else bif decide (f.day< -25567)||decide (84005<f.day)then 13 else
 bif decide (1≤f.kind)&&decide (f.kind≤18)then nC f lp lo f.kind.toNat 13 0 else 7:=rfl
 generalize gL f lp lo=oe at*
 obtain⟨bn,hbn⟩:∃bn,aG f.key=bn:=⟨_,rfl⟩;rw[hbn]at hE K1;have HE:=ala hE;clear hw hI hg hE hbn;unfold fI;have x0:=HX.out.bx.cell (i:=0) (v:=.string f.key) rfl
 go_enter Tryz.func24,Tryz.ntmps24
 go_wp2_with fail
 refine K1.step hs ?_;intro w1 hs hb1;replace HX:=ala (HX.out.on hb1);replace HW:=ala (HW.out.on hb1);clear K1 x0 hb1;cases bn with
 |false=>
  have hoe:oe=23:=HE.out;subst hoe;clear HE
  go_wp2_with fail
  go_ret
  exact⟨rfl,hs.2⟩
 |true=>
 have HE2:Hid (oe=bif decide (f.st<0)then 2 else bif f.canc then(bif eU f then 0 else 1)else bif decide (f.day< -25567)||decide (84005<f.day)then 13 else
  bif decide (1≤f.kind)&&decide (f.kind≤18)then nC f lp lo f.kind.toNat 13 0 else 7):=HE.out
 clear HE;have x1:=HX.out.bx.cell (i:=1) (v:=.int .i64 f.st) rfl;by_cases hst:f.st<0
 case pos=>
  have q1:decide (f.st<0)=true:=alI hst;have hoe:oe=2:=by rw[HE2.out,q1];rfl
  subst hoe;clear HE2
  go_wp2_with fail
  go_ret
  exact⟨rfl,hs.2⟩
 have q1:decide (f.st<0)=false:=alH hst;have HE3:Hid (oe=bif f.canc then(bif eU f then 0 else 1)else bif decide (f.day< -25567)||decide (84005<f.day)then 13 else
  bif decide (1≤f.kind)&&decide (f.kind≤18)then nC f lp lo f.kind.toNat 13 0 else 7):=by show _=_;rw[HE2.out,q1];rfl
 clear HE2;have x2:=HX.out.bx.cell (i:=2) (v:=.bool f.canc) rfl;obtain⟨cc,hcc⟩:∃cc,f.canc=cc:=⟨_,rfl⟩;rw[hcc]at x2;cases cc with
 |true=>
  have K2:=agM f hcc;unfold fI at K2;have x0:=HX.out.bx.cell (i:=0) (v:=.string f.key) rfl;have xf:=HX.out.bx.fact rfl;have hoe:oe=bif eU f then 0 else 1:=by rw[HE3.out,hcc];rfl
  obtain⟨sb,hsb⟩:∃sb,eU f=sb:=⟨_,rfl⟩;rw[hsb]at hoe K2;clear HE3 hcc hsb
  go_wp2_with fail
  refine K2.step hs ?_;intro w2 hs hb2;clear x0 x1 x2 xf;cases sb with
  |true=>
   replace hoe:oe=0:=hoe;subst hoe
   go_wp2_with fail
   go_ret
   exact⟨rfl,hs.2⟩
  |false=>
   replace hoe:oe=1:=hoe;subst hoe
   go_wp2_with fail
   go_ret
   exact⟨rfl,hs.2⟩
 |false=>
 have HE4:Hid (oe=bif decide (f.day< -25567)||decide (84005<f.day)then 13 else
  bif decide (1≤f.kind)&&decide (f.kind≤18)then nC f lp lo f.kind.toNat 13 0 else 7):=by show _=_;rw[HE3.out,hcc];rfl
 clear HE3 hcc;have x3:=HX.out.bx.cell (i:=3) (v:=.int .i64 f.day) rfl;by_cases hd1:f.day< -25567
 case pos=>
  have q2:decide (f.day< -25567)=true:=alI hd1;have hoe:oe=13:=by rw[HE4.out,q2];rfl
  subst hoe;clear HE4
  go_wp2_with fail
  go_ret
  exact⟨rfl,hs.2⟩
 have q2:decide (f.day< -25567)=false:=alH hd1;by_cases hd2:84005<f.day
 case pos=>
  have q3:decide (84005<f.day)=true:=alI hd2;have hoe:oe=13:=by rw[HE4.out,q2,q3];rfl
  subst hoe;clear HE4
  go_wp2_with fail
  go_ret
  exact⟨rfl,hs.2⟩
 have q3:decide (84005<f.day)=false:=alH hd2;have HE5:Hid (oe=bif decide (1≤f.kind)&&decide (f.kind≤18)then nC f lp lo f.kind.toNat 13 0 else 7):=by show _=_;rw[HE4.out,q2,q3];rfl
 clear HE4
 go_wp2_with fail
 have hgl:Hid (∀v,Below w1.heap.size w1 v→Gl v):=fun v hv=>hs.gl.below hv
 have hSOK:Hid (∀v,Below w1.heap.size w1 v→v.cell? ⟨w.heap.size,4,none⟩=some (.int .i64 f.kind)):=fun v hv=>(HX.out.on hv).bx.cell (i:=4) rfl
 have BL0:Hid (Below w1.heap.size w1 w1.drew):=(alJ _ _).drew;have BL0b:Hid (Below w1.heap.size w1 (w1.drew.alloc (.cells #[.string ⟨#[]⟩,.int .i64 0,.bool false,.bool false,.bool false,.bool false,.bool false,.bool false,.bool false,.bool false,.bool false,.bool false,.bool false,.bool false,.bool false,.map none,.bool false] 138))):=BL0.out.alloc BL0.out.size _;have BL0c:Hid (Below w1.heap.size w1 ((w1.alloc (.cells #[.string ⟨#[]⟩,.int .i64 0,.bool false,.bool false,.bool false,.bool false,.bool false,.bool false,.bool false,.bool false,.bool false,.bool false,.bool false,.bool false,.bool false,.map none,.bool false] 138)).drew)):=BL0b.out;have TA0b:Hid (TBx (w1.drew.alloc (.cells #[.string ⟨#[]⟩,.int .i64 0,.bool false,.bool false,.bool false,.bool false,.bool false,.bool false,.bool false,.bool false,.bool false,.bool false,.bool false,.bool false,.bool false,.map none,.bool false] 138)) w1.heap.size #[.string ⟨#[]⟩,.int .i64 0,.bool false,.bool false,.bool false,.bool false,.bool false,.bool false,.bool false,.bool false,.bool false,.bool false,.bool false,.bool false,.bool false,.map none,.bool false] 138):=TBx.new w1.drew _ _;have HS1:∀(v:World) (d:Knd) (nm:Value),nm.oneCell'=true→(storeVar 138 ⟨v.heap.size,0,none⟩ (.agg (rT d nm))).run Tryz.prog (v.alloc (.cells #[.string ⟨#[]⟩,.int .i64 0,.bool false,.bool false,.bool false,.bool false,.bool false,.bool false,.bool false,.bool false,.bool false,.bool false,.bool false,.bool false,.bool false,.map none,.bool false] 138))= .ok () (v.alloc (.cells (rT d nm) 138)):=fun v d nm h1=>by
  rw[TBx.storeK (TBx.new v #[.string ⟨#[]⟩,.int .i64 0,.bool false,.bool false,.bool false,.bool false,.bool false,.bool false,.bool false,.bool false,.bool false,.bool false,.bool false,.bool false,.bool false,.map none,.bool false] 138) rfl rfl (aeD d h1),World.setRow_alloc_new]
 have HS1h:=ala HS1;clear HS1 q1 q2 q3
 go_cut [3,4]from 32 to 38 (fun s3 s4 wx=>∃(bk:Nat) (d:Knd) (nm:Value) (is:Bool),s3= .pointer (some ⟨bk,0,none⟩)∧s4= .bool is∧Hid (Below w1.heap.size w1 wx∧TBx wx bk (rT d nm) 138∧w1.heap.size≤bk)∧Hid ((is=true→1≤f.kind∧f.kind≤18∧(∀i,d.h i=(ksp f.kind.toNat).has.contains i)∧d.code=(ksp f.kind.toNat).code ∧∀x∈(ksp f.kind.toNat).lim,su wx nm x.1 x.2.1 x.2.2)∧(is=false→¬(1≤f.kind∧f.kind≤18))))
 case first=>
  go_region_held3 (fun v=>v.cell? ⟨w.heap.size,4,none⟩=some (.int .i64 f.kind))
   (first|with_reducible exact hSOK.out _ BL2a.out|with_reducible exact hSOK.out _ BL2b.out|with_reducible exact hSOK.out _ (BL2a.out.alloc BL2a.out.size _)|with_reducible exact hSOK.out _ (below_setRow BL2b.out alK _)|with_reducible exact hSOK.out _ BL0.out|with_reducible exact hSOK.out _ BL0b.out|with_reducible exact hSOK.out _ BL0c.out)
   (first
     |(go_at_call 61;refine(xO w1.drew (hgl.out _ BL0.out)).mono ?_;rintro e w2 ⟨mv,rfl,hk,hb2⟩;have BL2a:Hid (Below w1.heap.size w1 w2):=BL0.out.trans (hb2.mono BL0.out.size);obtain⟨d,nm,is,h1,h2,h3,h4⟩:=hk f.kind;unfold aiR at h2;have L1:=h2 w2 (fun k _ _=>rfl);have L2:=h2 (w2.alloc (.cells #[.string ⟨#[]⟩,.int .i64 0,.bool false,.bool false,.bool false,.bool false,.bool false,.bool false,.bool false,.bool false,.bool false,.bool false,.bool false,.bool false,.bool false,.map none,.bool false] 138)) (fun k _ hk2=>Below.heap_alloc _ _ _ hk2);have S1:=HS1h.out w2 d nm h1;have H3a:=ala (And.intro h3 h4);clear h2 h3 h4 hk hb2 h1)
     |(go_at_call 61;refine(xO (w1.drew.alloc (.cells #[.string ⟨#[]⟩,.int .i64 0,.bool false,.bool false,.bool false,.bool false,.bool false,.bool false,.bool false,.bool false,.bool false,.bool false,.bool false,.bool false,.bool false,.map none,.bool false] 138)) (hgl.out _ BL0b.out)).mono ?_;rintro e w2 ⟨mv,rfl,hk,hb2⟩;have BL2b:Hid (Below w1.heap.size w1 w2):=BL0b.out.trans (hb2.mono BL0b.out.size);have TA2b:=ala (TA0b.out.on hb2);obtain⟨d,nm,is,h1,h2,h3,h4⟩:=hk f.kind;unfold aiR at h2;have L1:=h2 w2 (fun k _ _=>rfl);have S1:=TA2b.out.storeK (cs':=rT d nm) rfl rfl (aeD d h1);have H3b:=ala (And.intro h3 h4);clear h2 h3 h4 hk hb2 h1))
  all_goals (go_wp2_with fail;go_meet)
  all_goals first
   |(refine⟨_,d,nm,is,rfl,rfl,⟨BL2a.out.alloc BL2a.out.size _,TBx.new _ _ _,BL2a.out.size⟩,fun h=>?_,H3a.out.2⟩
     obtain⟨g1,g2,g3,g4,g5⟩:=H3a.out.1 h;exact⟨g1,g2,g3,g4,fun x hx=>alU (g5 x hx) (fun k _ hk2=>Below.heap_alloc _ _ _ hk2) (by simp)⟩)
   |(refine⟨_,d,nm,is,rfl,rfl,⟨below_setRow BL2b.out alK _,TA2b.out.row _,Nat.le_refl _⟩,fun h=>?_,H3b.out.2⟩
     obtain⟨g1,g2,g3,g4,g5⟩:=H3b.out.1 h;exact⟨g1,g2,g3,g4,fun x hx=>alU (g5 x hx) (fun k hk1 _=>setRow_other _ _ _ _ (by simp at hk1;omega)) (by simp)⟩)
 case rest=>
  obtain⟨bk,d,nm,is,rfl,rfl,H1,H2⟩:=hcut;have hs2:=hs.on H1.out.1;replace HX:=ala (HX.out.on H1.out.1);replace HW:=ala (HW.out.on H1.out.1);have HK:=ala H1.out.2.1;clear hgl hSOK BL0 BL0b BL0c TA0b HS1h x1 x2 x3 H1;cases is with
  |false=>
   have hnk:=H2.out.2 rfl;have hoe:oe=7:=by
    rw[HE5.out];by_cases h1:1≤f.kind
    ·by_cases h2:f.kind≤18
     ·exact absurd ⟨h1,h2⟩ hnk
     ·rw[alH h2,Bool.and_false];rfl
    ·rw[alH h1];rfl
   subst hoe;clear HE5 hnk H2
   go_wp2_with fail
   go_ret
   exact⟨rfl,hs2.2⟩
  |true=>
   obtain⟨hk1,hk2,hdh,hdc,hlim⟩:=H2.out.1 rfl;have HE6:Hid (oe=nC f lp lo f.kind.toNat (13-0) 0):=by show _=_;rw[HE5.out,alI hk1,alI hk2];rfl
   have HDH:=ala hdh;have HDC:=ala hdc;have HLM:Hid (∀x∈(ksp f.kind.toNat).lim,su wc nm x.1 x.2.1 x.2.2):=hlim;have hn19:f.kind.toNat<19:=by omega
   clear HE5 H2 hdh hdc hlim;obtain⟨n,hn⟩:∃n,f.kind.toNat=n:=⟨_,rfl⟩;rw[hn]at HE6 HDH HDC HLM hn19;clear hn hk1 hk2
   go_wp2_with fail
   go_loopw [41] (fun s wr=>∃i:Nat,i≤13∧s= .int .i64 (i:Int)∧St w wr∧Hid (TBx wr w.heap.size (bv f) 30)∧Hid (FcW f lp lo wr)∧Hid (TBx wr bk (rT d nm) 138)∧Hid (∀x∈(ksp n).lim,su wr nm x.1 x.2.1 x.2.2)∧Hid (oe=nC f lp lo n (13-i) i)) (fun s _=>(13-intOf s).toNat)
   case atStart=>exact⟨0,by omega,rfl,hs2,HX,HW,HK,HLM,HE6⟩
   case round=>
    clear HX HW HK HLM HE6;obtain⟨i,hi,rfl,hs3,HX,HW,HK,HLM,HE⟩:=hrel;by_cases hi13:i=13
    ·subst hi13
     have q:decide (((13:Nat):Int)<13)=false:=by decide
     have hoe:oe=0:=HE.out;subst hoe;clear HE
     go_wp2_with fail
     go_ret
     exact⟨rfl,hs3.2⟩
    ·have hi2:i<13:=by omega
     have q:decide ((i:Int)<13)=true:=alI (by omega);have q0:decide (i<13)=true:=alI hi2;have hHE:oe=bif abk f lp lo n i !=0 then abk f lp lo n i else nC f lp lo n (13-(i+1)) (i+1):=by
      rw[HE.out,show 13-i=(13-(i+1))+1 by omega];rfl
     have HE1:=ala hHE;have xk:=HK.out.bx.cell (i:=2+i) (v:=.bool (d.h i)) (aj8 d nm hi2);obtain⟨hb,hhb⟩:∃hb,d.h i=hb:=⟨_,rfl⟩;have HHB:=ala hhb;rw[hhb]at xk;clear HE hHE hhb;have xf:=HX.out.bx.fact rfl;cases hb with
     |true=>
      have xkk:=HK.out.bx.kind rfl;have hcon:(ksp n).has.contains i=true:=by rw[←HDH.out];exact HHB.out
      have hfld:abk f lp lo n i=cfE f lp lo d.code (nY n i).1 (nY n i).2 i:=by unfold abk;rw[hcon,HDC.out];rfl
      rw[hfld]at HE1;have K:=cf_any f HI.out d nm (nY n i).1 (nY n i).2 hi2 rfl;have HL4:Hid (4≤i→i≤9→su wr nm i (nY n i).1 (nY n i).2):=fun h4 h9=>HLM.out _ (aj2 hn19 (by omega) h4 hcon)
      generalize cfE f lp lo d.code (nY n i).1 (nY n i).2 i=e1 at*
      unfold fI aiR at K;clear hcon hfld
      go_wp2_with fail
      refine K.step hs3 ⟨HW.out,HL4.out⟩ ?_;intro w4 hs4 hb4;replace HX:=ala (HX.out.on hb4);replace HW:=ala (HW.out.on hb4);replace HK:=ala (HK.out.on hb4);replace HLM:Hid (∀x∈(ksp n).lim,su w4 nm x.1 x.2.1 x.2.2):=fun x hx=>(HLM.out x hx).on hb4
      clear xk xf xkk K HL4 hb4;by_cases he:e1=0
      case neg=>
       have q1:(e1 !=0)=true:=by simpa using he
       have q2:(e1==0)=false:=by simpa using he
       have hoe:oe=e1:=by rw[HE1.out,q1];rfl
       subst hoe;clear HE1
       go_wp2_with fail
       go_ret
       exact⟨rfl,hs4.2⟩
      subst he
      go_wp2_with fail
      go_roundw
      case rel=>exact⟨i+1,by omega,by go_num,hs4,HX,HW,HK,HLM,HE1.out⟩
      case measure=>simp[intOf];omega
     |false=>
      have hcon:(ksp n).has.contains i=false:=by rw[←HDH.out];exact HHB.out
      have hfld:abk f lp lo n i=bif bL f i then 0 else 1:=by unfold abk;rw[hcon];rfl
      rw[hfld]at HE1;have K:=aeZ f hi2 (j:=(i:Int)) rfl;unfold fI at K;obtain⟨eb,heb⟩:∃eb,bL f i=eb:=⟨_,rfl⟩;rw[heb]at K HE1;clear hcon hfld heb
      go_wp2_with fail
      refine K.step hs3 ?_;intro w4 hs4 hb4;replace HX:=ala (HX.out.on hb4);replace HW:=ala (HW.out.on hb4);replace HK:=ala (HK.out.on hb4);replace HLM:Hid (∀x∈(ksp n).lim,su w4 nm x.1 x.2.1 x.2.2):=fun x hx=>(HLM.out x hx).on hb4
      clear xk xf K hb4;cases eb with
      |false=>
       have hoe:oe=1:=HE1.out;subst hoe;clear HE1
       go_wp2_with fail
       go_ret
       exact⟨rfl,hs4.2⟩
      |true=>
       go_wp2_with fail
       go_roundw
       case rel=>exact⟨i+1,by omega,by go_num,hs4,HX,HW,HK,HLM,HE1.out⟩
       case measure=>simp[intOf];omega
end Go.Proofs.YtjknklinhegdoaaGreatDoor
namespace Go.Proofs.YtjknklinhegdoaaGreatDoor
open Go.RowKit Go.Shelf Dec QQ SP
attribute [local go_sem] Oper.semAt_some
attribute [-go_sem] loadVar
attribute [local go_sem] aa3
abbrev acX (x0:Int)(x1 x2:ByteArray)(x3:Option Addr)(x4 x5:Nat):Array Value:= #[.int .i64 10,.int .i64 x0,.string x1,.string x2,.string ⟨#[]⟩,.string ⟨#[]⟩,.slice x3 x4 x5]
abbrev aga:Array Value:= #[.int .i64 0,.int .i64 0,.string ⟨#[]⟩,.string ⟨#[]⟩,.string ⟨#[]⟩,.string ⟨#[]⟩,.slice none 0 0]
def jU (f:Fct)(lp:List Pk)(lo:List Ot):Int:=bif gL f lp lo !=0 then gL f lp lo else bif f.canc||f.kind !=8 then 7 else 0
theorem mG (f:Fct){lp:List Pk}{lo:List Ot}(hI:FcI f lp lo):ig (FcW f lp lo) 6 #[fI f] (.int .i64 (jU f lp lo)):=by
 intro w hg hw;have hs:=(St.refl hg).alloc (.cells (bv f) 30);have HX:=ala (TBx.new w (bv f) 30);have HW:=ala (hw.on (bal w (.cells (bv f) 30)));have K:=uh f hI;have hE:jU f lp lo=bif gL f lp lo !=0 then gL f lp lo else bif f.canc||f.kind !=8 then 7 else 0:=rfl;generalize jU f lp lo=oe at*
 generalize gL f lp lo=fe at*
 have HE:=ala hE;clear hw hI hg hE;unfold fI at*
 have xf:=HX.out.bx.fact rfl
 go_enter Tryz.func6,Tryz.ntmps6
 go_wp2_with fail
 refine K.step hs HW.out ?_;intro w1 hs hb;replace HX:=ala (HX.out.on hb);clear xf K HW hb;by_cases hfe:fe=0
 case neg=>
  have q1:(fe !=0)=true:=by simpa using hfe
  have q2:(fe==0)=false:=by simpa using hfe
  have hoe:oe=fe:=by rw[HE.out,q1];rfl
  subst hoe;clear HE
  go_wp2_with fail
  go_ret
  exact⟨rfl,hs.2⟩
 subst hfe;have x2:=HX.out.bx.cell (i:=2) (v:=.bool f.canc) rfl;have x4:=HX.out.bx.cell (i:=4) (v:=.int .i64 f.kind) rfl;obtain⟨cc,hcc⟩:∃cc,f.canc=cc:=⟨_,rfl⟩;rw[hcc]at x2;obtain⟨kk,hkk⟩:∃kk,(f.kind !=8)=kk:=⟨_,rfl⟩;have hoe:oe=bif cc||kk then 7 else 0:=by rw[HE.out,hcc,hkk];rfl
 clear HE hcc;cases cc with
 |true=>
  replace hoe:oe=7:=hoe;subst hoe;clear hkk
  go_wp2_with fail
  go_ret
  exact⟨rfl,hs.2⟩
 |false=>
  cases kk with
  |true=>
   replace hoe:oe=7:=hoe;subst hoe;have q3:(f.kind==8)=false:=by simpa using hkk
   go_wp2_with fail
   go_ret
   exact⟨rfl,hs.2⟩
  |false=>
   replace hoe:oe=0:=hoe;subst hoe;have q3:(f.kind==8)=true:=by simpa using hkk
   go_wp2_with fail
   go_ret
   exact⟨rfl,hs.2⟩
theorem acz (f:Fct)(A:Option Addr)(n c:Nat):Ret 33 #[fI f,.slice A n c] (.agg (acX f.day f.key f.ins A n c)):=by
 intro w hg;have hs:=((St.refl hg).alloc (.cells (bv f) 30)).alloc (.cells aga 83);have HX:=ala ((TBx.new w (bv f) 30).alloc (.cells aga 83));have HY:Hid (TBx ((w.alloc (.cells (bv f) 30)).alloc (.cells aga 83)) (w.heap.size+1) aga 83):=by
  have:=TBx.new (w.alloc (.cells (bv f) 30)) aga 83;rwa[alf]at this
 have x0:=HX.out.bx.cell (i:=0) (v:=.string f.key) rfl;have x3:=HX.out.bx.cell (i:=3) (v:=.int .i64 f.day) rfl;have x5:=HX.out.bx.cell (i:=5) (v:=.string f.ins) rfl;have y0:=HY.out.bx.cell (i:=0) (v:=.int .i64 0) rfl;have g0:=HY.out.bx.frozen 0;have y1:=HY.out.bx.cell (i:=1) (v:=.int .i64 0) rfl;have g1:=HY.out.bx.frozen 1;have y2:=HY.out.bx.cell (i:=2) (v:=.string ⟨#[]⟩) rfl;have g2:=HY.out.bx.frozen 2;have y3:=HY.out.bx.cell (i:=3) (v:=.string ⟨#[]⟩) rfl;have g3:=HY.out.bx.frozen 3;have y4:=HY.out.bx.cell (i:=4) (v:=.string ⟨#[]⟩) rfl;have g4:=HY.out.bx.frozen 4;have y5:=HY.out.bx.cell (i:=5) (v:=.string ⟨#[]⟩) rfl;have g5:=HY.out.bx.frozen 5;have y6:=HY.out.bx.cell (i:=6) (v:=.slice none 0 0) rfl;have g6:=HY.out.bx.frozen 6;have HZ:Hid (TBx ((w.alloc (.cells (bv f) 30)).alloc (.cells (acX f.day f.key f.ins A n c) 83)) (w.heap.size+1) (acX f.day f.key f.ins A n c) 83):=by
  have:=TBx.new (w.alloc (.cells (bv f) 30)) (acX f.day f.key f.ins A n c) 83;rwa[alf]at this
 have HB:Hid (Below w.heap.size w ((w.alloc (.cells (bv f) 30)).alloc (.cells (acX f.day f.key f.ins A n c) 83))):=alL.alloc (by simp) _;unfold fI
 go_enter Tryz.func33,Tryz.ntmps33
 go_wp2_with fail
 have z0:=HZ.out.bx.cell (i:=0) (v:=.int .i64 10) rfl;have z1:=HZ.out.bx.cell (i:=1) (v:=.int .i64 f.day) rfl;have z2:=HZ.out.bx.cell (i:=2) (v:=.string f.key) rfl;have z3:=HZ.out.bx.cell (i:=3) (v:=.string f.ins) rfl;have z4:=HZ.out.bx.cell (i:=4) (v:=.string ⟨#[]⟩) rfl;have z5:=HZ.out.bx.cell (i:=5) (v:=.string ⟨#[]⟩) rfl;have z6:=HZ.out.bx.cell (i:=6) (v:=.slice A n c) rfl;refine bodyPost_ret (v:=.agg (acX f.day f.key f.ins A n c)) (by simp[results,Tryz.results33,go_sem,z0,z1,z2,z3,z4,z5,z6]) rfl ⟨rfl,HB.out⟩
end Go.Proofs.YtjknklinhegdoaaGreatDoor
namespace Go.Proofs.YtjknklinhegdoaaGreatDoor
open Go.RowKit
variable {P:Program}
theorem uJ (w:World)(dT sT ty elem:TypeId)(m g o dLen dCap:Nat)(a:Addr)(sLen sCap:Nat)(cur:Array Value)(t:TypeId)(cs:List Value)
 (hu:P.underlying dT=some (.slice elem)) (hs:(P.info? elem).map (·.size)=some m)
 (hg:w.heap[g]? =some (.cells cur t (0,0))) (hn:cs.length=Nat.min sLen dLen*m)
 (hsrc:∀j v,cs[j]? =some v→w.cell? (a.add j)=some v) (hfit:o+cs.length≤cur.size) (h1:∀v∈cs,v.oneCell'=true):
 (Builtin.copy_ #[dT,sT] ty #[.slice (some ⟨g,o,none⟩) dLen dCap,.slice (some a) sLen sCap]).run P w=
  .ok (goInt (Nat.min sLen dLen:Nat)) (w.setRow g (cur.toList.take o++cs++cur.toList.drop (o+cs.length)).toArray):=by
 have hl:=run_loadCells_list (P:=P) w a cs hsrc;have hst:=run_storeCells_at P g o t cs 0 cur w hg (by simpa using hfit) h1;cases hq:P.info? elem with
 |none=>simp[hq]at hs
 |some i=>
  have hi:i.size=m:=by simpa[hq]using hs
  simp[Builtin.copy_,run_underlying hu,Builtin.lenOf,Builtin.firstCells,sizeOf,typeInfo,hq,hi, ←hn,hl,hst]
theorem rM (w:World)(dT sT ty elem:TypeId)(m:Nat)(d a:Option Addr)(dLen dCap sLen sCap:Nat)(hu:P.underlying dT=some (.slice elem))(hs:(P.info? elem).map (·.size)=some m)(hn:Nat.min sLen dLen=0):
 (Builtin.copy_ #[dT,sT] ty #[.slice d dLen dCap,.slice a sLen sCap]).run P w= .ok (goInt 0) w:=by
 cases hq:P.info? elem with
 |none=>simp[hq]at hs
 |some i=>
  have hl:∀(x:Addr),(loadCells x 0).run P w= .ok #[] w:=fun x=>by simpa using run_loadCells_list (P:=P) w x [] (by simp)
  cases d<;>cases a<;>simp[Builtin.copy_,run_underlying hu,Builtin.lenOf,Builtin.firstCells,sizeOf,typeInfo,hq,hn,storeCells,hl]
structure Spliced (g:Nat) (cur:List Value) (t:TypeId) (off:Nat) (cs:List Value) (w w':World):Prop where
 row:w'.heap[g]? =some (.cells (splice cur off cs).toArray t (0,0))
 by':w.grownBy w' (some g)
 sz:w'.heap.size=w.heap.size
theorem abX {α:Type}(L:List α)(o:Nat):splice L o []=L:=by simp[splice]
theorem za {w:World}{g:Nat}{cur:List Value}{t:TypeId}{off:Nat}(hg:w.heap[g]? =some (.cells cur.toArray t (0,0))):Spliced g cur t off [] w w:=
 ⟨by rw[abX];exact hg,⟨rfl,rfl,rfl,Nat.le_refl _,fun _ _ _=>rfl⟩,rfl⟩
theorem yZ {w:World}{g:Nat}{cur:List Value}{t:TypeId}{off:Nat}{cs:List Value}(hg:w.heap[g]? =some (.cells cur.toArray t (0,0))):
 Spliced g cur t off cs w (w.setRow g (cur.take off++cs++cur.drop (off+cs.length)).toArray):=
 ⟨by simpa[splice]using setRow_heap w g _ _ t _ hg,⟨rfl,rfl,rfl,by simp[World.setRow],fun k _ hne=>setRow_other w g k _ (fun e=>hne (by rw[e]))⟩,by simp[World.setRow]⟩
theorem fF (w:World)(dT sT elem:TypeId)(m:Nat)(hu:P.underlying dT=some (.slice elem))(hsz:(P.info? elem).map (·.size)=some m)
 (dp sp:Option Addr) (dLen dCap sLen sCap:Nat) (g off:Nat) (cur:List Value) (t:TypeId) (hg:w.heap[g]? =some (.cells cur.toArray t (0,0))) (cs:List Value) (hn:cs.length=Nat.min sLen dLen*m) (h0:0<m)
 (hpos:0<cs.length→dp=some ⟨g,off,none⟩∧∃ad,sp=some ad∧∀j v,cs[j]? =some v→w.cell? (ad.add j)=some v)
 (hfit:off+cs.length≤cur.length) (h1:∀v∈cs,v.oneCell'=true):
 ∃w',Spliced g cur t off cs w w'∧∀ty,(Builtin.copy_ #[dT,sT] ty #[.slice dp dLen dCap,.slice sp sLen sCap]).run P w= .ok (goInt (Nat.min sLen dLen:Nat)) w':=by
 by_cases h0':cs.length=0
 ·obtain rfl:cs=[]:=alC h0'
  have hz:Nat.min sLen dLen=0:=by
   rcases Nat.mul_eq_zero.1 (hn.symm.trans h0')with h|h
   ·exact h
   ·omega
  refine⟨w,za hg,fun ty=>?_⟩;rw[hz];exact rM w dT sT ty elem m dp sp dLen dCap sLen sCap hu hsz hz
 ·obtain⟨rfl,ad,rfl,hsrc⟩:=hpos (by omega)
  refine⟨_,yZ hg,fun ty=>?_⟩;have:=uJ (P:=P) w dT sT ty elem m g off dLen dCap ad sLen sCap cur.toArray t cs hu hsz hg hn hsrc (by simpa using hfit) h1;simpa using this
theorem il {ops:Array Oper}{o:Oper}{a:Act}{w:World}{K:Act→World→Prop}{Q:Exit→Act→World→Prop}{E:Prop}(hgd:o.guard=none)(d s:Operand)(dT sT:TypeId)
 (ho:o.op= .call {callee:=.builtin .copy,args:= #[d,s],argTypes:= #[dT,sT]}) (elem:TypeId) (m:Nat) (hu:P.underlying dT=some (.slice elem)) (hsz:(P.info? elem).map (·.size)=some m) (h0:0<m)
 (dp sp:Option Addr) (dLen dCap sLen sCap:Nat) (hd:a.eval d= .slice dp dLen dCap) (hs:a.eval s= .slice sp sLen sCap)
 (g off:Nat) (cur:List Value) (t:TypeId) (hg:w.heap[g]? =some (.cells cur.toArray t (0,0))) (cs:List Value) (hn:cs.length=Nat.min sLen dLen*m)
 (hpos:0<cs.length→dp=some ⟨g,off,none⟩∧∃ad,sp=some ad∧∀j v,cs[j]? =some v→w.cell? (ad.add j)=some v)
 (hfit:off+cs.length≤cur.length) (h1:∀v∈cs,v.oneCell'=true)
 (h:∀w',Hid (Spliced g cur t off cs w w')→K (a.put o.dst (goInt (Nat.min sLen dLen:Nat))) w'):
 if Region.wanted o (yielded ops a.tmps)=true then Oper.wp P o a w K Q else E:=by
 have hw:Region.wanted o (yielded ops a.tmps)=true:=by simp[Region.wanted,hgd]
 rw[if_pos hw];obtain⟨w',hsp,hrun⟩:=fF (P:=P) w dT sT elem m hu hsz dp sp dLen dCap sLen sCap g off cur t hg cs hn h0 hpos hfit h1;unfold Oper.wp;simp[execOp,ho,resolve,invoke,builtin,hd,hs,hrun,Result.andThen];exact h w' hsp
def ji {α:Type}(xs:List α)(k:Nat)(ys:List α):List α:=xs.take k++(ys++xs.drop k)
theorem adU {α:Type}(xs ys:List α)(k:Nat)(h:xs.length≤k):ji xs k ys=xs++ys:=by
 unfold ji;rw[aln h,List.drop_eq_nil_of_le h,List.append_nil]
theorem zb {α:Type}(cur xs ys:List α)(k n:Nat)(hx:cur.take n=xs)(hl:xs.length=n)(hk:k≤n)(hr:n+ys.length≤cur.length):
 (splice (splice cur (k+ys.length) (xs.drop k)) k ys).take (n+ys.length)=ji xs k ys:=by
 subst hx;have hn:n≤cur.length:=by omega
 apply List.ext_getElem?;intro j;simp only[splice,ji,alF,List.getElem?_append,List.getElem?_drop,alr,List.length_drop,alG]
 grind
theorem abY {α:Type}(cur xs ys:List α)(k n:Nat)(hl:xs.length=n)(hk:k≤n)(hx:cur.take k=xs.take k)(hr:n+ys.length≤cur.length):
 (splice (splice cur k ys) (k+ys.length) (xs.drop k)).take (n+ys.length)=ji xs k ys:=by
 have hc:∀j,j<k→cur[j]? =xs[j]?:=fun j hj=>by
  have:=congrArg (·[j]?) hx;simpa[alF,hj]using this
 apply List.ext_getElem?;intro j;simp only[splice,ji,alF,List.getElem?_append,List.getElem?_drop,alr,List.length_drop,alG]
 grind
end Go.Proofs.YtjknklinhegdoaaGreatDoor
namespace Go.Proofs.YtjknklinhegdoaaGreatDoor
def mP (l:List Lt)(x:Lt):Int:=bif aL l !=0 then 1 else bif mD x !=0 then mD x else bif l.any (fun y=>eqB y.id x.id)then 5 else bif decide (1000≤l.length)then 4 else 0
def yM (l:List Lt)(x:Lt)(L:List Lt):Prop:=∃k,k≤l.length∧L=ji l k [x]∧∀y∈l.drop k,eqB y.ins x.ins=false
inductive OpnAll (L:List Lt):List Lt→List Lt→Prop
 |nil:OpnAll L [] L
 |snoc {xs M x L'}:OpnAll L xs M→mP M x=0→yM M x L'→OpnAll L (xs++ [x]) L'
end Go.Proofs.YtjknklinhegdoaaGreatDoor
