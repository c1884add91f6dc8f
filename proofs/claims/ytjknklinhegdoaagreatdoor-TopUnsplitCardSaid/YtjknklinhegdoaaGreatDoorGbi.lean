/- Splits: split.Back. Conditions: texts of bounded length; the library's variables lie as the program's text lays them. Lots and facts that the laws leave out: long numbers, trancheref19.Great, equal lots. Conditions: sizes that strings can have. -/
import Derived.Test.YtjknklinhegdoaaGreatDoorSp2
set_option linter.unusedSimpArgs false
set_option linter.unusedVariables false
set_option maxHeartbeats 4000000
set_option maxRecDepth 100000
namespace Go.Proofs.YtjknklinhegdoaaGreatDoor
open Go.RowKit Go.Shelf Dec QQ SP
attribute [local go_sem] Oper.semAt_some
attribute [-go_sem] loadVar storeVar
abbrev kV:Array Value:= #[.string ⟨#[]⟩,.int .i64 0,.bool false,.int .i64 0,.int .i64 0,.string ⟨#[]⟩,.string ⟨#[]⟩,.string ⟨#[]⟩,.string ⟨#[]⟩,.string ⟨#[]⟩,.string ⟨#[]⟩,.string ⟨#[]⟩,.string ⟨#[]⟩,.string ⟨#[]⟩,.string ⟨#[]⟩,.string ⟨#[]⟩,.string ⟨#[]⟩,.string ⟨#[]⟩,.slice none 0 0,.slice none 0 0,.int .i64 0]
abbrev aiF (x0:ByteArray)(x1:Int)(x2 x3 x4 x5 x6:ByteArray):Array Value:= #[.string x0,.int .i64 0,.bool false,.int .i64 x1,.int .i64 8,.string x2,.string ⟨#[]⟩,.string ⟨#[]⟩,.string ⟨#[]⟩,.string ⟨#[]⟩,.string ⟨#[]⟩,.string ⟨#[]⟩,.string x3,.string x4,.string x5,.string x6,.string ⟨#[]⟩,.string ⟨#[]⟩,.slice none 0 0,.slice none 0 0,.int .i64 0]
abbrev aiE (x0:ByteArray)(x1:Int)(x2 x3 x4:ByteArray):Array Value:= #[.string x0,.int .i64 0,.bool false,.int .i64 x1,.int .i64 8,.string x2,.string ⟨#[]⟩,.string ⟨#[]⟩,.string ⟨#[]⟩,.string ⟨#[]⟩,.string ⟨#[]⟩,.string ⟨#[]⟩,.string x3,.string x4,.string ⟨#[]⟩,.string ⟨#[]⟩,.string ⟨#[]⟩,.string ⟨#[]⟩,.slice none 0 0,.slice none 0 0,.int .i64 0]
theorem sv_f (t:TypeId)(_:t≠30)(a:Addr)(v:Value):storeVar t a v=(do
 if v.cells.size≠(←sizeOf t)then stuck "storeVar: the value has not the size of the variable"
 storeCells a v.cells.toList):=rfl
attribute [local go_sem] aa3 sv_f
theorem TBx.storeF {w:World}{b:Nat}{cs cs':Array Value}{T:TypeId}(h:TBx w b cs T)(hs:cs.size=21)(hs':cs'.size=21)(h1:cs'.all (·.oneCell')=true):(storeVar 30 ⟨b,0,none⟩ (.agg cs')).run Tryz.prog w= .ok () (w.setRow b cs'):=
 run_storeVar_row (P:=Tryz.prog) w b T 30 cs cs' h (by rw[hs'];kernel_rfl) (by rw[hs,hs']) h1
def gJ (f:Fct)(key:ByteArray)(d:Int)(a b:Rat):Fct:=⟨key,0,false,d,8,f.ins,⟨#[]⟩,⟨#[]⟩,⟨#[]⟩,⟨#[]⟩,⟨#[]⟩,⟨#[]⟩,frN a,frD a,frN b,frD b,⟨#[]⟩,⟨#[]⟩,none,0,0,none,0,0,0⟩
def ai7:Fct:=⟨⟨#[]⟩,0,false,0,0,⟨#[]⟩,⟨#[]⟩,⟨#[]⟩,⟨#[]⟩,⟨#[]⟩,⟨#[]⟩,⟨#[]⟩,⟨#[]⟩,⟨#[]⟩,⟨#[]⟩,⟨#[]⟩,⟨#[]⟩,⟨#[]⟩,none,0,0,none,0,0,0⟩
structure Fb (w:World) (f:Fct) (rc:Array Value) (W:World):Prop where
 low:Below w.heap.size w W
 fb:TBx W w.heap.size (bv f) 30
 rb:TBx W (w.heap.size+1) rc 30
theorem Fb.on {w:World}{f:Fct}{rc:Array Value}{W W':World}(h:Fb w f rc W)(hb:Below W.heap.size W W'):Fb w f rc W':=⟨h.low.trans (hb.mono h.low.size),h.fb.on hb,h.rb.on hb⟩
theorem Fb.set {w:World}{f:Fct}{rc:Array Value}{W:World}(h:Fb w f rc W)(rc':Array Value):Fb w f rc' (W.setRow (w.heap.size+1) rc'):=⟨below_setRow h.low (by omega) _,h.fb.rowOther (by omega) _,h.rb.row _⟩
theorem Fb.setC {w:World}{f:Fct}{rc:Array Value}{W:World}(h:Fb w f rc W){b:Nat}(hb:w.heap.size+1<b)(j:Nat)(v:Value):Fb w f rc (W.setCell ⟨b,j,none⟩ v):=⟨h.low.setCell (p:=⟨b,j,none⟩) (by show w.heap.size≤b;omega) _,h.fb.other (by omega) _ _,h.rb.other (by omega) _ _⟩
theorem aeU (f:Fct)(w:World):FcW f [] [] w:=⟨fun i v hv=>by simp[au]at hv,fun i v hv=>by simp[au]at hv⟩
theorem aix (f:Fct){lp:List Pk}{lo:List Ot}(hI:FcI f lp lo)(hsp:jU f lp lo=0)(key:ByteArray)(d:Int){pr r:Rat}(hp:Vq f.pn f.pd pr)(hr:Vq f.rn f.rd r)(hr0:r≠0)(hIB:FcI (gJ f key d (pr*r) (1/r)) [] []):
 ig (FcW f lp lo) 8 #[fI f,.string key,.int .i64 d] (.tuple #[fI (if gL (gJ f key d (pr*r) (1/r)) [] []=0 then gJ f key d (pr*r) (1/r)else ai7),.int .i64 (gL (gJ f key d (pr*r) (1/r)) [] [])]):=by
 intro w hg hw;have K1:=ala (mG f hI);have K2:=ala (MulF hp hr);have K3:=ala (QuoF vq1 hr hr0);have K4:=ala (uh _ hIB);rw[hsp]at K1;have hb:fI (gJ f key d (pr*r) (1/r))= .agg (aiF key d f.ins (frN (pr*r)) (frD (pr*r)) (frN (1/r)) (frD (1/r))):=rfl;have hif:fI (if gL (gJ f key d (pr*r) (1/r)) [] []=0 then gJ f key d (pr*r) (1/r)else ai7)=if gL (gJ f key d (pr*r) (1/r)) [] []=0 then fI (gJ f key d (pr*r) (1/r))else .agg kV:=by split<;>rfl
 rw[hif,hb];rw[hb]at K4;unfold FR at K2 K3;have KW:=aeU (gJ f key d (pr*r) (1/r));obtain⟨oe,hoe⟩:∃oe,gL (gJ f key d (pr*r) (1/r)) [] []=oe:=⟨_,rfl⟩;rw[hoe]at K4⊢
 generalize gJ f key d (pr*r) (1/r)=bf at*
 generalize frN (pr*r)=an at*
 generalize frD (pr*r)=ad at*
 generalize frN (1/r)=bn at*
 generalize frD (1/r)=bd at*
 have hs:=((St.refl hg).alloc (.cells (bv f) 30)).alloc (.cells kV 30);have F0:Fb w f kV ((w.alloc (.cells (bv f) 30)).alloc (.cells kV 30)):=⟨hs.2,(TBx.new w (bv f) 30).alloc _,by
  have:=TBx.new (w.alloc (.cells (bv f) 30)) kV 30;rwa[alf]at this⟩
 have HF:=ala F0;have HW:=ala (hw.on hs.2);clear hg hw F0 hI hsp hp hr hr0 hIB hif hb hoe;unfold fI at*
 unfold FV at K2 K3;have xf:=HF.out.fb.bx.fact rfl
 go_enter Tryz.func8,Tryz.ntmps8
 go_wp2_with fail
 refine(K1.out).step hs HW.out ?_;intro w2 hs hb2;replace HF:=ala (HF.out.on hb2);clear hb2 K1 HW xf
 go_wp2_with fail
 have BL0:Hid (Below w2.heap.size w2 w2.drew):=(alJ _ _).drew;have BL0b:Hid (Below w2.heap.size w2 (w2.drew.alloc (.cells kV 30))):=BL0.out.alloc BL0.out.size _;have BL0c:Hid (Below w2.heap.size w2 ((w2.alloc (.cells kV 30)).drew)):=BL0b.out;have TA0b:Hid (TBx (w2.drew.alloc (.cells kV 30)) w2.heap.size kV 30):=TBx.new w2.drew _ _;have hgl:Hid (∀v,Below w2.heap.size w2 v→Gl v):=fun v hv=>hs.gl.below hv
 have hSOK:Hid (∀v,Below w2.heap.size w2 v→v.cell? ⟨w.heap.size,5,none⟩=some (.string f.ins)∧v.cell? ⟨w.heap.size,12,none⟩=some (.string f.pn)∧v.cell? ⟨w.heap.size,13,none⟩=some (.string f.pd)∧v.cell? ⟨w.heap.size,14,none⟩=some (.string f.rn)∧v.cell? ⟨w.heap.size,15,none⟩=some (.string f.rd)):=fun v hv=>
  let X:=(HF.out.fb.on hv).bx
  ⟨X.cell (i:=5) rfl,X.cell (i:=12) rfl,X.cell (i:=13) rfl,X.cell (i:=14) rfl,X.cell (i:=15) rfl⟩
 have HS1:Hid (∀v:World,(storeVar 30 ⟨v.heap.size,0,none⟩ (.agg (aiE key d f.ins an ad))).run Tryz.prog (v.alloc (.cells kV 30))= .ok () (v.alloc (.cells (aiE key d f.ins an ad) 30))):=fun v=>by
  rw[TBx.storeF (TBx.new v kV 30) rfl rfl (by simp[Value.oneCell']),World.setRow_alloc_new]
 go_cut [8]from 14 to 23 (fun s8 wx=>∃bk:Nat,s8= .pointer (some ⟨bk,0,none⟩)∧Hid (Below w2.heap.size w2 wx∧TBx wx bk (aiE key d f.ins an ad) 30∧w2.heap.size≤bk))
 case first=>
  go_region_held3 (fun v=>v.cell? ⟨w.heap.size,5,none⟩=some (.string f.ins)∧v.cell? ⟨w.heap.size,12,none⟩=some (.string f.pn)∧v.cell? ⟨w.heap.size,13,none⟩=some (.string f.pd)∧v.cell? ⟨w.heap.size,14,none⟩=some (.string f.rn)∧v.cell? ⟨w.heap.size,15,none⟩=some (.string f.rd))
   (first|with_reducible exact hSOK.out _ BL2a.out|with_reducible exact hSOK.out _ BL2b.out|with_reducible exact hSOK.out _ (BL2a.out.alloc BL2a.out.size _)|with_reducible exact hSOK.out _ (below_setRow BL2b.out alK _)|with_reducible exact hSOK.out _ BL0.out|with_reducible exact hSOK.out _ BL0b.out|with_reducible exact hSOK.out _ BL0c.out)
   (first
     |(go_at_call 28;refine(K2.out w2.drew (hgl.out _ BL0.out)).mono ?_;rintro e w3 ⟨rfl,hb3⟩;have BL2a:Hid (Below w2.heap.size w2 w3):=BL0.out.trans (hb3.mono BL0.out.size);have S1:=HS1.out w3;clear hb3)
     |(go_at_call 28;refine(K2.out (w2.drew.alloc (.cells kV 30)) (hgl.out _ BL0b.out)).mono ?_;rintro e w3 ⟨rfl,hb3⟩;have BL2b:Hid (Below w2.heap.size w2 w3):=BL0b.out.trans (hb3.mono BL0b.out.size);have TA2b:=ala (TA0b.out.on hb3);have S1:=TA2b.out.storeF (cs':=(aiE key d f.ins an ad)) rfl rfl (by simp[Value.oneCell']);clear hb3)
     |fail)
  all_goals (go_wp2_with fail;go_meet)
  all_goals first
   |exact⟨_,rfl,BL2a.out.alloc BL2a.out.size _,TBx.new _ _ _,BL2a.out.size⟩
   |exact⟨_,rfl,below_setRow BL2b.out alK _,TA2b.out.row _,Nat.le_refl _⟩
 case rest=>
 obtain⟨bk,rfl,H1⟩:=hcut;have hbk:w.heap.size+1<bk:=by have:=(alc.1 HF.out.rb).1;have:=H1.out.2.2;omega
 have hs3:=hs.on H1.out.1;replace HF:=ala (HF.out.on H1.out.1);have HM:=ala H1.out.2.1;clear hgl hSOK BL0 BL0b BL0c TA0b HS1 H1 K2;obtain⟨wx,hwx⟩:∃wx,wc=wx:=⟨_,rfl⟩;subst hwx;have KOF:Hid (Ret 16 #[.string ⟨#[49]⟩] (.agg #[.string ⟨#[49]⟩,.string ⟨#[]⟩])):=by
  have:=OfF (a:=⟨#[49]⟩) (x:=1) ⟨by decide,by decide⟩ (by decide);rwa[show ((1:Int):Rat)=1 from rfl,abj]at this
 have BL0:Hid (Below wc.heap.size wc wc.drew):=(alJ _ _).drew;have hgl:Hid (∀v,Below wc.heap.size wc v→Gl v):=fun v hv=>hs3.gl.below hv
 have hSOK:Hid (∀v,Below wc.heap.size wc v→v.cell? ⟨w.heap.size,14,none⟩=some (.string f.rn)∧v.cell? ⟨w.heap.size,15,none⟩=some (.string f.rd)):=fun v hv=>
  let X:=(HF.out.fb.on hv).bx
  ⟨X.cell (i:=14) rfl,X.cell (i:=15) rfl⟩
 go_wp2_with fail
 go_region_held3 (fun v=>v.cell? ⟨w.heap.size,14,none⟩=some (.string f.rn)∧v.cell? ⟨w.heap.size,15,none⟩=some (.string f.rd))
  (first|with_reducible exact PS|with_reducible exact hSOK.out _ BL2.out|with_reducible exact hSOK.out _ BL1.out|with_reducible exact hSOK.out _ BL0.out)
  (first
    |(go_at_call 16;refine(KOF.out wc.drew (hgl.out _ BL0.out)).mono ?_;rintro e w3 ⟨rfl,hb3⟩;have BL1:Hid (Below wc.heap.size wc w3):=BL0.out.trans (hb3.mono BL0.out.size);clear hb3)
    |(go_at_call 15;refine(K3.out w3 (hgl.out _ BL1.out)).mono ?_;rintro e w4 ⟨rfl,hb4⟩;have BL2:Hid (Below wc.heap.size wc w4):=BL1.out.trans (hb4.mono BL1.out.size)
      have T0:=HM.out.on BL2.out;have f14:=T0.bx.frozen 14;have f15:=T0.bx.frozen 15;have c14:=T0.bx.cell (i:=14) (v:=.string ⟨#[]⟩) rfl;have c15:=T0.bx.cell (i:=15) (v:=.string ⟨#[]⟩) rfl;have f15b:=(T0.set 14 (.string bn)).bx.frozen 15;have c15b:=(T0.set 14 (.string bn)).bx.cell (i:=15) (v:=.string ⟨#[]⟩) rfl;have F9:=((HF.out.on BL2.out).setC hbk 14 (.string bn)).setC hbk 15 (.string bd);have HM9:=ala ((T0.set 14 (.string bn)).set 15 (.string bd));have PS:=And.intro (F9.fb.bx.cell (i:=14) (v:=.string f.rn) rfl) (F9.fb.bx.cell (i:=15) (v:=.string f.rd) rfl);have HF9:=ala F9;clear hb4 T0 F9)
    |fail)
 have hs9:St w ((w4.setCell ⟨bk,14,none⟩ (.string bn)).setCell ⟨bk,15,none⟩ (.string bd)):=⟨hs3.1,HF9.out.low⟩;have x9:=HM9.out.bx.fact rfl;clear PS f14 f15 c14 c15 f15b c15b hSOK hgl BL0 BL1 BL2 KOF K3 HF HM;generalize (w4.setCell ⟨bk,14,none⟩ (.string bn)).setCell ⟨bk,15,none⟩ (.string bd)=W9 at*
 go_wp2_with fail
 refine(K4.out).step hs9 (KW _) ?_;intro w5 hs5 hb5;replace HF:=ala (HF9.out.on hb5);replace HM:=ala (HM9.out.on hb5);clear x9 hb5 HF9 HM9 K4;have x9:=HM.out.bx.fact rfl;by_cases h0:oe=0
 ·subst h0
  have hst1:=HF.out.rb.storeF (cs':=(aiF key d f.ins an ad bn bd)) rfl rfl (by simp[Value.oneCell']);have HF9:=ala (HF.out.set (aiF key d f.ins an ad bn bd));have r9:=HF9.out.rb.bx.fact rfl;clear HM HF
  go_wp2_with fail
  refine bodyPost_ret (v:=.tuple #[.agg (aiF key d f.ins an ad bn bd),.int .i64 0]) (by simp[results,Tryz.results8,go_sem,r9]) rfl ⟨by simp,HF9.out.low⟩
 ·have q1:(oe !=0)=true:=by simpa using h0
  have q2:(oe==0)=false:=by simpa using h0
  have hst1:=HF.out.rb.storeF (cs':=kV) rfl rfl (by simp[Value.oneCell']);have HF9:=ala (HF.out.set kV);have r9:=HF9.out.rb.bx.fact rfl;clear HM HF x9
  go_wp2_with fail
  refine bodyPost_ret (v:=.tuple #[.agg kV,.int .i64 oe]) (by simp[results,Tryz.results8,go_sem,r9]) rfl ⟨by simp[h0],HF9.out.low⟩
end Go.Proofs.YtjknklinhegdoaaGreatDoor
namespace Go.Proofs.YtjknklinhegdoaaGreatDoor
open Go.RowKit Go.Shelf Dec QQ SP
abbrev rZ (x0 x1:ByteArray)(x2 x3:Int)(x4 x5 x6:ByteArray):Array Value:= #[.string x0,.string x1,.int .i64 x2,.int .i64 x3,.string x4,.string x5,.string x6]
theorem kL {a:ByteArray}(h:a.size≤9223372036854775807):Ret 57 #[.string a] (.bool (decide (13<a.size))):=by
 intro w hg;have hs:=St.refl hg;have q:decide ((13:Int)<(a.size:Int))=decide (13<a.size):=by rw[decide_eq_decide];omega
 generalize decide (13<a.size)=v at*
 go_enter Tryz.func57,Tryz.ntmps57
 go_wp2_with fail
 go_ret
 exact⟨rfl,hs.2⟩
structure FnT where
 n:ByteArray
 d:ByteArray
def oP (s:FnT):List Value:=[.string s.n,.string s.d]
theorem yf (s:FnT):(oP s).length =2:=rfl
def mE (s:FnT):Bool:=decide (13<s.n.size)||decide (13<s.d.size)
theorem aj5 {A:Option Addr}{n c:Nat}{l:List FnT}(hn:l.length=n)(hm:n≤1000000)(hl:∀s∈l,s.n.size≤9223372036854775807∧s.d.size≤9223372036854775807):ig (fun w=>Row w A (au oP l)) 114 #[.slice A n c] (.bool (l.any mE)):=by
 intro w hg hi;have hs:=St.refl hg;have HN:=ala hn;have HI:=ala hi;have HL:=ala hl;obtain⟨v,hv⟩:∃v,l.any mE=v:=⟨_,rfl⟩;rw[hv];have HV:=ala hv;clear hn hi hl hv
 go_enter Tryz.func114,Tryz.ntmps114
 go_wp2_with fail
 go_loopw [3] (fun s wr=>∃k:Nat,k≤n∧s= .int .i64 (k:Int)∧St w wr∧Hid (∀i,i<k→∀t,l[i]? =some t→mE t=false)) (fun s _=>(n-intOf s).toNat)
 case atStart=>exact⟨0,by omega,rfl,hs,fun i h=>by omega⟩
 case round=>
  obtain⟨k,hk,rfl,hs,HP⟩:=hrel;by_cases hkn:k=n
  ·subst hkn
   have q:decide ((k:Int)<(k:Int))=false:=alH (by omega);have hv:v=false:=by
    rw[←HV.out,List.any_eq_false];intro s hs;obtain⟨i,hi,rfl⟩:=List.mem_iff_getElem.1 hs;rw[HP.out i (by have:=HN.out;omega) _ (ald hi)];decide
   subst hv
   go_wp2_with fail
   go_ret
   exact⟨rfl,hs.2⟩
  ·have hkl:k<n:=by omega
   have q:decide ((k:Int)<(n:Int))=true:=alI (by omega);have qn:decide (k<n)=true:=alI hkl;obtain⟨d,hd⟩:∃d,l[k]? =some d:=⟨l[k]'(by rw[HN.out];exact hkl),by simp⟩;obtain⟨b,o,hA,hb,hcells⟩:=eT (cs:=oP) (m:=2) yf (by decide) (HI.out.on hs.2) hd;subst hA;have hz:=HL.out d (alk hd);have HD:=ala hd;clear hd hkn;obtain⟨f0,f1⟩:=d;have x0:wr.cell? ⟨b,o+k*2,none⟩=some (.string f0):=hcells 0 _ rfl;have x1:wr.cell? ⟨b,o+k*2+1,none⟩=some (.string f1):=hcells 1 _ rfl;clear hcells;dsimp only at hz;obtain⟨hz0,hz1⟩:=hz;obtain⟨t1,q1⟩:∃t,decide (13<f0.size)=t:=⟨_,rfl⟩;obtain⟨t2,q2⟩:∃t,decide (13<f1.size)=t:=⟨_,rfl⟩;have q1i:decide ((13:Int)<(f0.size:Int))=t1:=by rw[←q1,decide_eq_decide];omega
   have q2i:decide ((13:Int)<(f1.size:Int))=t2:=by rw[←q2,decide_eq_decide];omega
   have HLN:Hid (mE ⟨f0,f1⟩=(t1||t2)):=by
    show (decide (13<f0.size)||decide (13<f1.size))=_;rw[q1,q2]
   clear q1 q2;have yes:(t1||t2)=true→v=true:=fun h=>by
    rw[←HV.out,List.any_eq_true];exact⟨_,alk HD.out,by rw[HLN.out];exact h⟩
   cases t1 with
   |true=>
    obtain rfl:v=true:=yes rfl;clear yes
    go_wp2_with fail
    go_ret
    exact⟨rfl,hs.2⟩
   |false=>
    cases t2 with
    |true=>
     obtain rfl:v=true:=yes rfl;clear yes
     go_wp2_with fail
     go_ret
     exact⟨rfl,hs.2⟩
    |false=>
     clear yes
     go_wp2_with fail
     go_roundw
     case rel=>
      refine⟨k+1,by omega,by go_num,hs,fun i hi t ht=>?_⟩;by_cases e:i=k
      ·subst e
       rw[HD.out]at ht;cases ht;exact HLN.out
      ·exact HP.out i (by omega) t ht
     case measure=>simp[intOf];omega
theorem gz {s:FnT}(h:mE s=false):s.n.size≤13∧s.d.size≤13:=by
 unfold mE at h;simp at h;exact h
theorem jL {a b:ByteArray}(ha:a.size≤9223372036854775807)(hb:b.size≤9223372036854775807):Ret 58 #[FV a b] (.bool (mE ⟨a,b⟩)):=by
 intro w hg;have hs:=(St.refl hg).alloc (.cells #[.string a,.string b] 26);have X:=Bx.new w #[.string a,.string b] 26;have x0:=X.cell (i:=0) (v:=.string a) rfl;have x1:=X.cell (i:=1) (v:=.string b) rfl;have Y:=Bx.new (w.alloc (.cells #[.string a,.string b] 26)) #[.string a,.string b] 26;rw[alf]at Y;have R:Hid (Row ((w.alloc (.cells #[.string a,.string b] 26)).alloc (.cells #[.string a,.string b] 26)) (some ⟨w.heap.size+1,0,none⟩) (au oP [⟨a,b⟩])):=Row.of Y;have K:=aj5 (A:=some ⟨w.heap.size+1,0,none⟩) (n:=1) (c:=1) (l:=[⟨a,b⟩]) rfl (by decide) (by intro s hs;simp at hs;subst hs;exact⟨ha,hb⟩);have e:([⟨a,b⟩]:List FnT).any mE=mE ⟨a,b⟩:=by simp
 rw[e]at K;generalize mE ⟨a,b⟩=v at*
 unfold FV;clear Y e ha hb
 go_enter Tryz.func58,Tryz.ntmps58
 go_wp2_with fail
 refine K.step (hs.alloc _) R.out ?_;intro w1 hs hb
 go_wp2_with fail
 go_ret
 exact⟨rfl,hs.2⟩
structure Lt.big (x:Lt):Prop where
 id:x.id.size≤9223372036854775807
 ins:x.ins.size≤9223372036854775807
 q:x.q.size≤9223372036854775807
 c:x.c.size≤9223372036854775807
 u:x.u.size≤9223372036854775807
def grL (x:Lt):Bool:=decide (13<x.q.size)||decide (13<x.c.size)||decide (13<x.u.size)||decide (40<x.id.size)||decide (40<x.ins.size)
theorem aeM {x:Lt}(h:grL x=false):x.q.size≤13∧x.c.size≤13∧x.u.size≤13∧x.id.size≤40∧x.ins.size≤40:=by
 unfold grL at h;simp at h;omega
theorem akm {x:Lt}(hx:x.big):Ret 55 #[ltV x] (.bool (grL x)):=by
 intro w hg;have hE:grL x=(decide (13<x.q.size)||decide (13<x.c.size)||decide (13<x.u.size)||decide (40<x.id.size)||decide (40<x.ins.size)):=rfl;rw[hE];have K1:=kL hx.q;have K2:=kL hx.c;have K3:=kL hx.u;have q4i:decide ((40:Int)<(x.id.size:Int))=decide (40<x.id.size):=by rw[decide_eq_decide];omega
 have q5i:decide ((40:Int)<(x.ins.size:Int))=decide (40<x.ins.size):=by rw[decide_eq_decide];omega
 generalize decide (13<x.q.size)=t1 at*
 generalize decide (13<x.c.size)=t2 at*
 generalize decide (13<x.u.size)=t3 at*
 generalize decide (40<x.id.size)=t4 at*
 generalize decide (40<x.ins.size)=t5 at*
 clear hx hE;unfold ltV ltA;obtain⟨id,ins,acq,opn,q,c,u⟩:=x;dsimp only at*
 have hs:=(St.refl hg).alloc (.cells (rZ id ins acq opn q c u) 47);have HX:=ala (TBx.new w (rZ id ins acq opn q c u) 47);have x0:=HX.out.bx.cell (i:=0) (v:=.string id) rfl;have x1:=HX.out.bx.cell (i:=1) (v:=.string ins) rfl;have x4:=HX.out.bx.cell (i:=4) (v:=.string q) rfl;have x5:=HX.out.bx.cell (i:=5) (v:=.string c) rfl;have x6:=HX.out.bx.cell (i:=6) (v:=.string u) rfl
 go_enter Tryz.func55,Tryz.ntmps55
 go_wp2_with fail
 refine K1.step hs ?_;intro wt1 hs hbt1;replace HX:=ala (HX.out.on hbt1);clear hbt1 K1;clear x0 x1 x4 x5 x6;have x0:=HX.out.bx.cell (i:=0) (v:=.string id) rfl;have x1:=HX.out.bx.cell (i:=1) (v:=.string ins) rfl;have x4:=HX.out.bx.cell (i:=4) (v:=.string q) rfl;have x5:=HX.out.bx.cell (i:=5) (v:=.string c) rfl;have x6:=HX.out.bx.cell (i:=6) (v:=.string u) rfl;cases t1 with
 |true=>
  go_wp2_with fail
  go_ret
  exact⟨by simp,hs.2⟩
 |false=>
  go_wp2_with fail
  refine K2.step hs ?_;intro wt2 hs hbt2;replace HX:=ala (HX.out.on hbt2);clear hbt2 K2;clear x0 x1 x4 x5 x6;have x0:=HX.out.bx.cell (i:=0) (v:=.string id) rfl;have x1:=HX.out.bx.cell (i:=1) (v:=.string ins) rfl;have x4:=HX.out.bx.cell (i:=4) (v:=.string q) rfl;have x5:=HX.out.bx.cell (i:=5) (v:=.string c) rfl;have x6:=HX.out.bx.cell (i:=6) (v:=.string u) rfl;cases t2 with
  |true=>
   go_wp2_with fail
   go_ret
   exact⟨by simp,hs.2⟩
  |false=>
   go_wp2_with fail
   refine K3.step hs ?_;intro wt3 hs hbt3;replace HX:=ala (HX.out.on hbt3);clear hbt3 K3;clear x0 x1 x4 x5 x6;have x0:=HX.out.bx.cell (i:=0) (v:=.string id) rfl;have x1:=HX.out.bx.cell (i:=1) (v:=.string ins) rfl;have x4:=HX.out.bx.cell (i:=4) (v:=.string q) rfl;have x5:=HX.out.bx.cell (i:=5) (v:=.string c) rfl;have x6:=HX.out.bx.cell (i:=6) (v:=.string u) rfl;cases t3 with
   |true=>
    go_wp2_with fail
    go_ret
    exact⟨by simp,hs.2⟩
   |false=>
    cases t4 with
    |true=>
     go_wp2_with fail
     go_ret
     exact⟨by simp,hs.2⟩
    |false=>
     cases t5 with
     |true=>
      go_wp2_with fail
      go_ret
      exact⟨by simp,hs.2⟩
     |false=>
      go_wp2_with fail
      go_ret
      exact⟨by simp,hs.2⟩
def akl (n:Nat)(l:List Lt):Bool:=(decide (12<n)&&decide (n<999)||decide (1002<n))||l.any grL
theorem gr_any {A:Option Addr}{n c:Nat}{l:List Lt}(hn:l.length=n)(hm:n≤9223372036854775807)(hz:∀x∈l,x.big):ig (fun w=>Row w A (au aa l)) 21 #[.slice A n c] (.bool (akl n l)):=by
 intro w hg hi;have hs:=St.refl hg;have HN:=ala hn;have HI:=ala hi;have HZ:=ala hz;obtain⟨v,hv⟩:∃v,akl n l=v:=⟨_,rfl⟩;rw[hv];have HV:Hid (((decide (12<n)&&decide (n<999)||decide (1002<n))||l.any grL)=v):=hv;clear hn hi hz hv
 go_enter Tryz.func21,Tryz.ntmps21
 have q1:decide ((12:Int)<(n:Int))=decide (12<n):=by rw[decide_eq_decide];omega
 have q2:decide ((n:Int)<999)=decide (n<999):=by rw[decide_eq_decide];omega
 have q3:decide ((1002:Int)<(n:Int))=decide (1002<n):=by rw[decide_eq_decide];omega
 obtain⟨b1,hb1⟩:∃b,decide (12<n)=b:=⟨_,rfl⟩;obtain⟨b2,hb2⟩:∃b,decide (n<999)=b:=⟨_,rfl⟩;obtain⟨b3,hb3⟩:∃b,decide (1002<n)=b:=⟨_,rfl⟩;rw[hb1]at q1;rw[hb2]at q2;rw[hb3]at q3;by_cases hbb:(b1&&b2||b3)=true
 case pos=>
  have hvt:v=true:=by rw[←HV.out,hb1,hb2,hb3,hbb];rfl
  subst hvt;clear HV hb1 hb2 hb3;cases b1<;>cases b2<;>cases b3<;>first
   |exact absurd hbb (by decide)
   |(go_wp2_with fail
     go_ret
     exact⟨rfl,hs.2⟩)
 have hbf:(b1&&b2||b3)=false:=by simpa using hbb
 have HV2:Hid (l.any grL=v):=by show _=_;rw[←HV.out,hb1,hb2,hb3,hbf];rfl
 clear HV hb1 hb2 hb3 hbb
 go_upto_region 1 with (fail)
 go_cut [16] (fun s16 wx=>s16= .bool false∧wx=w)
 case first=>
  clear HV2 HN HI HZ;cases b1<;>cases b2<;>cases b3<;>first
   |exact absurd hbf (by decide)
   |(go_wp2_with fail
     go_meet
     exact⟨rfl,rfl⟩)
 case rest=>
 obtain⟨rfl,rfl⟩:=hcut;clear q1 q2 q3 hbf
 go_wp2_with fail
 go_loopw [3] (fun s wr=>∃k:Nat,k≤n∧s= .int .i64 (k:Int)∧St wc wr∧Hid (∀i,i<k→∀t,l[i]? =some t→grL t=false)) (fun s _=>(n-intOf s).toNat)
 case atStart=>exact⟨0,by omega,rfl,hs,fun i h=>by omega⟩
 case round=>
  obtain⟨k,hk,rfl,hs,HP⟩:=hrel;by_cases hkn:k=n
  ·subst hkn
   have q:decide ((k:Int)<(k:Int))=false:=alH (by omega);have hv:v=false:=by
    rw[←HV2.out,List.any_eq_false];intro s hs;obtain⟨i,hi,rfl⟩:=List.mem_iff_getElem.1 hs;rw[HP.out i (by have:=HN.out;omega) _ (ald hi)];decide
   subst hv
   go_wp2_with fail
   go_ret
   exact⟨rfl,hs.2⟩
  ·have hkl:k<n:=by omega
   have q:decide ((k:Int)<(n:Int))=true:=alI (by omega);have qn:decide (k<n)=true:=alI hkl;obtain⟨d,hd⟩:∃d,l[k]? =some d:=⟨l[k]'(by rw[HN.out];exact hkl),by simp⟩;obtain⟨b,o,hA,hb,hcells⟩:=eT (cs:=aa) (m:=7) aM (by decide) (HI.out.on hs.2) hd;subst hA;have K:=akm (HZ.out d (alk hd));have HD:=ala hd;clear hd hkn;obtain⟨t1,ht1⟩:∃t,grL d=t:=⟨_,rfl⟩;rw[ht1]at K;have HT:=ala ht1;clear ht1;unfold ltV ltA at K;obtain⟨id,ins,acq,opn,qq,c',u⟩:=d;obtain⟨x0,x1,x2,x3,x4,x5,x6⟩:=eD hcells;dsimp only at*
   clear hcells
   go_wp2_with fail
   refine K.step hs ?_;intro w2 hs hb2;clear K x0 x1 x2 x3 x4 x5 x6;cases t1 with
   |true=>
    obtain rfl:v=true:=by
     rw[←HV2.out,List.any_eq_true];exact⟨_,alk HD.out,HT.out⟩
    go_wp2_with fail
    go_ret
    exact⟨rfl,hs.2⟩
   |false=>
    go_wp2_with fail
    go_roundw
    case rel=>
     refine⟨k+1,by omega,by go_num,hs,fun i hi t ht=>?_⟩;by_cases e:i=k
     ·subst e
      rw[HD.out]at ht;cases ht;exact HT.out
     ·exact HP.out i (by omega) t ht
    case measure=>simp[intOf];omega
def eq4 (x y:Lt):Prop:=x.q=y.q∧x.c=y.c∧x.acq=y.acq∧x.opn=y.opn
theorem aja {x y:Lt}(h:eq4 x y):Ret 12 #[ltV x,ltV y] (.bool true):=by
 intro w hg;obtain⟨id,ins,acq,opn,q,c,u⟩:=x;obtain⟨id',ins',acq',opn',q',c',u'⟩:=y;obtain⟨h1,h2,h3,h4⟩:=h;dsimp only at h1 h2 h3 h4;subst h1 h2 h3 h4;have hs:=((St.refl hg).alloc (.cells (rZ id ins acq opn q c u) 47)).alloc (.cells (rZ id' ins' acq opn q c u') 47);have X:=(TBx.new w (rZ id ins acq opn q c u) 47).alloc (.cells (rZ id' ins' acq opn q c u') 47);have Y:=TBx.new (w.alloc (.cells (rZ id ins acq opn q c u) 47)) (rZ id' ins' acq opn q c u') 47;rw[alf]at Y;have x2:=X.bx.cell (i:=2) (v:=.int .i64 acq) rfl;have x3:=X.bx.cell (i:=3) (v:=.int .i64 opn) rfl;have x4:=X.bx.cell (i:=4) (v:=.string q) rfl;have x5:=X.bx.cell (i:=5) (v:=.string c) rfl;have y2:=Y.bx.cell (i:=2) (v:=.int .i64 acq) rfl;have y3:=Y.bx.cell (i:=3) (v:=.int .i64 opn) rfl;have y4:=Y.bx.cell (i:=4) (v:=.string q) rfl;have y5:=Y.bx.cell (i:=5) (v:=.string c) rfl;unfold ltV ltA;dsimp only;clear X Y
 go_enter Tryz.func12,Tryz.ntmps12
 go_wp2_with fail
 go_ret
 exact⟨rfl,hs.2⟩
theorem akx {A B:Option Addr}{n m c d:Nat}{l r:List Lt}(hn:l.length=n)(hm':r.length=m)(hm:n≤9223372036854775807)(he:l.map ahw=r.map ahw):
 ig (fun w=>Row w A (au aa l)∧Row w B (au aa r)) 11 #[.slice A n c,.slice B m d,.func (.func 12) #[] #[]] (.bool true):=by
 intro w hg hi;have hs:=St.refl hg;have hl:r.length=l.length:=by have:=congrArg List.length he;simpa using this.symm
 have hmn:m=n:=by omega
 subst hmn;have HN:=ala hn;have HM:=ala hm';have HI:=ala hi;have HE:Hid (∀(k:Nat) x y,l[k]? =some x→r[k]? =some y→eq4 x y):=fun k x y hx hy=>by
  have h:(l.map ahw)[k]? =(r.map ahw)[k]?:=by rw[he]
  simp only[als,hx,hy,Option.map_some,Option.some.injEq,ahw,Prod.mk.injEq]at h;exact h
 have q0:((m:Int) !=(m:Int))=false:=by simp
 clear hn hm' hi he hl
 go_enter Tryz.func11,Tryz.ntmps11
 go_wp2_with fail
 go_loopw [17] (fun s wr=>∃k:Nat,k≤m∧s= .int .i64 (k:Int)∧St w wr) (fun s _=>(m-intOf s).toNat)
 case atStart=>exact⟨0,by omega,rfl,hs⟩
 case round=>
  obtain⟨k,hk,rfl,hs⟩:=hrel;by_cases hkn:k=m
  ·subst hkn
   have q:decide ((k:Int)<(k:Int))=false:=alH (by omega)
   go_wp2_with fail
   go_ret
   exact⟨rfl,hs.2⟩
  ·have hkl:k<m:=by omega
   have q:decide ((k:Int)<(m:Int))=true:=alI (by omega);have qn:decide (k<m)=true:=alI hkl;obtain⟨x,hx⟩:∃d,l[k]? =some d:=⟨l[k]'(by rw[HN.out];exact hkl),by simp⟩;obtain⟨y,hy⟩:∃d,r[k]? =some d:=⟨r[k]'(by rw[HM.out];exact hkl),by simp⟩;have K:=aja (HE.out k x y hx hy);have hR:=(HI.out.2.on hs.2).on (bal wr (.cells (ltA x) 47));obtain⟨b,o,hA,hb,hcells⟩:=eT (cs:=aa) (m:=7) aM (by decide) (HI.out.1.on hs.2) hx;obtain⟨b',o',hA',hb',hcells'⟩:=eT (cs:=aa) (m:=7) aM (by decide) hR hy;subst hA hA';obtain⟨x0,x1,x2,x3,x4,x5,x6⟩:=eD hcells;obtain⟨y0,y1,y2,y3,y4,y5,y6⟩:=eD hcells';unfold ltA at y0 y1 y2 y3 y4 y5 y6;unfold ltV ltA at K;have X:=(TBx.new wr (ltA x) 47).alloc (.cells (ltA y) 47);have Y:=TBx.new (wr.alloc (.cells (ltA x) 47)) (ltA y) 47;rw[alf]at Y;unfold ltA at X Y;obtain⟨id,ins,acq,opn,q',c',u⟩:=x;obtain⟨id',ins',acq',opn',q'',c'',u'⟩:=y;dsimp only at*
   have hs2:=(hs.alloc (.cells (rZ id ins acq opn q' c' u) 47)).alloc (.cells (rZ id' ins' acq' opn' q'' c'' u') 47);have a0:=X.bx.cell (i:=0) (v:=.string id) rfl;have a1:=X.bx.cell (i:=1) (v:=.string ins) rfl;have a2:=X.bx.cell (i:=2) (v:=.int .i64 acq) rfl;have a3:=X.bx.cell (i:=3) (v:=.int .i64 opn) rfl;have a4:=X.bx.cell (i:=4) (v:=.string q') rfl;have a5:=X.bx.cell (i:=5) (v:=.string c') rfl;have a6:=X.bx.cell (i:=6) (v:=.string u) rfl;have d0:=Y.bx.cell (i:=0) (v:=.string id') rfl;have d1:=Y.bx.cell (i:=1) (v:=.string ins') rfl;have d2:=Y.bx.cell (i:=2) (v:=.int .i64 acq') rfl;have d3:=Y.bx.cell (i:=3) (v:=.int .i64 opn') rfl;have d4:=Y.bx.cell (i:=4) (v:=.string q'') rfl;have d5:=Y.bx.cell (i:=5) (v:=.string c'') rfl;have d6:=Y.bx.cell (i:=6) (v:=.string u') rfl;clear hcells hcells' hR hx hy X Y
   go_wp2_with fail
   refine K.step hs2 ?_;intro w2 hs3 hb2
   go_wp2_with fail
   go_roundw
   case rel=>exact⟨k+1,by omega,by go_num,hs3⟩
   case measure=>simp[intOf];omega
end Go.Proofs.YtjknklinhegdoaaGreatDoor
