/- THE LAW: what was split and split back is what it was. Conditions: sizes that strings can have; the library's variables lie as the program's text lays them. -/
import Derived.Deep.RegionHeld3
import Derived.Test.YtjknklinhegdoaaGreatDoorGbj
set_option linter.unusedSimpArgs false
set_option linter.unusedVariables false
set_option maxHeartbeats 4000000
set_option maxRecDepth 100000
namespace Go.Proofs.YtjknklinhegdoaaGreatDoor
open Go.RowKit Go.Shelf Dec QQ SP
attribute [local go_sem] Oper.semAt_some
attribute [-go_sem] loadVar storeVar
abbrev akZ:Array Value:= #[.string ⟨#[]⟩,.int .i64 0,.bool false,.int .i64 0,.int .i64 0,.string ⟨#[]⟩,.string ⟨#[]⟩,.string ⟨#[]⟩,.string ⟨#[]⟩,.string ⟨#[]⟩,.string ⟨#[]⟩,.string ⟨#[]⟩,.string ⟨#[]⟩,.string ⟨#[]⟩,.string ⟨#[]⟩,.string ⟨#[]⟩,.string ⟨#[]⟩,.string ⟨#[]⟩,.slice none 0 0,.slice none 0 0,.int .i64 0]
theorem sv_up (t:TypeId)(_:t≠30)(_:t≠41)(a:Addr)(v:Value):storeVar t a v=(do
 if v.cells.size≠(←sizeOf t)then stuck "storeVar: the value has not the size of the variable"
 storeCells a v.cells.toList):=rfl
attribute [local go_sem] aa3 sv_up
structure Uw (f:Fct) (lp:List Pk) (lo:List Ot) (b:Nat) (A:Option Addr) (l:List Lt) (W:World):Prop where
 fb:TBx W b (bv f) 30
 rl:Row W A (au aa l)
 fw:FcW f lp lo W
theorem Uw.on {f:Fct}{lp:List Pk}{lo:List Ot}{b:Nat}{A:Option Addr}{l:List Lt}{W W':World}(h:Uw f lp lo b A l W)(hb:Below W.heap.size W W'):Uw f lp lo b A l W':=⟨h.fb.on hb,h.rl.on hb,h.fw.on hb⟩
theorem ahP (f:Fct):Array.foldl (fun(cs:Array Value) (x:Value×Nat)=>cs.setIfInBounds x.snd x.fst) akZ (bv f).zipIdx 0 21=bv f:=by kernel_rfl
theorem akt {f:Fct}:(bv f).all (·.oneCell')=true:=by simp[bv,Value.oneCell']
theorem uQ {base n c:Nat}{W:World}{A:Option Addr}{xs:List Lt}(h:fM aa 47 7 base W (.slice A n c) n xs):Row W A (au aa xs):=by
 obtain⟨A',c',e,hr⟩:=h.row;injection e with e1 _ _
 subst e1;exact hr
theorem aeN {f:Fct}{lp:List Pk}{lo:List Ot}(h:grF f lp lo=false)(hlp:lp.length=f.np)(hlo:lo.length=f.no)(hcp:f.np≤f.cp):FcI f lp lo∧f.key.size≤24∧f.ins.size≤24∧f.rn.size≤13∧f.rd.size≤13∧f.pn.size≤13∧f.pd.size≤13:=by
 unfold grF at h;simp only[Bool.or_eq_false_iff,decide_eq_false_iff_not,List.any_eq_false]at h;obtain⟨⟨⟨⟨h1,h2⟩,h3⟩,h4⟩,h5⟩:=h;obtain⟨⟨⟨⟨⟨⟨⟨⟨⟨⟨a1,a2⟩,a3⟩,a4⟩,a5⟩,a6⟩,a7⟩,a8⟩,a9⟩,a10⟩,a11⟩:=h1;have b9:=gz a9;have b10:=gz a10;have b11:=gz a11;dsimp only at b9 b10 b11;refine⟨⟨⟨by omega,by omega,by omega,by omega,by omega,by omega,by omega,by omega,by omega,by omega,by omega,by omega,by omega,by omega⟩,hlp,hlo,by omega,by omega,hcp,?_,?_⟩,by omega,by omega,by omega,by omega,by omega,by omega⟩
 ·intro p hp
  have:=h4 p hp;unfold grP at this;simp at this;omega
 ·intro t ht
  have h:=h5 t ht;unfold grO at h;simp only[Bool.not_eq_true,Bool.or_eq_false_iff,decide_eq_false_iff_not]at h;obtain⟨⟨⟨c1,c2⟩,c3⟩,c4⟩:=h;have d2:=gz c2;have d3:=gz c3;have d4:=gz c4;dsimp only at d2 d3 d4;exact⟨by omega,by omega,by omega,by omega,by omega,by omega,by omega⟩
theorem acw {n:Nat}{l:List Lt}(h:akl n l=false):n≤1002∧∀x∈l,x.q.size≤13∧x.c.size≤13∧x.u.size≤13∧x.id.size≤40∧x.ins.size≤40:=by
 unfold akl at h;rw[Bool.or_eq_false_iff,Bool.or_eq_false_iff,decide_eq_false_iff_not,List.any_eq_false]at h;exact⟨by omega,fun x hx=>aeM (by simpa using h.2 x hx)⟩
theorem akU {f:Fct}{key:ByteArray}{d:Int}(hk:key.size≤24)(hi:f.ins.size≤24)(z1:f.rn.size≤13)(z2:f.rd.size≤13)(z3:f.pn.size≤13)(z4:f.pd.size≤13):FcI (gJ f key d (cK f.pn f.pd*cK f.rn f.rd) (1/cK f.rn f.rd)) [] []:=by
 have h1:bH 13 (cK f.pn f.pd):=bH.arg z3 z4 (by decide);have h2:bH 13 (cK f.rn f.rd):=bH.arg z1 z2 (by decide);have s1:=bH.sizes (h1.mul h2);have s2:=bH.sizes (fit1.div h2);have s0:(⟨#[]⟩:ByteArray).size ≤100:=by decide
 refine⟨⟨by show key.size≤100;omega,by show f.ins.size≤100;omega,s0,s0,s0,s0,s0,s0,by show (frN _).size ≤100;omega,by show (frD _).size ≤100;omega,by show (frN _).size ≤100;omega,by show (frD _).size ≤100;omega,s0,s0⟩,rfl,rfl,Nat.zero_le _,Nat.zero_le _,Nat.le_refl _,fun p hp=>(by cases hp),fun t ht=>(by cases ht)⟩
theorem acV {f:Fct}{key:ByteArray}{d:Int}{a b:Rat}(h:gL (gJ f key d a b) [] []=0):jU (gJ f key d a b) [] []=0:=by
 unfold jU;rw[h];rfl
theorem yT (f:Fct){lp:List Pk}{lo:List Ot}{A:Option Addr}{n c:Nat}{l:List Lt}(key:ByteArray)(d:Int)(hn:l.length=n)(hm:n≤9223372036854775807)(hz:∀x∈l,x.big)(hf:f.big)(hcp:f.np≤f.cp)(hlp:lp.length=f.np)(hlo:lo.length=f.no)(hzp:∀p∈lp,p.lot.size≤9223372036854775807∧p.q.size≤9223372036854775807)(hzo:∀t∈lo,t.big)(hkey:key.size≤9223372036854775807):
 ig (fun w=>Row w A (au aa l)∧FcW f lp lo w) 3 #[.slice A n c,fI f,.string key,.int .i64 d] (.bool true):=by
 intro w hg hi;have hs:=((St.refl hg).alloc (.cells (bv f) 30)).alloc (.cells (bv f) 30);have HU:Hid (Uw f lp lo w.heap.size A l ((w.alloc (.cells (bv f) 30)).alloc (.cells (bv f) 30))):=⟨(TBx.new w (bv f) 30).alloc _,hi.1.on hs.2,hi.2.on hs.2⟩;have HB1:Hid (TBx ((w.alloc (.cells (bv f) 30)).alloc (.cells (bv f) 30)) (w.heap.size+1) (bv f) 30):=by
  have:=TBx.new (w.alloc (.cells (bv f) 30)) (bv f) 30;rwa[alf]at this
 have x0:=(TBx.new w (bv f) 30).bx.fact rfl;have KG:=abQ f (A:=A) (c:=c) (b:=w.heap.size+1) (c':=1) hn hm hz hf hlp hlo hzp hzo;have KA:=top48R;have hfs:(bv f).size =21:=rfl;have HN:=ala hn;have hFI:=fun h=>aeN (f:=f) (lp:=lp) (lo:=lo) h hlp hlo hcp
 have HFI:=ala hFI;obtain⟨bg,hbg⟩:∃bg,(akl n l||grF f lp lo)=bg:=⟨_,rfl⟩;rw[hbg]at KG;have HBG:=ala hbg;have q24:decide ((24:Int)<(key.size:Int))=decide (24<key.size):=by rw[decide_eq_decide];omega
 obtain⟨bk,hbk⟩:∃bk,decide (24<key.size)=bk:=⟨_,rfl⟩;rw[hbk]at q24;have HBK:=ala hbk;clear hn hz hf hlp hlo hzp hzo hcp hi hg hbg hbk hFI;unfold fI
 go_enter Tryz.func3,Tryz.ntmps3
 go_wp2_with fail
 rw[ahP];refine KG.step hs ⟨HU.out.rl,HB1.out,HU.out.fw⟩ ?_;intro w1 hs hb1;replace HU:=ala (HU.out.on hb1);clear KG x0 HB1 hb1;cases bg with
 |true=>
  go_wp2_with fail
  refine KA.step hs ?_;intro wA hs hbA
  go_wp2_with fail
  go_ret
  exact⟨rfl,hs.2⟩
 |false=>
 cases bk with
 |true=>
  go_wp2_with fail
  refine KA.step hs ?_;intro wA hs hbA
  go_wp2_with fail
  go_ret
  exact⟨rfl,hs.2⟩
 |false=>
 have hbg:=HBG.out;rw[Bool.or_eq_false_iff]at hbg;obtain⟨hFI,zk,zi,zrn,zrd,zpn,zpd⟩:=HFI.out hbg.2;obtain⟨hn2,hzl⟩:=acw hbg.1;have zkey:key.size≤24:=by have:=of_decide_eq_false HBK.out;omega
 have HZL:=ala hzl;have HI:=ala hFI;have HSZ:=ala (And.intro zk (And.intro zi (And.intro zrn (And.intro zrd (And.intro zpn (And.intro zpd zkey))))));clear HBG HFI HBK hbg hFI zk zi zrn zrd zpn zpd zkey hzl;have K2:=mG f HI.out;obtain⟨e1,he1⟩:∃e1,jU f lp lo=e1:=⟨_,rfl⟩;rw[he1]at K2;have HE1:=ala he1;clear he1;have x0:=HU.out.fb.bx.fact rfl;unfold fI at K2
 go_wp2_with fail
 refine K2.step hs HU.out.fw ?_;intro w2 hs hb2;replace HU:=ala (HU.out.on hb2);clear K2 x0 hb2;by_cases h1:e1=0
 case neg=>
  have q1:(e1 !=0)=true:=by simpa using h1
  have q2:(e1==0)=false:=by simpa using h1
  go_wp2_with fail
  refine KA.step hs ?_;intro wA hs hbA
  go_wp2_with fail
  go_ret
  exact⟨rfl,hs.2⟩
 subst h1;have x15:=HU.out.fb.bx.cell (i:=15) (v:=.string f.rd) rfl;by_cases hrd:f.rd=⟨#[]⟩
 case neg=>
  have q0:¬f.rd.toList=[]:=fun e=>hrd (toList_inj (by rw[e,aD];rfl))
  have q1:(f.rd.toList== [])=false:=by simpa using q0
  have q2:(f.rd.toList !=[])=true:=by simpa using q0
  go_wp2_with fail
  refine KA.step hs ?_;intro wA hs hbA
  go_wp2_with fail
  go_ret
  exact⟨rfl,hs.2⟩
 have q0:f.rd.toList=[]:=by rw[hrd,aD];rfl
 have q1:(f.rd.toList== [])=true:=by rw[q0];rfl
 have q2:(f.rd.toList !=[])=false:=by rw[q0];rfl
 have hSP:=uG HE1.out;have hW:=kY hSP hrd;have HSP:=ala hSP;have HRD:=ala hrd;have hIB:=akU (f:=f) (key:=key) (d:=d) HSZ.out.2.2.2.2.2.2 HSZ.out.2.1 HSZ.out.2.2.1 HSZ.out.2.2.2.1 HSZ.out.2.2.2.2.1 HSZ.out.2.2.2.2.2.1;have K3:=ala (aix f HI.out HE1.out key d (Vq.arg (n:=f.pn) (d:=f.pd) (by have:=HSZ.out.2.2.2.2.1;omega) (by have:=HSZ.out.2.2.2.2.2.1;omega)) (Vq.arg (n:=f.rn) (d:=f.rd) (by have:=HSZ.out.2.2.1;omega) (by have:=HSZ.out.2.2.2.1;omega)) (by have:=hSP.r0;grind) hIB);have HIB:=ala hIB;obtain⟨e2,he2⟩:∃e2,gL (gJ f key d (cK f.pn f.pd*cK f.rn f.rd) (1/cK f.rn f.rd)) [] []=e2:=⟨_,rfl⟩;rw[he2]at K3;have HE2:=ala he2;obtain⟨bf,hbf⟩:∃bf,(if e2=0 then(gJ f key d (cK f.pn f.pd*cK f.rn f.rd) (1/cK f.rn f.rd))else ai7)=bf:=⟨_,rfl⟩;rw[hbf]at K3;have HBF:=ala hbf;have HS1:Hid (∀v:World,(storeVar 30 ⟨v.heap.size,0,none⟩ (.agg (bv bf))).run Tryz.prog (v.alloc (.cells akZ 30))= .ok () (v.alloc (.cells (bv bf) 30))):=fun v=>by
  rw[TBx.storeF (TBx.new v akZ 30) rfl rfl akt,World.setRow_alloc_new]
 clear hSP hrd hIB he2 hbf q24;unfold fI at K3;have x0:=HU.out.fb.bx.fact rfl
 go_wp2_with fail
 refine(K3.out).step hs HU.out.fw ?_;intro w3 hs hb3;have S1:=HS1.out w3;have HB9:Hid (TBx (w3.alloc (.cells (bv bf) 30)) w3.heap.size (bv bf) 30):=TBx.new _ _ _;replace HU:=ala ((HU.out.on hb3).on (bal w3 (.cells (bv bf) 30)));have hs:=hs.alloc (.cells (bv bf) 30);clear K3 x0 x15 q0 q1 q2 hb3 HS1;by_cases h2:e2=0
 case neg=>
  have q1:(e2 !=0)=true:=by simpa using h2
  have q2:(e2==0)=false:=by simpa using h2
  go_wp2_with fail
  refine KA.step hs ?_;intro wA hs hbA
  go_wp2_with fail
  go_ret
  exact⟨rfl,hs.2⟩
 subst h2;have hbf:bf=(gJ f key d (cK f.pn f.pd*cK f.rn f.rd) (1/cK f.rn f.rd)):=HBF.out.symm;have hIb:FcI bf [] []:=by rw[hbf];exact HIB.out
 have hSb:jU bf [] []=0:=by rw[hbf];exact acV HE2.out
 have HIb:=ala hIb;have HSb:=ala hSb;have hzL:∀x∈l,x.le 1000:=fun x hx=>by
  obtain⟨a1,a2,a3,a4,a5⟩:=HZL.out x hx;exact⟨by omega,by omega,by omega,by omega,by omega⟩
 have hqL:∀x∈l,x.q.size≤13∧x.c.size≤13:=fun x hx=>⟨(HZL.out x hx).1,(HZL.out x hx).2.1⟩
 have HH1:aL l=0→MapHyp (mapOf f) l (aj f.rn*(iv ((av f.ins l).map (·.q))).sum):=fun h=>akj HSP.out HI.out.le HRD.out HSZ.out.1 (by have:=HSZ.out.2.1;omega) HSZ.out.2.2.1 HSZ.out.2.2.2.2.1 HSZ.out.2.2.2.2.2.1 h hqL
 have K4:=ala (fun(W:World) (g:Gl W) (r:Row W A (au aa l)) (q:FcW f lp lo W)=>yJ f HI.out HE1.out (A:=A) (n:=n) (c:=c) HN.out (by omega) hzL HH1 W g r q);have HH2:Hid (∀R1,aL l=0→MapFine (mapOf f) l (aj f.rn*(iv ((av f.ins l).map (·.q))).sum) R1→(∀x∈R1,x.le 1000)∧(aL R1=0)∧MapHyp (mapOf bf) R1 (iv ((av f.ins l).map (·.q))).sum):=fun R1 h0 hR=>⟨aks hR hzL (HH1 h0).fr,iF hR h0,by
  rw[hbf];exact aki HSP.out HRD.out ((bH.arg (k:=13) HSZ.out.2.2.2.2.1 HSZ.out.2.2.2.2.2.1 (by decide)).mono (by omega)) (by rw[←hbf];exact uG hSb) (by rw[←hbf];exact hIb.le) HSZ.out.2.2.2.2.2.2 (by have:=HSZ.out.2.1;omega) HSZ.out.2.2.1 h0 hqL hR⟩
 have LAW:Hid (∀R1 R2,aL l=0→MapFine (mapOf f) l (aj f.rn*(iv ((av f.ins l).map (·.q))).sum) R1→MapFine (mapOf bf) R1 (iv ((av f.ins l).map (·.q))).sum R2→(av f.ins l).map ahw=(av f.ins R2).map ahw):=fun R1 R2 h0 h1 h2=>
  (wL (m1:=mapOf f) (m2:=mapOf bf) (I:=f.ins) (kY HSP.out HRD.out).2 h0 rfl rfl (by rw[hbf];rfl) (by rw[hbf];rfl) h1 h2).symm
 have LAW2:Hid (∀R1,aL l=0→MapFine (mapOf f) l (aj f.rn*(iv ((av f.ins l).map (·.q))).sum) R1→¬MapFail (mapOf bf) R1 (iv ((av f.ins l).map (·.q))).sum):=fun R1 h0 h1 h2=>by
  obtain⟨k,M,x,hx,hM,hno⟩:=h2.no;have ei:(mapOf bf).ins =f.ins:=by rw[hbf];rfl
  have hold:=h2.old;rw[ei]at hold hM;exact hno (uA (m1:=mapOf f) (m2:=mapOf bf) (I:=f.ins) (kY HSP.out HRD.out).2 h0 rfl rfl ei (by rw[hbf];rfl) (uG hSb).key h1 hold h2.ids hx hM)
 clear hbf hIb hSb hzL hqL HH1 HI HSZ HZL HSP HRD HIB HE1 HE2 HBF hW;generalize aj f.rn*(iv ((av f.ins l).map (·.q))).sum =z1 at*
 generalize (iv ((av f.ins l).map (·.q))).sum =z2 at*
 have x0:=HU.out.fb.bx.fact rfl
 go_wp2_with fail
 refine(K4.out _ hs.gl HU.out.rl HU.out.fw).mono ?_;rintro e w4 ⟨hb4,v4,rfl,vL,vS,vE,er,rfl,o1,o2,o3,hor⟩;have HS4:(storeVar 41 ⟨w4.heap.size,0,none⟩ (.agg #[vL,.slice none 0 0,vS,vE])).run Tryz.prog (w4.alloc (.cells #[.slice none 0 0,.slice none 0 0,.slice none 0 0,.slice none 0 0] 41))= .ok () (w4.alloc (.cells #[vL,.slice none 0 0,vS,vE] 41)):=by
  rw[TBx.storeR (TBx.new w4 #[.slice none 0 0,.slice none 0 0,.slice none 0 0,.slice none 0 0] 41) rfl rfl (one4 o1 o2 o3),World.setRow_alloc_new]
 have hb5:=bal w4 (.cells #[vL,.slice none 0 0,vS,vE] 41);have H11:Hid (TBx (w4.alloc (.cells #[vL,.slice none 0 0,vS,vE] 41)) w4.heap.size #[vL,.slice none 0 0,vS,vE] 41):=TBx.new _ _ _;replace HU:=ala ((HU.out.on hb4).on hb5);replace HB9:=ala ((HB9.out.on hb4).on hb5);replace hs:=(hs.on hb4).on hb5;have HOR:=ala hor;have HB5:=ala hb5;clear K4 x0 hb4 hb5 o1 o2 o3 hor;by_cases h3:er=0
 case neg=>
  have q1:(er !=0)=true:=by simpa using h3
  have q2:(er==0)=false:=by simpa using h3
  obtain rfl:vL= .slice none 0 0:=by
   rcases HOR.out with ⟨_,h0,_⟩|⟨h,_⟩
   ·exact absurd h0 h3
   ·exact h
  have y0:=H11.out.bx.cell (i:=0) (v:=.slice none 0 0) rfl
  go_wp2_with fail
  refine KA.step hs ?_;intro wA hs hbA
  go_wp2_with fail
  go_ret
  exact⟨rfl,hs.2⟩
 subst h3;have HG:Hid (aL l=0∧∃R,MapFine (mapOf f) l z1 R∧fM aa 47 7 (w3.alloc (.cells (bv bf) 30)).heap.size w4 vL R.length R):=by
  rcases HOR.out with ⟨h0,_,h⟩|⟨_,⟨_,h⟩|⟨_,h|⟨h,_⟩⟩⟩
  ·exact⟨h0,h⟩
  ·cases h
  ·cases h
  ·cases h
 obtain⟨hl0,R1,hR1,hO1⟩:=HG.out;obtain⟨A1,c1,rfl⟩:=fK hO1.2;have HL0:=ala hl0;have HR1:=ala hR1;have HO1:=ala (hO1.on HB5.out);clear HG HOR hl0 hR1 hO1;obtain⟨hz1,hl1,hy1⟩:=HH2.out R1 HL0.out HR1.out;have hn1:R1.length≤1000000:=by have:=((bQ R1).1 hl1).1;omega
 have HL1:=ala hl1;have K5:=ala (fun(W:World) (g:Gl W) (r:Row W A1 (au aa R1))=>yJ bf HIb.out HSb.out (A:=A1) (c:=c1) rfl hn1 hz1 (fun _=>hy1) W g r (aeU bf W));clear hz1 hl1 hy1 HH2 hn1;have y0:=H11.out.bx.cell (i:=0) (v:=.slice A1 R1.length c1) rfl;have x0:=HB9.out.bx.fact rfl;unfold fI at K5
 go_wp2_with fail
 refine(K5.out _ hs.gl (uQ HO1.out)).mono ?_;rintro e w5 ⟨hb6,v5,rfl,vL2,vS2,vE2,er2,rfl,o1,o2,o3,hor⟩;have HS5:(storeVar 41 ⟨w5.heap.size,0,none⟩ (.agg #[vL2,.slice none 0 0,vS2,vE2])).run Tryz.prog (w5.alloc (.cells #[.slice none 0 0,.slice none 0 0,.slice none 0 0,.slice none 0 0] 41))= .ok () (w5.alloc (.cells #[vL2,.slice none 0 0,vS2,vE2] 41)):=by
  rw[TBx.storeR (TBx.new w5 #[.slice none 0 0,.slice none 0 0,.slice none 0 0,.slice none 0 0] 41) rfl rfl (one4 o1 o2 o3),World.setRow_alloc_new]
 have hb7:=bal w5 (.cells #[vL2,.slice none 0 0,vS2,vE2] 41);have H13:Hid (TBx (w5.alloc (.cells #[vL2,.slice none 0 0,vS2,vE2] 41)) w5.heap.size #[vL2,.slice none 0 0,vS2,vE2] 41):=TBx.new _ _ _;replace HU:=ala ((HU.out.on hb6).on hb7);replace H11:=ala ((H11.out.on hb6).on hb7);replace hs:=(hs.on hb6).on hb7;have HOR:=ala hor;have HB7:=ala hb7;clear K5 x0 y0 hb6 hb7 o1 o2 o3 hor HB9;by_cases h4:er2=0
 case neg=>
  obtain rfl:er2=5:=by
   rcases HOR.out with ⟨_,h0,_⟩|⟨_,⟨h,_⟩|⟨_,h|⟨_,h⟩⟩⟩
   ·exact absurd h0 h4
   ·exact absurd HL1.out h
   ·exact h
   ·exact absurd h (LAW2.out R1 HL0.out HR1.out)
  go_wp2_with fail
  refine KA.step hs ?_;intro wA hs hbA
  go_wp2_with fail
  go_ret
  exact⟨rfl,hs.2⟩
 subst h4;have HG:Hid (∃R,MapFine (mapOf bf) R1 z2 R∧fM aa 47 7 (w4.alloc (.cells #[.slice A1 R1.length c1,.slice none 0 0,vS,vE] 41)).heap.size w5 vL2 R.length R):=by
  rcases HOR.out with ⟨_,_,h⟩|⟨_,⟨_,h⟩|⟨_,h|⟨h,_⟩⟩⟩
  ·exact h
  ·cases h
  ·cases h
  ·cases h
 obtain⟨R2,hR2,hO2⟩:=HG.out;obtain⟨A2,c2,rfl⟩:=fK hO2.2;have HO2:=ala (hO2.on HB7.out);have hkey:=LAW.out R1 R2 HL0.out HR1.out hR2;have HKEY:=ala hkey;have HMF:=ala (iF hR2 HL1.out);have HNR:Hid (∀R:List Lt,aL R=0→R.length≤1000000):=fun R h=>by have:=((bQ R).1 h).1;omega
 clear HG HOR hR2 hO2 hkey LAW LAW2;have y1:=H11.out.bx.cell (i:=1) (v:=.slice none 0 0) rfl;have y3:=H13.out.bx.cell (i:=1) (v:=.slice none 0 0) rfl
 go_wp2_with fail
 obtain⟨W6,hW6⟩:∃W6,w5.alloc (.cells #[.slice A2 R2.length c2,.slice none 0 0,vS2,vE2] 41)=W6:=⟨_,rfl⟩;rw[hW6]at HU H13 HO2 hs H11 HB7⊢
 clear hW6 y1 y3 HB7 HB5 H11 HO1;have hgl:Hid (∀v,Below W6.heap.size W6 v→Gl v):=fun v hv=>hs.gl.below hv
 have hSOK:Hid (∀v,Below W6.heap.size W6 v→v.cell? ⟨w.heap.size,5,none⟩=some (.string f.ins)∧v.cell? ⟨w5.heap.size,0,none⟩=some (.slice A2 R2.length c2)):=fun v hv=>⟨(HU.out.fb.on hv).bx.cell (i:=5) rfl,(H13.out.on hv).bx.cell (i:=0) rfl⟩
 have KO1:=ala (wH (A:=A) (n:=n) (c:=c) (L:=l) (ins:=f.ins) HN.out (by omega));have hn2:R2.length≤1000000:=HNR.out R2 HMF.out;have KO2:=ala (wH (A:=A2) (n:=R2.length) (c:=c2) (L:=R2) (ins:=f.ins) rfl hn2);have BL0:Hid (Below W6.heap.size W6 W6.drew):=(alJ _ _).drew
 go_region_held3 (fun v=>v.cell? ⟨w.heap.size,5,none⟩=some (.string f.ins)∧v.cell? ⟨w5.heap.size,0,none⟩=some (.slice A2 R2.length c2))
  (first|with_reducible exact hSOK.out _ BL2.out|with_reducible exact hSOK.out _ BL1.out|with_reducible exact hSOK.out _ BL0.out)
  (first
   |(go_at_call 10;refine(KO1.out W6.drew (hgl.out _ BL0.out) (HU.out.rl.on BL0.out)).mono ?_;rintro e w7 ⟨v7,rfl,ho7,hb7⟩;obtain⟨A7,c7,rfl⟩:=fK ho7.2;have BL1:Hid (Below W6.heap.size W6 w7):=BL0.out.trans (hb7.mono BL0.out.size);have HO7:=ala ho7;clear ho7 hb7)
   |(go_at_call 10;refine(KO2.out w7 (hgl.out _ BL1.out) (uQ (HO2.out.on BL1.out))).mono ?_;rintro e w8 ⟨v8,rfl,ho8,hb8⟩;obtain⟨A8,c8,rfl⟩:=fK ho8.2;have BL2:Hid (Below W6.heap.size W6 w8):=BL1.out.trans (hb8.mono BL1.out.size);have HR7:=ala (uQ (HO7.out.on hb8));have HO8:=ala ho8;clear ho8 hb8)
   |fail)
 have hs8:=hs.on BL2.out;have KE:=ala (akx (A:=A7) (B:=A8) (c:=c7) (d:=c8) (n:=(av f.ins l).length) (m:=(av f.ins R2).length) rfl rfl (by have:=uI f.ins l;have:=HN.out;omega) HKEY.out);clear hSOK hgl KO1 KO2 BL0 BL1 BL2 HO7
 go_wp2_with fail
 refine(KE.out).step hs8 ⟨HR7.out,uQ HO8.out⟩ ?_;intro w9 hs hb9;clear KE
 go_wp2_with fail
 refine KA.step hs ?_;intro wA hs hbA
 go_wp2_with fail
 go_ret
 exact⟨rfl,hs.2⟩
end Go.Proofs.YtjknklinhegdoaaGreatDoor
