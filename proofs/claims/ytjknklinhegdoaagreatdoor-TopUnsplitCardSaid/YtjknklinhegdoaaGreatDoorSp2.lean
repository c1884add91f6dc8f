/- Splits: split.Apply. Conditions: lists and texts of bounded length; the library's variables lie as the program's text lays them. -/
import Derived.Deep.RegionHeld3
import Derived.Test.YtjknklinhegdoaaGreatDoorGas
import Derived.Test.YtjknklinhegdoaaGreatDoorGbd
import Derived.Test.YtjknklinhegdoaaGreatDoorLm9
set_option linter.unusedSimpArgs false
set_option linter.unusedVariables false
set_option maxHeartbeats 4000000
set_option maxRecDepth 100000
namespace Go.Proofs.YtjknklinhegdoaaGreatDoor
open Go.RowKit Go.Shelf Dec QQ SP
attribute [local go_sem] Oper.semAt_some
attribute [-go_sem] loadVar storeVar
abbrev aau:Array Value:= #[.string ⟨#[]⟩,.int .i64 0,.string ⟨#[]⟩,.string ⟨#[]⟩,.string ⟨#[]⟩,.string ⟨#[]⟩,.string ⟨#[]⟩,.string ⟨#[]⟩,.string ⟨#[]⟩,.string ⟨#[]⟩,.bool false]
abbrev af9 (x0:ByteArray)(x1:Int)(x2 x3 x4 x5 x6 x7:ByteArray):Array Value:= #[.string x0,.int .i64 x1,.string x2,.string x3,.string x4,.string x5,.string ⟨#[49]⟩,.string ⟨#[]⟩,.string x6,.string x7,.bool false]
theorem lv_sp (t:TypeId)(_:t≠30)(_:t≠75)(_:t≠41)(a:Addr):loadVar t a=(do if←isAgg t then pure (.agg (←loadCells a (←sizeOf t)))else load a):=rfl
theorem sv_sp (t:TypeId)(_:t≠75)(_:t≠41)(a:Addr)(v:Value):storeVar t a v=(do
 if v.cells.size≠(←sizeOf t)then stuck "storeVar: the value has not the size of the variable"
 storeCells a v.cells.toList):=rfl
attribute [local go_sem] lv_sp sv_sp
theorem infoE:(Tryz.prog.info? 83).map (fun i=>(i.zero,i.size,i.bytes))=some (some (.agg #[.int .i64 0,.int .i64 0,.string ⟨#[]⟩,.string ⟨#[]⟩,.string ⟨#[]⟩,.string ⟨#[]⟩,.slice none 0 0]),7,104):=by kernel_rfl
def mapOf (f:Fct):MapS:=⟨f.key,f.day,f.ins,f.ins,f.rn,f.rd,⟨#[49]⟩,⟨#[]⟩,f.pn,f.pd,false⟩
theorem TBx.storeM {w:World}{b:Nat}{cs cs':Array Value}{T:TypeId}(h:TBx w b cs T)(hs:cs.size=11)(hs':cs'.size=11)(h1:cs'.all (·.oneCell')=true):(storeVar 75 ⟨b,0,none⟩ (.agg cs')).run Tryz.prog w= .ok () (w.setRow b cs'):=
 run_storeVar_row (P:=Tryz.prog) w b T 75 cs cs' h (by rw[hs'];kernel_rfl) (by rw[hs,hs']) h1
theorem one4 {a b c:Value}(h1:a.oneCell'=true)(h2:b.oneCell'=true)(h3:c.oneCell'=true):(#[a,.slice none 0 0,b,c]:Array Value).all (·.oneCell')=true:=by
 have e:(Value.slice none 0 0).oneCell' =true:=rfl;simp[h1,h2,h3,e]
structure MapHyp (m:MapS) (l:List Lt) (z:Int):Prop where
 mo:MOk m
 ex:∃r pr:Rat,Vq m.rn m.rd r∧bH 1000 r∧Vq m.pn m.pd pr∧bH 1000 pr∧((iv (mqL m l)).sum :Rat)*r=(z:Rat)
 ms:∀x∈rF m l,Fit 3000 x
 fs:∀x∈rE m l,Fit 3000 x
 nz:∀x∈rR m l z,x≠0
 z0:av m.ins l≠ []→z≠0
 fr:∀x∈bD m l z,x.le 1000
 fp:∀x∈dM ⟨#[]⟩ (mqL m l),Fit 3000 x
def ApAns (m:MapS)(l:List Lt)(z:Int)(base:Nat)(w':World)(v:Value):Prop:=
 ∃vL vS vE er,v= .tuple #[.agg #[vL,.slice none 0 0,vS,vE],.int .i64 er]∧vL.oneCell'=true∧vS.oneCell'=true∧vE.oneCell'=true∧
  ((aL l=0∧er=0∧∃R,MapFine m l z R∧fM aa 47 7 base w' vL R.length R)∨(vL= .slice none 0 0∧((aL l≠0∧er=1)∨(aL l=0∧(er=5∨(er=4∧MapFail m l z))))))
structure Fa (w:World) (f:Fct) (rc:Array Value) (W:World):Prop where
 low:Below w.heap.size w W
 fb:TBx W w.heap.size (bv f) 30
 rb:TBx W (w.heap.size+1) rc 41
theorem Fa.on {w:World}{f:Fct}{rc:Array Value}{W W':World}(h:Fa w f rc W)(hb:Below W.heap.size W W'):Fa w f rc W':=⟨h.low.trans (hb.mono h.low.size),h.fb.on hb,h.rb.on hb⟩
theorem Fa.set {w:World}{f:Fct}{rc:Array Value}{W:World}(h:Fa w f rc W)(rc':Array Value):Fa w f rc' (W.setRow (w.heap.size+1) rc'):=⟨below_setRow h.low (by omega) _,h.fb.rowOther (by omega) _,h.rb.row _⟩
theorem Fa.setC {w:World}{f:Fct}{rc:Array Value}{W:World}(h:Fa w f rc W){b:Nat}(hb:w.heap.size+1<b)(j:Nat)(v:Value):Fa w f rc (W.setCell ⟨b,j,none⟩ v):=⟨h.low.setCell (p:=⟨b,j,none⟩) (by show w.heap.size≤b;omega) _,h.fb.other (by omega) _ _,h.rb.other (by omega) _ _⟩
theorem Fa.out {w:World}{f:Fct}{rc:Array Value}{W:World}{base n:Nat}{v:Value}{xs:List Lt}(h:Fa w f rc W)(ho:fM aa 47 7 base W v n xs)(rc':Array Value):fM aa 47 7 base (W.setRow (w.heap.size+1) rc') v n xs:=
 ⟨ho.1,bX ho.2 h.rb (fun cur e=>by injection e with _ e;revert e;decide) (cZ _ _ _)⟩
theorem yJ (f:Fct){lp:List Pk}{lo:List Ot}(hI:FcI f lp lo)(hsp:jU f lp lo=0){A:Option Addr}{n c:Nat}{l:List Lt}{z:Int}(hn:l.length=n)(hm:n≤1000000)(hz:∀x∈l,x.le 1000)(hh:aL l=0→MapHyp (mapOf f) l z)(w:World)(hg:Gl w)(hr:Row w A (au aa l))(hw:FcW f lp lo w):
 Calls Tryz.prog 9 #[.slice A n c,fI f] w fun e w'=>Below w.heap.size w w'∧∃v,e= .returned v∧ApAns (mapOf f) l z w.heap.size w' v:=by
 have K1:=ala (vF (A:=A) (c:=c) hn hm hz);have K2:=ala (mG f hI);rw[hsp]at K2;have hs:=((St.refl hg).alloc (.cells (bv f) 30)).alloc (.cells #[.slice none 0 0,.slice none 0 0,.slice none 0 0,.slice none 0 0] 41);have F0:Fa w f #[.slice none 0 0,.slice none 0 0,.slice none 0 0,.slice none 0 0] ((w.alloc (.cells (bv f) 30)).alloc (.cells #[.slice none 0 0,.slice none 0 0,.slice none 0 0,.slice none 0 0] 41)):=⟨hs.2,(TBx.new w (bv f) 30).alloc _,by
  have:=TBx.new (w.alloc (.cells (bv f) 30)) #[.slice none 0 0,.slice none 0 0,.slice none 0 0,.slice none 0 0] 41;rwa[alf]at this⟩
 have HF:=ala F0;have HR:=ala (hr.on hs.2);have HW:=ala (hw.on hs.2);have HN:=ala hn;have HZ:=ala hz;have HH:=ala hh;have HI:=ala hI;clear hn hz hh hI hsp hg hr hw F0;obtain⟨le,hle⟩:∃le,aL l=le:=⟨_,rfl⟩;rw[hle]at K1;have HLE:=ala hle;clear hle;unfold fI at*
 go_enter Tryz.func9,Tryz.ntmps9
 go_wp2_with fail
 refine(K1.out).step hs HR.out ?_;intro w1 hs hb1;replace HF:=ala (HF.out.on hb1);replace HR:=ala (HR.out.on hb1);replace HW:=ala (HW.out.on hb1);clear hb1 K1;by_cases hl0:le=0
 case neg=>
  have q1:(le !=0)=true:=by simpa using hl0
  have q2:(le==0)=false:=by simpa using hl0
  have hst1:=HF.out.rb.storeR (cs':= #[.slice none 0 0,.slice none 0 0,.slice none 0 0,.slice none 0 0]) rfl rfl (by simp[Value.oneCell']);have HF9:=ala (HF.out.set #[.slice none 0 0,.slice none 0 0,.slice none 0 0,.slice none 0 0]);have r9:=HF9.out.rb.bx.result rfl;clear HR HW K2
  go_wp2_with fail
  refine bodyPost_ret (v:=.tuple #[.agg #[.slice none 0 0,.slice none 0 0,.slice none 0 0,.slice none 0 0],.int .i64 1]) (by simp[results,Tryz.results9,go_sem,r9]) rfl ⟨HF9.out.low,_,rfl,_,_,_,1,rfl,rfl,rfl,rfl,.inr ⟨rfl,.inl ⟨by rw[HLE.out];exact hl0,rfl⟩⟩⟩
 subst hl0;have xf:=HF.out.fb.bx.fact rfl
 go_wp2_with fail
 refine(K2.out).step hs HW.out ?_;intro w2 hs hb2;replace HF:=ala (HF.out.on hb2);replace HR:=ala (HR.out.on hb2);clear hb2 K2 HW xf;have HH1:=ala (HH.out HLE.out);clear HH
 go_wp2_with fail
 have BL0:Hid (Below w2.heap.size w2 w2.drew):=(alJ _ _).drew;have BL0b:Hid (Below w2.heap.size w2 (w2.drew.alloc (.cells aau 75))):=BL0.out.alloc BL0.out.size _;have BL0c:Hid (Below w2.heap.size w2 ((w2.alloc (.cells aau 75)).drew)):=BL0b.out;have TA0b:Hid (TBx (w2.drew.alloc (.cells aau 75)) w2.heap.size aau 75):=TBx.new w2.drew _ _;have hgl:Hid (∀v,Below w2.heap.size w2 v→Gl v):=fun v hv=>hs.gl.below hv
 have hSOK:Hid (∀v,Below w2.heap.size w2 v→v.cell? ⟨w.heap.size,0,none⟩=some (.string f.key)∧v.cell? ⟨w.heap.size,3,none⟩=some (.int .i64 f.day)∧v.cell? ⟨w.heap.size,5,none⟩=some (.string f.ins)∧v.cell? ⟨w.heap.size,12,none⟩=some (.string f.pn)∧v.cell? ⟨w.heap.size,13,none⟩=some (.string f.pd)∧v.cell? ⟨w.heap.size,14,none⟩=some (.string f.rn)∧v.cell? ⟨w.heap.size,15,none⟩=some (.string f.rd)):=fun v hv=>
  let X:=(HF.out.fb.on hv).bx
  ⟨X.cell (i:=0) rfl,X.cell (i:=3) rfl,X.cell (i:=5) rfl,X.cell (i:=12) rfl,X.cell (i:=13) rfl,X.cell (i:=14) rfl,X.cell (i:=15) rfl⟩
 have HS1:Hid (∀v:World,(storeVar 75 ⟨v.heap.size,0,none⟩ (.agg (af9 f.key f.day f.ins f.ins f.rn f.rd f.pn f.pd))).run Tryz.prog (v.alloc (.cells aau 75))= .ok () (v.alloc (.cells (af9 f.key f.day f.ins f.ins f.rn f.rd f.pn f.pd) 75))):=fun v=>by
  rw[TBx.storeM (TBx.new v aau 75) rfl rfl (by simp[Value.oneCell']),World.setRow_alloc_new]
 have KOF:Hid (Ret 16 #[.string ⟨#[49]⟩] (.agg #[.string ⟨#[49]⟩,.string ⟨#[]⟩])):=by
  have:=OfF (a:=⟨#[49]⟩) (x:=1) ⟨by decide,by decide⟩ (by decide);rwa[show ((1:Int):Rat)=1 from rfl,abj]at this
 go_cut [6]from 24 to 37 (fun s6 wx=>∃bk:Nat,s6= .pointer (some ⟨bk,0,none⟩)∧Hid (Below w2.heap.size w2 wx∧TBx wx bk (af9 f.key f.day f.ins f.ins f.rn f.rd f.pn f.pd) 75∧w2.heap.size≤bk))
 case first=>
  go_region_held3 (fun v=>v.cell? ⟨w.heap.size,0,none⟩=some (.string f.key)∧v.cell? ⟨w.heap.size,3,none⟩=some (.int .i64 f.day)∧v.cell? ⟨w.heap.size,5,none⟩=some (.string f.ins)∧v.cell? ⟨w.heap.size,12,none⟩=some (.string f.pn)∧v.cell? ⟨w.heap.size,13,none⟩=some (.string f.pd)∧v.cell? ⟨w.heap.size,14,none⟩=some (.string f.rn)∧v.cell? ⟨w.heap.size,15,none⟩=some (.string f.rd))
   (first|with_reducible exact hSOK.out _ BL2a.out|with_reducible exact hSOK.out _ BL2b.out|with_reducible exact hSOK.out _ (BL2a.out.alloc BL2a.out.size _)|with_reducible exact hSOK.out _ (below_setRow BL2b.out alK _)|with_reducible exact hSOK.out _ BL0.out|with_reducible exact hSOK.out _ BL0b.out|with_reducible exact hSOK.out _ BL0c.out)
   (first
    |(go_at_call 16;refine(KOF.out w2.drew (hgl.out _ BL0.out)).mono ?_;rintro e w3 ⟨rfl,hb3⟩;have BL2a:Hid (Below w2.heap.size w2 w3):=BL0.out.trans (hb3.mono BL0.out.size);have S1:=HS1.out w3;clear hb3)
    |(go_at_call 16;refine(KOF.out (w2.drew.alloc (.cells aau 75)) (hgl.out _ BL0b.out)).mono ?_;rintro e w3 ⟨rfl,hb3⟩;have BL2b:Hid (Below w2.heap.size w2 w3):=BL0b.out.trans (hb3.mono BL0b.out.size);have TA2b:=ala (TA0b.out.on hb3);have S1:=TA2b.out.storeM (cs':=(af9 f.key f.day f.ins f.ins f.rn f.rd f.pn f.pd)) rfl rfl (by simp[Value.oneCell']);clear hb3))
  all_goals (go_wp2_with fail;go_meet)
  all_goals first
   |exact⟨_,rfl,BL2a.out.alloc BL2a.out.size _,TBx.new _ _ _,BL2a.out.size⟩
   |exact⟨_,rfl,below_setRow BL2b.out alK _,TA2b.out.row _,Nat.le_refl _⟩
 case rest=>
 obtain⟨bk,rfl,H1⟩:=hcut;have hs3:=hs.on H1.out.1;replace HF:=ala (HF.out.on H1.out.1);replace HR:=ala (HR.out.on H1.out.1);have HM:=ala H1.out.2.1;clear hgl hSOK BL0 BL0b BL0c TA0b HS1 KOF H1;obtain⟨r,pr,hr,hrf,hpp,hpf,hwz⟩:=HH1.out.ex;have KM:=ala (ajW (c':=c) (mapOf f) rfl HH1.out.mo HN.out HLE.out HZ.out hr hrf rfl rfl hpp hpf hwz HH1.out.ms HH1.out.fs HH1.out.nz HH1.out.z0 HH1.out.fr wc hs3.gl HR.out);have KC:=ala (aiq (A':=A) (c':=c) (mapOf f) HH1.out.mo HN.out HLE.out HZ.out hr hrf rfl rfl hpp hpf hwz HH1.out.ms HH1.out.fp);have KV:=ala (aet (A':=A) (c':=c) (mapOf f) HH1.out.mo HN.out HLE.out HZ.out hr hrf rfl rfl hpp hpf hwz HH1.out.ms HH1.out.fs);have KO:=ala (wH (A:=A) (n:=n) (c:=c) (L:=l) (ins:=f.ins) HN.out (by omega));clear HH1 hr hrf hpp hpf hwz;have hmp:mpV (mapOf f)= .agg (af9 f.key f.day f.ins f.ins f.rn f.rd f.pn f.pd):=rfl;rw[hmp]at KM KC KV;have m0:=HM.out.bx.mapping rfl
 go_wp2_with fail
 refine(KM.out).mono ?_;rintro e w4 ⟨hb4,v4,rfl,vL,vS,er,rfl,o1,o2,hor⟩;have HB4:=ala hb4;have hs4:=hs3.on hb4;replace HF:=ala (HF.out.on hb4);have hltb:w.heap.size+1<w4.heap.size:=(alc.1 HF.out.rb).1;replace HR:=ala (HR.out.on hb4);replace HM:=ala (HM.out.on hb4);have HOR:=ala hor;have HS4:(storeVar 41 ⟨w4.heap.size,0,none⟩ (.agg #[vL,.slice none 0 0,vS,.slice none 0 0])).run Tryz.prog (w4.alloc (.cells #[.slice none 0 0,.slice none 0 0,.slice none 0 0,.slice none 0 0] 41))= .ok () (w4.alloc (.cells #[vL,.slice none 0 0,vS,.slice none 0 0] 41)):=by
  rw[TBx.storeR (TBx.new w4 #[.slice none 0 0,.slice none 0 0,.slice none 0 0,.slice none 0 0] 41) rfl rfl (one4 o1 o2 rfl),World.setRow_alloc_new]
 have HB5:Hid (Below w4.heap.size w4 (w4.alloc (.cells #[vL,.slice none 0 0,vS,.slice none 0 0] 41))):=bal _ _;have O1:=ala o1;have O2:=ala o2;have hs5:=hs4.on HB5.out;clear hb4 hor o1 o2 m0 KM hmp;by_cases he:er=0
 case neg=>
  have q1:(er !=0)=true:=by simpa using he
  have q2:(er==0)=false:=by simpa using he
  have HF8:=ala (HF.out.on HB5.out);have hst1:=HF8.out.rb.storeR (cs':= #[.slice none 0 0,.slice none 0 0,.slice none 0 0,.slice none 0 0]) rfl rfl (by simp[Value.oneCell']);have HF9:=ala (HF8.out.set #[.slice none 0 0,.slice none 0 0,.slice none 0 0,.slice none 0 0]);have r9:=HF9.out.rb.bx.result rfl;clear HR KC KV KO HM
  go_wp2_with fail
  refine bodyPost_ret (v:=.tuple #[.agg #[.slice none 0 0,.slice none 0 0,.slice none 0 0,.slice none 0 0],.int .i64 er]) (by simp[results,Tryz.results9,go_sem,r9]) rfl ⟨HF9.out.low,_,rfl,_,_,_,er,rfl,rfl,rfl,rfl,.inr ⟨rfl,.inr ⟨HLE.out,?_⟩⟩⟩;rcases HOR.out with ⟨h0,_⟩|h|h
  ·exact absurd h0 he
  ·exact .inl h
  ·exact .inr h
 subst he;have HG:Hid (∃R,MapFine (mapOf f) l z R∧fM aa 47 7 wc.heap.size w4 vL R.length R):=by
  rcases HOR.out with ⟨_,h⟩|h|⟨h,_⟩
  ·exact h
  ·cases h
  ·cases h
 have HT7:Hid (TBx (w4.alloc (.cells #[vL,.slice none 0 0,vS,.slice none 0 0] 41)) w4.heap.size #[vL,.slice none 0 0,vS,.slice none 0 0] 41):=TBx.new _ _ _;replace HF:=ala (HF.out.on HB5.out);replace HR:=ala (HR.out.on HB5.out);replace HM:=ala (HM.out.on HB5.out);have x5:=HF.out.fb.bx.cell (i:=5) (v:=.string f.ins) rfl;clear HOR
 go_wp2_with fail
 refine(KO.out _ hs5.gl HR.out).mono ?_;rintro e w6 ⟨v6,rfl,ho6,hb6⟩;obtain⟨A6,c6,rfl⟩:=fK ho6.2;have hs6:=hs5.on hb6;replace HF:=ala (HF.out.on hb6);replace HR:=ala (HR.out.on hb6);replace HM:=ala (HM.out.on hb6);replace HT7:=ala (HT7.out.on hb6);obtain⟨R,hR,hO⟩:=HG.out;have HR1:=ala hR;have HO:=ala ((hO.on HB5.out).on hb6);clear HG hR hO ho6 KO x5;obtain⟨kc,hkc⟩:∃kc,(av f.ins l).length =kc:=⟨_,rfl⟩;rw[hkc];clear hkc hb6;by_cases hk0:0<kc
 case neg=>
  have q1:decide (((kc:Nat):Int)>0)=false:=alH (by omega);have q2:decide ((0:Int)<(kc:Nat))=false:=alH (by omega);have t7:=HT7.out.bx.result rfl;have hst1:=HF.out.rb.storeR (cs':= #[vL,.slice none 0 0,vS,.slice none 0 0]) rfl rfl (one4 O1.out O2.out rfl);have HF9:=ala (HF.out.set #[vL,.slice none 0 0,vS,.slice none 0 0]);have r9:=HF9.out.rb.bx.result rfl;have HO9:=ala (HF.out.out HO.out #[vL,.slice none 0 0,vS,.slice none 0 0]);clear HR KC KV HM
  go_wp2_with fail
  refine bodyPost_ret (v:=.tuple #[.agg #[vL,.slice none 0 0,vS,.slice none 0 0],.int .i64 0]) (by simp[results,Tryz.results9,go_sem,r9]) rfl ⟨HF9.out.low,_,rfl,_,_,_,0,rfl,O1.out,O2.out,rfl,.inl ⟨HLE.out,rfl,R,HR1.out,HO9.out.1,dB HO9.out.2 (by have:=hs3.2.size;omega)⟩⟩
 have q1:decide (((kc:Nat):Int)>0)=true:=alI (by omega);have q2:decide ((0:Int)<(kc:Nat))=true:=alI (by omega);have m0:=HM.out.bx.mapping rfl;obtain⟨sc,hsc⟩:∃sc,ag (iv ((dM ⟨#[]⟩ ((av (mapOf f).ins l).map (·.q))).map ag)).sum =sc:=⟨_,rfl⟩;rw[hsc]at KC;clear hsc
 go_wp2_with fail
 refine(KC.out).step hs6 HR.out ?_;intro w7 hs7 hb7;replace HF:=ala (HF.out.on hb7);replace HR:=ala (HR.out.on hb7);replace HM:=ala (HM.out.on hb7);replace HT7:=ala (HT7.out.on hb7);replace HO:=ala (HO.out.on hb7);clear m0 hb7 KC;have m0:=HM.out.bx.mapping rfl;obtain⟨s1,s2,s3,KV⟩:=KV.out
 go_wp2_with fail
 refine KV.step hs7 HR.out ?_;intro w8 hs8 hb8;replace HF:=ala (HF.out.on hb8);replace HT7:=ala (HT7.out.on hb8);replace HO:=ala (HO.out.on hb8);clear m0 hb8 KV HR HM;have hlt7:w4.heap.size<w8.heap.size:=(alc.1 HT7.out).1;have hszw:w.heap.size≤w8.heap.size:=hs8.2.size;have hgl:Hid (∀v,Below w8.heap.size w8 v→Gl v):=fun v hv=>hs8.gl.below hv
 obtain⟨g,hg⟩:∃g:World→Value,∀v,g v=(v.cell? ⟨w4.heap.size,3,none⟩).getD (.slice none 0 0):=⟨_,fun v=>rfl⟩;have hGN:Hid (∀v,Below w8.heap.size w8 v→g v= .slice none 0 0):=fun v hv=>by rw[hg,(HT7.out.on hv).bx.cell (i:=3) (v:=.slice none 0 0) rfl];rfl
 have hSOK:Hid (∀v,Below w8.heap.size w8 v→(loadVar 30 ⟨w.heap.size,0,none⟩).run Tryz.prog v= .ok (.agg (bv f)) v∧v.cell? ⟨w4.heap.size,3,none⟩=some (g v)):=fun v hv=>⟨(HF.out.fb.on hv).bx.fact rfl,by rw[hGN.out v hv];exact(HT7.out.on hv).bx.cell (i:=3) rfl⟩
 have hGS:Hid (∀v c,v.cell? ⟨w4.heap.size,3,none⟩=some c→v.cell? ⟨w4.heap.size,3,none⟩=some (g v)):=fun v c h=>by rw[hg,h];rfl
 clear hg;have BL0:Hid (Below w8.heap.size w8 w8.drew):=(alJ _ _).drew;obtain⟨i0,hi,hz0,hz1,hz2⟩:=info_parts infoE;have Hi:=ala hi;have Hz0:=ala hz0;have Hz1:=ala hz1;have Hz2:=ala hz2;clear hi hz0 hz1 hz2
 go_wp2_with fail
 refine wp_region_noPanic ?_;refine wp_region_held_drew (S:=fun w'=>(loadVar 30 ⟨w.heap.size,0,none⟩).run Tryz.prog w'= .ok (.agg (bv f)) w'∧w'.cell? ⟨w4.heap.size,3,none⟩=some (g w')) (by kernel_rfl) ?_ (fun hHeld=>?_)
 ·try dsimp only
  exact hSOK.out _ BL0.out
 refine wpAnyH_take (i:=0) (v:=?vv1) rfl (by kernel_rfl) (by kernel_rfl) (by kernel_rfl) (fun _ _ _ h=>h) (Or.inl ⟨by rfl,?hy1⟩) (by assumption) ?rest1
 case hy1=>
  intro w hSw
  try dsimp only at hSw
  go_simp
  try with_reducible rfl
 try simp only[Act.put]
 try simp only[List.setIfInBounds_toArray]
 try simp only[List.set_cons_succ]
 try simp only[List.set_cons_zero]
 refine wpAnyH_take (i:=2) (v:=?vv2) rfl (by kernel_rfl) (by kernel_rfl) (by kernel_rfl) (fun _ _ _ h=>h) (Or.inl ⟨by rfl,?hy2⟩) (by assumption) ?rest2
 case hy2=>
  intro w hSw
  try dsimp only at hSw
  go_simp
  try with_reducible rfl
 try simp only[Act.put]
 try simp only[List.setIfInBounds_toArray]
 try simp only[List.set_cons_succ]
 try simp only[List.set_cons_zero]
 refine wpAnyH_take (i:=3) (v:=?vv3) rfl (by kernel_rfl) (by kernel_rfl) (by kernel_rfl) (fun _ _ _ h=>h) (Or.inl ⟨by rfl,?hy3⟩) (by assumption) ?rest3
 case hy3=>
  intro w hSw
  try dsimp only at hSw
  go_simp
  try with_reducible rfl
 try simp only[Act.put]
 try simp only[List.setIfInBounds_toArray]
 try simp only[List.set_cons_succ]
 try simp only[List.set_cons_zero]
 refine wpAnyH_take (i:=4) (v:=?vv4) rfl (by kernel_rfl) (by kernel_rfl) (by kernel_rfl) (fun _ _ _ h=>h) (Or.inl ⟨by rfl,?hy4⟩) (by assumption) ?rest4
 case hy4=>
  intro w hSw
  try dsimp only at hSw
  go_simp
  try with_reducible rfl
 try simp only[Act.put]
 try simp only[List.setIfInBounds_toArray]
 try simp only[List.set_cons_succ]
 try simp only[List.set_cons_zero]
 refine wpAnyH_take (i:=5) (v:=?vv5) rfl (by kernel_rfl) (by kernel_rfl) (by kernel_rfl) (fun _ _ _ h=>h) (Or.inl ⟨by rfl,?hy5⟩) (by assumption) ?rest5
 case hy5=>
  intro w hSw
  try dsimp only at hSw
  go_simp
  try with_reducible rfl
 try simp only[Act.put]
 try simp only[List.setIfInBounds_toArray]
 try simp only[List.set_cons_succ]
 try simp only[List.set_cons_zero]
 refine wpAnyH_take (i:=6) (v:=?vv6) rfl (by kernel_rfl) (by kernel_rfl) (by kernel_rfl) (fun _ _ _ h=>h) (Or.inl ⟨by rfl,?hy6⟩) (by assumption) ?rest6
 case hy6=>
  intro w hSw
  try dsimp only at hSw
  go_simp
  try with_reducible rfl
 try simp only[Act.put]
 try simp only[List.setIfInBounds_toArray]
 try simp only[List.set_cons_succ]
 try simp only[List.set_cons_zero]
 iterate 7
  all_goals
   first
    |(refine wpAnyH_ready (rs:=[1,7]) (by decide+kernel) (by simp) ?_;refine AllReadyH.cons rfl (fun K hK=>?_) (AllReadyH.cons rfl (fun K hK=>?_) AllReadyH.nil))
    |(refine wpAnyH_ready (rs:=[7]) (by decide+kernel) (by simp) ?_;refine AllReadyH.cons rfl (fun K hK=>?_) AllReadyH.nil)
    |(refine wpAnyH_ready (rs:=[1,8]) (by decide+kernel) (by simp) ?_;refine AllReadyH.cons rfl (fun K hK=>?_) (AllReadyH.cons rfl (fun K hK=>?_) AllReadyH.nil))
    |(refine wpAnyH_ready (rs:=[8]) (by decide+kernel) (by simp) ?_;refine AllReadyH.cons rfl (fun K hK=>?_) AllReadyH.nil)
    |(refine wpAnyH_ready (rs:=[1,9]) (by decide+kernel) (by simp) ?_;refine AllReadyH.cons rfl (fun K hK=>?_) (AllReadyH.cons rfl (fun K hK=>?_) AllReadyH.nil))
    |(refine wpAnyH_ready (rs:=[9]) (by decide+kernel) (by simp) ?_;refine AllReadyH.cons rfl (fun K hK=>?_) AllReadyH.nil)
    |(refine wpAnyH_ready (rs:=[1]) (by decide+kernel) (by simp) ?_;refine AllReadyH.cons rfl (fun K hK=>?_) AllReadyH.nil)
    |(refine wpAnyH_ready (rs:=[10]) (by decide+kernel) (by simp) ?_;refine AllReadyH.cons rfl (fun K hK=>?_) AllReadyH.nil)
    |(refine wpAnyH_ready (rs:=[11]) (by decide+kernel) (by simp) ?_;refine AllReadyH.cons rfl (fun K hK=>?_) AllReadyH.nil)
    |(refine wpAnyH_ready (rs:=[12]) (by decide+kernel) (by simp) ?_;refine AllReadyH.cons rfl (fun K hK=>?_) AllReadyH.nil)
    |fail
  all_goals
   first
    |(go_simp;go_at_call 33;refine(acz f _ _ _ _ (hgl.out _ (BL0.out.alloc BL0.out.size _))).mono ?_;rintro e w9 ⟨rfl,hb9⟩;have BL1:Hid (Below w8.heap.size w8 w9):=(BL0.out.alloc BL0.out.size _).trans (hb9.mono (BL0.out.alloc BL0.out.size _).size);have lt9:=BL1.out.size;clear hb9;try go_wp2_with fail)
    |(refine aI _ (by rfl) (.tmp 69) (.tmp 77) 39 (by rfl) w.heap.size 83 i0 (.agg #[.int .i64 0,.int .i64 0,.string ⟨#[]⟩,.string ⟨#[]⟩,.string ⟨#[]⟩,.string ⟨#[]⟩,.slice none 0 0]) 7 104 (by kernel_rfl) Hi.out Hz0.out Hz1.out Hz2.out rfl (by omega) (.slice none 0 0) 0 [] (by first|exact hGN.out _ BL0.out|exact hGN.out _ (BL0.out.alloc BL0.out.size _)|exact hGN.out _ BL1.out|exact hGN.out _ (BL1.out.alloc BL1.out.size _)) (World.ownsRow_nil _ _ _ _) (w9.heap.size+1) (some ⟨w9.heap.size,0,none⟩) 1 1 [.int .i64 10,.int .i64 f.day,.string f.key,.string f.ins,.string ⟨#[]⟩,.string ⟨#[]⟩,.slice (some ⟨w8.heap.size,0,none⟩) 2 2] (by rfl) (adL w9 83 [.int .i64 10,.int .i64 f.day,.string f.key,.string f.ins,.string ⟨#[]⟩,.string ⟨#[]⟩,.slice (some ⟨w8.heap.size,0,none⟩) 2 2]) (by simp[Value.oneCell']) (by unfold maxLen;omega) (by omega) (by simp;omega) ?_;intro v10 w10 hown hg10 _;obtain⟨A10,c10,rfl⟩:=fK hown;have BL2:Hid (Below w8.heap.size w8 w10):=(BL1.out.alloc BL1.out.size _).grown hg10 (by simp;omega) (fun g hg=>by cases hg);have f7:=(HT7.out.on BL2.out).bx.frozen 3;have T9:=(HT7.out.on BL2.out).set 3 (.slice A10 (0+1) c10);have t9:=T9.bx.result rfl;have F9:=(HF.out.on BL2.out).setC hltb 3 (.slice A10 (0+1) c10);have PS:(loadVar 30 ⟨w.heap.size,0,none⟩).run Tryz.prog (w10.setCell ⟨w4.heap.size,3,none⟩ (.slice A10 (0+1) c10))= .ok (.agg (bv f)) (w10.setCell ⟨w4.heap.size,3,none⟩ (.slice A10 (0+1) c10))∧(w10.setCell ⟨w4.heap.size,3,none⟩ (.slice A10 (0+1) c10)).cell? ⟨w4.heap.size,3,none⟩=some (g (w10.setCell ⟨w4.heap.size,3,none⟩ (.slice A10 (0+1) c10))):=⟨F9.fb.bx.fact rfl,hGS.out _ _ (T9.bx.cell (i:=3) (v:=.slice A10 (0+1) c10) rfl)⟩;have hst1:=F9.rb.storeR (cs':= #[vL,.slice none 0 0,vS,.slice A10 (0+1) c10]) rfl rfl (one4 O1.out O2.out rfl);have HF9:=ala (F9.set #[vL,.slice none 0 0,vS,.slice A10 (0+1) c10]);have r9:=HF9.out.rb.bx.result rfl;have O9:fM aa 47 7 wc.heap.size (w10.setCell ⟨w4.heap.size,3,none⟩ (.slice A10 (0+1) c10)) vL R.length R:=⟨(HO.out.on BL2.out).1,bX (HO.out.on BL2.out).2 (HT7.out.on BL2.out) (fun cur e=>by injection e with _ e;revert e;decide) (bZ _ _ _ _)⟩;have HO9:=ala (F9.out O9 #[vL,.slice none 0 0,vS,.slice A10 (0+1) c10]);clear hown hg10 T9 F9 O9)
    |go_simp
   refine hK.out _ _ ?_ (fun hHeld=>?_)
   ·try dsimp only
    first
     |with_reducible exact PS
     |with_reducible exact hSOK.out _ BL0.out
     |with_reducible exact hSOK.out _ BL1.out
     |with_reducible exact hSOK.out _ BL2.out
     |exact hSOK.out _ BL0.out
     |exact hSOK.out _ (BL0.out.alloc BL0.out.size _)
     |exact hSOK.out _ (BL1.out.alloc BL1.out.size _)
     |fail
   clear hK K
   try simp only[Act.put]
   try simp only[List.setIfInBounds_toArray]
   try simp only[List.set_cons_succ]
   try simp only[List.set_cons_zero]
 all_goals
  refine wpAnyH_done (by kernel_rfl) ?_ _;refine NoPanic.normal ?_
 all_goals
  go_wp2_with fail
  refine bodyPost_ret (v:=.tuple #[.agg #[vL,.slice none 0 0,vS,.slice A10 (0+1) c10],.int .i64 0]) (by simp[results,Tryz.results9,go_sem,r9]) rfl ⟨HF9.out.low,_,rfl,_,_,_,0,rfl,O1.out,O2.out,rfl,.inl ⟨HLE.out,rfl,R,HR1.out,HO9.out.1,dB HO9.out.2 (by have:=hs3.2.size;omega)⟩⟩
end Go.Proofs.YtjknklinhegdoaaGreatDoor
