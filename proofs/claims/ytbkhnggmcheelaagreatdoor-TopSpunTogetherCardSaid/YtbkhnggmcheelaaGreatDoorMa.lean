/- TopSpunTogether: Exchanges. Conditions: bounded sizes; variables as laid. -/
import Derived.Test.YtbkhnggmcheelaaGreatDoorGbv
set_option linter.unusedSimpArgs false
set_option linter.unusedVariables false
set_option maxHeartbeats 4000000
set_option maxRecDepth 100000
namespace Go.Proofs.YtbkhnggmcheelaaGreatDoor
open Proofs.Tryz
open Go.RowKit Go.Shelf Dec QQ SP
attribute [local go_sem] Oper.semAt_some
attribute [-go_sem] loadVar storeVar
abbrev nM (x0 x1:BA)(x2 x3:Int)(x4 x5 x6:BA):Array Value:= #[.string x0,.string x1,.int .i64 x2,.int .i64 x3,.string x4,.string x5,.string x6]
abbrev qI:Array Value:= #[.slice none 0 0,.slice none 0 0,.slice none 0 0,.slice none 0 0]
abbrev aMa3 (x0 x1:BA):Array Value:= #[.string ⟨#[99,97,115,104]⟩,.string ⟨#[]⟩,.string ⟨#[99,111,115,116]⟩,.string x0,.string ⟨#[98,97,115,105,115]⟩,.string x1]
theorem lv_ma (t:TypeId)(_:t≠30)(_:t≠40)(a:Addr):loadVar t a=(do if<-isAgg t then pure (.agg (<-loadCells a (<-sizeOf t)))else load a):=rfl
theorem sv_ma (t:TypeId)(_:t≠40)(a:Addr)(v:Value):storeVar t a v=(do
 if v.cells.size≠(<-sizeOf t)then stuck "storeVar: the value has not the size of the variable"
 storeCells a v.cells.toList):=rfl
attribute [local go_sem] lv_ma sv_ma
structure MgHyp (f:Fct) (t:Ot) (l:List Lt) (r v:Rat) (N:Int) (ns:List Int):Prop where
 ot:(t.oth.toList== [])=false
 pn:t.pn=⟨#[]⟩
 pd:t.pd=⟨#[]⟩
 vr:Vq t.rn t.rd r
 rc:vI t.rn t.rd=0
 rf:bP 1000 r
 r0:0<r
 vv:Vq t.vn t.vd v
 vf:bP 1000 v
 hw:((iP f.ins l:Int):Rat)*r=(N:Rat)
 q0:0<=iP f.ins l
 qf:Fit 1010 (iP f.ins l)
 cf:Fit 1010 (iw f.ins l)
 nf:Fit 3000 N
 n0:N≠0
 hns:mdL (ae N) ((ak f.ins l).map (·.q))=ns
 ks:mdL (ae (iw f.ins l)) ((ak f.ins l).map (·.c))=iv ((ak f.ins l).map (·.c))
 nz:∀x∈ns,x≠0
 kc:∀x∈ak f.ins l,chk x.c=0
 fr:∀x∈dO f t l ns,x.le 1000
structure MgFail (f:Fct) (t:Ot) (l:List Lt) (ns:List Int) (er:Int):Prop where
 old:ak f.ins l≠ []
 ids:∀x∈dO f t l ns,∀y∈l,y.id≠x.id
 no:∃k M x,(dO f t l ns)[k]? =some x/\OpnAll (dC f.ins l) ((dO f t l ns).take k) M/\kR M x=er/\er≠0
def MgAns (f:Fct)(t:Ot)(l:List Lt)(ns:List Int)(base:Nat)(w':World)(v:Value):Prop:=
 ∃vL vS vE er,v= .tuple #[.agg #[vL,.slice none 0 0,vS,vE],.int .i64 er]/\vL.oneCell'=true/\vS.oneCell'=true/\vE.oneCell'=true/\
  ((er=0/\iy f [] [t]=0/\∃R,(ak f.ins l=[]->R=l)/\(ak f.ins l≠ []->(∀x∈dO f t l ns,∀y∈l,y.id≠x.id)/\OpnAll (dC f.ins l) (dO f t l ns) R)/\dw aa 62 7 base w' vL R.length R)\/er=1\/er=5\/(iy f [] [t]=0/\MgFail f t l ns er))
structure Ma (w:World) (f:Fct) (rc:Array Value) (W:World):Prop where
 low:Below w.heap.size w W
 fb:TBx W w.heap.size (bK f) 30
 rb:TBx W (w.heap.size+1) rc 40
theorem Ma.on {w:World}{f:Fct}{rc:Array Value}{W W':World}(h:Ma w f rc W)(hb:Below W.heap.size W W'):Ma w f rc W':=⟨h.low.trans (hb.mono h.low.size),h.fb.on hb,h.rb.on hb⟩
theorem Ma.set {w:World}{f:Fct}{rc:Array Value}{W:World}(h:Ma w f rc W)(rc':Array Value):Ma w f rc' (W.setRow (w.heap.size+1) rc'):=⟨below_setRow h.low (by omega) _,h.fb.rowOther (by omega) _,h.rb.row _⟩
theorem Ma.putO {w:World}{f:Fct}{rc:Array Value}{W:World}(h:Ma w f rc W){l:Nat}(hl:w.heap.size+1<l)(o:Obj):Ma w f rc (W.putObj l o):=⟨aI h.low (by omega) _,h.fb.put (by omega) _,h.rb.put (by omega) _⟩
theorem Ma.setC {w:World}{f:Fct}{rc:Array Value}{W:World}(h:Ma w f rc W){b:Nat}(hb:w.heap.size+1<b)(j:Nat)(v:Value):Ma w f rc (W.setCell ⟨b,j,none⟩ v):=⟨h.low.setCell (p:=⟨b,j,none⟩) (by show w.heap.size<=b;omega) _,h.fb.other (by omega) _ _,h.rb.other (by omega) _ _⟩
theorem Ma.outO {w:World}{f:Fct}{rc:Array Value}{W:World}{base n:Nat}{v:Value}{xs:List Lt}(h:Ma w f rc W)(ho:dw aa 62 7 base W v n xs)(rc':Array Value):dw aa 62 7 base (W.setRow (w.heap.size+1) rc') v n xs:=
 ⟨ho.1,aP ho.2 h.rb (fun cur e=>by injection e with _ e;revert e;decide) (di _ _ _)⟩
structure N1 (W5:World) (fs l:List Lt) (k:Nat) (W:World):Prop where
 low:Below W5.heap.size W5 W
 no:∀i,i<k->∀x,fs[i]? =some x->∀y∈l,y.id≠x.id
structure N2 (w9:World) (b12 bg p:Nat) (Af:Option Addr) (cf:Nat) (fs L0:List Lt) (st:Value) (D k:Nat) (W:World):Prop where
 low:Below w9.heap.size w9 W
 fb:TBx W bg #[.slice Af p cf] 22
 fo:dw aa 62 7 b12 W (.slice Af p cf) p fs
 eb:TBx W (bg+1) #[.string ⟨#[]⟩] 24
 df:W.heap[D]? =some (.deferred (some []))
 res:∃M A1 n1 c1,TBx W w9.heap.size #[.slice A1 n1 c1,.slice none 0 0,st,.slice none 0 0] 40/\dw aa 62 7 w9.heap.size W (.slice A1 n1 c1) n1 M/\OpnAll L0 (fs.take k) M
section
variable {w9:World} {b12 bg p:Nat} {Af:Option Addr} {cf:Nat} {fs L0:List Lt} {st:Value} {D k:Nat} {W W':World}
theorem N2.up (h:N2 w9 b12 bg p Af cf fs L0 st D k W)(hb:Below W.heap.size W W'):N2 w9 b12 bg p Af cf fs L0 st D k W':=by
 obtain⟨M,A1,n1,c1,h1,h2,h3⟩:=h.res;exact⟨h.low.trans (hb.mono h.low.size),h.fb.on hb,h.fo.on hb,h.eb.on hb,(hb.block D (amA.1 h.df).1).trans h.df,⟨M,A1,n1,c1,h1.on hb,h2.on hb,h3⟩⟩
theorem N2.next (h:N2 w9 b12 bg p Af cf fs L0 st D k W)(h9:w9.heap.size<bg)(hD:bg<D){A1 A2:Option Addr}{n1 c1 n2 c2:Nat}{M':List Lt}(ht:TBx W w9.heap.size #[.slice A1 n1 c1,.slice none 0 0,st,.slice none 0 0] 40)(ho:dw aa 62 7 w9.heap.size W (.slice A2 n2 c2) n2 M')(hop:OpnAll L0 (fs.take (k+1)) M'):
 N2 w9 b12 bg p Af cf fs L0 st D (k+1) (W.setCell ⟨w9.heap.size,0,none⟩ (.slice A2 n2 c2)):=
 ⟨h.low.setCell (p:=⟨w9.heap.size,0,none⟩) ano _,h.fb.other (by omega) _ _,⟨h.fo.1,aP h.fo.2 ht (fun cur e=>by injection e with _ e;revert e;decide) (aD _ _ _ _)⟩,h.eb.other (by omega) _ _,(amR _ _ _ _ (by show D≠w9.heap.size;omega)).trans h.df,
  ⟨M',A2,n2,c2,ht.set 0 _,⟨ho.1,aP ho.2 ht (fun cur e=>by injection e with _ e;revert e;decide) (aD _ _ _ _)⟩,hop⟩⟩
end
theorem yw {w:World}{b i:Nat}{cs:Array Value}{T:TypeId}{v:Value}(h:TBx w b cs T)(hv:cs[i]? =some v):w.setCell ⟨b,i,none⟩ v=w:=by
 have h':w.heap[b]? =some (.cells cs T (0,0)):=h;have e:cs.setIfInBounds i v=cs:=by
  apply Array.ext_getElem?;intro j;by_cases hj:i=j
  ·subst hj
   rw[hv];have:=(amA.1 hv).1;simp[this]
  ·simp[Array.getElem?_setIfInBounds,hj]
 have e2:(w.setCell ⟨b,i,none⟩ v).heap =w.heap:=by
  apply Array.ext_getElem?;intro j;by_cases hj:j=b
  ·subst hj
   have:=h.set i v;rw[e]at this;exact this.trans h'.symm
  ·exact amR _ _ _ _ hj
 have e3:w.setCell ⟨b,i,none⟩ v= {w with heap:=(w.setCell ⟨b,i,none⟩ v).heap}:=rfl;rw[e3,e2]
theorem alR {f:Fct}{t:Ot}{l:List Lt}{ns:List Int}:∀x∈dO f t l ns,ae (ah x.c)=x.c:=fun x hx=>by
 obtain⟨k,y,_,rfl⟩:=qy hx;show ae (ah (ae _))=ae _;rw[aK]
structure L3 (w9:World) (ins:BA) (l:List Lt) (k:Nat) (W:World):Prop where
 low:Below w9.heap.size w9 W
 res:∃A1 n1 c1,TBx W w9.heap.size #[.slice A1 n1 c1,.slice none 0 0,.slice none 0 0,.slice none 0 0] 40/\dw aa 62 7 w9.heap.size W (.slice A1 n1 c1) n1 (dC ins (l.take k))
theorem adf (f:Fct)(t:Ot){A:Option Addr}{n c:Nat}{l:List Lt}{r v:Rat}{N:Int}{ns:List Int}(hI:FcI f [] [t])(hk:f.kind=10)(hn:l.length=n)(hm:n<=1000)(hle:aN l=0)(hz:∀x∈l,x.le 1000)(hM:iy f [] [t]=0->ak f.ins l≠ []->MgHyp f t l r v N ns)(w:World)(hg:Gl w)(hr:Row w A (av aa l))(hf:FcW f [] [t] w):
 Calls prog 11 #[.slice A n c,gI f,.int .i64 0] w fun e w'=>Below w.heap.size w w'/\∃v,e= .returned v/\MgAns f t l ns w.heap.size w' v:=by
 have K1:=amy (qx (A:=A) (c:=c) hn (by omega) hz);rw[hle]at K1;have K2:=amy (vw f hI);obtain⟨fe,hfe⟩:∃e,iy f [] [t]=e:=⟨_,rfl⟩;rw[hfe]at K2;have HFE:=amy hfe;have hs:=((St.refl hg).alloc (.cells (bK f) 30)).alloc (.cells qI 40);have F0:Ma w f qI ((w.alloc (.cells (bK f) 30)).alloc (.cells qI 40)):=⟨hs.2,(TBx.new w (bK f) 30).alloc _,TBx.new1 w _ qI 40⟩;have HF:=amy F0;have HR:=amy (hr.on hs.2);have HC:=amy (hf.on hs.2);have HN:=amy hn;have HZ:=amy hz;have HI:=amy hI;have HMH:=amy hM;have HK:=amy hk;have x0:=F0.fb.bx.fact rfl;have hkn:f.no=1:=by have:=hI.hlo;simpa using this.symm
 clear F0 hM hI hz hn hr hf hg hle hfe;unfold gI;refine(callsIn_wide (n:=6)).1 ?_;refine callsIn_of_wp_marks func11 rfl trivial ?_ rfl;simp only[ntmps11,List.size_toArray,amT,List.length_nil,Nat.reduceAdd,Nat.reduceSub,Array.replicate_succ,Array.replicate_zero,List.push_toArray,List.append_toArray,List.nil_append,List.cons_append]
 gi_wp2_with fail
 refine⟨trivial,(callsIn_wide).2 ((K1.o _ hs.gl HR.o).mono ?_)⟩;rintro e w1 ⟨rfl,hb1⟩;replace HF:=amy (HF.o.on hb1);replace HR:=amy (HR.o.on hb1);replace HC:=amy (HC.o.on hb1);have hs:=hs.on hb1;clear x0 hb1 K1;have x0:=HF.o.fb.bx.fact rfl;simp only[]
 gi_wp2_with fail
 refine⟨trivial,(callsIn_wide).2 ((K2.o _ hs.gl HC.o).mono ?_)⟩;rintro e w2 ⟨rfl,hb2⟩;replace HF:=amy (HF.o.on hb2);replace HR:=amy (HR.o.on hb2);replace HC:=amy (HC.o.on hb2);have hs:=hs.on hb2;clear x0 hb2 K2;by_cases hfz:fe=0
 case neg=>
  have q:(fe !=0)=true:=by simpa using hfz
  have hst:=HF.o.rb.storeR (cs':=qI) rfl rfl (by simp[Value.oneCell']);have HF9:=amy (HF.o.set qI);have r9:=HF9.o.rb.bx.result rfl;simp only[]
  gi_wp2_with fail
  refine⟨.tuple #[.agg qI,.int .i64 1],by simp[results,results11,go_sem,r9],HF9.o.low,_,rfl,_,_,_,1,rfl,rfl,rfl,rfl,.inr (.inl rfl)⟩
 subst hfz;have x4:=HF.o.fb.bx.c 4 (.int .i64 f.kind) rfl;rw[HK.o]at x4;have x5:=HF.o.fb.bx.c 5 (.string f.ins) rfl;have x19:=HF.o.fb.bx.c 19 (.slice f.O f.no f.co) rfl;rw[hkn]at x19;have KO:=amy (tJ (A:=A) (c:=c) (L:=l) (ins:=f.ins) HN.o (by omega));simp only[]
 gi_wp2_with fail
 refine⟨trivial,(callsIn_wide).2 ((KO.o _ hs.gl HR.o).mono ?_)⟩;rintro e w3 ⟨v3,rfl,ho3,hb3⟩;obtain⟨A3,c3,rfl⟩:=bW ho3.2;replace HF:=amy (HF.o.on hb3);replace HR:=amy (HR.o.on hb3);replace HC:=amy (HC.o.on hb3);have hs:=hs.on hb3;have HO3:=amy ho3;clear x4 x5 x19 hb3 ho3 KO;obtain⟨p,hp⟩:=eX ((ak f.ins l).length );rw[hp]at HO3⊢
 have HP:=amy hp;clear hp;by_cases hp0:p=0
 case pos=>
  subst hp0;have KC:=amy (acr (A:=A) (c:=c) HN.o (by omega));simp only[]
  gi_wp2_with fail
  refine⟨trivial,(callsIn_wide).2 ((KC.o _ HR.o).mono ?_)⟩;rintro e w4 ⟨v4,rfl,ho4,hb4⟩;obtain⟨A4,c4,rfl⟩:=bW ho4.2;replace HF:=amy (HF.o.on hb4);have hs4:=hs.on hb4;have HO4:=amy ho4;clear hb4 ho4 KC;have hst:=HF.o.rb.storeR (cs':= #[.slice A4 n c4,.slice none 0 0,.slice none 0 0,.slice none 0 0]) rfl rfl (by simp[Value.oneCell']);have HF9:=amy (HF.o.set #[.slice A4 n c4,.slice none 0 0,.slice none 0 0,.slice none 0 0]);have r9:=HF9.o.rb.bx.result rfl;simp only[]
  gi_wp2_with fail
  have hsel:ak f.ins l=[]:=List.length_eq_zero_iff.1 HP.o;refine⟨.tuple #[.agg #[.slice A4 n c4,.slice none 0 0,.slice none 0 0,.slice none 0 0],.int .i64 0],by simp[results,results11,go_sem,r9],HF9.o.low,_,rfl,_,_,_,0,rfl,rfl,rfl,rfl,.inl ⟨rfl,HFE.o,l,fun _=>rfl,fun h=>absurd hsel h,?_⟩⟩;have:=outR HO4.o HF.o.rb #[.slice A4 n c4,.slice none 0 0,.slice none 0 0,.slice none 0 0];exact⟨rfl,by rw[HN.o];exact aS this.2 hs.2.size⟩
 have hsel:ak f.ins l≠ []:=fun h=>hp0 (by rw[<-HP.o,h];rfl)
 have HH:=amy (HMH.o HFE.o hsel);clear HMH;obtain⟨b,o,hA,hb,hcells⟩:=dV (cs:=eD) (m:=7) jo (by decide) HC.o.ro (k:=0) (d:=t) rfl;have y0:w3.cell? ⟨b,o,none⟩=some (.string t.oth):=hcells 0 _ rfl;have y1:w3.cell? ⟨b,o+1,none⟩=some (.string t.rn):=hcells 1 _ rfl;have y2:w3.cell? ⟨b,o+2,none⟩=some (.string t.rd):=hcells 2 _ rfl;have y3:w3.cell? ⟨b,o+3,none⟩=some (.string t.pn):=hcells 3 _ rfl;have y4:w3.cell? ⟨b,o+4,none⟩=some (.string t.pd):=hcells 4 _ rfl;have y5:w3.cell? ⟨b,o+5,none⟩=some (.string t.vn):=hcells 5 _ rfl;have y6:w3.cell? ⟨b,o+6,none⟩=some (.string t.vd):=hcells 6 _ rfl;have x19:=HF.o.fb.bx.c 19 (.slice f.O f.no f.co) rfl;rw[hkn,hA]at x19;have hba:Below w3.heap.size w3 (w3.alloc (.cells #[.string t.oth,.string t.rn,.string t.rd,.string t.pn,.string t.pd,.string t.vn,.string t.vd] 47)):=bal _ _;have HY:=amy (TBx.new w3 #[.string t.oth,.string t.rn,.string t.rd,.string t.pn,.string t.pd,.string t.vn,.string t.vd] 47);have hF3:=HF.o;replace HF:=amy (HF.o.on hba);replace HR:=amy (HR.o.on hba);replace HO3:=amy (HO3.o.on hba);have hs4:=hs.on hba;have x5:=HF.o.fb.bx.c 5 (.string f.ins) rfl;have qp:((p:Int)==0)=false:=by simpa using hp0
 have qp2:¬(p:Int)=0:=by simpa using hp0
 have KT:=amy (mD (A:=A) (c:=c) (ins:=f.ins) HN.o hm HZ.o);clear hcells hba HC hA;simp only[]
 gi_wp2_with fail
 refine⟨trivial,(callsIn_wide).2 ((KT.o _ hs4.gl HR.o).mono ?_)⟩;rintro e w5 ⟨rfl,hb5⟩;replace HF:=amy (HF.o.on hb5);replace HR:=amy (HR.o.on hb5);replace HO3:=amy (HO3.o.on hb5);replace HY:=amy (HY.o.on hb5);have hs5:=hs4.on hb5;obtain⟨bo,hbo⟩:=eX (w3.heap.size);have hbl:w.heap.size+1<bo:=by rw[<-hbo];exact(amA.1 hF3.rb).1
 rw[hbo]at HY⊢
 rw[HH.o.pn,HH.o.pd]at HY;clear y0 y1 y2 y3 y4 y5 y6 x19 x5 hbo KT hb5 hs4 hs hb hF3;have z0:=HY.o.bx.c 0 (.string t.oth) rfl;have z1:=HY.o.bx.c 1 (.string t.rn) rfl;have z2:=HY.o.bx.c 2 (.string t.rd) rfl;have z3:=HY.o.bx.c 3 (.string ⟨#[]⟩) rfl;have z4:=HY.o.bx.c 4 (.string ⟨#[]⟩) rfl;have z5:=HY.o.bx.c 5 (.string t.vn) rfl;have z6:=HY.o.bx.c 6 (.string t.vd) rfl;have KM:Hid _:=amy (ac9 (oth:=t.oth) (s:=ae (iP f.ins l)) (rn:=t.rn) (rd:=t.rd) (vn:=t.vn) (vd:=t.vd) (z:=iP f.ins l) (n:=N) (r:=r) (v:=v) (k:=1000) (j:=1010) HH.o.ot (gK _) (Vs.can HH.o.qf (by omega)) HH.o.q0 HH.o.vr HH.o.rc HH.o.rf HH.o.r0 HH.o.qf (by omega) (by omega) (by have:=HH.o.qf.size;omega) (by have:=(HI.o.zo t (by simp)).rn;omega) (by have:=(HI.o.zo t (by simp)).rd;omega) HH.o.hw HH.o.vv);simp only[]
 gi_wp2_with fail
 refine⟨trivial,(callsIn_wide).2 ((KM.o _ hs5.gl).mono ?_)⟩;rintro e w6 ⟨rfl,hb6⟩;replace HF:=amy (HF.o.on hb6);replace HR:=amy (HR.o.on hb6);replace HO3:=amy (HO3.o.on hb6);replace HY:=amy (HY.o.on hb6);have hbl2:bo<w6.heap.size:=(amA.1 HY.o).1;have hs6:=hs5.on hb6;clear z0 z1 z2 z3 z4 z5 z6 KM hb6 hs5;unfold FV;simp only[]
 gi_wp2_with fail
 have hb7:Below w6.heap.size w6 ((w6.alloc (.cells #[.string (ae N)] 24)).alloc (.cells #[.string ⟨#[]⟩,.string ⟨#[]⟩] 26)):=(bal _ _).alloc (by simp) _;replace HF:=amy (HF.o.on hb7);replace HR:=amy (HR.o.on hb7);replace HO3:=amy (HO3.o.on hb7);replace HY:=amy (HY.o.on hb7);have HX:Hid (TBx ((w6.alloc (.cells #[.string (ae N)] 24)).alloc (.cells #[.string ⟨#[]⟩,.string ⟨#[]⟩] 26)) w6.heap.size #[.string (ae N)] 24):=(TBx.new w6 _ _).alloc _;have hs7:=hs6.on hb7;have hbo:bo<w6.heap.size:=amS hbl2 ano;obtain⟨W7,hW7⟩:=eX (((w6.alloc (.cells #[.string (ae N)] 24)).alloc (.cells #[.string ⟨#[]⟩,.string ⟨#[]⟩] 26)));have hbn:w6.heap.size+1<W7.heap.size:=by rw[<-hW7];simp
 rw[hW7]at HF HR HO3 HY HX hs7⊢
 clear hW7 hb7 hs6 hbl2;obtain⟨bn,hbn'⟩:=eX (w6.heap.size);rw[hbn']at HX hbo hbn⊢
 clear hbn';have x5:=HF.o.fb.bx.c 5 (.string f.ins) rfl;refine wpIn_wide.2 ?_
 go_region
 have xn:=HX.o.bx.c 0 (.string (ae N)) rfl;have qN:((ae N).toList == [])=false:=by
  rw[nil_eq];exact am1 HH.o.n0
 have z0:=HY.o.bx.c 0 (.string t.oth) rfl;have z5:=HY.o.bx.c 5 (.string t.vn) rfl;have z6:=HY.o.bx.c 6 (.string t.vd) rfl;have hfv:bP 4000 (v*(N:Rat)):=bP.mul HH.o.vf (ig HH.o.nf (by omega));have KP:=amy (abG (k:=1000) (j:=3000) HH.o.vv HH.o.vf (Vs.can HH.o.nf (by omega)) HH.o.nf (by omega) (by omega) (by have:=HH.o.nf.size;omega));have KR:=amy (ada (a:=ae (iw f.ins l)) (b:=ae (pO 1 (v*(N:Rat)))) (k:=4001) (Vs.can HH.o.cf (by omega)) (Vs.can (aat 1 hfv) (by omega)) (Fit.mono (aat 1 hfv) (by omega)) (Fit.mono HH.o.cf (by omega)) (by omega))
 gi_wp2_with fail
 refine⟨trivial,(callsIn_wide).2 ((KP.o _ hs7.drew.gl).mono ?_)⟩;rintro e w8 ⟨rfl,hb8'⟩;have hb8:Below W7.heap.size W7 w8:=(am3 _ _).drew.trans hb8';replace HF:=amy (HF.o.on hb8);replace HR:=amy (HR.o.on hb8);replace HO3:=amy (HO3.o.on hb8);replace HY:=amy (HY.o.on hb8);replace HX:=amy (HX.o.on hb8);have hs8:=hs7.on hb8;have hbn8:bn+1<w8.heap.size:=amS hbn hb8.size;clear x5 xn z0 z5 z6 KP hb8 hb8' hs7 hbn hfv;simp only[]
 gi_wp2_with fail
 refine⟨trivial,(callsIn_wide).2 ((KR.o _ hs8.gl).mono ?_)⟩;rintro e w9 ⟨rfl,hb9⟩;replace HF:=amy (HF.o.on hb9);replace HR:=amy (HR.o.on hb9);replace HO3:=amy (HO3.o.on hb9);replace HY:=amy (HY.o.on hb9);replace HX:=amy (HX.o.on hb9);have hs9:=hs8.on hb9;have HO39:=amy HO3.o;have HX9:=amy HX.o;have HF9:=amy HF.o;have HY9:=amy HY.o;have HR9:=amy HR.o;have hbn9:bn+1<w9.heap.size:=amS hbn8 hb9.size;clear KR hb9 hs8 hbn8;have z0:=HY.o.bx.c 0 (.string t.oth) rfl;have hst9:(storeVar 40 ⟨w9.heap.size,0,none⟩ (.agg qI)).run prog (w9.alloc (.cells qI 40))= .ok () (w9.alloc (.cells qI 40)):=by
  rw[TBx.storeR (TBx.new w9 qI 40) rfl rfl (by simp[Value.oneCell']),World.setRow_alloc_new]
 simp only[]
 gi_wp2_with fail
 have H3:Hid (L3 w9 f.ins l 0 (w9.alloc (.cells qI 40))):=⟨bal _ _,none,0,0,TBx.new _ _ _,by rw[List.take_zero];exact⟨rfl,World.ownsRow_nil _ _ _ _⟩⟩;obtain⟨i0,hi0,hz0,hz1,hz2⟩:=info_parts aaV;have Hi:=amy hi0;have Hz0:=amy hz0;have Hz1:=amy hz1;have Hz2:=amy hz2;clear hi0 hz0 hz1 hz2 z0 hst9;refine wpIn_wide.2 ?_
 go_loopw [114] (fun s wr=>∃k:Nat,k<=n/\s= .int .i64 (k:Int)/\Hid (L3 w9 f.ins l k wr)) (fun s _=>(n-intOf s).toNat)
 case atStart=>exact⟨0,by omega,rfl,H3⟩
 case round=>
  clear H3;obtain⟨k,hk9,rfl,H⟩:=hrel;by_cases hkn:k=n
  ·have hkn':=hkn.symm
   subst hkn';have q:decide ((n:Int)<(n:Int))=false:=am1 (by omega);obtain⟨A1,n1,c1,hb1,ho1⟩:=H.o.res;rw[amK (Nat.le_of_eq HN.o)]at ho1;have hlow:=H.o.low;have hb11:Below wr.heap.size wr ((wr.alloc (.cells #[.slice none 0 0] 22)).alloc (.cells #[.string ⟨#[]⟩] 24)):=(bal _ _).alloc (by simp) _;have hlow2:=hlow.trans (hb11.mono hlow.size);replace HF:=amy (HF.o.on hlow2);replace HR:=amy (HR.o.on hlow2);replace HO3:=amy (HO3.o.on hlow2);replace HY:=amy (HY.o.on hlow2);replace HX:=amy (HX.o.on hlow2);have HLW:=amy hlow2;have hs9':=hs9;have HR39:Hid (Row w9 A3 (av aa (ak f.ins l))):=by
    obtain⟨A',c',e1,e2⟩:=HO39.o.row;injection e1 with e1
    subst e1;exact e2
   have HB:=amy (hb1.on hb11);have HO:=amy (show dw aa 62 7 w9.heap.size ((wr.alloc (.cells #[.slice none 0 0] 22)).alloc (.cells #[.string ⟨#[]⟩] 24)) (.slice A1 n1 c1) n1 (dC f.ins l)from⟨ho1.1,(ho1.2.alloc _).alloc _⟩);have hs11:=hs9.on hlow2;have HG1:Hid (TBx ((wr.alloc (.cells #[.slice none 0 0] 22)).alloc (.cells #[.string ⟨#[]⟩] 24)) wr.heap.size #[.slice none 0 0] 22):=(TBx.new wr _ _).alloc _;have HG2:Hid (TBx ((wr.alloc (.cells #[.slice none 0 0] 22)).alloc (.cells #[.string ⟨#[]⟩] 24)) (wr.heap.size+1) #[.string ⟨#[]⟩] 24):=TBx.new1 wr _ _ _;have h9r:w9.heap.size<wr.heap.size:=(amA.1 hb1).1;have xn:=HX.o.bx.c 0 (.string (ae N)) rfl;clear hb1 ho1 hlow hb11 hlow2 H hs9 Hi Hz0 Hz1 Hz2;obtain⟨W11,hW11⟩:=eX (((wr.alloc (.cells #[.slice none 0 0] 22)).alloc (.cells #[.string ⟨#[]⟩] 24)));have HW11:=amy hW11;have hsz11:wr.heap.size+1<W11.heap.size:=by rw[<-hW11];simp
   rw[hW11]at HF HR HO3 HY HX HB HO hs11 HG1 HG2 xn HLW;have HR3:Hid (Row W11 A3 (av aa (ak f.ins l))):=by
    obtain⟨A',c',e1,e2⟩:=HO3.o.row;injection e1 with e1
    subst e1;exact e2
   have hple:p<=1000:=by have:=wD f.ins l;have:=HP.o;have:=HN.o;omega
   have hsub:∀x∈ak f.ins l,x∈l:=fun x hx=>(List.mem_filter.1 hx).1
   have KS:=amy (aaM (A:=A3) (n:=p) (c:=c3) (k0:=3500) (t1:=ae N) (t2:=⟨#[]⟩) (t3:=ae (iw f.ins l)) (l:=ak f.ins l) HP.o hple (by omega) (by have:=HH.o.nf.size;omega) (by decide) (by have:=HH.o.cf.size;omega) (fun x hx=>by have:=(HZ.o x (hsub x hx)).q;omega) (fun x hx=>by have:=(HZ.o x (hsub x hx)).c;omega) W11 hs11.gl HR3.o);rw[HH.o.hns,HH.o.ks]at KS;clear hW11 hsub;rw[<-HW11.o]at xn
   go_wp2_with fail
   gi_wp2_with fail
   rw[HW11.o];refine⟨trivial,(callsIn_wide).2 (KS.o.mono ?_)⟩;rintro e w12 ⟨bl,bm,bp,bk,An,Ap,Ak,cn,cp,ck,rfl,hsw⟩;have HSW:=amy hsw;clear KS xn HW11 hsw;simp only[]
   gi_wp2_with fail
   obtain⟨bg,hbg⟩:=eX (wr.heap.size);rw[hbg]at HG1 HG2 h9r hsz11⊢
   clear hbg;have hE:W11.heap.size<=w12.heap.size:=HSW.o.low.size;have hs12:=hs11.on HSW.o.low;have HL12:Hid (Below w9.heap.size w9 w12):=HLW.o.trans (HSW.o.low.mono HLW.o.size);have HB12:=amy (HB.o.on HSW.o.low);have HG1':=amy (HG1.o.on HSW.o.low);have HG2':=amy (HG2.o.on HSW.o.low);have hps:mdL ⟨#[]⟩ ((ak f.ins l).map (·.q))=List.replicate p 0:=by
    unfold mdL;rw[if_pos (by rw[aF];rfl),am6,HP.o]
   rw[hps]at HSW;have nl:Hid (bl≠w9.heap.size/\bl≠bg/\bl≠bg+1):=⟨HSW.o.xl.ne HB12.o (.inl (by decide)),HSW.o.xl.ne HG1'.o (.inr (by intro e;simp at e;exact hp0 e.2.1)),HSW.o.xl.ne HG2'.o (.inl (by decide))⟩;have nm:Hid (bm≠w9.heap.size/\bm≠bg/\bm≠bg+1):=⟨HSW.o.xn.ne HB12.o (.inl (by decide)),HSW.o.xn.ne HG1'.o (.inl (by decide)),HSW.o.xn.ne HG2'.o (.inl (by decide))⟩;have np:Hid (bp≠w9.heap.size/\bp≠bg/\bp≠bg+1):=⟨HSW.o.xp.ne HB12.o (.inl (by decide)),HSW.o.xp.ne HG1'.o (.inl (by decide)),HSW.o.xp.ne HG2'.o (.inl (by decide))⟩;have nk:Hid (bk≠w9.heap.size/\bk≠bg/\bk≠bg+1):=⟨HSW.o.xk.ne HB12.o (.inl (by decide)),HSW.o.xk.ne HG1'.o (.inl (by decide)),HSW.o.xk.ne HG2'.o (.inl (by decide))⟩;have hc0:ae 0=⟨#[]⟩:=by decide+kernel
   refine fQ rfl (by omega) rfl trivial (enters_of func92 (by kernel_rfl) rfl) ?_;intro fn hfn r hr;have hst:r.state= .ready :=by rw[hr]
   have hpe:r.pending=none:=by rw[hr]
   have HS:Hid (M1 w9 w12 bg (w12.heap.size+1) w12.heap.size r (.slice A1 n1 c1) [] 0 0 ((w12.alloc (.deferred (some []))).alloc (.loop r))):=by
    have hbb:Below w12.heap.size w12 ((w12.alloc (.deferred (some []))).alloc (.loop r)):=anp.alloc (by simp) _;refine⟨HL12.o.trans (hbb.mono HL12.o.size),fun g hg _ _ _=>hbb.block g hg,hbb.size,?_,?_,⟨none,0,HG1'.o.on hbb,World.ownsRow_nil _ _ _ _⟩,?_,⟨none,0,0,[],am4 _,HB12.o.on hbb,World.ownsRow_nil _ _ _ _⟩⟩
    ·have:=World.alloc_heap_new (w12.alloc (.deferred (some []))) (.loop r)
     rwa[amD]at this
    ·exact(Below.heap_alloc _ _ _ (by simp)).trans (World.alloc_heap_new w12 _)
    ·rw[hc0]
     exact HG2'.o.on hbb
   refine(shr_in (A:=A3) (c:=c3) (An:=An) (Ap:=Ap) (Ak:=Ak) (cn:=cn) (cp:=cp) (ck:=ck) (l:=ak f.ins l) (ns:=ns) (ps:=List.replicate p 0) (ks:=iv ((ak f.ins l).map (fun x:Lt=>x.c))) (w12.heap.size+1) HP.o HSW.o.rn.1 (by simp) HSW.o.rk.1 hple (fun k W=>M1 w9 w12 bg (w12.heap.size+1) w12.heap.size r (.slice A1 n1 c1) ((dO f t l ns).take k) 0 k W) ?_ (fun k W W' h hb=>h.on hb) ?_ _ HS.o).mono ?_
   ·intro k W h
    have hrow:∀ {A:Option Addr} {c:Nat} {xs:List Int},dw aO 24 1 W11.heap.size w12 (.slice A p c) p xs->pW W A xs:=by
     intro A c xs ho;have h2:dw aO 24 1 W11.heap.size W (.slice A p c) p xs:=⟨ho.1,ajR ho.2 (fun g hg=>by
      have h1:=fE ho.2 g hg;have h2:=uL ho.2 hg;exact h.st g h2 (by omega) (by omega) (by omega))⟩
     obtain⟨A',c',e1,e2⟩:=h2.row;injection e1 with e1
     subst e1;exact e2
    have hbx:∀ {b:Nat} {cs:Array Value} {T:TypeId},TBx w12 b cs T->(b≠w9.heap.size/\b≠bg/\b≠bg+1)->TBx W b cs T:=fun hb hn=>(h.st _ (amA.1 hb).1 hn.1 hn.2.1 hn.2.2).trans hb
    exact⟨hs9'.gl.below h.low,hbx HSW.o.xl nl.o,hbx HSW.o.xn nm.o,hbx HSW.o.xp np.o,hbx HSW.o.xk nk.o,HR39.o.on h.low,hrow HSW.o.rn,hrow HSW.o.rp,hrow HSW.o.rk⟩
   ·intro k W1 x hk hx hG
    have hxm:=amI hx;have hz:ae (List.replicate p 0)[k]! =⟨#[]⟩:=by
     have:(List.replicate p (0:Int))[k]! =0:=by simp[hk]
     rw[this,hc0]
    have hc:ae (iv ((ak f.ins l).map (fun x:Lt=>x.c)))[k]! =x.c:=by
     have h1:(iv ((ak f.ins l).map (fun x:Lt=>x.c)))[k]! =ah x.c:=by
      have:(iv ((ak f.ins l).map (fun x:Lt=>x.c)))[k]? =some (ah x.c):=by simp[iv,hx]
      simp[List.getElem!_eq_getElem?_getD,this]
     rw[h1];have:=HH.o.kc x hxm;unfold chk at this;split at this
     ·rename_i h
      exact h.symm
     ·cases this
    rw[hz,hc];obtain⟨z,hzn⟩:=eX (ns[k]! );rw[hzn];have HNX:Hid ((dO f t l ns).take (k+1)=(dO f t l ns).take k++ [⟨idS f.key (k+1),t.oth,x.acq,x.opn,ae z,x.c,ae z⟩]):=by
     show _=_;have h1:(dO f t l ns)[k]? =some (frL (exM f t) x k ns[k]! (iv ((ak f.ins l).map (fun x:Lt=>x.c)))[k]! (List.replicate (ak f.ins l).length (0:Int))[k]!):=by
      unfold dO;exact lM hx
     have h2:(List.replicate (ak f.ins l).length (0:Int))[k]! =0:=by
      have:=HP.o;simp[this,hk]
     rw[ani,h1,hzn,h2];show _++ [(⟨idS f.key (k+1),t.oth,x.acq,x.opn,ae z,ae ((iv ((ak f.ins l).map (fun x:Lt=>x.c)))[k]! -0),ae z⟩:Lt)]=_;rw[Int.sub_zero,hc]
    have hlenF:((dO f t l ns).take k).length =k:=by
     have:=HP.o;rw[amO];unfold dO;rw[dS];omega
    obtain⟨fl,hfl⟩:=eX ((dO f t l ns).take k);rw[hfl]at HNX hlenF hG;have HLF:=amy hlenF;have hfl1:fl.length<=1000:=by omega
    clear hfl hlenF;have hy:=run_yield (P:=prog) (args:= #[.agg (shA x (ae z) ⟨#[]⟩ x.c)]) hG.lp (by rw[hr];rfl);refine⟨_,_,_,_,hy,roundIn_of_wpIn (by rw[hr];exact hfn) ?_⟩;have e1:=congrArg Loop.assign hr;have e2:=congrArg Loop.body hr;have e3:=congrArg Loop.tmps hr;have e4:=congrArg Loop.params hr;dsimp only at e1 e2 e3 e4;rw[e1,e2,e3,e4];have HGG:=amy hG;have Hst:=amy hst;have Hpe:=amy hpe;clear e1 e2 e3 e4 hr hy hG hst hpe HS hz hc;unfold shA
    gi_wp2_with fail
    have HGa:=amy (HGG.o.on (bal W1 (.cells #[.string x.id,.string x.ins,.int .i64 x.acq,.int .i64 x.opn,.string x.q,.string x.c,.string x.u,.string (ae z),.string ⟨#[]⟩,.string x.c] 103)));refine⟨_,run_beginRound HGa.o.lp Hst.o,?_⟩;have hbg12:bg+1<w12.heap.size:=by omega
    have hl0:W1.heap.size≠w12.heap.size+1:=by have:=(amA.1 HGG.o.lp).1;omega
    have XP0:TBx ((W1.alloc (.cells #[.string x.id,.string x.ins,.int .i64 x.acq,.int .i64 x.opn,.string x.q,.string x.c,.string x.u,.string (ae z),.string ⟨#[]⟩,.string x.c] 103)).putObj (w12.heap.size+1) (.loop {r with state:=.busy})) W1.heap.size #[.string x.id,.string x.ins,.int .i64 x.acq,.int .i64 x.opn,.string x.q,.string x.c,.string x.u,.string (ae z),.string ⟨#[]⟩,.string x.c] 103:=(TBx.new W1 _ 103).put hl0 _;have HP0:=HGa.o.put h9r hbg12 (by omega) (by omega) {r with state:=.busy};obtain⟨WP,hWP⟩:∃WP,(W1.alloc (.cells #[.string x.id,.string x.ins,.int .i64 x.acq,.int .i64 x.opn,.string x.q,.string x.c,.string x.u,.string (ae z),.string ⟨#[]⟩,.string x.c] 103)).putObj (w12.heap.size+1) (.loop {r with state:=.busy})=WP:=⟨_,rfl⟩;rw[hWP]at XP0 HP0⊢
    clear hWP;have HM:=amy HP0;have HXP:=amy XP0;have hglP:Gl WP:=hs9'.gl.below HP0.low;have hxl:=HZ.o x (List.mem_filter.1 hxm).1;have KSub:=ahs (a:=x.c) (b:=x.c) (x:=ah x.c) (y:=ah x.c) ⟨rfl,by have:=hxl.c;omega⟩ ⟨rfl,by have:=hxl.c;omega⟩;rw[Int.sub_self,hc0]at KSub;have z5:=XP0.bx.c 5 (.string x.c) rfl;have z9:=XP0.bx.c 9 (.string x.c) rfl;clear HGa XP0 HP0;have hbsz:w12.heap.size<=W1.heap.size:=HGG.o.sz;obtain⟨bs,hbs⟩:=eX (W1.heap.size);rw[hbs]at HXP z5 z9 hl0 hbsz⊢
    clear hbs
    gi_wp2_with fail
    refine⟨trivial,(callsIn_wide).2 ((KSub _ hglP).mono ?_)⟩;rintro e w2 ⟨rfl,hb2⟩;replace HM:=amy (HM.o.on hb2);replace HXP:=amy (HXP.o.on hb2);have hgl2:=hglP.below hb2;clear z5 z9 KSub hb2 hglP;have z7:=HXP.o.bx.c 7 (.string (ae z)) rfl;have z8:=HXP.o.bx.c 8 (.string ⟨#[]⟩) rfl;have hzn0:z≠0:=by
     rw[<-hzn];have hkn:k<ns.length:=by rw[HSW.o.rn.1];exact hk
     exact HH.o.nz _ (by simp[hkn])
    have qz:((ae z).toList == [])=false:=by
     rw[nil_eq];exact am1 hzn0
    have xn:=(HX9.o.on HM.o.low).bx.c 0 (.string (ae N)) rfl;have xk:=(HF9.o.on HM.o.low).fb.bx.c 0 (.string f.key) rfl;have xo:=(HY9.o.on HM.o.low).bx.c 0 (.string t.oth) rfl;have hfk:f.key.size<=100:=HI.o.le.key;have qa0:∀u,(Op.stringOp .add f.key ⟨#[47,49]⟩).run prog u= .ok (.string (f.key++⟨#[47,49]⟩)) u:=fun u=>run_string_add_sum _ _ _ (by show f.key.size+2<=_;omega)
    simp only[]
    gi_wp2_with fail
    have hs2:St w9 w2:=⟨hs9'.gl,HM.o.low⟩;have KIt:=xw (n:=(fl.length:Int)+1) (by omega) (by omega);have hck:(ae ((fl.length:Int)+1)).size <=8:=by
     have hf:Fit 7 ((fl.length:Int)+1):=by show ((fl.length:Int)+1).natAbs <10^7;omega
     exact hf.size
    have hid:idS f.key (k+1)=f.key++⟨#[47]⟩++ae ((fl.length:Int)+1):=by
     unfold idS;rw[HLF.o];rfl
    rw[hid]at HNX;generalize ae ((fl.length:Int)+1)=ck at*
    obtain⟨Af,cf,hfb,hfo⟩:=HM.o.fx;have k0:=(HF9.o.on HM.o.low).fb.bx.k 0 (.string f.key) rfl;have kg:=hfb.bx.k 0 (.slice Af fl.length cf) rfl;have qa1:∀u,(Op.stringOp .add f.key ⟨#[47]⟩).run prog u= .ok (.string (f.key++⟨#[47]⟩)) u:=fun u=>run_string_add_sum _ _ _ (by show f.key.size+1<=_;omega)
    have qa2:∀u,(Op.stringOp .add (f.key++⟨#[47]⟩) ck).run prog u= .ok (.string (f.key++⟨#[47]⟩++ck)) u:=fun u=>run_string_add_sum _ _ _ (by rw[ByteArray.size_append];show f.key.size+1+_<=_;omega)
    clear xn xk xo z7 z8;refine pK (by kernel_rfl) (by kernel_rfl) (by kernel_rfl) ?_
    repeat (go_big_quiet_step (first|(with_reducible exact KIt.kept hs2)))
    refine wpQuiet_nil ?_;rintro _ ⟨u,rfl⟩;replace HM:=amy (HM.o.on u.low);replace HXP:=amy (HXP.o.on u.low);have HFB:=amy (hfb.on u.low);have HFO:=amy (own_below hfo u.low);clear k0 kg KIt qa1 qa2 qa0 hfb hfo hs2 hck hid;obtain⟨W8,hW8⟩:=eX (u.W);rw[hW8]at HM HXP HFB HFO⊢
    clear hW8;obtain⟨nid,hnid⟩:=_root_.eX (f.key++⟨#[47]⟩++ck);rw[hnid]at HNX⊢
    clear hnid;have g0:=HFB.o.bx.c 0 (.slice Af fl.length cf) rfl;have xo:=(HY9.o.on HM.o.low).bx.c 0 (.string t.oth) rfl;have z2:=HXP.o.bx.c 2 (.int .i64 x.acq) rfl;have z3:=HXP.o.bx.c 3 (.int .i64 x.opn) rfl;have z7:=HXP.o.bx.c 7 (.string (ae z)) rfl;have z9:=HXP.o.bx.c 9 (.string x.c) rfl;have hb12:w12.heap.size<=W8.heap.size:=HM.o.sz;obtain⟨i0,hi0,hz0,hz1,hz2⟩:=info_parts aaV;have Hi:=amy hi0;have Hz0:=amy hz0;have Hz1:=amy hz1;have Hz2:=amy hz2;clear hi0 hz0 hz1 hz2;have HRd:Hid (Reads (W8.alloc (.cells (nM nid t.oth x.acq x.opn (ae z) x.c (ae z)) 62)) (W8.alloc (.cells (nM nid t.oth x.acq x.opn (ae z) x.c (ae z)) 62)).heap.size 7 (some ⟨W8.heap.size,0,none⟩) 1 [.string nid,.string t.oth,.int .i64 x.acq,.int .i64 x.opn,.string (ae z),.string x.c,.string (ae z)]):=by
     have:=Row.of (Bx.new W8 (nM nid t.oth x.acq x.opn (ae z) x.c (ae z)) 62);exact fD this rfl (by decide)
    have hone:∀v∈([.string nid,.string t.oth,.int .i64 x.acq,.int .i64 x.opn,.string (ae z),.string x.c,.string (ae z)]:List Value),v.oneCell'=true:=dh ⟨nid,t.oth,x.acq,x.opn,ae z,x.c,ae z⟩
    gi_wp2_with (gi_at_builtin;refine gY _ rfl (.tmp 210) (.tmp 227) 22 rfl w12.heap.size 62 i0 (.agg #[.string ⟨#[]⟩,.string ⟨#[]⟩,.int .i64 0,.int .i64 0,.string ⟨#[]⟩,.string ⟨#[]⟩,.string ⟨#[]⟩]) 7 96 (by kernel_rfl) Hi.o Hz0.o Hz1.o Hz2.o rfl (by omega) _ fl.length (av aa fl) rfl (HFO.o.alloc _) _ (some ⟨W8.heap.size,0,none⟩) 1 1 [.string nid,.string t.oth,.int .i64 x.acq,.int .i64 x.opn,.string (ae z),.string x.c,.string (ae z)] rfl HRd.o hone (by unfold maxLen;omega) (by omega) (by simp;omega) ?_;intro v7 w7 hown7 hg7 _;obtain⟨A7,c7,rfl⟩:=bW hown7;refine Hid.o ?_)
    have HM7:=amy ((HM.o.on (bal W8 (.cells (nM nid t.oth x.acq x.opn (ae z) x.c (ae z)) 62))).lot (x:=⟨nid,t.oth,x.acq,x.opn,ae z,x.c,ae z⟩) h9r hbg12 (by omega) ano (HFB.o.alloc _) (HFO.o.alloc _) hg7 hown7);have hB7:=(HFB.o.alloc (.cells (nM nid t.oth x.acq x.opn (ae z) x.c (ae z)) 62)).grown (HFO.o.alloc (.cells (nM nid t.oth x.acq x.opn (ae z) x.c (ae z)) 62)) hg7 (by decide);have f7:=hB7.bx.frozen 0;have d7:=hB7.bx.c 0 (.slice Af fl.length cf) rfl;have HX7:=amy (((HXP.o.alloc (.cells (nM nid t.oth x.acq x.opn (ae z) x.c (ae z)) 62)).grown (HFO.o.alloc (.cells (nM nid t.oth x.acq x.opn (ae z) x.c (ae z)) 62)) hg7 (by decide)).other (by omega:bs≠bg) 0 (.slice A7 (fl.length+1) c7));clear hown7 hg7 hB7 g0 xo z2 z3 z7 z9 HRd hone HFB HFO HM HXP Hi Hz0 Hz1 Hz2;obtain⟨As,ms,cs,xs,hms,hob,hos⟩:=HM7.o.ou;have z0:=HX7.o.bx.c 0 (.string x.id) rfl;have z4:=HX7.o.bx.c 4 (.string x.q) rfl;have z7:=HX7.o.bx.c 7 (.string (ae z)) rfl;have z9:=HX7.o.bx.c 9 (.string x.c) rfl;have xk:=(HF9.o.on HM7.o.low).fb.bx.c 0 (.string f.key) rfl;have s2:=hob.bx.c 2 (.slice As ms cs) rfl;have HOB:=amy hob;have HOS:=amy hos;have HMS:=amy hms;have hms9:ms<=1000000:=by omega
    have hb13:w12.heap.size<=w7.heap.size:=by
     have:=HM7.o.sz;simpa using this
    obtain⟨i1,hi0,hz0,hz1,hz2⟩:=info_parts ab4;have Hi:=amy hi0;have Hz0:=amy hz0;have Hz1:=amy hz1;have Hz2:=amy hz2;clear hi0 hz0 hz1 hz2 hob hos hms;have HRd:Hid (Reads ((w7.setCell ⟨bg,0,none⟩ (.slice A7 (fl.length+1) c7)).alloc (.cells #[.string f.key,.string x.id,.string nid,.string x.q,.string (ae z),.string x.c] 105)) ((w7.setCell ⟨bg,0,none⟩ (.slice A7 (fl.length+1) c7)).alloc (.cells #[.string f.key,.string x.id,.string nid,.string x.q,.string (ae z),.string x.c] 105)).heap.size 6 (some ⟨w7.heap.size,0,none⟩) 1 [.string f.key,.string x.id,.string nid,.string x.q,.string (ae z),.string x.c]):=by
     have:=Row.of (Bx.new (w7.setCell ⟨bg,0,none⟩ (.slice A7 (fl.length+1) c7)) #[.string f.key,.string x.id,.string nid,.string x.q,.string (ae z),.string x.c] 105);rw[show (w7.setCell ⟨bg,0,none⟩ (.slice A7 (fl.length+1) c7)).heap.size =w7.heap.size by simp]at this;exact fD this rfl (by decide)
    have hone:∀v∈([.string f.key,.string x.id,.string nid,.string x.q,.string (ae z),.string x.c]:List Value),v.oneCell'=true:=by simp[Value.oneCell']
    refine amy ?_
    gi_wp2_with (gi_at_builtin;refine gY _ rfl (.tmp 234) (.tmp 249) 37 rfl w12.heap.size 105 i1 (.agg #[.string ⟨#[]⟩,.string ⟨#[]⟩,.string ⟨#[]⟩,.string ⟨#[]⟩,.string ⟨#[]⟩,.string ⟨#[]⟩]) 6 96 (by kernel_rfl) Hi.o Hz0.o Hz1.o Hz2.o rfl (by omega) _ ms xs rfl (HOS.o.alloc _) _ (some ⟨w7.heap.size,0,none⟩) 1 1 [.string f.key,.string x.id,.string nid,.string x.q,.string (ae z),.string x.c] rfl HRd.o hone (by unfold maxLen;omega) (by omega) (by simp;omega) ?_;intro v8 w8 hown8 hg8 _;obtain⟨A8,c8,rfl⟩:=bW hown8;refine Hid.o ?_)
    have HM10:=amy ((HM7.o.on (bal _ (.cells #[.string f.key,.string x.id,.string nid,.string x.q,.string (ae z),.string x.c] 105))).step h9r hbg12 (by omega) ano HMS.o (HOB.o.alloc _) (HOS.o.alloc _) hg8 hown8);have hB8:=(HOB.o.alloc (.cells #[.string f.key,.string x.id,.string nid,.string x.q,.string (ae z),.string x.c] 105)).grown (HOS.o.alloc (.cells #[.string f.key,.string x.id,.string nid,.string x.q,.string (ae z),.string x.c] 105)) hg8 (by decide);have f8:=hB8.bx.frozen 2;have d8:=hB8.bx.c 2 (.slice As ms cs) rfl;clear hown8 hg8 hB8 z0 z4 z7 z9 xk s2 HRd hone HOB HOS HMS HM7 Hi Hz0 Hz1 Hz2 f7 d7 HX7;refine amy ?_
    gi_wp2_with fail
    refine⟨_,_,run_endRound none HM10.o.lp,rfl,?_⟩;have hlr:({r with state:=if (none:Option Code).isNone then LoopState.ready else .done,pending:=none}:Loop)=r:=by have h1:=Hst.o;have h2:=Hpe.o;cases r;simp_all
    show M1 _ _ _ _ _ _ _ _ _ _ (World.putObj _ _ (.loop {r with state:=if (none:Option Code).isNone then LoopState.ready else .done,pending:=none}));rw[hlr,HNX.o];exact HM10.o.put h9r hbg12 (by omega) (by omega) r
   ·rintro e W4 ⟨⟨v,rfl⟩,hG⟩
    have hend:=run_endLoop (P:=prog) hG.lp (by rw[hst];decide);have hbg12:bg+1<w12.heap.size:=by omega
    have HM5:=hG.put h9r hbg12 (by omega) (by omega) {r with state:=.exhausted};obtain⟨W5,hW5⟩:∃W5,W4.putObj (w12.heap.size+1) (.loop {r with state:=.exhausted})=W5:=⟨_,rfl⟩;rw[hW5]at hend HM5;rw[hpe]at hend;refine⟨none,W5,hend,?_⟩;simp only[];have hlenF:(dO f t l ns).length =p:=by
     have:=HP.o;unfold dO;rw[dS];exact this
    rw[amK (Nat.le_of_eq hlenF)]at HM5;have hfr9:=HH.o.fr;obtain⟨fs,hfs⟩:=eX (dO f t l ns);have hcan:∀x∈fs,ae (ah x.c)=x.c:=by rw[<-hfs];exact alR
    rw[hfs]at HM5 hlenF hfr9;have HFS:=amy hfs;have HFR:Hid (∀x∈fs,x.le 1000):=hfr9;have HCA:=amy hcan;have HLF:Hid (fs.length=p):=hlenF;obtain⟨Af,cf,hfb,hfo⟩:=HM5.fx;rw[hlenF]at hfb hfo;obtain⟨As,ms,cs,xs,hms,hob,hos⟩:=HM5.ou;have HFO:Hid (dw aa 62 7 w12.heap.size W5 (.slice Af p cf) p fs):=⟨hlenF,hfo⟩;have HFB:=amy hfb;have HRF:Hid (Row W5 Af (av aa fs)):=by
     obtain⟨A',c',e1,e2⟩:=HFO.o.row;injection e1 with e1
     subst e1;exact e2
    have ho12:=HO.o.on HSW.o.low;have HLS:Hid (dw aa 62 7 w9.heap.size W5 (.slice A1 n1 c1) n1 (dC f.ins l)):=⟨ho12.1,ajR ho12.2 (fun g hg=>HM5.st g (uL ho12.2 hg) (fun e=>own_ne ho12.2 HB12.o (fun cur e=>by injection e with _ e;revert e;decide) (by rw[hg,e])) (fun e=>own_ne ho12.2 HG1'.o (fun cur e=>by injection e with _ e;revert e;decide) (by rw[hg,e])) (fun e=>own_ne ho12.2 HG2'.o (fun cur e=>by injection e with _ e;revert e;decide) (by rw[hg,e])))⟩;have HOB:=amy hob;have HEB:Hid (TBx W5 (bg+1) #[.string ⟨#[]⟩] 24):=by
     have:=HM5.ex;rw[hc0]at this;exact this
    have HL5:=amy HM5.low;have HD5:=amy HM5.df;have HGL:Hid (Gl w9):=hs9'.gl;have hw9:Hid (w.heap.size<=w9.heap.size):=hs9'.2.size;have h19:w.heap.size+1<w9.heap.size:=(amA.1 HF9.o.rb).1;have hbgD:bg<w12.heap.size:=by omega
    have g0:=hfb.bx.c 0 (.slice Af p cf) rfl;clear hend hG hW5 hlenF hfr9 hfs hcan hfb hfo hms hob hos ho12 HM5 hr hst hpe HS hfn nl nm np nk HSW HL12 HB12 HG1' HG2' hps
    gi_wp2_with fail
    refine wpIn_wide.2 ?_;clear g0;simp only[List.cons_append,List.nil_append]
    go_loopw [268] (fun s wr=>∃k:Nat,k<=p/\s= .int .i64 (k:Int)/\Hid (N1 W5 fs l k wr)) (fun s _=>(p-intOf s).toNat)
    case atStart=>exact⟨0,by omega,rfl,am3 _ _,fun i hi=>by omega⟩
    case round=>
     obtain⟨k,hk9,rfl,H⟩:=hrel;by_cases hkp:k=p
     ·have hkp':=hkp.symm
      subst hkp';have q:decide ((p:Int)<(p:Int))=false:=am1 (by omega);have HIDS:Hid (∀y∈fs,∀u∈l,u.id≠y.id):=fun y hy u hu=>by
       obtain⟨i,hi⟩:=List.mem_iff_getElem?.1 hy;exact H.o.no i (by have:=(amH.1 hi).1;have:=HLF.o;omega) y hi u hu
      have HN0:Hid (N2 w9 w12.heap.size bg p Af cf fs (dC f.ins l) (.slice As ms cs) w12.heap.size 0 wr):=⟨HL5.o.trans (H.o.low.mono HL5.o.size),HFB.o.on H.o.low,HFO.o.on H.o.low,HEB.o.on H.o.low,(H.o.low.block _ (amA.1 HD5.o).1).trans HD5.o,dC f.ins l,A1,n1,c1,HOB.o.on H.o.low,HLS.o.on H.o.low,by rw[List.take_zero];exact .nil⟩;have g0:=HN0.o.fb.bx.c 0 (.slice Af p cf) rfl
      go_wp2_with fail
      gi_wp2_with fail
      refine wpIn_wide.2 ?_;clear g0 q
      go_loopw [284] (fun s wr=>∃j:Nat,j<=p/\s= .int .i64 (j:Int)/\Hid (N2 w9 w12.heap.size bg p Af cf fs (dC f.ins l) (.slice As ms cs) w12.heap.size j wr)) (fun s _=>(p-intOf s).toNat)
      case atStart=>exact⟨0,by omega,rfl,HN0⟩
      case round=>
       clear HN0 H;obtain⟨j,hj9,rfl,H2⟩:=hrel;by_cases hjk:j=p
       ·replace hjk:=hjk.symm
        subst hjk;have q:decide ((p:Int)<(p:Int))=false:=am1 (by omega);obtain⟨R,A9,n9,c9,hT,hO,hOp⟩:=H2.o.res;obtain⟨wz,hwz⟩:=eX (wr);rw[hwz]at H2 hT hO⊢
        clear hwz;rw[amK (Nat.le_of_eq HLF.o)]at hOp;have HT:=amy hT;have HF:=amy (HF9.o.on H2.o.low);have hlt7:w9.heap.size<wz.heap.size:=(amA.1 hT).1;have bb0:Below wz.heap.size wz ((wz.alloc (.cells (aMa3 (ae (iw f.ins l)) (ae (iw f.ins l))) 82)).alloc (.cells #[.int .i64 12,.int .i64 f.day,.string f.key,.string f.ins,.string t.oth,.string ⟨#[]⟩,.slice (some ⟨wz.heap.size,0,none⟩) 3 3] 85)):=anp.alloc (by simp) _;have f7:=(HT.o.on bb0).bx.frozen 3;have c7:=(HT.o.on bb0).bx.c 3 (.slice none 0 0) rfl;have f7b:=HT.o.bx.frozen 3;have c7b:=HT.o.bx.c 3 (.slice none 0 0) rfl;have T8:=HT.o.set 3 (.slice (some ⟨wz.heap.size+1,0,none⟩) 1 1);have F8:=HF.o.setC h19 3 (.slice (some ⟨wz.heap.size+1,0,none⟩) 1 1);have O8:dw aa 62 7 w9.heap.size (wz.setCell ⟨w9.heap.size,3,none⟩ (.slice (some ⟨wz.heap.size+1,0,none⟩) 1 1)) (.slice A9 n9 c9) n9 R:=⟨hO.1,aP hO.2 HT.o (fun cur e=>by injection e with _ e;revert e;decide) (aD _ _ _ _)⟩;have bb:Below (wz.setCell ⟨w9.heap.size,3,none⟩ (.slice (some ⟨wz.heap.size+1,0,none⟩) 1 1)).heap.size (wz.setCell ⟨w9.heap.size,3,none⟩ (.slice (some ⟨wz.heap.size+1,0,none⟩) 1 1)) (((wz.setCell ⟨w9.heap.size,3,none⟩ (.slice (some ⟨wz.heap.size+1,0,none⟩) 1 1)).alloc (.cells (aMa3 (ae (iw f.ins l)) (ae (iw f.ins l))) 82)).alloc (.cells #[.int .i64 12,.int .i64 f.day,.string f.key,.string f.ins,.string t.oth,.string ⟨#[]⟩,.slice (some ⟨wz.heap.size,0,none⟩) 3 3] 85)):=anp.alloc (by simp) _;have T9:=T8.on bb;have t9:=T9.bx.result rfl;have F9:=F8.on bb;have O9:=O8.on bb;have hd9:(((wz.setCell ⟨w9.heap.size,3,none⟩ (.slice (some ⟨wz.heap.size+1,0,none⟩) 1 1)).alloc (.cells (aMa3 (ae (iw f.ins l)) (ae (iw f.ins l))) 82)).alloc (.cells #[.int .i64 12,.int .i64 f.day,.string f.key,.string f.ins,.string t.oth,.string ⟨#[]⟩,.slice (some ⟨wz.heap.size,0,none⟩) 3 3] 85)).heap[w12.heap.size]? =some (.deferred (some [])):=by
         have h1:(wz.setCell ⟨w9.heap.size,3,none⟩ (.slice (some ⟨wz.heap.size+1,0,none⟩) 1 1)).heap[w12.heap.size]? =some (.deferred (some [])):=(amR _ _ _ _ (by show w12.heap.size≠w9.heap.size;omega)).trans H2.o.df;exact(bb.block _ (amA.1 h1).1).trans h1
        have hst1:=F9.rb.storeR (cs':= #[.slice A9 n9 c9,.slice none 0 0,.slice As ms cs,(.slice (some ⟨wz.heap.size+1,0,none⟩) 1 1)]) rfl rfl (by simp[Value.oneCell']);have HF9z:=amy (F9.set #[.slice A9 n9 c9,.slice none 0 0,.slice As ms cs,(.slice (some ⟨wz.heap.size+1,0,none⟩) 1 1)]);have r9:=HF9z.o.rb.bx.result rfl;have HO9z:=amy (F9.outO O9 #[.slice A9 n9 c9,.slice none 0 0,.slice As ms cs,(.slice (some ⟨wz.heap.size+1,0,none⟩) 1 1)]);have x0:=HF.o.fb.bx.c 0 (.string f.key) rfl;have x3:=HF.o.fb.bx.c 3 (.int .i64 f.day) rfl;have x5:=HF.o.fb.bx.c 5 (.string f.ins) rfl;have HD9:=amy hd9;have HOPF:=amy hOp;clear T9 F9 O9 bb T8 F8 O8 bb0 hT hO hOp hd9
        go_wp2_with fail
        gi_wp2_with fail
        have hdz:((((wz.setCell ⟨w9.heap.size,3,none⟩ (.slice (some ⟨wz.heap.size+1,0,none⟩) 1 1)).alloc (.cells (aMa3 (ae (iw f.ins l)) (ae (iw f.ins l))) 82)).alloc (.cells #[.int .i64 12,.int .i64 f.day,.string f.key,.string f.ins,.string t.oth,.string ⟨#[]⟩,.slice (some ⟨wz.heap.size,0,none⟩) 3 3] 85)).setRow (w.heap.size+1) #[.slice A9 n9 c9,.slice none 0 0,.slice As ms cs,(.slice (some ⟨wz.heap.size+1,0,none⟩) 1 1)]).heap[w12.heap.size]? =some (.deferred (some [])):=(setRow_other _ _ _ _ (by omega)).trans HD9.o;have F7:=HF9z.o.putO (l:=w12.heap.size) (by omega) (.deferred none);have r7:=F7.rb.bx.result rfl;refine⟨by simp,.inl ⟨_,_,rfl,run_takeDeferred hdz,?_⟩⟩;refine⟨.tuple #[.agg #[.slice A9 n9 c9,.slice none 0 0,.slice As ms cs,(.slice (some ⟨wz.heap.size+1,0,none⟩) 1 1)],.int .i64 0],by simp[results,results11,go_sem,r7],F7.low,_,rfl,_,_,_,0,rfl,rfl,rfl,rfl,.inl ⟨rfl,HFE.o,R,fun h=>absurd h hsel,fun _=>⟨fun y hy=>HIDS.o y (by rw[<-HFS.o];exact hy),by rw[HFS.o];exact HOPF.o⟩,?_⟩⟩;have hRl:R.length=n9:=HO9z.o.1;refine⟨rfl,aS ?_ hw9.o⟩;rw[hRl];exact ownsRow_putObj HO9z.o.2 (.deferred none) hdz rfl
       ·have hjl:j<p:=by omega
        have q:decide ((j:Int)<(p:Int))=true:=am2 (by omega);have qn:decide (j<p)=true:=am2 hjl;obtain⟨x,hx⟩:∃d,fs[j]? =some d:=⟨fs[j]'(by rw[HLF.o];exact hjl),by simp⟩;have hRj:Row wr Af (av aa fs):=by
         obtain⟨A',c',e1,e2⟩:=H2.o.fo.row;injection e1 with e1
         subst e1;exact e2
        obtain⟨b,o,hA,hb,hcells⟩:=dV (cs:=aa) (m:=7) aJ (by decide) hRj hx;obtain⟨x0,x1,x2,x3,x4,x5,x6⟩:=dI hcells;have HX0:=amy hx;have hmem:x∈fs:=amI hx;clear hRj hcells hx;subst hA;have HNa:=amy (H2.o.up (bal wr (.cells (nM x.id x.ins x.acq x.opn x.q x.c x.u) 62)));have HBa:=amy (TBx.new wr (nM x.id x.ins x.acq x.opn x.q x.c x.u) 62);clear H2;by_cases hj0:j=0
        case' pos=>
         have qj:((j:Int)==0)=true:=by simpa using hj0
         have HJ0:=amy hj0;clear hj0;have KAd:=abq (a:=x.c) (b:=⟨#[]⟩) (x:=ah x.c) (y:=0) ⟨rfl,by have:=(HFR.o x hmem).c;omega⟩ Vs.nil;rw[Int.add_zero,HCA.o x hmem]at KAd;have y5:=HBa.o.bx.c 5 (.string x.c) rfl;have e5:=HNa.o.eb.bx.c 0 (.string ⟨#[]⟩) rfl;have hglA:Gl (wr.alloc (.cells (nM x.id x.ins x.acq x.opn x.q x.c x.u) 62)):=HGL.o.below HNa.o.low
         go_wp2_with fail
         refine(KAd _ hglA).mono ?_;rintro e w2 ⟨rfl,hb2⟩;have HN2:=amy (HNa.o.up hb2);have HBX:=amy (HBa.o.on hb2);have hsc:=yw HBX.o (i:=5) (v:=.string x.c) rfl;have f5:=HBX.o.bx.frozen 5;clear KAd y5 e5 hglA HNa HBa x0 x1 x2 x3 x4 x5 x6 hb2
        case' neg=>
         have qj:((j:Int)==0)=false:=by simpa using hj0
         have HN2:=HNa;have HBX:=HBa;clear HNa HBa
        all_goals
         obtain⟨M,B1,n1,d1,hT,hO,hOp⟩:=HN2.o.res;have HT:=amy hT;have HO2:=amy hO;have HOp:=amy hOp;have hML:M.length<=2000:=by
          rw[hOp.perm.length_eq,am0,amO];have h1:=xJ f.ins l;have h2:=HN.o;omega
         have hMZ:∀y∈M,y.le 1000:=fun y hy=>by
          rcases ane.1 (hOp.perm.mem_iff.1 hy)with h|h
          ·exact HZ.o y (List.mem_filter.1 h).1
          ·exact HFR.o y (am7 h)
         have hgl2:=HGL.o.below HN2.o.low;have hw3:=HN2.o.low.size;obtain⟨B1',d1',hBe,hRow⟩:=hO.row;injection hBe with hBa _ hBc
         subst hBa;subst hBc;have KO:=amy (wN (A:=B1) (n:=n1) (c:=d1) (l:=M) (x:=x) hO.1 (by rw[<-hO.1];omega) hMZ (HFR.o x (amI HX0.o)) _ hgl2 hRow);unfold ltV ltA at KO;have o0:=hT.bx.c 0 (.slice B1 n1 d1) rfl;have z0:=HBX.o.bx.c 0 (.string x.id) rfl;have z1:=HBX.o.bx.c 1 (.string x.ins) rfl;have z2:=HBX.o.bx.c 2 (.int .i64 x.acq) rfl;have z3:=HBX.o.bx.c 3 (.int .i64 x.opn) rfl;have z4:=HBX.o.bx.c 4 (.string x.q) rfl;have z5:=HBX.o.bx.c 5 (.string x.c) rfl;have z6:=HBX.o.bx.c 6 (.string x.u) rfl;clear hT hO hOp hML hMZ hRow
         go_wp2_with fail
         refine(KO.o).mono ?_;rintro e w3 ⟨hb3,v3,rfl,hopn⟩;have HOPN:=amy hopn;have HB3:=amy hb3;replace HN2:=amy (HN2.o.up hb3);replace HT:=amy (HT.o.on hb3);obtain⟨oe,hoe⟩:=eX (kR M x);have HOE:=amy hoe;rw[hoe]at HOPN⊢
         clear z0 z1 z2 z3 z4 z5 z6 o0 KO hb3 hopn hoe;by_cases h0:oe=0
         ·subst h0
          obtain⟨Lb,hLb,hOut⟩:=HOPN.o rfl;obtain⟨A2,c2,hv2⟩:=bW hOut.2;subst hv2;have HOut:Hid (dw aa 62 7 w9.heap.size w3 (.slice A2 (n1+1) c2) (n1+1) Lb):=⟨hOut.1,aS hOut.2 hw3⟩;have HLb:=amy hLb;have o0:=HT.o.bx.c 0 (.slice B1 n1 d1) rfl;have f0:=HT.o.bx.frozen 0;clear hOut hLb HOPN
          go_wp2_with fail
          go_roundw
          case rel=>exact⟨j+1,by omega,by go_num,HN2.o.next h9r hbgD HT.o HOut.o (by rw[ani,HX0.o];exact .snoc HOp.o HOE.o HLb.o)⟩
          case measure=>simp[intOf];omega
         ·have q1:(oe !=0)=true:=by simpa using h0
          have q2:(oe==0)=false:=by simpa using h0
          have hF3:=HF9.o.on HN2.o.low;have hst:=hF3.rb.storeR (cs':=qI) rfl rfl (by simp[Value.oneCell']);have HFz:=amy (hF3.set qI);have rz:=HFz.o.rb.bx.result rfl;clear hF3
          go_wp2_with fail
          gi_wp2_with fail
          have hdz:(w3.setRow (w.heap.size+1) qI).heap[w12.heap.size]? =some (.deferred (some [])):=(setRow_other _ _ _ _ (by omega)).trans HN2.o.df;have F7:=HFz.o.putO (l:=w12.heap.size) (by omega) (.deferred none);have r7:=F7.rb.bx.result rfl;refine⟨by simp,.inl ⟨_,_,rfl,run_takeDeferred hdz,?_⟩⟩;exact⟨.tuple #[.agg qI,.int .i64 oe],by simp[results,results11,go_sem,r7],F7.low,_,rfl,_,_,_,oe,rfl,rfl,rfl,rfl,.inr (.inr (.inr ⟨HFE.o,hsel,fun y hy=>HIDS.o y (by rw[<-HFS.o];exact hy),j,M,x,by rw[HFS.o];exact HX0.o,by rw[HFS.o];exact HOp.o,HOE.o,h0⟩))⟩
     ·have hkl:k<p:=by omega
      have q:decide ((k:Int)<(p:Int))=true:=am2 (by omega);have qn:decide (k<p)=true:=am2 hkl;obtain⟨x,hx⟩:∃d,fs[k]? =some d:=⟨fs[k]'(by rw[HLF.o];exact hkl),by simp⟩;obtain⟨b,o,hA,hb,hcells⟩:=dV (cs:=aa) (m:=7) aJ (by decide) (HRF.o.on H.o.low) hx;obtain⟨x0,x1,x2,x3,x4,x5,x6⟩:=dI hcells;have HX0:=amy hx;have hba:Below wr.heap.size wr (wr.alloc (.cells (nM x.id x.ins x.acq x.opn x.q x.c x.u) 62)):=anp;have hlowA:=H.o.low.trans (hba.mono H.o.low.size);have HLA:=amy hlowA;have y0:=(TBx.new wr (nM x.id x.ins x.acq x.opn x.q x.c x.u) 62).bx.c 0 (.string x.id) rfl;have KFi:=amy (rY (A:=A) (c:=c) (id:=x.id) HN.o (by omega));obtain⟨bf1,hbf1⟩:=eX ((l.any fun y=>eqB y.id x.id));rw[hbf1]at KFi;have HB1:=amy hbf1;have hglA:Gl (wr.alloc (.cells (nM x.id x.ins x.acq x.opn x.q x.c x.u) 62)):=HGL.o.below (HL5.o.trans (hlowA.mono HL5.o.size));have hrA:Row (wr.alloc (.cells (nM x.id x.ins x.acq x.opn x.q x.c x.u) 62)) A (av aa l):=HR9.o.on (HL5.o.trans (hlowA.mono HL5.o.size));generalize max (afv l x.id) 0=ix at*
      clear hx hcells hba hbf1 hlowA;subst hA
      go_wp2_with fail
      refine(KFi.o _ hglA hrA).mono ?_;rintro e w2 ⟨rfl,hb2⟩;have HL2:=amy (HLA.o.trans (hb2.mono HLA.o.size));clear y0 KFi hb2 hglA hrA x0 x1 x2 x3 x4 x5 x6;cases bf1 with
      |true=>
       have hF3:=HF9.o.on (HL5.o.trans (HL2.o.mono HL5.o.size));have hst:=hF3.rb.storeR (cs':=qI) rfl rfl (by simp[Value.oneCell']);have HFz:=amy (hF3.set qI);have rz:=HFz.o.rb.bx.result rfl;clear hF3
       go_wp2_with fail
       gi_wp2_with fail
       have hdz:(w2.setRow (w.heap.size+1) qI).heap[w12.heap.size]? =some (.deferred (some [])):=(setRow_other _ _ _ _ (by omega)).trans ((HL2.o.block _ (amA.1 HD5.o).1).trans HD5.o);have F7:=HFz.o.putO (l:=w12.heap.size) (by omega) (.deferred none);have r7:=F7.rb.bx.result rfl;refine⟨by simp,.inl ⟨_,_,rfl,run_takeDeferred hdz,?_⟩⟩;exact⟨.tuple #[.agg qI,.int .i64 5],by simp[results,results11,go_sem,r7],F7.low,_,rfl,_,_,_,5,rfl,rfl,rfl,rfl,.inr (.inr (.inl rfl))⟩
      |false=>
       go_wp2_with fail
       go_roundw
       case rel=>exact⟨k+1,by omega,by go_num,HL2.o,fun i hi y hy u hu e=>by
        by_cases hik:i=k
        ·subst hik
         have e2:=anj (HX0.o.symm.trans hy);subst e2;exact List.any_eq_false.1 HB1.o u hu (dH.2 e)
        ·exact H.o.no i (by omega) y hy u hu e⟩
       case measure=>simp[intOf];omega
  ·have hkl:k<n:=by omega
   have q:decide ((k:Int)<(n:Int))=true:=am2 (by omega);have qn:decide (k<n)=true:=am2 hkl;obtain⟨x,hd⟩:∃d,l[k]? =some d:=⟨l[k]'(by rw[HN.o];exact hkl),by simp⟩;obtain⟨b,o,hA,hb,hcells⟩:=dV (cs:=aa) (m:=7) aJ (by decide) (HR.o.on H.o.low) hd;obtain⟨x0,x1,x2,x3,x4,x5,x6⟩:=dI hcells;have HD:=amy hd;subst hA;obtain⟨A1,n1,c1,hb1,ho1⟩:=H.o.res;have HB1:=amy hb1;have HO1:=amy ho1;have hlow:=amy H.o.low;have hba:Below wr.heap.size wr (wr.alloc (.cells (nM x.id x.ins x.acq x.opn x.q x.c x.u) 62)):=anp;have y5:=((HF.o.on hlow.o).on hba).fb.bx.c 5 (.string f.ins) rfl;have y0:=(HB1.o.on hba).bx.c 0 (.slice A1 n1 c1) rfl;have hsz9:w9.heap.size<wr.heap.size:=(amA.1 hb1).1;have hmn:(dC f.ins (l.take k)).length <=1000000:=amG (af5 k) (by rw[HN.o];omega);clear hd hkn hcells hba hb1 ho1 H;cases hq:eqB x.ins f.ins with
   |true=>
    have hq2:(x.ins.toList==f.ins.toList)=true:=hq
    go_wp2_with fail
    go_roundw
    case rel=>exact⟨k+1,by omega,by go_num,hlow.o.alloc (by omega) _,_,_,_,HB1.o.alloc _,by rw[ai8 HD.o hq];exact⟨HO1.o.1,HO1.o.2.alloc _⟩⟩
    case measure=>simp[intOf];omega
   |false=>
    have hq2:(x.ins.toList==f.ins.toList)=false:=hq;have HE:Hid (av aa (dC f.ins (l.take (k+1)))=av aa (dC f.ins (l.take k))++aa x):=by
     show _=_;rw[zM HD.o hq,jd]
    have HEn:Hid ((dC f.ins (l.take (k+1))).length =(dC f.ins (l.take k)).length +1):=by
     show _=_;rw[zM HD.o hq,am0];rfl
    have hmm:=HO1.o.1;subst hmm;have HW1:Hid (World.ownsRow wr w9.heap.size 62 7 (.slice A1 (dC f.ins (l.take k)).length c1) (dC f.ins (l.take k)).length (av aa (dC f.ins (l.take k)))):=HO1.o.2;clear HO1;generalize hm2:(dC f.ins (l.take k)).length =m at*
    generalize hl2:av aa (dC f.ins (l.take k))=fl at*
    clear hm2 hl2;have HRd:Hid (Reads ((wr.alloc (.cells (nM x.id x.ins x.acq x.opn x.q x.c x.u) 62)).alloc (.cells (nM x.id x.ins x.acq x.opn x.q x.c x.u) 62)) ((wr.alloc (.cells (nM x.id x.ins x.acq x.opn x.q x.c x.u) 62)).alloc (.cells (nM x.id x.ins x.acq x.opn x.q x.c x.u) 62)).heap.size 7 (some ⟨wr.heap.size+1,0,none⟩) 1 (aa x)):=by
     have:=Row.of (Bx.new (wr.alloc (.cells (nM x.id x.ins x.acq x.opn x.q x.c x.u) 62)) (nM x.id x.ins x.acq x.opn x.q x.c x.u) 62);rw[amD]at this;exact fD this rfl (by decide)
    go_wp2_with (at_builtin;refine aB _ rfl (.tmp 124) (.tmp 126) 22 rfl w9.heap.size 62 i0 (.agg #[.string ⟨#[]⟩,.string ⟨#[]⟩,.int .i64 0,.int .i64 0,.string ⟨#[]⟩,.string ⟨#[]⟩,.string ⟨#[]⟩]) 7 96 (by kernel_rfl) Hi.o Hz0.o Hz1.o Hz2.o rfl (by omega) _ m fl rfl ((HW1.o.alloc _).alloc _) _ (some ⟨wr.heap.size+1,0,none⟩) 1 1 (aa x) rfl HRd.o (dh x) (by unfold maxLen;omega) (by omega) (by simp;omega) ?_;intro v7 w7 hown7 hg7 _;obtain⟨A7,c7,rfl⟩:=bW hown7;have HO7:=amy hown7;have HG7:=amy hg7;have HB7:=amy (((HB1.o.alloc _).alloc _).grown ((HW1.o.alloc _).alloc _) hg7 (by decide));have f7:=HB7.o.bx.frozen 0;have d7:=HB7.o.bx.c 0 (.slice A1 m c1) rfl;clear hown7 hg7)
    go_roundw
    case rel=>
     have h0:=(hlow.o.alloc (by omega:w9.heap.size<=wr.heap.size) (.cells (nM x.id x.ins x.acq x.opn x.q x.c x.u) 62)).alloc (by simp;omega) (.cells (nM x.id x.ins x.acq x.opn x.q x.c x.u) 62);have ho:=((HW1.o.alloc (.cells (nM x.id x.ins x.acq x.opn x.q x.c x.u) 62)).alloc (.cells (nM x.id x.ins x.acq x.opn x.q x.c x.u) 62));refine⟨k+1,by omega,by go_num,(h0.grown HG7.o h0.size (fE ho)).setCell (p:=⟨w9.heap.size,0,none⟩) ano _,_,_,_,HB7.o.set 0 _,?_⟩;refine⟨HEn.o,?_⟩;rw[HE.o];exact aP HO7.o HB7.o (fun cur e=>by injection e with _ e;revert e;decide) (aD _ _ _ _)
    case measure=>simp[intOf];omega
end Go.Proofs.YtbkhnggmcheelaaGreatDoor
