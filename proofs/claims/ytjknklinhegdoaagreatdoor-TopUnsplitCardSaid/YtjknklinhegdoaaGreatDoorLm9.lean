/- Mappings of lots: lotmap.Map, where the new parts are whole. Conditions: lists of bounded length; the library's variables lie as the program's text lays them. -/
import Derived.Deep.RegionHeld3
import Derived.Test.YtjknklinhegdoaaGreatDoorLm8
import Derived.Test.YtjknklinhegdoaaGreatDoorTp
import Derived.Test.YtjknklinhegdoaaGreatDoorGbf
set_option linter.unusedSimpArgs false
set_option linter.unusedVariables false
set_option maxHeartbeats 4000000
set_option maxRecDepth 100000
namespace Go.Proofs.YtjknklinhegdoaaGreatDoor
open Go.RowKit Go.Shelf Dec QQ SP
attribute [local go_sem] Oper.semAt_some
attribute [-go_sem] loadVar storeVar
abbrev ru (x0 x1:ByteArray)(x2 x3:Int)(x4 x5 x6:ByteArray):Array Value:= #[.string x0,.string x1,.int .i64 x2,.int .i64 x3,.string x4,.string x5,.string x6]
abbrev aLm92:Array Value:= #[.string ⟨#[]⟩,.int .i64 0,.string ⟨#[]⟩,.string ⟨#[]⟩,.string ⟨#[]⟩,.string ⟨#[]⟩,.string ⟨#[]⟩,.string ⟨#[]⟩,.string ⟨#[]⟩,.string ⟨#[]⟩,.bool false,.slice none 0 0,.string ⟨#[]⟩,.string ⟨#[]⟩,.string ⟨#[]⟩,.slice none 0 0,.slice none 0 0,.slice none 0 0,.slice none 0 0]
theorem ajZ (t:TypeId)(_:t≠162)(_:t≠75)(_:t≠41)(a:Addr):loadVar t a=(do if←isAgg t then pure (.agg (←loadCells a (←sizeOf t)))else load a):=rfl
theorem ajb (t:TypeId)(_:t≠162)(_:t≠41)(a:Addr)(v:Value):storeVar t a v=(do
 if v.cells.size≠(←sizeOf t)then stuck "storeVar: the value has not the size of the variable"
 storeCells a v.cells.toList):=rfl
attribute [local go_sem] ajZ ajb
structure Fm (w:World) (vl:Value) (mc rc:Array Value) (er:Int) (W:World):Prop where
 low:Below w.heap.size w W
 lb:TBx W w.heap.size #[vl] 22
 mb:TBx W (w.heap.size+1) mc 75
 rb:TBx W (w.heap.size+1+1) rc 41
 eb:TBx W (w.heap.size+1+1+1) #[.int .i64 er] 32
theorem Fm.on {w:World}{vl:Value}{mc rc:Array Value}{er:Int}{W W':World}(h:Fm w vl mc rc er W)(hb:Below W.heap.size W W'):Fm w vl mc rc er W':=
 ⟨h.low.trans (hb.mono h.low.size),h.lb.on hb,h.mb.on hb,h.rb.on hb,h.eb.on hb⟩
theorem Bx.result {w:World}{b:Nat}{cs:Array Value}(h:Bx w b cs)(hs:cs.size=4):(loadVar 41 ⟨b,0,none⟩).run Tryz.prog w= .ok (.agg cs) w:=by
 have:=run_loadVar_mid (P:=Tryz.prog) w b 0 41 cs.toList (Tryz.prog.underlying 41).get! (fun j v hv=>by rw[Nat.zero_add];exact h.cell (by simpa using hv)) (by kernel_rfl) (by kernel_rfl) (by rw[Array.length_toList,hs];kernel_rfl);simpa using this
theorem TBx.storeR {w:World}{b:Nat}{cs cs':Array Value}{T:TypeId}(h:TBx w b cs T)(hs:cs.size=4)(hs':cs'.size=4)(h1:cs'.all (·.oneCell')=true):(storeVar 41 ⟨b,0,none⟩ (.agg cs')).run Tryz.prog w= .ok () (w.setRow b cs'):=
 run_storeVar_row (P:=Tryz.prog) w b T 41 cs cs' h (by rw[hs'];kernel_rfl) (by rw[hs,hs']) h1
theorem Fm.setR {w:World}{vl:Value}{mc rc:Array Value}{er:Int}{W:World}(h:Fm w vl mc rc er W)(rc':Array Value):Fm w vl mc rc' er (W.setRow (w.heap.size+1+1) rc'):=
 ⟨below_setRow h.low (by omega) _,h.lb.rowOther (by omega) _,h.mb.rowOther (by omega) _,h.rb.row _,h.eb.rowOther (by omega) _⟩
theorem Fm.setE {w:World}{vl:Value}{mc rc:Array Value}{er:Int}{W:World}(h:Fm w vl mc rc er W)(er':Int):Fm w vl mc rc er' (W.setCell ⟨w.heap.size+1+1+1,0,none⟩ (.int .i64 er')):=
 ⟨h.low.setCell (p:=⟨w.heap.size+1+1+1,0,none⟩) (by show w.heap.size≤w.heap.size+1+1+1;omega) _,h.lb.other (by omega) _ _,h.mb.other (by omega) _ _,h.rb.other (by omega) _ _,h.eb.set 0 _⟩
theorem Fm.out {w:World}{vl v:Value}{mc rc:Array Value}{er:Int}{W:World}{base n:Nat}{xs:List Lt}(h:Fm w vl mc rc er W)(ho:fM aa 47 7 base W v n xs)(rc':Array Value)(er':Int):fM aa 47 7 base ((W.setRow (w.heap.size+1+1) rc').setCell ⟨w.heap.size+1+1+1,0,none⟩ (.int .i64 er')) v n xs:=
 ⟨ho.1,bX (bX ho.2 h.rb (fun cur e=>by injection e with _ e;revert e;decide) (cZ _ _ _)) (h.setR rc').eb (fun cur e=>by injection e with _ e;revert e;decide) (bZ _ _ _ _)⟩
theorem Fm.put {w:World}{vl:Value}{mc rc:Array Value}{er:Int}{W:World}(h:Fm w vl mc rc er W){l:Nat}(hl:w.heap.size+1+1+1<l)(o:Obj):Fm w vl mc rc er (W.putObj l o):=
 ⟨aJ h.low (by omega) _,h.lb.put (by omega) _,h.mb.put (by omega) _,h.rb.put (by omega) _,h.eb.put (by omega) _⟩
structure L1s (w:World) (vl:Value) (mc:Array Value) (l0 D:Nat) (W:World):Prop where
 fm:Fm w vl mc #[.slice none 0 0,.slice none 0 0,.slice none 0 0,.slice none 0 0] 5 W
 lp:∃rec:Loop,W.heap[l0]? =some (.loop rec)∧rec.state= .done ∧rec.pending=some .ret
 df:W.heap[D]? =some (.deferred (some []))
structure L2 (W0:World) (br bg:Nat) (p:PlS) (l0 D:Nat) (rec:Loop) (st:Value) (L0 fr:List Lt) (k:Nat) (W:World):Prop where
 low:Below W0.heap.size W0 W
 pf:TBx W bg (plA p) 162
 lp:W.heap[l0]? =some (.loop rec)
 df:W.heap[D]? =some (.deferred (some []))
 res:∃M A1 n1 c1,TBx W br #[.slice A1 n1 c1,.slice none 0 0,st,.slice none 0 0] 41∧fM aa 47 7 W0.heap.size W (.slice A1 n1 c1) n1 M∧OpnAll L0 (fr.take k) M
theorem L2.up {W0:World}{br bg:Nat}{p:PlS}{l0 D:Nat}{rec:Loop}{st:Value}{L0 fr:List Lt}{k:Nat}{W W':World}(h:L2 W0 br bg p l0 D rec st L0 fr k W)(hb:Below W.heap.size W W'):L2 W0 br bg p l0 D rec st L0 fr k W':=by
 obtain⟨M,A1,n1,c1,h1,h2,h3⟩:=h.res;exact⟨h.low.trans (hb.mono h.low.size),h.pf.on hb,(hb.block l0 (alc.1 h.lp).1).trans h.lp,(hb.block D (alc.1 h.df).1).trans h.df,⟨M,A1,n1,c1,h1.on hb,h2.on hb,h3⟩⟩
theorem L2.round {W0:World}{br bg:Nat}{p:PlS}{l0 D:Nat}{rec:Loop}{st:Value}{L0 fr:List Lt}{k:Nat}{W w2:World}(h:L2 W0 br bg p l0 D rec st L0 fr k W)(hb:Below W.heap.size W w2)(h0:W0.heap.size≤br)(hbl:br<l0)(hbg:br<bg)(hbD:br<D)(hgl:bg≠l0)(hDl:D≠l0)(rec' rec2:Loop)(hlp:w2.heap[l0]? =some (.loop rec'))
 {Lb:List Lt} {A1 A2:Option Addr} {n1 n2 c1 c2:Nat} (ht:TBx w2 br #[.slice A1 n1 c1,.slice none 0 0,st,.slice none 0 0] 41) (ho:fM aa 47 7 W0.heap.size w2 (.slice A2 n2 c2) n2 Lb) (hop:OpnAll L0 (fr.take (k+1)) Lb):
 L2 W0 br bg p l0 D rec2 st L0 fr (k+1) ((w2.setCell ⟨br,0,none⟩ (.slice A2 n2 c2)).putObj l0 (.loop rec2)):=by
 have b1:Below W0.heap.size W0 w2:=h.low.trans (hb.mono h.low.size);have b2:=b1.setCell (p:=⟨br,0,none⟩) h0 (.slice A2 n2 c2);have hlS:(w2.setCell ⟨br,0,none⟩ (.slice A2 n2 c2)).heap[l0]? =some (.loop rec'):=(alv _ _ _ _ (by show l0≠br;omega)).trans hlp;have hdS:(w2.setCell ⟨br,0,none⟩ (.slice A2 n2 c2)).heap[D]? =some (.deferred (some [])):=(alv _ _ _ _ (by show D≠br;omega)).trans ((hb.block D (alc.1 h.df).1).trans h.df);refine⟨aJ b2 (by omega) _,((h.pf.on hb).other (by omega) _ _).put hgl _,World.putObj_heap_same (alc.1 hlS).1,(World.putObj_heap_other hDl).trans hdS,⟨Lb,A2,n2,c2,(ht.set 0 (.slice A2 n2 c2)).put (by omega) _,⟨ho.1,?_⟩,hop⟩⟩;exact ownsRow_putObj (bX ho.2 ht (fun cur e=>by injection e with _ e;revert e;decide) (bZ _ _ _ _)) _ hlS rfl
structure L2s (w:World) (vl:Value) (mc:Array Value) (l0 D D0:Nat) (L0 fr:List Lt) (W:World):Prop where
 fm:Fm w vl mc #[.slice none 0 0,.slice none 0 0,.slice none 0 0,.slice none 0 0] 4 W
 lp:∃rec:Loop,W.heap[l0]? =some (.loop rec)∧rec.state= .done ∧rec.pending=some .ret
 df:W.heap[D]? =some (.deferred (some []))
 d0:W.heap[D0]? =some (.deferred (some []))
 no:∃k M x,fr[k]? =some x∧OpnAll L0 (fr.take k) M∧mP M x≠0
structure L1 (W0:World) (bf:Nat) (p:PlS) (l0 D:Nat) (rec:Loop) (fr l:List Lt) (k:Nat) (W:World):Prop where
 low:Below W0.heap.size W0 W
 pf:TBx W bf (plA p) 162
 lp:W.heap[l0]? =some (.loop rec)
 df:W.heap[D]? =some (.deferred (some []))
 no:∀i,i<k→∀x,fr[i]? =some x→∀y∈l,y.id≠x.id
theorem L1.up {W0:World}{bf:Nat}{p:PlS}{l0 D:Nat}{rec:Loop}{fr l:List Lt}{k:Nat}{W W':World}(h:L1 W0 bf p l0 D rec fr l k W)(hb:Below W.heap.size W W'):L1 W0 bf p l0 D rec fr l k W':=
 ⟨h.low.trans (hb.mono h.low.size),h.pf.on hb,(hb.block l0 (alc.1 h.lp).1).trans h.lp,(hb.block D (alc.1 h.df).1).trans h.df,h.no⟩
theorem L1.round {W0:World}{bf:Nat}{p:PlS}{l0 D:Nat}{rec:Loop}{fr l:List Lt}{k:Nat}{W W':World}(h:L1 W0 bf p l0 D rec fr l k W)(o1 o2:Obj)(hb:Below ((W.alloc o1).putObj l0 o2).heap.size ((W.alloc o1).putObj l0 o2) W')(h0:W0.heap.size≤l0)(hne:bf≠l0)(hD:D≠l0)(hn:∀x,fr[k]? =some x→∀y∈l,y.id≠x.id):
 L1 W0 bf p l0 D rec fr l (k+1) (W'.putObj l0 (.loop rec)):=by
 have h1:=h.up ((alJ W.heap.size W).alloc alK o1);have hl:l0<(W.alloc o1).heap.size :=(alc.1 h1.lp).1;have b1:Below W0.heap.size W0 ((W.alloc o1).putObj l0 o2):=aJ h1.low h0 o2;have b2:=b1.trans (hb.mono b1.size);have e1:((W.alloc o1).putObj l0 o2).heap[D]? =some (.deferred (some [])):=(World.putObj_heap_other hD).trans h1.df;have hl':l0<W'.heap.size:=alx (by simpa using hl) hb.size;refine⟨aJ b2 h0 _,((h1.pf.put hne o2).on hb).put hne _,World.putObj_heap_same hl',(World.putObj_heap_other hD).trans ((hb.block D (alc.1 e1).1).trans e1),fun i hi x hx=>?_⟩;by_cases e:i=k
 ·subst e;exact hn x hx
 ·exact h.no i (by omega) x hx
theorem outL {p:PlS}{m:MapS}{l:List Lt}{base base' n:Nat}{W:World}{v:Value}(h:fM aa 47 7 base W v n (dw p.m.ins l))(hp:p.m=m)(hb:base'≤base):fM aa 47 7 base' W v n (dw m.ins l):=by
 subst hp;exact⟨h.1,dB h.2 hb⟩
theorem outR {W:World}{br base n:Nat}{v:Value}{xs:List Lt}{rc:Array Value}(h:fM aa 47 7 base W v n xs)(ht:TBx W br rc 41)(rc':Array Value):fM aa 47 7 base (W.setRow br rc') v n xs:=
 ⟨h.1,bX h.2 ht (fun cur e=>by injection e with _ e;revert e;decide) (cZ _ _ _)⟩
theorem ag9 (p:PlS)(v:World):(storeVar 162 ⟨v.heap.size,0,none⟩ (.agg (plA p))).run Tryz.prog (v.alloc (.cells aLm92 162))= .ok () (v.alloc (.cells (plA p) 162)):=by
 rw[TBx.store (TBx.new v aLm92 162) rfl rfl (by simp[plA,Value.oneCell']),World.setRow_alloc_new]
structure MapFail (m:MapS) (l:List Lt) (z:Int):Prop where
 old:av m.ins l≠ []
 ids:∀x∈bD m l z,∀y∈l,y.id≠x.id
 no:∃k M x,(bD m l z)[k]? =some x∧OpnAll (dw m.ins l) ((bD m l z).take k) M∧mP M x≠0
def MapAns (m:MapS)(l:List Lt)(z:Int)(base:Nat)(w':World)(v:Value):Prop:=
 ∃vL vS er,v= .tuple #[.agg #[vL,.slice none 0 0,vS,.slice none 0 0],.int .i64 er]∧vL.oneCell'=true∧vS.oneCell'=true∧((er=0∧∃R,MapFine m l z R∧fM aa 47 7 base w' vL R.length R)∨er=5∨(er=4∧MapFail m l z))
theorem ajW {A':Option Addr}{n' c':Nat}{l:List Lt}(m:MapS){r pr:Rat}{z:Int}(hk:m.keep=false)(hmo:MOk m)(hn:l.length=n')(hle:aL l=0)(hz:∀x∈l,x.le 1000)(hr:Vq m.rn m.rd r)(hrf:bH 1000 r)(hsn:m.sn=⟨#[49]⟩)(hsd:m.sd=⟨#[]⟩)(hpp:Vq m.pn m.pd pr)(hpf:bH 1000 pr)(hw:((iv (mqL m l)).sum :Rat)*r=(z:Rat))
 (hms:∀x∈rF m l,Fit 3000 x) (hfs:∀x∈rE m l,Fit 3000 x) (hnz:∀x∈rR m l z,x≠0) (hz0:av m.ins l≠ []→z≠0) (hfr:∀x∈bD m l z,x.le 1000) (w:World) (hg:Gl w) (hi:Row w A' (au aa l)):
 Calls Tryz.prog 30 #[.slice A' n' c',mpV m] w fun e w'=>Below w.heap.size w w'∧∃v,e= .returned v∧MapAns m l z w.heap.size w' v:=by
 have hm:n'≤1000:=by rw[←hn];exact((bQ l).1 hle).1
 have K1:=ala (mY (A:=A') (c:=c') hn (by omega) hz hmo);have K2:=ala (uM (A':=A') (c':=c') m hn hm hz hr hrf hsn hsd hpp hpf hw hms);have HLE:=ala hle;have HN:=ala hn;have HZ:=ala hz;have HMS:=ala hms;have HFS:=ala hfs;have HNZ:=ala hnz;have HZ0:=ala hz0;have HFR:=ala hfr;have HKP:=ala hk;have HMO:=ala hmo.cause;have hqv:(aL l==0)=true:=by rw[hle];rfl
 rw[hqv]at K1;have hb4:Below w.heap.size w ((((w.alloc (.cells #[.slice A' n' c'] 22)).alloc (.cells (mpA m) 75)).alloc (.cells #[.slice none 0 0,.slice none 0 0,.slice none 0 0,.slice none 0 0] 41)).alloc (.cells #[.int .i64 0] 32)):=((alL.alloc (by simp) _).alloc (by simp;omega) _).alloc (by simp;omega) _;have F4:Fm w (.slice A' n' c') (mpA m) #[.slice none 0 0,.slice none 0 0,.slice none 0 0,.slice none 0 0] 0 ((((w.alloc (.cells #[.slice A' n' c'] 22)).alloc (.cells (mpA m) 75)).alloc (.cells #[.slice none 0 0,.slice none 0 0,.slice none 0 0,.slice none 0 0] 41)).alloc (.cells #[.int .i64 0] 32)):=⟨hb4,(((TBx.new w #[.slice A' n' c'] 22).alloc _).alloc _).alloc _,by
  have:=((TBx.new (w.alloc (.cells #[.slice A' n' c'] 22)) (mpA m) 75).alloc (.cells #[.slice none 0 0,.slice none 0 0,.slice none 0 0,.slice none 0 0] 41)).alloc (.cells #[.int .i64 0] 32);rwa[alf]at this,by
  have:=(TBx.new ((w.alloc (.cells #[.slice A' n' c'] 22)).alloc (.cells (mpA m) 75)) #[.slice none 0 0,.slice none 0 0,.slice none 0 0,.slice none 0 0] 41).alloc (.cells #[.int .i64 0] 32);rwa[alf,alf]at this,by
  have:=TBx.new (((w.alloc (.cells #[.slice A' n' c'] 22)).alloc (.cells (mpA m) 75)).alloc (.cells #[.slice none 0 0,.slice none 0 0,.slice none 0 0,.slice none 0 0] 41)) #[.int .i64 0] 32;rwa[alf,alf,alf]at this⟩
 have HF4:=ala F4;have hs:St w ((((w.alloc (.cells #[.slice A' n' c'] 22)).alloc (.cells (mpA m) 75)).alloc (.cells #[.slice none 0 0,.slice none 0 0,.slice none 0 0,.slice none 0 0] 41)).alloc (.cells #[.int .i64 0] 32)):=⟨hg,hb4⟩;have HR4:=ala (hi.on hb4);have HG:=ala hg;have HI:=ala hi;clear hn hle hz hr hrf hpp hpf hw hms hfs hnz hz0 hfr hmo hk hqv hi hg hsn hsd;have lb4:=F4.lb.bx.cell (i:=0) (v:=.slice A' n' c') rfl;have mb4:=F4.mb.bx.mapping rfl;clear F4 hb4;dsimp only[mpV]at*
 refine(callsIn_wide (n:=6)).1 ?_;refine callsIn_of_wp_marks Tryz.func30 rfl trivial ?_ rfl;simp only[Tryz.ntmps30,List.size_toArray,aly,List.length_nil,Nat.reduceAdd,Nat.reduceSub,Array.replicate_succ,Array.replicate_zero,List.push_toArray,List.append_toArray,List.nil_append,List.cons_append]
 gi_wp2_with fail
 refine⟨trivial,(callsIn_wide).2 ((K1.out _ hs.gl HR4.out).mono ?_)⟩;rintro e w5 ⟨rfl,hb5⟩;have HF5:=ala (HF4.out.on hb5);have HR5:=ala (HR4.out.on hb5);have hs:=hs.on hb5;clear lb4 mb4 HF4 HR4 hb5 K1;have lb5:=HF5.out.lb.bx.cell (i:=0) (v:=.slice A' n' c') rfl;have mb5:=HF5.out.mb.bx.mapping rfl;simp only[]
 gi_wp2_with fail
 refine⟨trivial,(callsIn_wide).2 ((K2.out w5 hs.gl HR5.out).mono ?_)⟩;rintro e w6 ⟨v6,rfl,⟨p,rfl,hpm,hpn,hpp,hpa,hpd,hpw,_⟩,hb6⟩;have HF6:=ala (HF5.out.on hb6);have HR6:=ala (HR5.out.on hb6);have hs:=hs.on hb6;have HPM:=ala hpm;have HPN:=ala hpn;have HPP:=ala hpp;have HPA:=ala (And.intro hpa hpd);have HPW:=ala hpw;clear lb5 mb5 HF5 HR5 hb6 K2 hpm hpn hpp hpa hpd hpw;have hb7:Below w6.heap.size w6 (w6.alloc (.cells (plA p) 162)):=alL;have HF7:=ala (HF6.out.on hb7);have HR7:=ala (HR6.out.on hb7);have HP7:Hid (TBx (w6.alloc (.cells (plA p) 162)) w6.heap.size (plA p) 162):=TBx.new _ _ _;have HW7:Hid (PlW p _ _ _ _ (w6.alloc (.cells (plA p) 162))):=HPW.out.on hb7;have hs:=hs.on hb7;have hb67:Hid (w.heap.size+1+1+1<w6.heap.size):=(alc.1 HF6.out.eb).1;have hps:=ag9 p w6;have p11:=HP7.out.bx.cell (i:=11) (v:=.slice p.A p.n p.c) rfl;unfold plV;clear HF6 HR6 HPW hb7;by_cases hp0:p.n=0
 ·have q1:((p.n:Int)==0)=true:=by simpa using(by omega:(p.n:Int)=0)
  have q2:(p.n:Int)=0:=by omega
  have lb7:=HF7.out.lb.bx.cell (i:=0) (v:=.slice A' n' c') rfl;simp only[]
  gi_wp2_with fail
  refine⟨trivial,(callsIn_wide).2 ((afJ HN.out (by omega) _ HR7.out).mono ?_)⟩;rintro e w8 ⟨v8,rfl,ho8,hb8⟩;obtain⟨A8,c8,rfl⟩:=fK ho8.2;have HF8:=ala (HF7.out.on hb8);have HO8:=ala ho8;clear hb8 ho8 p11 lb7 hps;have hst:=HF8.out.rb.storeR (cs':= #[.slice A8 n' c8,.slice none 0 0,.slice none 0 0,.slice none 0 0]) rfl rfl (by simp[Value.oneCell']);have F9:=HF8.out.setR #[.slice A8 n' c8,.slice none 0 0,.slice none 0 0,.slice none 0 0];have e9:=F9.eb.bx.cell (i:=0) (v:=.int .i64 0) rfl;have f9:=F9.eb.bx.frozen 0;have HF9:=ala (F9.setE 0);clear F9;have r9:=HF9.out.rb.bx.result rfl;have g9:=HF9.out.eb.bx.cell (i:=0) (v:=.int .i64 0) rfl;simp only[]
  gi_wp2_with fail
  refine⟨.tuple #[.agg #[.slice A8 n' c8,.slice none 0 0,.slice none 0 0,.slice none 0 0],.int .i64 0],by simp[results,Tryz.results30,go_sem,r9,g9],HF9.out.low,_,rfl,_,_,0,rfl,rfl,rfl,.inl ⟨rfl,l,⟨fun _=>rfl,fun h=>?_⟩,?_⟩⟩
  ·exact absurd (List.length_eq_zero_iff.1 (by rw[←HPN.out];exact hp0)) h
  ·have:=HF8.out.out HO8.out #[.slice A8 n' c8,.slice none 0 0,.slice none 0 0,.slice none 0 0] 0
   refine⟨rfl,dB ?_ hs.2.size⟩;rw[HN.out];exact this.2
 ·have q1:((p.n:Int)==0)=false:=by simpa using(by omega:(p.n:Int)≠0)
  have q2:¬(p.n:Int)=0:=by omega
  have kp7:=HP7.out.bx.plan rfl;simp only[]
  gi_wp2_with fail
  refine⟨trivial,(callsIn_wide).2 ((mO p _).mono ?_)⟩;rintro e w8 ⟨rfl,rfl⟩;obtain⟨W7,hW7⟩:∃W7,w6.alloc (.cells (plA p) 162)=W7:=⟨_,rfl⟩;have hW7s:w6.heap.size<W7.heap.size:=by rw[←hW7];simp
  rw[hW7]at HF7 HR7 HP7 HW7 hs⊢
  clear p11 hps kp7 hW7;obtain⟨bp,hbp⟩:∃bp,w6.heap.size=bp:=⟨_,rfl⟩;rw[hbp]at HP7 hb67 hW7s⊢
  have hb8:Below W7.heap.size W7 (W7.alloc (.cells (plA p) 162)):=alL;have HF8:=ala (HF7.out.on hb8);have HR8:=ala (HR7.out.on hb8);have HP8:=ala (HP7.out.on hb8);have HW8:=ala (HW7.out.on hb8);have HQ8:Hid (TBx (W7.alloc (.cells (plA p) 162)) W7.heap.size (plA p) 162):=TBx.new _ _ _;have hs:=hs.on hb8;have hW8s:W7.heap.size<(W7.alloc (.cells (plA p) 162)).heap.size :=by simp
  obtain⟨W8,hW8⟩:∃W8,W7.alloc (.cells (plA p) 162)=W8:=⟨_,rfl⟩;rw[hW8]at HF8 HR8 HP8 HW8 HQ8 hs hW8s⊢
  clear hW8 hb8 HF7 HR7 HP7 HW7 hbp;obtain⟨bf,hbf⟩:∃bf,W7.heap.size=bf:=⟨_,rfl⟩;rw[hbf]at HQ8 hW7s hW8s⊢
  clear hbf;have hb67':w.heap.size+1+1+1<W8.heap.size:=by have:=hb67.out;omega
  simp only[]
  gi_wp2_with fail
  refine gu rfl (by omega) rfl trivial (enters_of Tryz.func151 (by kernel_rfl) rfl) ?_;intro fn hfn r hr;have hst:r.state= .ready :=by rw[hr]
  have hpe:r.pending=none:=by rw[hr]
  have hPlOk:PlOk p (av m.ins l) (rR m l z) (rF m l) (rE m l) 3000:=by
   have hN:p.n=(av m.ins l).length :=HPN.out;have hle:(av m.ins l).length ≤n':=by rw[←HN.out];exact uI _ _
   refine⟨hN.symm,?_,?_,?_,by omega,by omega,HNZ.out,HMS.out,HFS.out,?_⟩
   ·unfold rR mqL dM;split<;>simp[dI,aP,hN]
   ·unfold rF mcL dM;split<;>simp[dI,aP,hN]
   ·unfold rE dM;split<;>simp[dI,aP]
    all_goals (unfold rF mcL dM;split<;>simp[dI,aP,hN])
   ·rw[HPM.out];have:=ve HMO.out;omega
  have HS:Hid (L1 W8 bf p (W8.heap.size+1) W8.heap.size r (bD m l z) l 0 ((W8.alloc (.deferred (some []))).alloc (.loop r))):=by
   have hbb:Below W8.heap.size W8 ((W8.alloc (.deferred (some []))).alloc (.loop r)):=alL.alloc (by simp) _;refine⟨hbb,HQ8.out.on hbb,?_,?_,fun i hi=>by omega⟩
   ·have:=World.alloc_heap_new (W8.alloc (.deferred (some []))) (.loop r)
    rwa[alf]at this
   ·exact(Below.heap_alloc _ _ _ (by simp)).trans (World.alloc_heap_new W8 _)
  refine(vJ (p:=p) (W8.heap.size+1) bf hPlOk (fun k W=>L1 W8 bf p (W8.heap.size+1) W8.heap.size r (bD m l z) l k W) (fun W=>L1s w (.slice A' n' c') (mpA m) (W8.heap.size+1) W8.heap.size W) (fun k W h=>⟨HW8.out.on h.low,h.pf⟩) (fun k W W' h hb=>h.up hb) ?_ _ HS.out).mono ?_
  ·intro k W1 x hk hx hG
   have hy:=run_yield (P:=Tryz.prog) (args:= #[.int .i64 (k:Int),ltV (frL p.m x k (rR m l z)[k]! (rF m l)[k]! (rE m l)[k]!)]) hG.lp (by rw[hr];rfl);refine⟨_,_,_,_,hy,roundIn_of_wpIn (by rw[hr];exact hfn) ?_⟩;have e1:=congrArg Loop.assign hr;have e2:=congrArg Loop.body hr;have e3:=congrArg Loop.tmps hr;have e4:=congrArg Loop.params hr;dsimp only at e1 e2 e3 e4;rw[e1,e2,e3,e4];have HGG:=ala hG;have Hst:=ala hst;have Hpe:=ala hpe;have HY:Hid ((bD m l z)[k]? =some (frL p.m x k (rR m l z)[k]! (rF m l)[k]! (rE m l)[k]!)):=by rw[HPM.out];exact kM hx
   clear e1 e2 e3 e4 hr hy hG hst hpe HS hx;obtain⟨y,hy⟩:∃y,frL p.m x k (rR m l z)[k]! (rF m l)[k]! (rE m l)[k]! =y:=⟨_,rfl⟩;rw[hy]at HY⊢
   clear hy;obtain⟨yid,yins,yacq,yopn,yq,yc,yu⟩:=y;dsimp only[ltV,ltA]
   gi_wp2_with fail
   have HGa:=ala (HGG.out.up ((alJ W1.heap.size W1).alloc alK (.cells (ru yid yins yacq yopn yq yc yu) 47)));refine⟨_,run_beginRound HGa.out.lp Hst.out,?_⟩;have hl0:W1.heap.size≠W8.heap.size+1:=by have:=(alc.1 HGG.out.lp).1;omega
   have hbW:Below W8.heap.size W8 ((W1.alloc (.cells (ru yid yins yacq yopn yq yc yu) 47)).putObj (W8.heap.size+1) (.loop {r with state:=.busy})):=aJ HGa.out.low (by omega) _;have XP:Bx ((W1.alloc (.cells (ru yid yins yacq yopn yq yc yu) 47)).putObj (W8.heap.size+1) (.loop {r with state:=.busy})) W1.heap.size (ru yid yins yacq yopn yq yc yu):=((TBx.new W1 _ 47).put hl0 _).bx;obtain⟨WP,hWP⟩:∃WP,(W1.alloc (.cells (ru yid yins yacq yopn yq yc yu) 47)).putObj (W8.heap.size+1) (.loop {r with state:=.busy})=WP:=⟨_,rfl⟩;have hlpP:Hid (WP.heap[W8.heap.size+1]? =some (.loop {r with state:=.busy})):=by show _=_;rw[←hWP];exact World.putObj_heap_same (alc.1 HGa.out.lp).1
   have hdfP:Hid (WP.heap[W8.heap.size]? =some (.deferred (some []))):=by show _=_;rw[←hWP];exact(World.putObj_heap_other (by omega)).trans HGa.out.df
   rw[hWP]at XP hbW⊢
   have HWP:=ala hWP;have HFP:=ala (HF8.out.on hbW);have HRP:=ala (HR8.out.on hbW);have hglP:Gl WP:=hs.gl.below hbW;have z0:=XP.cell (i:=0) (v:=.string yid) rfl;have l0c:=HFP.out.lb.bx.cell (i:=0) (v:=.slice A' n' c') rfl;have K3:=ala (xM (A:=A') (c:=c') (id:=yid) HN.out (by omega));obtain⟨bf1,hbf1⟩:∃bf1,(l.any fun x=>eqB x.id yid)=bf1:=⟨_,rfl⟩;rw[hbf1]at K3;have HB1:=ala hbf1;generalize max (ahu l yid) 0=ix at*
   clear hWP XP hbW hbf1
   gi_wp2_with fail
   refine⟨trivial,(callsIn_wide).2 ((K3.out _ hglP HRP.out).mono ?_)⟩;rintro e w2 ⟨rfl,hb2⟩;have HFQ:=ala (HFP.out.on hb2);have HB2:=ala hb2;have hlpQ:Hid (w2.heap[W8.heap.size+1]? =some (.loop {r with state:=.busy})):=(hb2.block _ (alc.1 hlpP.out).1).trans hlpP.out;clear z0 l0c K3;simp only[];cases bf1 with
   |true=>
    have hst1:=HFQ.out.rb.storeR (cs':= #[.slice none 0 0,.slice none 0 0,.slice none 0 0,.slice none 0 0]) rfl rfl (by simp[Value.oneCell']);have F9:=HFQ.out.setR #[.slice none 0 0,.slice none 0 0,.slice none 0 0,.slice none 0 0];have e9:=F9.eb.bx.cell (i:=0) (v:=.int .i64 0) rfl;have f9:=F9.eb.bx.frozen 0;have HF9:=ala (F9.setE 5);clear F9
    gi_wp2_with fail
    have hlpS:((w2.setRow (w.heap.size+1+1) #[.slice none 0 0,.slice none 0 0,.slice none 0 0,.slice none 0 0]).setCell ⟨w.heap.size+1+1+1,0,none⟩ (.int .i64 5)).heap[W8.heap.size+1]? =some (.loop {r with state:=.busy}):=
     (alv _ _ _ _ (by show W8.heap.size+1≠w.heap.size+1+1+1;have:=hb67.out;omega)).trans ((setRow_other _ _ _ _ (by have:=hb67.out;omega)).trans hlpQ.out)
    refine⟨_,_,run_endRound (some .ret) hlpS,.inr ⟨rfl,HF9.out.put (by have:=hb67.out;omega) _,⟨_,World.putObj_heap_same (alc.1 hlpS).1,rfl,rfl⟩,?_⟩⟩;refine(World.putObj_heap_other (by omega)).trans ((alv _ _ _ _ (by show W8.heap.size≠w.heap.size+1+1+1;have:=hb67.out;omega)).trans ((setRow_other _ _ _ _ (by have:=hb67.out;omega)).trans ?_));exact(HB2.out.block _ (alc.1 hdfP.out).1).trans hdfP.out
   |false=>
    gi_wp2_with fail
    refine⟨_,_,run_endRound none hlpQ.out,.inl ⟨rfl,?_⟩⟩;have hlr:({r with state:=if (none:Option Code).isNone then LoopState.ready else .done,pending:=none}:Loop)=r:=by have h1:=Hst.out;have h2:=Hpe.out;cases r;simp_all
    show L1 _ _ _ _ _ _ _ _ _ (World.putObj _ _ (.loop {r with state:=if (none:Option Code).isNone then LoopState.ready else .done,pending:=none}));rw[hlr];have hb2:=HB2.out;rw[←HWP.out]at hb2;refine HGG.out.round _ _ hb2 (by omega) (by omega) (by omega) ?_;intro x0 hx0 y hy e;have hxx:=Option.some.inj (HY.out.symm.trans hx0);subst hxx;exact List.any_eq_false.1 HB1.out y hy (gI.2 e)
  ·rintro e W4 ⟨⟨v,rfl⟩,hor⟩
   rcases hor with hG|hS
   ·have hend:=run_endLoop (P:=Tryz.prog) hG.lp (by rw[hst];decide)
    obtain⟨o5,ho5⟩:∃o5:Obj,o5= .loop {r with state:=.exhausted}:=⟨_,rfl⟩;rw[←ho5,hpe]at hend;have b6:Below W8.heap.size W8 (W4.putObj (W8.heap.size+1) o5):=aJ hG.low (by omega) _;have df6:(W4.putObj (W8.heap.size+1) o5).heap[W8.heap.size]? =some (.deferred (some [])):=(World.putObj_heap_other (by omega)).trans hG.df;obtain⟨W6,hW6⟩:∃W6,W4.putObj (W8.heap.size+1) o5=W6:=⟨_,rfl⟩;rw[hW6]at hend b6 df6;refine⟨none,W6,hend,?_⟩;simp only[];have HNO:=ala hG.no;have HF6:=ala (HF8.out.on b6);have HR6:=ala (HR8.out.on b6);have HP6:=ala (HP8.out.on b6);have HW6:=ala (HW8.out.on b6);have HD6:=ala df6;have hs:=hs.on b6;have hszD:W8.heap.size<W6.heap.size:=(alc.1 df6).1;have hbpD:bp<W8.heap.size:=by omega
    obtain⟨D,hD⟩:∃D,W8.heap.size=D:=⟨_,rfl⟩;rw[hD]at HD6 hszD hbpD hb67'⊢
    clear ho5 hW6 hend hr hst hpe HS hG HF8 HR8 HP8 HW8 HQ8 b6 df6 hD hfn hW8s hW7s
    gi_wp2_with fail
    have KK:=ala (adX p (A':=A') (c':=c') (by rw[HPM.out];exact HKP.out) HN.out (by omega));have KGn:=ala (ab7 p HPA.out.1 HPA.out.2);have hp1:1≤p.n:=by omega
    have hqz:(p.parts.toList== [])=false:=by
     have hz1:=HZ0.out (fun e=>hp0 (by rw[HPN.out,e];rfl));rw[HPP.out,nil_eq];exact alH hz1
    have KSt:=ala (fun(u:World) (h:PlW p _ _ _ _ u)=>ab6 p (by rw[HPM.out];exact HKP.out) hqz hPlOk hp1 u h);have hSOK:Hid (∀v,Below W6.heap.size W6 v→(loadVar 162 ⟨bp,0,none⟩).run Tryz.prog v= .ok (.agg (plA p)) v∧v.cell? ⟨w.heap.size,0,none⟩=some (.slice A' n' c')):=fun v hv=>⟨(HP6.out.on hv).bx.plan rfl,(HF6.out.lb.on hv).bx.cell (i:=0) rfl⟩
    have hGR:Hid (∀v,Below W6.heap.size W6 v→Gl v∧Row v A' (au aa l)∧PlW p (av m.ins l) (rR m l z) (rF m l) (rE m l) v):=fun v hv=>⟨hs.gl.below hv,HR6.out.on hv,HW6.out.on hv⟩
    have BL0:Hid (Below W6.heap.size W6 W6.drew):=(alJ _ _).drew;have BL0b:Hid (Below W6.heap.size W6 (W6.drew.alloc (.cells #[.slice none 0 0,.slice none 0 0,.slice none 0 0,.slice none 0 0] 41))):=BL0.out.alloc BL0.out.size _;have BL0c:Hid (Below W6.heap.size W6 ((W6.alloc (.cells #[.slice none 0 0,.slice none 0 0,.slice none 0 0,.slice none 0 0] 41)).drew)):=BL0b.out;have TA0b:Hid (TBx (W6.drew.alloc (.cells #[.slice none 0 0,.slice none 0 0,.slice none 0 0,.slice none 0 0] 41)) W6.heap.size #[.slice none 0 0,.slice none 0 0,.slice none 0 0,.slice none 0 0] 41):=TBx.new W6.drew _ _;have HS1:∀(v:World) (A1:Option Addr) (k1 c1:Nat) (A3:Option Addr) (k3 c3:Nat),(storeVar 41 ⟨v.heap.size,0,none⟩ (.agg #[.slice A1 k1 c1,.slice none 0 0,.slice A3 k3 c3,.slice none 0 0])).run Tryz.prog (v.alloc (.cells #[.slice none 0 0,.slice none 0 0,.slice none 0 0,.slice none 0 0] 41))= .ok () (v.alloc (.cells #[.slice A1 k1 c1,.slice none 0 0,.slice A3 k3 c3,.slice none 0 0] 41)):=fun v A1 k1 c1 A3 k3 c3=>by
     rw[TBx.storeR (TBx.new v #[.slice none 0 0,.slice none 0 0,.slice none 0 0,.slice none 0 0] 41) rfl rfl (by simp[Value.oneCell']),World.setRow_alloc_new]
    clear hqz;refine wpIn_wide.2 ?_
    go_cut [11]from 44 to 51 (fun s11 wx=>∃br A1 k1 c1 A3 k3 c3,s11= .pointer (some ⟨br,0,none⟩)∧Hid (Below W6.heap.size W6 wx∧TBx wx br #[.slice A1 k1 c1,.slice none 0 0,.slice A3 k3 c3,.slice none 0 0] 41∧W6.heap.size≤br∧fM aa 47 7 W6.heap.size wx (.slice A1 k1 c1) k1 (dw m.ins l)))
    case first=>
     go_region_held3 (fun v=>(loadVar 162 ⟨bp,0,none⟩).run Tryz.prog v= .ok (.agg (plA p)) v∧v.cell? ⟨w.heap.size,0,none⟩=some (.slice A' n' c'))
      (first|with_reducible exact hSOK.out _ BL3a.out|with_reducible exact hSOK.out _ BL3b.out|with_reducible exact hSOK.out _ BL3c.out|with_reducible exact hSOK.out _ BL3d.out|with_reducible exact hSOK.out _ (BL3a.out.alloc BL3a.out.size _)|with_reducible exact hSOK.out _ (below_setRow BL3b.out alK _)|with_reducible exact hSOK.out _ (below_setRow BL3c.out BL1a.out.size _)|with_reducible exact hSOK.out _ (below_setRow BL3d.out BL2a.out.size _)|with_reducible exact hSOK.out _ BL2a.out|with_reducible exact hSOK.out _ BL2b.out|with_reducible exact hSOK.out _ BL2c.out|with_reducible exact hSOK.out _ (BL2a.out.alloc BL2a.out.size _)|with_reducible exact hSOK.out _ BL1a.out|with_reducible exact hSOK.out _ BL1b.out|with_reducible exact hSOK.out _ (BL1a.out.alloc BL1a.out.size _)|with_reducible exact hSOK.out _ BL0.out|with_reducible exact hSOK.out _ BL0b.out|with_reducible exact hSOK.out _ BL0c.out)
      (first
       |(go_at_call 79;refine(KK.out W6.drew (hGR.out _ BL0.out).1 (hGR.out _ BL0.out).2.1).mono ?_;rintro e w1 ⟨v1,rfl,ho1,hb1⟩;obtain⟨A1,c1,rfl⟩:=fK ho1.2;have BL1a:Hid (Below W6.heap.size W6 w1):=BL0.out.trans (hb1.mono BL0.out.size);have HO1a:=ala ho1;clear ho1 hb1)
       |(go_at_call 79;refine(KK.out (W6.drew.alloc (.cells #[.slice none 0 0,.slice none 0 0,.slice none 0 0,.slice none 0 0] 41)) (hGR.out _ BL0b.out).1 (hGR.out _ BL0b.out).2.1).mono ?_;rintro e w1 ⟨v1,rfl,ho1,hb1⟩;obtain⟨A1,c1,rfl⟩:=fK ho1.2;have BL1b:Hid (Below W6.heap.size W6 w1):=BL0b.out.trans (hb1.mono BL0b.out.size);have HO1b:=ala ho1;have TA1b:=ala (TA0b.out.on hb1);clear ho1 hb1)
       |(go_at_call 80;refine(KGn.out w1 (hGR.out _ (BL1a.out)).1).mono ?_;rintro e w2 ⟨rfl,hb2⟩;have BL2a:Hid (Below W6.heap.size W6 w2):=(BL1a.out).trans (hb2.mono (BL1a.out).size);have HO2a:=ala (HO1a.out.on hb2);clear hb2)
       |(go_at_call 80;refine(KGn.out w1 (hGR.out _ (BL1b.out)).1).mono ?_;rintro e w2 ⟨rfl,hb2⟩;have BL2b:Hid (Below W6.heap.size W6 w2):=(BL1b.out).trans (hb2.mono (BL1b.out).size);have HO2b:=ala (HO1b.out.on hb2);have TA2b:=ala ((TA1b.out).on hb2);clear hb2)
       |(go_at_call 80;refine(KGn.out (w1.alloc (.cells #[.slice none 0 0,.slice none 0 0,.slice none 0 0,.slice none 0 0] 41)) (hGR.out _ (BL1a.out.alloc BL1a.out.size _)).1).mono ?_;rintro e w2 ⟨rfl,hb2⟩;have BL2c:Hid (Below W6.heap.size W6 w2):=(BL1a.out.alloc BL1a.out.size _).trans (hb2.mono (BL1a.out.alloc BL1a.out.size _).size);have HO2c:=ala ((HO1a.out.on (bal w1 (.cells #[.slice none 0 0,.slice none 0 0,.slice none 0 0,.slice none 0 0] 41))).on hb2);have TA2c:=ala ((TBx.new w1 #[.slice none 0 0,.slice none 0 0,.slice none 0 0,.slice none 0 0] 41).on hb2);clear hb2)
       |(go_at_call 81;refine(KSt.out w2 (hGR.out _ (BL2a.out)).2.2).mono ?_;rintro e w3 ⟨⟨A3,k3,c3,rfl⟩,hb3⟩;have BL3a:Hid (Below W6.heap.size W6 w3):=(BL2a.out).trans (hb3.mono (BL2a.out).size);have HO3a:=ala (HO2a.out.on hb3);clear hb3)
       |(go_at_call 81;refine(KSt.out w2 (hGR.out _ (BL2b.out)).2.2).mono ?_;rintro e w3 ⟨⟨A3,k3,c3,rfl⟩,hb3⟩;have BL3b:Hid (Below W6.heap.size W6 w3):=(BL2b.out).trans (hb3.mono (BL2b.out).size);have HO3b:=ala (HO2b.out.on hb3);have TA3b:=ala ((TA2b.out).on hb3);have HS3:=TA3b.out.storeR (cs':= #[.slice A1 (dw p.m.ins l).length c1,.slice none 0 0,.slice A3 k3 c3,.slice none 0 0]) rfl rfl (by simp[Value.oneCell']);clear hb3)
       |(go_at_call 81;refine(KSt.out w2 (hGR.out _ (BL2c.out)).2.2).mono ?_;rintro e w3 ⟨⟨A3,k3,c3,rfl⟩,hb3⟩;have BL3c:Hid (Below W6.heap.size W6 w3):=(BL2c.out).trans (hb3.mono (BL2c.out).size);have HO3c:=ala (HO2c.out.on hb3);have TA3c:=ala ((TA2c.out).on hb3);have HS3:=TA3c.out.storeR (cs':= #[.slice A1 (dw p.m.ins l).length c1,.slice none 0 0,.slice A3 k3 c3,.slice none 0 0]) rfl rfl (by simp[Value.oneCell']);clear hb3)
       |(go_at_call 81;refine(KSt.out (w2.alloc (.cells #[.slice none 0 0,.slice none 0 0,.slice none 0 0,.slice none 0 0] 41)) (hGR.out _ (BL2a.out.alloc BL2a.out.size _)).2.2).mono ?_;rintro e w3 ⟨⟨A3,k3,c3,rfl⟩,hb3⟩;have BL3d:Hid (Below W6.heap.size W6 w3):=(BL2a.out.alloc BL2a.out.size _).trans (hb3.mono (BL2a.out.alloc BL2a.out.size _).size);have HO3d:=ala ((HO2a.out.on (bal w2 (.cells #[.slice none 0 0,.slice none 0 0,.slice none 0 0,.slice none 0 0] 41))).on hb3);have TA3d:=ala ((TBx.new w2 #[.slice none 0 0,.slice none 0 0,.slice none 0 0,.slice none 0 0] 41).on hb3);have HS3:=TA3d.out.storeR (cs':= #[.slice A1 (dw p.m.ins l).length c1,.slice none 0 0,.slice A3 k3 c3,.slice none 0 0]) rfl rfl (by simp[Value.oneCell']);clear hb3))
     all_goals (go_wp2_with fail;go_meet)
     all_goals first
      |exact⟨_,_,_,_,_,_,_,rfl,BL3a.out.alloc BL3a.out.size _,TBx.new _ _ _,BL3a.out.size,outL (HO3a.out.on (bal _ _)) HPM.out (by simp)⟩
      |exact⟨_,_,_,_,_,_,_,rfl,below_setRow BL3b.out alK _,TA3b.out.row _,Nat.le_refl _,outL (outR HO3b.out TA3b.out _) HPM.out (by simp)⟩
      |exact⟨_,_,_,_,_,_,_,rfl,below_setRow BL3c.out BL1a.out.size _,TA3c.out.row _,BL1a.out.size,outL (outR HO3c.out TA3c.out _) HPM.out (by simp)⟩
      |exact⟨_,_,_,_,_,_,_,rfl,below_setRow BL3d.out BL2a.out.size _,TA3d.out.row _,BL2a.out.size,outL (outR HO3d.out TA3d.out _) HPM.out (by simp)⟩
    case rest=>
     obtain⟨br,A1,k1,c1,A3,k3,c3,rfl,HC⟩:=hcut;have HFc:=ala (HF6.out.on HC.out.1);have HPc:=ala (HP6.out.on HC.out.1);have HWc:=ala (HW6.out.on HC.out.1);have HDc:Hid (wc.heap[D]? =some (.deferred (some []))):=(HC.out.1.block D hszD).trans HD6.out;have HBc:Hid (TBx wc br #[.slice A1 k1 c1,.slice none 0 0,.slice A3 k3 c3,.slice none 0 0] 41):=HC.out.2.1;have HOc:Hid (fM aa 47 7 W6.heap.size wc (.slice A1 k1 c1) k1 (dw m.ins l)):=HC.out.2.2.2;have hbr:D<br:=alx hszD HC.out.2.2.1;have hbr2:br<wc.heap.size:=(alc.1 HBc.out).1;have hW6c:W6.heap.size≤br:=HC.out.2.2.1;have hwb:w.heap.size+1+1+1<W6.heap.size:=by omega
     have hs6:St w W6:=hs;have hs:=hs.on HC.out.1;have HL6:=ala HC.out.1;clear HR6 HP6 KK KGn KSt hSOK hGR BL0 BL0b BL0c TA0b HS1 HC;have kpc:=HPc.out.bx.plan rfl
     gi_wp2_with fail
     refine⟨trivial,(callsIn_wide).2 ((mO p _).mono ?_)⟩;rintro e w8 ⟨rfl,rfl⟩;have hb8:Below wc.heap.size wc (wc.alloc (.cells (plA p) 162)):=alL;have HF8:=ala (HFc.out.on hb8);have HW8:=ala (HWc.out.on hb8);have HB8:=ala (HBc.out.on hb8);have HO8:=ala (HOc.out.on hb8);have HD8:Hid ((wc.alloc (.cells (plA p) 162)).heap[D]? =some (.deferred (some []))):=(hb8.block D (by omega)).trans HDc.out;have HL8:=ala (HL6.out.trans (hb8.mono HL6.out.size));have HQ8:Hid (TBx (wc.alloc (.cells (plA p) 162)) wc.heap.size (plA p) 162):=TBx.new _ _ _;have hs:=hs.on hb8;have hw8s:wc.heap.size<(wc.alloc (.cells (plA p) 162)).heap.size :=by simp
     obtain⟨V8,hV8⟩:∃V8,wc.alloc (.cells (plA p) 162)=V8:=⟨_,rfl⟩;rw[hV8]at HF8 HW8 HB8 HO8 HD8 HQ8 HL8 hs hw8s⊢
     clear hV8 hb8 HFc HPc HWc HDc HBc HOc kpc HL6 HW8 HD8 HF8;obtain⟨bg,hbg⟩:∃bg,wc.heap.size=bg:=⟨_,rfl⟩;rw[hbg]at HQ8 hbr2 hw8s⊢
     clear hbg;simp only[]
     gi_wp2_with fail
     refine gu rfl (by omega) rfl trivial (enters_of Tryz.func151 (by kernel_rfl) rfl) ?_;intro fn hfn r hr;have hst:r.state= .ready :=by rw[hr]
     have hpe:r.pending=none:=by rw[hr]
     have HS:Hid (L2 W6 br bg p (V8.heap.size+1) V8.heap.size r (.slice A3 k3 c3) (dw m.ins l) (bD m l z) 0 ((V8.alloc (.deferred (some []))).alloc (.loop r))):=by
      have hbb:Below V8.heap.size V8 ((V8.alloc (.deferred (some []))).alloc (.loop r)):=alL.alloc (by simp) _;refine⟨HL8.out.trans (hbb.mono HL8.out.size),HQ8.out.on hbb,?_,?_,⟨_,A1,k1,c1,HB8.out.on hbb,HO8.out.on hbb,by rw[List.take_zero];exact .nil⟩⟩
      ·have:=World.alloc_heap_new (V8.alloc (.deferred (some []))) (.loop r)
       rwa[alf]at this
      ·exact(Below.heap_alloc _ _ _ (by simp)).trans (World.alloc_heap_new V8 _)
     refine(vJ (p:=p) (V8.heap.size+1) bg hPlOk (fun k W=>L2 W6 br bg p (V8.heap.size+1) V8.heap.size r (.slice A3 k3 c3) (dw m.ins l) (bD m l z) k W) (fun W=>L2s w (.slice A' n' c') (mpA m) (V8.heap.size+1) V8.heap.size D (dw m.ins l) (bD m l z) W) (fun k W h=>⟨HW6.out.on h.low,h.pf⟩) (fun k W W' h hb=>h.up hb) ?_ _ HS.out).mono ?_
     ·intro k W1 x hk hx hG
      have hy:=run_yield (P:=Tryz.prog) (args:= #[.int .i64 (k:Int),ltV (frL p.m x k (rR m l z)[k]! (rF m l)[k]! (rE m l)[k]!)]) hG.lp (by rw[hr];rfl);refine⟨_,_,_,_,hy,roundIn_of_wpIn (by rw[hr];exact hfn) ?_⟩;have e1:=congrArg Loop.assign hr;have e2:=congrArg Loop.body hr;have e3:=congrArg Loop.tmps hr;have e4:=congrArg Loop.params hr;dsimp only at e1 e2 e3 e4;rw[e1,e2,e3,e4];have HGG:=ala hG;have Hst:=ala hst;have Hpe:=ala hpe;have HY:Hid ((bD m l z)[k]? =some (frL p.m x k (rR m l z)[k]! (rF m l)[k]! (rE m l)[k]!)):=by rw[HPM.out];exact kM hx
      clear e1 e2 e3 e4 hr hy hG hst hpe HS hx HQ8 HB8 HO8 HL8;obtain⟨y,hy⟩:∃y,frL p.m x k (rR m l z)[k]! (rF m l)[k]! (rE m l)[k]! =y:=⟨_,rfl⟩;rw[hy]at HY⊢
      clear hy;have HYL:Hid (y.le 1000):=HFR.out y (alk HY.out);obtain⟨yid,yins,yacq,yopn,yq,yc,yu⟩:=y;dsimp only[ltV,ltA]
      gi_wp2_with fail
      have HGa:=ala (HGG.out.up ((alJ W1.heap.size W1).alloc alK (.cells (ru yid yins yacq yopn yq yc yu) 47)));refine⟨_,run_beginRound HGa.out.lp Hst.out,?_⟩;have hV6:W6.heap.size≤V8.heap.size:=by omega
      have hl0:W1.heap.size≠V8.heap.size+1:=by have:=(alc.1 HGG.out.lp).1;omega
      have hbW:Below W6.heap.size W6 ((W1.alloc (.cells (ru yid yins yacq yopn yq yc yu) 47)).putObj (V8.heap.size+1) (.loop {r with state:=.busy})):=aJ HGa.out.low (by omega) _;have XP:Bx ((W1.alloc (.cells (ru yid yins yacq yopn yq yc yu) 47)).putObj (V8.heap.size+1) (.loop {r with state:=.busy})) W1.heap.size (ru yid yins yacq yopn yq yc yu):=((TBx.new W1 _ 47).put hl0 _).bx;obtain⟨M,B1,n1,d1,hT,hO,hOp⟩:=HGa.out.res;have hTP:=hT.put (by omega:br≠V8.heap.size+1) (.loop {r with state:=.busy});have hOP:fM aa 47 7 W6.heap.size ((W1.alloc (.cells (ru yid yins yacq yopn yq yc yu) 47)).putObj (V8.heap.size+1) (.loop {r with state:=.busy})) (.slice B1 n1 d1) n1 M:=⟨hO.1,ownsRow_putObj hO.2 _ HGa.out.lp rfl⟩;obtain⟨WP,hWP⟩:∃WP,(W1.alloc (.cells (ru yid yins yacq yopn yq yc yu) 47)).putObj (V8.heap.size+1) (.loop {r with state:=.busy})=WP:=⟨_,rfl⟩;have hlpP:Hid (WP.heap[V8.heap.size+1]? =some (.loop {r with state:=.busy})):=by show _=_;rw[←hWP];exact World.putObj_heap_same (alc.1 HGa.out.lp).1
      have hdfP:Hid (WP.heap[V8.heap.size]? =some (.deferred (some []))):=by show _=_;rw[←hWP];exact(World.putObj_heap_other (by omega)).trans HGa.out.df
      have hpfP:Hid (TBx WP bg (plA p) 162):=by show TBx _ _ _ _;rw[←hWP];exact HGa.out.pf.put (by omega) _
      rw[hWP]at XP hbW hTP hOP⊢
      have HFP:=ala (HF6.out.on hbW);have hd0P:Hid (WP.heap[D]? =some (.deferred (some []))):=(hbW.block D hszD).trans HD6.out;have hglP:Gl WP:=hs6.gl.below hbW;have HbW:=ala hbW;have HTP:=ala hTP;have HOP:=ala hOP;have HOp:=ala hOp;have hML:M.length≤2000:=by
       rw[hOp.perm.length_eq,alG,alr];have h1:=abr m.ins l;have h2:=HN.out;have h3:(bD m l z).length ≤1000:=by
        unfold bD;rw[eH];have:=uI m.ins l;omega
       omega
      have hMZ:∀y∈M,y.le 1000:=fun y hy=>by
       rcases List.mem_append.1 (hOp.perm.mem_iff.1 hy)with h|h
       ·exact HZ.out y (List.mem_filter.1 h).1
       ·exact HFR.out y (List.mem_of_mem_take h)
      obtain⟨B1',d1',hBe,hRow⟩:=hOP.row;injection hBe with hBa _ hBc
      subst hBa;subst hBc;have KO:=ala (ahd (A:=B1) (n:=n1) (c:=d1) (l:=M) (x:=⟨yid,yins,yacq,yopn,yq,yc,yu⟩) hOP.1 (by rw[←hOP.1];omega) hMZ HYL.out WP hglP hRow);unfold ltV ltA at KO;have z0:=XP.cell (i:=0) (v:=.string yid) rfl;have z1:=XP.cell (i:=1) (v:=.string yins) rfl;have z2:=XP.cell (i:=2) (v:=.int .i64 yacq) rfl;have z3:=XP.cell (i:=3) (v:=.int .i64 yopn) rfl;have z4:=XP.cell (i:=4) (v:=.string yq) rfl;have z5:=XP.cell (i:=5) (v:=.string yc) rfl;have z6:=XP.cell (i:=6) (v:=.string yu) rfl;have o0:=hTP.bx.cell (i:=0) (v:=.slice B1 n1 d1) rfl;clear hWP XP hbW hT hO hTP hOP hOp hML hMZ hRow
      gi_wp2_with fail
      refine⟨trivial,(callsIn_wide).2 (KO.out.mono ?_)⟩;rintro e w2 ⟨hb2,v2,rfl,hopn⟩;have HOPN:=ala hopn;have HB2:=ala hb2;have hlpQ:Hid (w2.heap[V8.heap.size+1]? =some (.loop {r with state:=.busy})):=(hb2.block _ (alc.1 hlpP.out).1).trans hlpP.out;have hdfQ:Hid (w2.heap[V8.heap.size]? =some (.deferred (some []))):=(hb2.block _ (alc.1 hdfP.out).1).trans hdfP.out;have hd0Q:Hid (w2.heap[D]? =some (.deferred (some []))):=(hb2.block _ (alc.1 hd0P.out).1).trans hd0P.out;have HFQ:=ala (HFP.out.on hb2);have HTQ:=ala (HTP.out.on hb2);obtain⟨oe,hoe⟩:∃oe,mP M ⟨yid,yins,yacq,yopn,yq,yc,yu⟩=oe:=⟨_,rfl⟩;have HOE:=ala hoe;rw[hoe]at HOPN⊢
      clear z0 z1 z2 z3 z4 z5 z6 o0 KO hb2 hopn hoe;simp only[];by_cases h0:oe=0
      ·subst h0
       obtain⟨Lb,hLb,hOut⟩:=HOPN.out rfl;obtain⟨A2,c2,hv2⟩:=fK hOut.2;subst hv2;have HOut:Hid (fM aa 47 7 W6.heap.size w2 (.slice A2 (n1+1) c2) (n1+1) Lb):=⟨hOut.1,dB hOut.2 HbW.out.size⟩;have HLb:=ala hLb;have o0:=HTQ.out.bx.cell (i:=0) (v:=.slice B1 n1 d1) rfl;have f0:=HTQ.out.bx.frozen 0;clear hOut hLb HOPN
       gi_wp2_with fail
       have hlpS:(w2.setCell ⟨br,0,none⟩ (.slice A2 (n1+1) c2)).heap[V8.heap.size+1]? =some (.loop {r with state:=.busy}):=(alv _ _ _ _ (by show V8.heap.size+1≠br;omega)).trans hlpQ.out;refine⟨_,_,run_endRound none hlpS,.inl ⟨rfl,?_⟩⟩;have hlr:({r with state:=if (none:Option Code).isNone then LoopState.ready else .done,pending:=none}:Loop)=r:=by have h1:=Hst.out;have h2:=Hpe.out;cases r;simp_all
       show L2 _ _ _ _ _ _ _ _ _ _ _ (World.putObj _ _ (.loop {r with state:=if (none:Option Code).isNone then LoopState.ready else .done,pending:=none}));rw[hlr];have HGP:L2 W6 br bg p (V8.heap.size+1) V8.heap.size {r with state:=.busy} (.slice A3 k3 c3) (dw m.ins l) (bD m l z) k WP:=⟨HbW.out,hpfP.out,hlpP.out,hdfP.out,⟨M,_,_,_,HTP.out,HOP.out,HOp.out⟩⟩;exact HGP.round HB2.out hW6c (by omega) (by omega) (by omega) (by omega) (by omega) _ r hlpQ.out HTQ.out HOut.out (by rw[List.take_add_one,HY.out];exact .snoc HOp.out HOE.out HLb.out)
      ·have q1:(oe !=0)=true:=by simpa using h0
       have q2:(oe==0)=false:=by simpa using h0
       have hst1:=HFQ.out.rb.storeR (cs':= #[.slice none 0 0,.slice none 0 0,.slice none 0 0,.slice none 0 0]) rfl rfl (by simp[Value.oneCell']);have F9:=HFQ.out.setR #[.slice none 0 0,.slice none 0 0,.slice none 0 0,.slice none 0 0];have e9:=F9.eb.bx.cell (i:=0) (v:=.int .i64 0) rfl;have f9:=F9.eb.bx.frozen 0;have HF9:=ala (F9.setE 4);clear F9
       gi_wp2_with fail
       have hlpS:((w2.setRow (w.heap.size+1+1) #[.slice none 0 0,.slice none 0 0,.slice none 0 0,.slice none 0 0]).setCell ⟨w.heap.size+1+1+1,0,none⟩ (.int .i64 4)).heap[V8.heap.size+1]? =some (.loop {r with state:=.busy}):=
        (alv _ _ _ _ (by show V8.heap.size+1≠w.heap.size+1+1+1;omega)).trans ((setRow_other _ _ _ _ (by omega)).trans hlpQ.out)
       have hkeep:∀ {j:Nat} {o:Obj},w.heap.size+1+1+1<j→j≠V8.heap.size+1→w2.heap[j]? =some o→∀o',(((w2.setRow (w.heap.size+1+1) #[.slice none 0 0,.slice none 0 0,.slice none 0 0,.slice none 0 0]).setCell ⟨w.heap.size+1+1+1,0,none⟩ (.int .i64 4)).putObj (V8.heap.size+1) o').heap[j]? =some o:=fun{j o} h1 h2 h3 o'=>
        (World.putObj_heap_other h2).trans ((alv _ _ _ _ (by show j≠w.heap.size+1+1+1;omega)).trans ((setRow_other _ _ _ _ (by omega)).trans h3))
       exact⟨_,_,run_endRound (some .ret) hlpS,.inr ⟨rfl,HF9.out.put (by omega) _,⟨_,World.putObj_heap_same (alc.1 hlpS).1,rfl,rfl⟩,hkeep (by omega) (by omega) hdfQ.out _,hkeep (by omega) (by omega) hd0Q.out _,k,M,_,HY.out,HOp.out,by rw[HOE.out];exact h0⟩⟩
     ·rintro e W4 ⟨⟨v,rfl⟩,hor⟩
      rcases hor with hG|hS
      ·have hend:=run_endLoop (P:=Tryz.prog) hG.lp (by rw[hst];decide)
       obtain⟨o5,ho5⟩:∃o5:Obj,o5= .loop {r with state:=.exhausted}:=⟨_,rfl⟩;rw[←ho5,hpe]at hend;obtain⟨R,B1,n1,d1,hT,hO,hOp⟩:=hG.res;have F6:=(HF6.out.on hG.low).put (l:=V8.heap.size+1) (by omega) o5;have T6:=hT.put (by omega:br≠V8.heap.size+1) o5;have O6:fM aa 47 7 W6.heap.size (W4.putObj (V8.heap.size+1) o5) (.slice B1 n1 d1) n1 R:=⟨hO.1,ownsRow_putObj hO.2 o5 hG.lp rfl⟩;have df6:(W4.putObj (V8.heap.size+1) o5).heap[V8.heap.size]? =some (.deferred (some [])):=(World.putObj_heap_other (by omega)).trans hG.df;have d06:(W4.putObj (V8.heap.size+1) o5).heap[D]? =some (.deferred (some [])):=(World.putObj_heap_other (by omega)).trans ((hG.low.block D hszD).trans HD6.out);obtain⟨Wx,hWx⟩:∃Wx,W4.putObj (V8.heap.size+1) o5=Wx:=⟨_,rfl⟩;rw[hWx]at hend F6 T6 O6 df6 d06;refine⟨none,Wx,hend,?_⟩;simp only[];have HF6:=ala F6;have HT6:=ala T6;have HO6:=ala O6;have HDf:=ala df6;have HD0:=ala d06;have HOp:=ala hOp;have hst1:=F6.rb.storeR (cs':= #[.slice B1 n1 d1,.slice none 0 0,.slice A3 k3 c3,.slice none 0 0]) rfl rfl (by simp[Value.oneCell']);have F9:=F6.setR #[.slice B1 n1 d1,.slice none 0 0,.slice A3 k3 c3,.slice none 0 0];have e9:=F9.eb.bx.cell (i:=0) (v:=.int .i64 0) rfl;have f9:=F9.eb.bx.frozen 0;have HF9:=ala (F9.setE 0);have t9:=T6.bx.result rfl;clear ho5 hWx hend hr hst hpe HS hT hO hOp hG F6 T6 O6 df6 d06 F9
       gi_wp2_with fail
       have hkeep:∀ {j:Nat} {o:Obj},w.heap.size+1+1+1<j→Wx.heap[j]? =some o→((Wx.setRow (w.heap.size+1+1) #[.slice B1 n1 d1,.slice none 0 0,.slice A3 k3 c3,.slice none 0 0]).setCell ⟨w.heap.size+1+1+1,0,none⟩ (.int .i64 0)).heap[j]? =some o:=fun{j o} h1 h3=>
        (alv _ _ _ _ (by show j≠w.heap.size+1+1+1;omega)).trans ((setRow_other _ _ _ _ (by omega)).trans h3)
       have df9:=hkeep (by omega:w.heap.size+1+1+1<V8.heap.size) HDf.out;have d09:=(World.putObj_heap_other (o:=.deferred none) (by omega:D≠V8.heap.size)).trans (hkeep hb67' HD0.out);have F10:=(HF9.out.put (l:=V8.heap.size) (by omega) (.deferred none)).put (l:=D) hb67' (.deferred none);have r7:=F10.rb.bx.result rfl;have g7:=F10.eb.bx.cell (i:=0) (v:=.int .i64 0) rfl;have O9:=HF6.out.out HO6.out #[.slice B1 n1 d1,.slice none 0 0,.slice A3 k3 c3,.slice none 0 0] 0;have O10:=ownsRow_putObj (ownsRow_putObj O9.2 (.deferred none) df9 rfl) (.deferred none) d09 rfl;refine⟨by simp,.inl ⟨_,_,rfl,run_takeDeferred df9,by simp,.inl ⟨_,_,rfl,run_takeDeferred d09,?_⟩⟩⟩;refine⟨.tuple #[.agg #[.slice B1 n1 d1,.slice none 0 0,.slice A3 k3 c3,.slice none 0 0],.int .i64 0],by simp[results,Tryz.results30,go_sem,r7,g7],F10.low,_,rfl,_,_,0,rfl,rfl,rfl,.inl ⟨rfl,R,⟨fun e=>absurd (by rw[HPN.out,e];rfl) hp0,fun _=>⟨fun x hx y hy=>?_,?_⟩⟩,?_⟩⟩
       ·obtain⟨i,hi⟩:=List.mem_iff_getElem?.1 hx
        exact HNO.out i (by have:=(alj.1 hi).1;unfold bD at this;rw[eH]at this;rw[HPN.out];exact this) x hi y hy
       ·have:=HOp.out
        rwa[aln (by unfold bD;rw[eH,HPN.out];exact Nat.le_refl _)]at this
       ·have hn1:R.length=n1:=HO6.out.1
        refine⟨rfl,dB ?_ hs6.2.size⟩;rw[hn1];exact O10
      ·obtain⟨rec,hlp,hrs,hrp⟩:=hS.lp
       obtain⟨o5,ho5⟩:∃o5:Obj,o5= .loop {rec with state:=.exhausted}:=⟨_,rfl⟩;have hend:=run_endLoop (P:=Tryz.prog) hlp (by rw[hrs];decide);rw[←ho5,hrp]at hend;have F6:=hS.fm.put (l:=V8.heap.size+1) (by omega) o5;have df6:(W4.putObj (V8.heap.size+1) o5).heap[V8.heap.size]? =some (.deferred (some [])):=(World.putObj_heap_other (by omega)).trans hS.df;have d06:(W4.putObj (V8.heap.size+1) o5).heap[D]? =some (.deferred (some [])):=(World.putObj_heap_other (by omega)).trans hS.d0;obtain⟨Wx,hWx⟩:∃Wx,W4.putObj (V8.heap.size+1) o5=Wx:=⟨_,rfl⟩;rw[hWx]at hend F6 df6 d06;refine⟨some .ret,Wx,hend,?_⟩;simp only[];have hno:=hS.no;clear ho5 hWx hend hr hst hpe HS hS hlp hrs hrp
       gi_wp2_with fail
       have F7:=(F6.put (l:=V8.heap.size) (by omega) (.deferred none)).put (l:=D) hb67' (.deferred none);have r7:=F7.rb.bx.result rfl;have g7:=F7.eb.bx.cell (i:=0) (v:=.int .i64 4) rfl;refine⟨by simp,.inl ⟨_,_,rfl,run_takeDeferred df6,by simp,.inl ⟨_,_,rfl,run_takeDeferred ((World.putObj_heap_other (by omega)).trans d06),?_⟩⟩⟩;exact⟨.tuple #[.agg #[.slice none 0 0,.slice none 0 0,.slice none 0 0,.slice none 0 0],.int .i64 4],by simp[results,Tryz.results30,go_sem,r7,g7],F7.low,_,rfl,_,_,4,rfl,rfl,rfl,.inr (.inr ⟨rfl,fun e=>hp0 (by rw[HPN.out,e];rfl),fun x hx y hy=>by
        obtain⟨i,hi⟩:=List.mem_iff_getElem?.1 hx;exact HNO.out i (by have:=(alj.1 hi).1;unfold bD at this;rw[eH]at this;rw[HPN.out];exact this) x hi y hy,hno⟩)⟩
   ·obtain⟨rec,hlp,hrs,hrp⟩:=hS.lp
    obtain⟨o5,ho5⟩:∃o5:Obj,o5= .loop {rec with state:=.exhausted}:=⟨_,rfl⟩;have hend:=run_endLoop (P:=Tryz.prog) hlp (by rw[hrs];decide);rw[←ho5,hrp]at hend;have F6:=hS.fm.put (l:=W8.heap.size+1) (by have:=hb67.out;omega) o5;have df6:(W4.putObj (W8.heap.size+1) o5).heap[W8.heap.size]? =some (.deferred (some [])):=(World.putObj_heap_other (by omega)).trans hS.df;obtain⟨W6,hW6⟩:∃W6,W4.putObj (W8.heap.size+1) o5=W6:=⟨_,rfl⟩;rw[hW6]at hend F6 df6;refine⟨some .ret,W6,hend,?_⟩;simp only[];have r9:=F6.rb.bx.result rfl;have g9:=F6.eb.bx.cell (i:=0) (v:=.int .i64 5) rfl;clear ho5 hW6 hend hr hst hpe HS hS hlp hrs hrp
    gi_wp2_with fail
    have F7:=F6.put (l:=W8.heap.size) hb67' (.deferred none);have r7:=F7.rb.bx.result rfl;have g7:=F7.eb.bx.cell (i:=0) (v:=.int .i64 5) rfl;refine⟨by simp,.inl ⟨_,_,rfl,run_takeDeferred df6,?_⟩⟩;exact⟨.tuple #[.agg #[.slice none 0 0,.slice none 0 0,.slice none 0 0,.slice none 0 0],.int .i64 5],by simp[results,Tryz.results30,go_sem,r7,g7],F7.low,_,rfl,_,_,5,rfl,rfl,rfl,.inr (.inl rfl)⟩
end Go.Proofs.YtjknklinhegdoaaGreatDoor
