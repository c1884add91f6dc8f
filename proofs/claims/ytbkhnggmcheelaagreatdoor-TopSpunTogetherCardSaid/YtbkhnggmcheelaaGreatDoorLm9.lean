/- TopSpunTogether: Mappings of lots that keep what they map. Conditions: bounded sizes; variables as laid. -/
import Derived.Test.YtbkhnggmcheelaaGreatDoorOpn
set_option linter.unusedSimpArgs false
set_option linter.unusedVariables false
set_option maxHeartbeats 4000000
set_option maxRecDepth 100000
namespace Go.Proofs.YtbkhnggmcheelaaGreatDoor
open Proofs.Tryz
open Go.RowKit Go.Shelf Dec QQ SP
attribute [local go_sem] Oper.semAt_some
attribute [-go_sem] loadVar storeVar
abbrev lY:Array Value:= #[.slice none 0 0,.slice none 0 0,.slice none 0 0,.slice none 0 0]
abbrev ag5 (x0 x1:BA)(x2 x3:Int)(x4 x5 x6:BA):Array Value:= #[.string x0,.string x1,.int .i64 x2,.int .i64 x3,.string x4,.string x5,.string x6]
abbrev am93:Array Value:= #[.string ⟨#[]⟩,.int .i64 0,.string ⟨#[]⟩,.string ⟨#[]⟩,.string ⟨#[]⟩,.string ⟨#[]⟩,.string ⟨#[]⟩,.string ⟨#[]⟩,.string ⟨#[]⟩,.string ⟨#[]⟩,.bool false,.slice none 0 0,.string ⟨#[]⟩,.string ⟨#[]⟩,.string ⟨#[]⟩,.slice none 0 0,.slice none 0 0,.slice none 0 0,.slice none 0 0]
theorem ald (t:TypeId)(_:t≠155)(_:t≠76)(_:t≠40)(a:Addr):loadVar t a=(do if<-isAgg t then pure (.agg (<-loadCells a (<-sizeOf t)))else load a):=rfl
theorem akj (t:TypeId)(_:t≠155)(_:t≠40)(a:Addr)(v:Value):storeVar t a v=(do
 if v.cells.size≠(<-sizeOf t)then stuck "storeVar: the value has not the size of the variable"
 storeCells a v.cells.toList):=rfl
attribute [local go_sem] ald akj
structure Fm (w:World) (vl:Value) (mc rc:Array Value) (er:Int) (W:World):Prop where
 low:Below w.heap.size w W
 lb:TBx W w.heap.size #[vl] 22
 mb:TBx W (w.heap.size+1) mc 76
 rb:TBx W (w.heap.size+1+1) rc 40
 eb:TBx W (w.heap.size+1+1+1) #[.int .i64 er] 32
theorem Fm.on {w:World}{vl:Value}{mc rc:Array Value}{er:Int}{W W':World}(h:Fm w vl mc rc er W)(hb:Below W.heap.size W W'):Fm w vl mc rc er W':=
 ⟨h.low.trans (hb.mono h.low.size),h.lb.on hb,h.mb.on hb,h.rb.on hb,h.eb.on hb⟩
theorem Bx.result {w:World}{b:Nat}{cs:Array Value}(h:Bx w b cs)(hs:cs.size=4):(loadVar 40 ⟨b,0,none⟩).run prog w= .ok (.agg cs) w:=by
 have:=run_loadVar_mid (P:=prog) w b 0 40 cs.toList (prog.underlying 40).get! (fun j v hv=>by rw[am5];exact h.cell (by simpa using hv)) (by kernel_rfl) (by kernel_rfl) (by rw[Array.length_toList,hs];kernel_rfl);simpa using this
theorem TBx.storeR {w:World}{b:Nat}{cs cs':Array Value}{T:TypeId}(h:TBx w b cs T)(hs:cs.size=4)(hs':cs'.size=4)(h1:cs'.all (·.oneCell')=true):(storeVar 40 ⟨b,0,none⟩ (.agg cs')).run prog w= .ok () (w.setRow b cs'):=
 run_storeVar_row (P:=prog) w b T 40 cs cs' h (by rw[hs'];kernel_rfl) (by rw[hs,hs']) h1
theorem Fm.setR {w:World}{vl:Value}{mc rc:Array Value}{er:Int}{W:World}(h:Fm w vl mc rc er W)(rc':Array Value):Fm w vl mc rc' er (W.setRow (w.heap.size+1+1) rc'):=
 ⟨below_setRow h.low (by omega) _,h.lb.rowOther (by omega) _,h.mb.rowOther (by omega) _,h.rb.row _,h.eb.rowOther (by omega) _⟩
theorem Fm.setE {w:World}{vl:Value}{mc rc:Array Value}{er:Int}{W:World}(h:Fm w vl mc rc er W)(er':Int):Fm w vl mc rc er' (W.setCell ⟨w.heap.size+1+1+1,0,none⟩ (.int .i64 er')):=
 ⟨h.low.setCell (p:=⟨w.heap.size+1+1+1,0,none⟩) (by show w.heap.size<=w.heap.size+1+1+1;omega) _,h.lb.other (by omega) _ _,h.mb.other (by omega) _ _,h.rb.other (by omega) _ _,h.eb.set 0 _⟩
theorem Fm.o {w:World}{vl v:Value}{mc rc:Array Value}{er:Int}{W:World}{base n:Nat}{xs:List Lt}(h:Fm w vl mc rc er W)(ho:dw aa 62 7 base W v n xs)(rc':Array Value)(er':Int):dw aa 62 7 base ((W.setRow (w.heap.size+1+1) rc').setCell ⟨w.heap.size+1+1+1,0,none⟩ (.int .i64 er')) v n xs:=
 ⟨ho.1,aP (aP ho.2 h.rb (fun cur e=>by injection e with _ e;revert e;decide) (di _ _ _)) (h.setR rc').eb (fun cur e=>by injection e with _ e;revert e;decide) (aD _ _ _ _)⟩
theorem Fm.put {w:World}{vl:Value}{mc rc:Array Value}{er:Int}{W:World}(h:Fm w vl mc rc er W){l:Nat}(hl:w.heap.size+1+1+1<l)(o:Obj):Fm w vl mc rc er (W.putObj l o):=
 ⟨aI h.low (by omega) _,h.lb.put (by omega) _,h.mb.put (by omega) _,h.rb.put (by omega) _,h.eb.put (by omega) _⟩
structure L1s (w:World) (vl:Value) (mc:Array Value) (l0 D:Nat) (W:World):Prop where
 fm:Fm w vl mc lY 5 W
 lp:∃rec:Loop,W.heap[l0]? =some (.loop rec)/\rec.state= .done /\rec.pending=some .ret
 df:W.heap[D]? =some (.deferred (some []))
structure L2 (W0:World) (br bg:Nat) (p:PlS) (l0 D:Nat) (rec:Loop) (st:Value) (L0 fr:List Lt) (k:Nat) (W:World):Prop where
 low:Below W0.heap.size W0 W
 pf:TBx W bg (plA p) 155
 lp:W.heap[l0]? =some (.loop rec)
 df:W.heap[D]? =some (.deferred (some []))
 res:∃M A1 n1 c1,TBx W br #[.slice A1 n1 c1,.slice none 0 0,st,.slice none 0 0] 40/\dw aa 62 7 W0.heap.size W (.slice A1 n1 c1) n1 M/\OpnAll L0 (fr.take k) M
theorem L2.up {W0:World}{br bg:Nat}{p:PlS}{l0 D:Nat}{rec:Loop}{st:Value}{L0 fr:List Lt}{k:Nat}{W W':World}(h:L2 W0 br bg p l0 D rec st L0 fr k W)(hb:Below W.heap.size W W'):L2 W0 br bg p l0 D rec st L0 fr k W':=by
 obtain⟨M,A1,n1,c1,h1,h2,h3⟩:=h.res;exact⟨h.low.trans (hb.mono h.low.size),h.pf.on hb,(hb.block l0 (amA.1 h.lp).1).trans h.lp,(hb.block D (amA.1 h.df).1).trans h.df,⟨M,A1,n1,c1,h1.on hb,h2.on hb,h3⟩⟩
theorem L2.round {W0:World}{br bg:Nat}{p:PlS}{l0 D:Nat}{rec:Loop}{st:Value}{L0 fr:List Lt}{k:Nat}{W w2:World}(h:L2 W0 br bg p l0 D rec st L0 fr k W)(hb:Below W.heap.size W w2)(h0:W0.heap.size<=br)(hbl:br<l0)(hbg:br<bg)(hbD:br<D)(hgl:bg≠l0)(hDl:D≠l0)(rec' rec2:Loop)(hlp:w2.heap[l0]? =some (.loop rec'))
 {Lb:List Lt} {A1 A2:Option Addr} {n1 n2 c1 c2:Nat} (ht:TBx w2 br #[.slice A1 n1 c1,.slice none 0 0,st,.slice none 0 0] 40) (ho:dw aa 62 7 W0.heap.size w2 (.slice A2 n2 c2) n2 Lb) (hop:OpnAll L0 (fr.take (k+1)) Lb):
 L2 W0 br bg p l0 D rec2 st L0 fr (k+1) ((w2.setCell ⟨br,0,none⟩ (.slice A2 n2 c2)).putObj l0 (.loop rec2)):=by
 have b1:Below W0.heap.size W0 w2:=h.low.trans (hb.mono h.low.size);have b2:=b1.setCell (p:=⟨br,0,none⟩) h0 (.slice A2 n2 c2);have hlS:(w2.setCell ⟨br,0,none⟩ (.slice A2 n2 c2)).heap[l0]? =some (.loop rec'):=(amR _ _ _ _ (by show l0≠br;omega)).trans hlp;have hdS:(w2.setCell ⟨br,0,none⟩ (.slice A2 n2 c2)).heap[D]? =some (.deferred (some [])):=(amR _ _ _ _ (by show D≠br;omega)).trans ((hb.block D (amA.1 h.df).1).trans h.df);refine⟨aI b2 (by omega) _,((h.pf.on hb).other (by omega) _ _).put hgl _,World.putObj_heap_same (amA.1 hlS).1,(World.putObj_heap_other hDl).trans hdS,⟨Lb,A2,n2,c2,(ht.set 0 (.slice A2 n2 c2)).put (by omega) _,⟨ho.1,?_⟩,hop⟩⟩;exact ownsRow_putObj (aP ho.2 ht (fun cur e=>by injection e with _ e;revert e;decide) (aD _ _ _ _)) _ hlS rfl
structure L2s (w:World) (vl:Value) (mc:Array Value) (l0 D D0:Nat) (L0 fr:List Lt) (W:World):Prop where
 fm:Fm w vl mc lY 4 W
 lp:∃rec:Loop,W.heap[l0]? =some (.loop rec)/\rec.state= .done /\rec.pending=some .ret
 df:W.heap[D]? =some (.deferred (some []))
 d0:W.heap[D0]? =some (.deferred (some []))
 no:∃k M x,fr[k]? =some x/\OpnAll L0 (fr.take k) M/\kR M x≠0
structure L1 (W0:World) (bf:Nat) (p:PlS) (l0 D:Nat) (rec:Loop) (fr l:List Lt) (k:Nat) (W:World):Prop where
 low:Below W0.heap.size W0 W
 pf:TBx W bf (plA p) 155
 lp:W.heap[l0]? =some (.loop rec)
 df:W.heap[D]? =some (.deferred (some []))
 no:∀i,i<k->∀x,fr[i]? =some x->∀y∈l,y.id≠x.id
theorem L1.up {W0:World}{bf:Nat}{p:PlS}{l0 D:Nat}{rec:Loop}{fr l:List Lt}{k:Nat}{W W':World}(h:L1 W0 bf p l0 D rec fr l k W)(hb:Below W.heap.size W W'):L1 W0 bf p l0 D rec fr l k W':=
 ⟨h.low.trans (hb.mono h.low.size),h.pf.on hb,(hb.block l0 (amA.1 h.lp).1).trans h.lp,(hb.block D (amA.1 h.df).1).trans h.df,h.no⟩
theorem L1.round {W0:World}{bf:Nat}{p:PlS}{l0 D:Nat}{rec:Loop}{fr l:List Lt}{k:Nat}{W W':World}(h:L1 W0 bf p l0 D rec fr l k W)(o1 o2:Obj)(hb:Below ((W.alloc o1).putObj l0 o2).heap.size ((W.alloc o1).putObj l0 o2) W')(h0:W0.heap.size<=l0)(hne:bf≠l0)(hD:D≠l0)(hn:∀x,fr[k]? =some x->∀y∈l,y.id≠x.id):
 L1 W0 bf p l0 D rec fr l (k+1) (W'.putObj l0 (.loop rec)):=by
 have h1:=h.up ((am3 W.heap.size W).alloc ano o1);have hl:l0<(W.alloc o1).heap.size :=(amA.1 h1.lp).1;have b1:Below W0.heap.size W0 ((W.alloc o1).putObj l0 o2):=aI h1.low h0 o2;have b2:=b1.trans (hb.mono b1.size);have e1:((W.alloc o1).putObj l0 o2).heap[D]? =some (.deferred (some [])):=(World.putObj_heap_other hD).trans h1.df;have hl':l0<W'.heap.size:=amS (by simpa using hl) hb.size;refine⟨aI b2 h0 _,((h1.pf.put hne o2).on hb).put hne _,World.putObj_heap_same hl',(World.putObj_heap_other hD).trans ((hb.block D (amA.1 e1).1).trans e1),fun i hi x hx=>?_⟩;by_cases e:i=k
 ·subst e;exact hn x hx
 ·exact h.no i (by omega) x hx
theorem outL {p:PlS}{m:MapS}{l:List Lt}{ms:List Int}{base base' n:Nat}{W:World}{v:Value}(h:dw aa 62 7 base W v n (eu p.m.ins ms 0 l))(hp:p.m=m)(hb:base'<=base):dw aa 62 7 base' W v n (eu m.ins ms 0 l):=by
 subst hp;exact⟨h.1,aS h.2 hb⟩
theorem outR {W:World}{br base n:Nat}{v:Value}{xs:List Lt}{rc:Array Value}(h:dw aa 62 7 base W v n xs)(ht:TBx W br rc 40)(rc':Array Value):dw aa 62 7 base (W.setRow br rc') v n xs:=
 ⟨h.1,aP h.2 ht (fun cur e=>by injection e with _ e;revert e;decide) (di _ _ _)⟩
theorem aic (p:PlS)(v:World):(storeVar 155 ⟨v.heap.size,0,none⟩ (.agg (plA p))).run prog (v.alloc (.cells am93 155))= .ok () (v.alloc (.cells (plA p) 155)):=by
 rw[TBx.store (TBx.new v am93 155) rfl rfl (by simp[plA,Value.oneCell']),World.setRow_alloc_new]
structure MapFail (m:MapS) (l:List Lt) (z M:Int):Prop where
 old:ak m.ins l≠ []
 ids:∀x∈bD m l z M,∀y∈l,y.id≠x.id
 no:∃k L x,(bD m l z M)[k]? =some x/\OpnAll (acV m l M) ((bD m l z M).take k) L/\kR L x≠0
def MapAns (m:MapS)(l:List Lt)(z M:Int)(base:Nat)(w':World)(v:Value):Prop:=
 ∃vL vS er,v= .tuple #[.agg #[vL,.slice none 0 0,vS,.slice none 0 0],.int .i64 er]/\vL.oneCell'=true/\vS.oneCell'=true/\((er=0/\∃R,MapFineK m l z M R/\dw aa 62 7 base w' vL R.length R)\/er=5\/(er=4/\MapFail m l z M))
theorem ala {A':Option Addr}{n' c':Nat}{l:List Lt}(m:MapS){r pr sh:Rat}{z M0:Int}(hk:m.keep=true)(hmo:MOk m)(hn:l.length=n')(hle:aN l=0)(hz:∀x∈l,x.le 1000)(hr:Vq m.rn m.rd r)(hrf:bP 1000 r)(hsh:Vq m.sn m.sd sh)(hshf:bP 1000 sh)(hM:pO 1 (sh*((iv ((ak m.ins l).map (·.c))).sum :Rat))=M0)(hMf:Fit 3900 M0)(hrd:∀x∈acV m l M0,x.le 1000)(hpp:Vq m.pn m.pd pr)(hpf:bP 1000 pr)(hw:((iv (mqL m l)).sum :Rat)*r=(z:Rat))
 (hms:∀x∈eH m l M0,Fit 3000 x) (hfs:∀x∈iZ m l M0,Fit 3000 x) (hnz:∀x∈zg m l z,x≠0) (hz0:ak m.ins l≠ []->z≠0) (hfr:∀x∈bD m l z M0,x.le 1000) (w:World) (hg:Gl w) (hi:Row w A' (av aa l)):
 Calls prog 26 #[.slice A' n' c',mpV m] w fun e w'=>Below w.heap.size w w'/\∃v,e= .returned v/\MapAns m l z M0 w.heap.size w' v:=by
 have hm:n'<=1000:=by rw[<-hn];exact((bH l).1 hle).1
 have K1:=amy (oh (A:=A') (c:=c') hn (by omega) hz hmo);have K2:=amy (wI (A':=A') (c':=c') m hn hm hz hr hrf hsh hshf hM hMf hpp hpf hw hms);have HLE:=amy hle;have HN:=amy hn;have HZ:=amy hz;have HMS:=amy hms;have HFS:=amy hfs;have HNZ:=amy hnz;have HZ0:=amy hz0;have HFR:=amy hfr;have HKP:=amy hk;have HRD:=amy hrd;have HMO:=amy hmo.cause;have hqv:(aN l==0)=true:=by rw[hle];rfl
 rw[hqv]at K1;have hb4:Below w.heap.size w ((((w.alloc (.cells #[.slice A' n' c'] 22)).alloc (.cells (mpA m) 76)).alloc (.cells lY 40)).alloc (.cells #[.int .i64 0] 32)):=((anp.alloc (by simp) _).alloc (by simp;omega) _).alloc (by simp;omega) _;have F4:Fm w (.slice A' n' c') (mpA m) lY 0 ((((w.alloc (.cells #[.slice A' n' c'] 22)).alloc (.cells (mpA m) 76)).alloc (.cells lY 40)).alloc (.cells #[.int .i64 0] 32)):=⟨hb4,(((TBx.new w #[.slice A' n' c'] 22).alloc _).alloc _).alloc _,by
  have:=((TBx.new (w.alloc (.cells #[.slice A' n' c'] 22)) (mpA m) 76).alloc (.cells lY 40)).alloc (.cells #[.int .i64 0] 32);rwa[amD]at this,by
  have:=(TBx.new ((w.alloc (.cells #[.slice A' n' c'] 22)).alloc (.cells (mpA m) 76)) lY 40).alloc (.cells #[.int .i64 0] 32);rwa[amD,amD]at this,by
  have:=TBx.new (((w.alloc (.cells #[.slice A' n' c'] 22)).alloc (.cells (mpA m) 76)).alloc (.cells lY 40)) #[.int .i64 0] 32;rwa[amD,amD,amD]at this⟩
 have HF4:=amy F4;have hs:St w ((((w.alloc (.cells #[.slice A' n' c'] 22)).alloc (.cells (mpA m) 76)).alloc (.cells lY 40)).alloc (.cells #[.int .i64 0] 32)):=⟨hg,hb4⟩;have HR4:=amy (hi.on hb4);have HG:=amy hg;have HI:=amy hi;clear hn hle hz hr hrf hpp hpf hw hms hfs hnz hz0 hfr hmo hk hqv hi hg hsh hshf hM hMf hrd;have lb4:=F4.lb.bx.c 0 (.slice A' n' c') rfl;have mb4:=F4.mb.bx.mapping rfl;clear F4 hb4;dsimp only[mpV]at*
 refine(callsIn_wide (n:=6)).1 ?_;refine callsIn_of_wp_marks func26 rfl trivial ?_ rfl;simp only[ntmps26,List.size_toArray,amT,List.length_nil,Nat.reduceAdd,Nat.reduceSub,Array.replicate_succ,Array.replicate_zero,List.push_toArray,List.append_toArray,List.nil_append,List.cons_append]
 gi_wp2_with fail
 refine⟨trivial,(callsIn_wide).2 ((K1.o _ hs.gl HR4.o).mono ?_)⟩;rintro e w5 ⟨rfl,hb5⟩;have HF5:=amy (HF4.o.on hb5);have HR5:=amy (HR4.o.on hb5);have hs:=hs.on hb5;clear lb4 mb4 HF4 HR4 hb5 K1;have lb5:=HF5.o.lb.bx.c 0 (.slice A' n' c') rfl;have mb5:=HF5.o.mb.bx.mapping rfl;simp only[]
 gi_wp2_with fail
 refine⟨trivial,(callsIn_wide).2 ((K2.o w5 hs.gl HR5.o).mono ?_)⟩;rintro e w6 ⟨v6,rfl,⟨p,rfl,hpm,hpn,hpp,hpa,hpd,hpw,_⟩,hb6⟩;have HF6:=amy (HF5.o.on hb6);have HR6:=amy (HR5.o.on hb6);have hs:=hs.on hb6;have HPM:=amy hpm;have HPN:=amy hpn;have HPP:=amy hpp;have HPA:=amy (And.intro hpa hpd);have HPW:=amy hpw;clear lb5 mb5 HF5 HR5 hb6 K2 hpm hpn hpp hpa hpd hpw;have hb7:Below w6.heap.size w6 (w6.alloc (.cells (plA p) 155)):=anp;have HF7:=amy (HF6.o.on hb7);have HR7:=amy (HR6.o.on hb7);have HP7:Hid (TBx (w6.alloc (.cells (plA p) 155)) w6.heap.size (plA p) 155):=TBx.new _ _ _;have HW7:Hid (PlW p _ _ _ _ (w6.alloc (.cells (plA p) 155))):=HPW.o.on hb7;have hs:=hs.on hb7;have hb67:Hid (w.heap.size+1+1+1<w6.heap.size):=(amA.1 HF6.o.eb).1;have hps:=aic p w6;have p11:=HP7.o.bx.c 11 (.slice p.A p.n p.c) rfl;unfold plV;clear HF6 HR6 HPW hb7;by_cases hp0:p.n=0
 ·have q1:((p.n:Int)==0)=true:=by simpa using(by omega:(p.n:Int)=0)
  have q2:(p.n:Int)=0:=by omega
  have lb7:=HF7.o.lb.bx.c 0 (.slice A' n' c') rfl;simp only[]
  gi_wp2_with fail
  refine⟨trivial,(callsIn_wide).2 ((acr HN.o (by omega) _ HR7.o).mono ?_)⟩;rintro e w8 ⟨v8,rfl,ho8,hb8⟩;obtain⟨A8,c8,rfl⟩:=bW ho8.2;have HF8:=amy (HF7.o.on hb8);have HO8:=amy ho8;clear hb8 ho8 p11 lb7 hps;have hst:=HF8.o.rb.storeR (cs':= #[.slice A8 n' c8,.slice none 0 0,.slice none 0 0,.slice none 0 0]) rfl rfl (by simp[Value.oneCell']);have F9:=HF8.o.setR #[.slice A8 n' c8,.slice none 0 0,.slice none 0 0,.slice none 0 0];have e9:=F9.eb.bx.c 0 (.int .i64 0) rfl;have f9:=F9.eb.bx.frozen 0;have HF9:=amy (F9.setE 0);clear F9;have r9:=HF9.o.rb.bx.result rfl;have g9:=HF9.o.eb.bx.c 0 (.int .i64 0) rfl;simp only[]
  gi_wp2_with fail
  refine⟨.tuple #[.agg #[.slice A8 n' c8,.slice none 0 0,.slice none 0 0,.slice none 0 0],.int .i64 0],by simp[results,results26,go_sem,r9,g9],HF9.o.low,_,rfl,_,_,0,rfl,rfl,rfl,.inl ⟨rfl,l,⟨fun _=>rfl,fun h=>?_⟩,?_⟩⟩
  ·exact absurd (List.length_eq_zero_iff.1 (by rw[<-HPN.o];exact hp0)) h
  ·have:=HF8.o.o HO8.o #[.slice A8 n' c8,.slice none 0 0,.slice none 0 0,.slice none 0 0] 0
   refine⟨rfl,aS ?_ hs.2.size⟩;rw[HN.o];exact this.2
 ·have q1:((p.n:Int)==0)=false:=by simpa using(by omega:(p.n:Int)≠0)
  have q2:¬(p.n:Int)=0:=by omega
  have kp7:=HP7.o.bx.plan rfl;simp only[]
  gi_wp2_with fail
  refine⟨trivial,(callsIn_wide).2 ((nV p _).mono ?_)⟩;rintro e w8 ⟨rfl,rfl⟩;obtain⟨W7,hW7⟩:=eX (w6.alloc (.cells (plA p) 155));have hW7s:w6.heap.size<W7.heap.size:=by rw[<-hW7];simp
  rw[hW7]at HF7 HR7 HP7 HW7 hs⊢
  clear p11 hps kp7 hW7;obtain⟨bp,hbp⟩:=eX (w6.heap.size);rw[hbp]at HP7 hb67 hW7s⊢
  have hb8:Below W7.heap.size W7 (W7.alloc (.cells (plA p) 155)):=anp;have HF8:=amy (HF7.o.on hb8);have HR8:=amy (HR7.o.on hb8);have HP8:=amy (HP7.o.on hb8);have HW8:=amy (HW7.o.on hb8);have HQ8:Hid (TBx (W7.alloc (.cells (plA p) 155)) W7.heap.size (plA p) 155):=TBx.new _ _ _;have hs:=hs.on hb8;have hW8s:W7.heap.size<(W7.alloc (.cells (plA p) 155)).heap.size :=by simp
  obtain⟨W8,hW8⟩:=eX (W7.alloc (.cells (plA p) 155));rw[hW8]at HF8 HR8 HP8 HW8 HQ8 hs hW8s⊢
  clear hW8 hb8 HF7 HR7 HP7 HW7 hbp;obtain⟨bf,hbf⟩:=eX (W7.heap.size);rw[hbf]at HQ8 hW7s hW8s⊢
  clear hbf;have hb67':w.heap.size+1+1+1<W8.heap.size:=by have:=hb67.o;omega
  simp only[]
  gi_wp2_with fail
  refine fQ rfl (by omega) rfl trivial (enters_of func142 (by kernel_rfl) rfl) ?_;intro fn hfn r hr;have hst:r.state= .ready :=by rw[hr]
  have hpe:r.pending=none:=by rw[hr]
  have hPlOk:PlOk p (ak m.ins l) (zg m l z) (eH m l M0) (iZ m l M0) 3000:=by
   have hN:p.n=(ak m.ins l).length :=HPN.o;have hle:(ak m.ins l).length <=n':=by rw[<-HN.o];exact wD _ _
   refine⟨hN.symm,?_,?_,?_,by omega,by omega,HNZ.o,HMS.o,HFS.o,?_⟩
   ·unfold zg mqL dX;split<;>simp[dz,aQ,hN]
   ·unfold eH mcL dX;split<;>simp[dz,aQ,hN]
   ·unfold iZ dX;split<;>simp[dz,aQ]
    all_goals (unfold eH mcL dX;split<;>simp[dz,aQ,hN])
   ·rw[HPM.o];have:=wX HMO.o;omega
  have HS:Hid (L1 W8 bf p (W8.heap.size+1) W8.heap.size r (bD m l z M0) l 0 ((W8.alloc (.deferred (some []))).alloc (.loop r))):=by
   have hbb:Below W8.heap.size W8 ((W8.alloc (.deferred (some []))).alloc (.loop r)):=anp.alloc (by simp) _;refine⟨hbb,HQ8.o.on hbb,?_,?_,fun i hi=>by omega⟩
   ·have:=World.alloc_heap_new (W8.alloc (.deferred (some []))) (.loop r)
    rwa[amD]at this
   ·exact(Below.heap_alloc _ _ _ (by simp)).trans (World.alloc_heap_new W8 _)
  refine(xB (p:=p) (W8.heap.size+1) bf hPlOk (fun k W=>L1 W8 bf p (W8.heap.size+1) W8.heap.size r (bD m l z M0) l k W) (fun W=>L1s w (.slice A' n' c') (mpA m) (W8.heap.size+1) W8.heap.size W) (fun k W h=>⟨HW8.o.on h.low,h.pf⟩) (fun k W W' h hb=>h.up hb) ?_ _ HS.o).mono ?_
  ·intro k W1 x hk hx hG
   have hy:=run_yield (P:=prog) (args:= #[.int .i64 (k:Int),ltV (frL p.m x k (zg m l z)[k]! (eH m l M0)[k]! (iZ m l M0)[k]!)]) hG.lp (by rw[hr];rfl);refine⟨_,_,_,_,hy,roundIn_of_wpIn (by rw[hr];exact hfn) ?_⟩;have e1:=congrArg Loop.assign hr;have e2:=congrArg Loop.body hr;have e3:=congrArg Loop.tmps hr;have e4:=congrArg Loop.params hr;dsimp only at e1 e2 e3 e4;rw[e1,e2,e3,e4];have HGG:=amy hG;have Hst:=amy hst;have Hpe:=amy hpe;have HY:Hid ((bD m l z M0)[k]? =some (frL p.m x k (zg m l z)[k]! (eH m l M0)[k]! (iZ m l M0)[k]!)):=by rw[HPM.o];exact lM hx
   clear e1 e2 e3 e4 hr hy hG hst hpe HS hx;obtain⟨y,hy⟩:=eX (frL p.m x k (zg m l z)[k]! (eH m l M0)[k]! (iZ m l M0)[k]! );rw[hy]at HY⊢
   clear hy;obtain⟨yid,yins,yacq,yopn,yq,yc,yu⟩:=y;dsimp only[ltV,ltA]
   gi_wp2_with fail
   have HGa:=amy (HGG.o.up ((am3 W1.heap.size W1).alloc ano (.cells (ag5 yid yins yacq yopn yq yc yu) 62)));refine⟨_,run_beginRound HGa.o.lp Hst.o,?_⟩;have hl0:W1.heap.size≠W8.heap.size+1:=by have:=(amA.1 HGG.o.lp).1;omega
   have hbW:Below W8.heap.size W8 ((W1.alloc (.cells (ag5 yid yins yacq yopn yq yc yu) 62)).putObj (W8.heap.size+1) (.loop {r with state:=.busy})):=aI HGa.o.low (by omega) _;have XP:Bx ((W1.alloc (.cells (ag5 yid yins yacq yopn yq yc yu) 62)).putObj (W8.heap.size+1) (.loop {r with state:=.busy})) W1.heap.size (ag5 yid yins yacq yopn yq yc yu):=((TBx.new W1 _ 62).put hl0 _).bx;obtain⟨WP,hWP⟩:∃WP,(W1.alloc (.cells (ag5 yid yins yacq yopn yq yc yu) 62)).putObj (W8.heap.size+1) (.loop {r with state:=.busy})=WP:=⟨_,rfl⟩;have hlpP:Hid (WP.heap[W8.heap.size+1]? =some (.loop {r with state:=.busy})):=by show _=_;rw[<-hWP];exact World.putObj_heap_same (amA.1 HGa.o.lp).1
   have hdfP:Hid (WP.heap[W8.heap.size]? =some (.deferred (some []))):=by show _=_;rw[<-hWP];exact(World.putObj_heap_other (by omega)).trans HGa.o.df
   rw[hWP]at XP hbW⊢
   have HWP:=amy hWP;have HFP:=amy (HF8.o.on hbW);have HRP:=amy (HR8.o.on hbW);have hglP:Gl WP:=hs.gl.below hbW;have z0:=XP.c 0 (.string yid) rfl;have l0c:=HFP.o.lb.bx.c 0 (.slice A' n' c') rfl;have K3:=amy (rY (A:=A') (c:=c') (id:=yid) HN.o (by omega));obtain⟨bf1,hbf1⟩:=eX ((l.any fun x=>eqB x.id yid));rw[hbf1]at K3;have HB1:=amy hbf1;generalize max (afv l yid) 0=ix at*
   clear hWP XP hbW hbf1
   gi_wp2_with fail
   refine⟨trivial,(callsIn_wide).2 ((K3.o _ hglP HRP.o).mono ?_)⟩;rintro e w2 ⟨rfl,hb2⟩;have HFQ:=amy (HFP.o.on hb2);have HB2:=amy hb2;have hlpQ:Hid (w2.heap[W8.heap.size+1]? =some (.loop {r with state:=.busy})):=(hb2.block _ (amA.1 hlpP.o).1).trans hlpP.o;clear z0 l0c K3;simp only[];cases bf1 with
   |true=>
    have hst1:=HFQ.o.rb.storeR (cs':=lY) rfl rfl (by simp[Value.oneCell']);have F9:=HFQ.o.setR lY;have e9:=F9.eb.bx.c 0 (.int .i64 0) rfl;have f9:=F9.eb.bx.frozen 0;have HF9:=amy (F9.setE 5);clear F9
    gi_wp2_with fail
    have hlpS:((w2.setRow (w.heap.size+1+1) lY).setCell ⟨w.heap.size+1+1+1,0,none⟩ (.int .i64 5)).heap[W8.heap.size+1]? =some (.loop {r with state:=.busy}):=
     (amR _ _ _ _ (by show W8.heap.size+1≠w.heap.size+1+1+1;have:=hb67.o;omega)).trans ((setRow_other _ _ _ _ (by have:=hb67.o;omega)).trans hlpQ.o)
    refine⟨_,_,run_endRound (some .ret) hlpS,.inr ⟨rfl,HF9.o.put (by have:=hb67.o;omega) _,⟨_,World.putObj_heap_same (amA.1 hlpS).1,rfl,rfl⟩,?_⟩⟩;refine(World.putObj_heap_other (by omega)).trans ((amR _ _ _ _ (by show W8.heap.size≠w.heap.size+1+1+1;have:=hb67.o;omega)).trans ((setRow_other _ _ _ _ (by have:=hb67.o;omega)).trans ?_));exact(HB2.o.block _ (amA.1 hdfP.o).1).trans hdfP.o
   |false=>
    gi_wp2_with fail
    refine⟨_,_,run_endRound none hlpQ.o,.inl ⟨rfl,?_⟩⟩;have hlr:({r with state:=if (none:Option Code).isNone then LoopState.ready else .done,pending:=none}:Loop)=r:=by have h1:=Hst.o;have h2:=Hpe.o;cases r;simp_all
    show L1 _ _ _ _ _ _ _ _ _ (World.putObj _ _ (.loop {r with state:=if (none:Option Code).isNone then LoopState.ready else .done,pending:=none}));rw[hlr];have hb2:=HB2.o;rw[<-HWP.o]at hb2;refine HGG.o.round _ _ hb2 (by omega) (by omega) (by omega) ?_;intro x0 hx0 y hy e;have hxx:=anj (HY.o.symm.trans hx0);subst hxx;exact List.any_eq_false.1 HB1.o y hy (dH.2 e)
  ·rintro e W4 ⟨⟨v,rfl⟩,hor⟩
   rcases hor with hG|hS
   ·have hend:=run_endLoop (P:=prog) hG.lp (by rw[hst];decide)
    obtain⟨o5,ho5⟩:∃o5:Obj,o5= .loop {r with state:=.exhausted}:=⟨_,rfl⟩;rw[<-ho5,hpe]at hend;have b6:Below W8.heap.size W8 (W4.putObj (W8.heap.size+1) o5):=aI hG.low (by omega) _;have df6:(W4.putObj (W8.heap.size+1) o5).heap[W8.heap.size]? =some (.deferred (some [])):=(World.putObj_heap_other (by omega)).trans hG.df;obtain⟨W6,hW6⟩:=eX (W4.putObj (W8.heap.size+1) o5);rw[hW6]at hend b6 df6;refine⟨none,W6,hend,?_⟩;simp only[];have HNO:=amy hG.no;have HF6:=amy (HF8.o.on b6);have HR6:=amy (HR8.o.on b6);have HP6:=amy (HP8.o.on b6);have HW6:=amy (HW8.o.on b6);have HD6:=amy df6;have hs:=hs.on b6;have hszD:W8.heap.size<W6.heap.size:=(amA.1 df6).1;have hbpD:bp<W8.heap.size:=by omega
    obtain⟨D,hD⟩:=eX (W8.heap.size);rw[hD]at HD6 hszD hbpD hb67'⊢
    clear ho5 hW6 hend hr hst hpe HS hG HF8 HR8 HP8 HW8 HQ8 b6 df6 hD hfn hW8s hW7s
    gi_wp2_with fail
    have KK:=amy (aeQ p (A':=A') (c':=c') (by rw[HPM.o];exact HKP.o) HN.o (by omega) HZ.o (by rw[HPM.o];exact HPN.o.symm) hPlOk.lm (by omega) HMS.o);have KGn:=amy (acZ p HPA.o.1 HPA.o.2);have hp1:1<=p.n:=by omega
    have hqz:(p.parts.toList== [])=false:=by
     have hz1:=HZ0.o (fun e=>hp0 (by rw[HPN.o,e];rfl));rw[HPP.o,nil_eq];exact am1 hz1
    have KSt:=amy (fun(u:World) (h:PlW p _ _ _ _ u)=>acY p (by rw[HPM.o];exact HKP.o) hqz hPlOk hp1 u h);have hSOK:Hid (∀v,Below W6.heap.size W6 v->(loadVar 155 ⟨bp,0,none⟩).run prog v= .ok (.agg (plA p)) v/\v.cell? ⟨w.heap.size,0,none⟩=some (.slice A' n' c')):=fun v hv=>⟨(HP6.o.on hv).bx.plan rfl,(HF6.o.lb.on hv).bx.cell (i:=0) rfl⟩
    have hGR:Hid (∀v,Below W6.heap.size W6 v->Gl v/\Row v A' (av aa l)/\PlW p (ak m.ins l) (zg m l z) (eH m l M0) (iZ m l M0) v):=fun v hv=>⟨hs.gl.below hv,HR6.o.on hv,HW6.o.on hv⟩
    have BL0:Hid (Below W6.heap.size W6 W6.drew):=(am3 _ _).drew;have BL0b:Hid (Below W6.heap.size W6 (W6.drew.alloc (.cells lY 40))):=BL0.o.alloc BL0.o.size _;have BL0c:Hid (Below W6.heap.size W6 ((W6.alloc (.cells lY 40)).drew)):=BL0b.o;have TA0b:Hid (TBx (W6.drew.alloc (.cells lY 40)) W6.heap.size lY 40):=TBx.new W6.drew _ _;have HS1:∀(v:World) (A1:Option Addr) (k1 c1:Nat) (A3:Option Addr) (k3 c3:Nat),(storeVar 40 ⟨v.heap.size,0,none⟩ (.agg #[.slice A1 k1 c1,.slice none 0 0,.slice A3 k3 c3,.slice none 0 0])).run prog (v.alloc (.cells lY 40))= .ok () (v.alloc (.cells #[.slice A1 k1 c1,.slice none 0 0,.slice A3 k3 c3,.slice none 0 0] 40)):=fun v A1 k1 c1 A3 k3 c3=>by
     rw[TBx.storeR (TBx.new v lY 40) rfl rfl (by simp[Value.oneCell']),World.setRow_alloc_new]
    clear hqz;refine wpIn_wide.2 ?_
    go_cut [11]from 44 to 51 (fun s11 wx=>∃br A1 k1 c1 A3 k3 c3,s11= .pointer (some ⟨br,0,none⟩)/\Hid (Below W6.heap.size W6 wx/\TBx wx br #[.slice A1 k1 c1,.slice none 0 0,.slice A3 k3 c3,.slice none 0 0] 40/\W6.heap.size<=br/\dw aa 62 7 W6.heap.size wx (.slice A1 k1 c1) k1 (acV m l M0)))
    case first=>
     go_region_held3 (fun v=>(loadVar 155 ⟨bp,0,none⟩).run prog v= .ok (.agg (plA p)) v/\v.cell? ⟨w.heap.size,0,none⟩=some (.slice A' n' c'))
      (first|with_reducible exact hSOK.o _ BL3a.o|with_reducible exact hSOK.o _ BL3b.o|with_reducible exact hSOK.o _ BL3c.o|with_reducible exact hSOK.o _ BL3d.o|with_reducible exact hSOK.o _ (BL3a.o.alloc BL3a.o.size _)|with_reducible exact hSOK.o _ (below_setRow BL3b.o ano _)|with_reducible exact hSOK.o _ (below_setRow BL3c.o BL1a.o.size _)|with_reducible exact hSOK.o _ (below_setRow BL3d.o BL2a.o.size _)|with_reducible exact hSOK.o _ BL2a.o|with_reducible exact hSOK.o _ BL2b.o|with_reducible exact hSOK.o _ BL2c.o|with_reducible exact hSOK.o _ (BL2a.o.alloc BL2a.o.size _)|with_reducible exact hSOK.o _ BL1a.o|with_reducible exact hSOK.o _ BL1b.o|with_reducible exact hSOK.o _ (BL1a.o.alloc BL1a.o.size _)|with_reducible exact hSOK.o _ BL0.o|with_reducible exact hSOK.o _ BL0b.o|with_reducible exact hSOK.o _ BL0c.o)
      (first
       |(go_at_call 73;refine(KK.o W6.drew (hGR.o _ BL0.o).1 ⟨(hGR.o _ BL0.o).2.1,(hGR.o _ BL0.o).2.2.rm⟩).mono ?_;rintro e w1 ⟨v1,rfl,ho1,hb1⟩;obtain⟨A1,c1,rfl⟩:=bW ho1.2;have BL1a:Hid (Below W6.heap.size W6 w1):=BL0.o.trans (hb1.mono BL0.o.size);have HO1a:=amy ho1;clear ho1 hb1)
       |(go_at_call 73;refine(KK.o (W6.drew.alloc (.cells lY 40)) (hGR.o _ BL0b.o).1 ⟨(hGR.o _ BL0b.o).2.1,(hGR.o _ BL0b.o).2.2.rm⟩).mono ?_;rintro e w1 ⟨v1,rfl,ho1,hb1⟩;obtain⟨A1,c1,rfl⟩:=bW ho1.2;have BL1b:Hid (Below W6.heap.size W6 w1):=BL0b.o.trans (hb1.mono BL0b.o.size);have HO1b:=amy ho1;have TA1b:=amy (TA0b.o.on hb1);clear ho1 hb1)
       |(go_at_call 74;refine(KGn.o w1 (hGR.o _ (BL1a.o)).1).mono ?_;rintro e w2 ⟨rfl,hb2⟩;have BL2a:Hid (Below W6.heap.size W6 w2):=(BL1a.o).trans (hb2.mono (BL1a.o).size);have HO2a:=amy (HO1a.o.on hb2);clear hb2)
       |(go_at_call 74;refine(KGn.o w1 (hGR.o _ (BL1b.o)).1).mono ?_;rintro e w2 ⟨rfl,hb2⟩;have BL2b:Hid (Below W6.heap.size W6 w2):=(BL1b.o).trans (hb2.mono (BL1b.o).size);have HO2b:=amy (HO1b.o.on hb2);have TA2b:=amy ((TA1b.o).on hb2);clear hb2)
       |(go_at_call 74;refine(KGn.o (w1.alloc (.cells lY 40)) (hGR.o _ (BL1a.o.alloc BL1a.o.size _)).1).mono ?_;rintro e w2 ⟨rfl,hb2⟩;have BL2c:Hid (Below W6.heap.size W6 w2):=(BL1a.o.alloc BL1a.o.size _).trans (hb2.mono (BL1a.o.alloc BL1a.o.size _).size);have HO2c:=amy ((HO1a.o.on (bal w1 (.cells lY 40))).on hb2);have TA2c:=amy ((TBx.new w1 lY 40).on hb2);clear hb2)
       |(go_at_call 75;refine(KSt.o w2 (hGR.o _ (BL2a.o)).2.2).mono ?_;rintro e w3 ⟨⟨A3,k3,c3,rfl⟩,hb3⟩;have BL3a:Hid (Below W6.heap.size W6 w3):=(BL2a.o).trans (hb3.mono (BL2a.o).size);have HO3a:=amy (HO2a.o.on hb3);clear hb3)
       |(go_at_call 75;refine(KSt.o w2 (hGR.o _ (BL2b.o)).2.2).mono ?_;rintro e w3 ⟨⟨A3,k3,c3,rfl⟩,hb3⟩;have BL3b:Hid (Below W6.heap.size W6 w3):=(BL2b.o).trans (hb3.mono (BL2b.o).size);have HO3b:=amy (HO2b.o.on hb3);have TA3b:=amy ((TA2b.o).on hb3);have HS3:=TA3b.o.storeR (cs':= #[.slice A1 (eu p.m.ins (eH m l M0) 0 l).length c1,.slice none 0 0,.slice A3 k3 c3,.slice none 0 0]) rfl rfl (by simp[Value.oneCell']);clear hb3)
       |(go_at_call 75;refine(KSt.o w2 (hGR.o _ (BL2c.o)).2.2).mono ?_;rintro e w3 ⟨⟨A3,k3,c3,rfl⟩,hb3⟩;have BL3c:Hid (Below W6.heap.size W6 w3):=(BL2c.o).trans (hb3.mono (BL2c.o).size);have HO3c:=amy (HO2c.o.on hb3);have TA3c:=amy ((TA2c.o).on hb3);have HS3:=TA3c.o.storeR (cs':= #[.slice A1 (eu p.m.ins (eH m l M0) 0 l).length c1,.slice none 0 0,.slice A3 k3 c3,.slice none 0 0]) rfl rfl (by simp[Value.oneCell']);clear hb3)
       |(go_at_call 75;refine(KSt.o (w2.alloc (.cells lY 40)) (hGR.o _ (BL2a.o.alloc BL2a.o.size _)).2.2).mono ?_;rintro e w3 ⟨⟨A3,k3,c3,rfl⟩,hb3⟩;have BL3d:Hid (Below W6.heap.size W6 w3):=(BL2a.o.alloc BL2a.o.size _).trans (hb3.mono (BL2a.o.alloc BL2a.o.size _).size);have HO3d:=amy ((HO2a.o.on (bal w2 (.cells lY 40))).on hb3);have TA3d:=amy ((TBx.new w2 lY 40).on hb3);have HS3:=TA3d.o.storeR (cs':= #[.slice A1 (eu p.m.ins (eH m l M0) 0 l).length c1,.slice none 0 0,.slice A3 k3 c3,.slice none 0 0]) rfl rfl (by simp[Value.oneCell']);clear hb3))
     all_goals (go_wp2_with fail;go_meet)
     all_goals first
      |exact⟨_,_,_,_,_,_,_,rfl,BL3a.o.alloc BL3a.o.size _,TBx.new _ _ _,BL3a.o.size,outL (HO3a.o.on (bal _ _)) HPM.o (by simp)⟩
      |exact⟨_,_,_,_,_,_,_,rfl,below_setRow BL3b.o ano _,TA3b.o.row _,am4 _,outL (outR HO3b.o TA3b.o _) HPM.o (by simp)⟩
      |exact⟨_,_,_,_,_,_,_,rfl,below_setRow BL3c.o BL1a.o.size _,TA3c.o.row _,BL1a.o.size,outL (outR HO3c.o TA3c.o _) HPM.o (by simp)⟩
      |exact⟨_,_,_,_,_,_,_,rfl,below_setRow BL3d.o BL2a.o.size _,TA3d.o.row _,BL2a.o.size,outL (outR HO3d.o TA3d.o _) HPM.o (by simp)⟩
    case rest=>
     obtain⟨br,A1,k1,c1,A3,k3,c3,rfl,HC⟩:=hcut;have HFc:=amy (HF6.o.on HC.o.1);have HPc:=amy (HP6.o.on HC.o.1);have HWc:=amy (HW6.o.on HC.o.1);have HDc:Hid (wc.heap[D]? =some (.deferred (some []))):=(HC.o.1.block D hszD).trans HD6.o;have HBc:Hid (TBx wc br #[.slice A1 k1 c1,.slice none 0 0,.slice A3 k3 c3,.slice none 0 0] 40):=HC.o.2.1;have HOc:Hid (dw aa 62 7 W6.heap.size wc (.slice A1 k1 c1) k1 (acV m l M0)):=HC.o.2.2.2;have hbr:D<br:=amS hszD HC.o.2.2.1;have hbr2:br<wc.heap.size:=(amA.1 HBc.o).1;have hW6c:W6.heap.size<=br:=HC.o.2.2.1;have hwb:w.heap.size+1+1+1<W6.heap.size:=by omega
     have hs6:St w W6:=hs;have hs:=hs.on HC.o.1;have HL6:=amy HC.o.1;clear HR6 HP6 KK KGn KSt hSOK hGR BL0 BL0b BL0c TA0b HS1 HC;have kpc:=HPc.o.bx.plan rfl
     gi_wp2_with fail
     refine⟨trivial,(callsIn_wide).2 ((nV p _).mono ?_)⟩;rintro e w8 ⟨rfl,rfl⟩;have hb8:Below wc.heap.size wc (wc.alloc (.cells (plA p) 155)):=anp;have HF8:=amy (HFc.o.on hb8);have HW8:=amy (HWc.o.on hb8);have HB8:=amy (HBc.o.on hb8);have HO8:=amy (HOc.o.on hb8);have HD8:Hid ((wc.alloc (.cells (plA p) 155)).heap[D]? =some (.deferred (some []))):=(hb8.block D (by omega)).trans HDc.o;have HL8:=amy (HL6.o.trans (hb8.mono HL6.o.size));have HQ8:Hid (TBx (wc.alloc (.cells (plA p) 155)) wc.heap.size (plA p) 155):=TBx.new _ _ _;have hs:=hs.on hb8;have hw8s:wc.heap.size<(wc.alloc (.cells (plA p) 155)).heap.size :=by simp
     obtain⟨V8,hV8⟩:=eX (wc.alloc (.cells (plA p) 155));rw[hV8]at HF8 HW8 HB8 HO8 HD8 HQ8 HL8 hs hw8s⊢
     clear hV8 hb8 HFc HPc HWc HDc HBc HOc kpc HL6 HW8 HD8 HF8;obtain⟨bg,hbg⟩:=eX (wc.heap.size);rw[hbg]at HQ8 hbr2 hw8s⊢
     clear hbg;simp only[]
     gi_wp2_with fail
     refine fQ rfl (by omega) rfl trivial (enters_of func142 (by kernel_rfl) rfl) ?_;intro fn hfn r hr;have hst:r.state= .ready :=by rw[hr]
     have hpe:r.pending=none:=by rw[hr]
     have HS:Hid (L2 W6 br bg p (V8.heap.size+1) V8.heap.size r (.slice A3 k3 c3) (acV m l M0) (bD m l z M0) 0 ((V8.alloc (.deferred (some []))).alloc (.loop r))):=by
      have hbb:Below V8.heap.size V8 ((V8.alloc (.deferred (some []))).alloc (.loop r)):=anp.alloc (by simp) _;refine⟨HL8.o.trans (hbb.mono HL8.o.size),HQ8.o.on hbb,?_,?_,⟨_,A1,k1,c1,HB8.o.on hbb,HO8.o.on hbb,by rw[List.take_zero];exact .nil⟩⟩
      ·have:=World.alloc_heap_new (V8.alloc (.deferred (some []))) (.loop r)
       rwa[amD]at this
      ·exact(Below.heap_alloc _ _ _ (by simp)).trans (World.alloc_heap_new V8 _)
     refine(xB (p:=p) (V8.heap.size+1) bg hPlOk (fun k W=>L2 W6 br bg p (V8.heap.size+1) V8.heap.size r (.slice A3 k3 c3) (acV m l M0) (bD m l z M0) k W) (fun W=>L2s w (.slice A' n' c') (mpA m) (V8.heap.size+1) V8.heap.size D (acV m l M0) (bD m l z M0) W) (fun k W h=>⟨HW6.o.on h.low,h.pf⟩) (fun k W W' h hb=>h.up hb) ?_ _ HS.o).mono ?_
     ·intro k W1 x hk hx hG
      have hy:=run_yield (P:=prog) (args:= #[.int .i64 (k:Int),ltV (frL p.m x k (zg m l z)[k]! (eH m l M0)[k]! (iZ m l M0)[k]!)]) hG.lp (by rw[hr];rfl);refine⟨_,_,_,_,hy,roundIn_of_wpIn (by rw[hr];exact hfn) ?_⟩;have e1:=congrArg Loop.assign hr;have e2:=congrArg Loop.body hr;have e3:=congrArg Loop.tmps hr;have e4:=congrArg Loop.params hr;dsimp only at e1 e2 e3 e4;rw[e1,e2,e3,e4];have HGG:=amy hG;have Hst:=amy hst;have Hpe:=amy hpe;have HY:Hid ((bD m l z M0)[k]? =some (frL p.m x k (zg m l z)[k]! (eH m l M0)[k]! (iZ m l M0)[k]!)):=by rw[HPM.o];exact lM hx
      clear e1 e2 e3 e4 hr hy hG hst hpe HS hx HQ8 HB8 HO8 HL8;obtain⟨y,hy⟩:=eX (frL p.m x k (zg m l z)[k]! (eH m l M0)[k]! (iZ m l M0)[k]! );rw[hy]at HY⊢
      clear hy;have HYL:Hid (y.le 1000):=HFR.o y (amI HY.o);obtain⟨yid,yins,yacq,yopn,yq,yc,yu⟩:=y;dsimp only[ltV,ltA]
      gi_wp2_with fail
      have HGa:=amy (HGG.o.up ((am3 W1.heap.size W1).alloc ano (.cells (ag5 yid yins yacq yopn yq yc yu) 62)));refine⟨_,run_beginRound HGa.o.lp Hst.o,?_⟩;have hV6:W6.heap.size<=V8.heap.size:=by omega
      have hl0:W1.heap.size≠V8.heap.size+1:=by have:=(amA.1 HGG.o.lp).1;omega
      have hbW:Below W6.heap.size W6 ((W1.alloc (.cells (ag5 yid yins yacq yopn yq yc yu) 62)).putObj (V8.heap.size+1) (.loop {r with state:=.busy})):=aI HGa.o.low (by omega) _;have XP:Bx ((W1.alloc (.cells (ag5 yid yins yacq yopn yq yc yu) 62)).putObj (V8.heap.size+1) (.loop {r with state:=.busy})) W1.heap.size (ag5 yid yins yacq yopn yq yc yu):=((TBx.new W1 _ 62).put hl0 _).bx;obtain⟨M,B1,n1,d1,hT,hO,hOp⟩:=HGa.o.res;have hTP:=hT.put (by omega:br≠V8.heap.size+1) (.loop {r with state:=.busy});have hOP:dw aa 62 7 W6.heap.size ((W1.alloc (.cells (ag5 yid yins yacq yopn yq yc yu) 62)).putObj (V8.heap.size+1) (.loop {r with state:=.busy})) (.slice B1 n1 d1) n1 M:=⟨hO.1,ownsRow_putObj hO.2 _ HGa.o.lp rfl⟩;obtain⟨WP,hWP⟩:∃WP,(W1.alloc (.cells (ag5 yid yins yacq yopn yq yc yu) 62)).putObj (V8.heap.size+1) (.loop {r with state:=.busy})=WP:=⟨_,rfl⟩;have hlpP:Hid (WP.heap[V8.heap.size+1]? =some (.loop {r with state:=.busy})):=by show _=_;rw[<-hWP];exact World.putObj_heap_same (amA.1 HGa.o.lp).1
      have hdfP:Hid (WP.heap[V8.heap.size]? =some (.deferred (some []))):=by show _=_;rw[<-hWP];exact(World.putObj_heap_other (by omega)).trans HGa.o.df
      have hpfP:Hid (TBx WP bg (plA p) 155):=by show TBx _ _ _ _;rw[<-hWP];exact HGa.o.pf.put (by omega) _
      rw[hWP]at XP hbW hTP hOP⊢
      have HFP:=amy (HF6.o.on hbW);have hd0P:Hid (WP.heap[D]? =some (.deferred (some []))):=(hbW.block D hszD).trans HD6.o;have hglP:Gl WP:=hs6.gl.below hbW;have HbW:=amy hbW;have HTP:=amy hTP;have HOP:=amy hOP;have HOp:=amy hOp;have hML:M.length<=2000:=by
       rw[hOp.perm.length_eq,am0,amO];have h1:(acV m l M0).length =l.length:=qc l 0;have h2:=HN.o;have h3:(bD m l z M0).length <=1000:=by
        unfold bD;rw[dS];have:=wD m.ins l;omega
       omega
      have hMZ:∀y∈M,y.le 1000:=fun y hy=>by
       rcases ane.1 (hOp.perm.mem_iff.1 hy)with h|h
       ·exact HRD.o y h
       ·exact HFR.o y (am7 h)
      obtain⟨B1',d1',hBe,hRow⟩:=hOP.row;injection hBe with hBa _ hBc
      subst hBa;subst hBc;have KO:=amy (wN (A:=B1) (n:=n1) (c:=d1) (l:=M) (x:=⟨yid,yins,yacq,yopn,yq,yc,yu⟩) hOP.1 (by rw[<-hOP.1];omega) hMZ HYL.o WP hglP hRow);unfold ltV ltA at KO;have z0:=XP.c 0 (.string yid) rfl;have z1:=XP.c 1 (.string yins) rfl;have z2:=XP.c 2 (.int .i64 yacq) rfl;have z3:=XP.c 3 (.int .i64 yopn) rfl;have z4:=XP.c 4 (.string yq) rfl;have z5:=XP.c 5 (.string yc) rfl;have z6:=XP.c 6 (.string yu) rfl;have o0:=hTP.bx.c 0 (.slice B1 n1 d1) rfl;clear hWP XP hbW hT hO hTP hOP hOp hML hMZ hRow
      gi_wp2_with fail
      refine⟨trivial,(callsIn_wide).2 (KO.o.mono ?_)⟩;rintro e w2 ⟨hb2,v2,rfl,hopn⟩;have HOPN:=amy hopn;have HB2:=amy hb2;have hlpQ:Hid (w2.heap[V8.heap.size+1]? =some (.loop {r with state:=.busy})):=(hb2.block _ (amA.1 hlpP.o).1).trans hlpP.o;have hdfQ:Hid (w2.heap[V8.heap.size]? =some (.deferred (some []))):=(hb2.block _ (amA.1 hdfP.o).1).trans hdfP.o;have hd0Q:Hid (w2.heap[D]? =some (.deferred (some []))):=(hb2.block _ (amA.1 hd0P.o).1).trans hd0P.o;have HFQ:=amy (HFP.o.on hb2);have HTQ:=amy (HTP.o.on hb2);obtain⟨oe,hoe⟩:=eX (kR M ⟨yid,yins,yacq,yopn,yq,yc,yu⟩);have HOE:=amy hoe;rw[hoe]at HOPN⊢
      clear z0 z1 z2 z3 z4 z5 z6 o0 KO hb2 hopn hoe;simp only[];by_cases h0:oe=0
      ·subst h0
       obtain⟨Lb,hLb,hOut⟩:=HOPN.o rfl;obtain⟨A2,c2,hv2⟩:=bW hOut.2;subst hv2;have HOut:Hid (dw aa 62 7 W6.heap.size w2 (.slice A2 (n1+1) c2) (n1+1) Lb):=⟨hOut.1,aS hOut.2 HbW.o.size⟩;have HLb:=amy hLb;have o0:=HTQ.o.bx.c 0 (.slice B1 n1 d1) rfl;have f0:=HTQ.o.bx.frozen 0;clear hOut hLb HOPN
       gi_wp2_with fail
       have hlpS:(w2.setCell ⟨br,0,none⟩ (.slice A2 (n1+1) c2)).heap[V8.heap.size+1]? =some (.loop {r with state:=.busy}):=(amR _ _ _ _ (by show V8.heap.size+1≠br;omega)).trans hlpQ.o;refine⟨_,_,run_endRound none hlpS,.inl ⟨rfl,?_⟩⟩;have hlr:({r with state:=if (none:Option Code).isNone then LoopState.ready else .done,pending:=none}:Loop)=r:=by have h1:=Hst.o;have h2:=Hpe.o;cases r;simp_all
       show L2 _ _ _ _ _ _ _ _ _ _ _ (World.putObj _ _ (.loop {r with state:=if (none:Option Code).isNone then LoopState.ready else .done,pending:=none}));rw[hlr];have HGP:L2 W6 br bg p (V8.heap.size+1) V8.heap.size {r with state:=.busy} (.slice A3 k3 c3) (acV m l M0) (bD m l z M0) k WP:=⟨HbW.o,hpfP.o,hlpP.o,hdfP.o,⟨M,_,_,_,HTP.o,HOP.o,HOp.o⟩⟩;exact HGP.round HB2.o hW6c (by omega) (by omega) (by omega) (by omega) (by omega) _ r hlpQ.o HTQ.o HOut.o (by rw[ani,HY.o];exact .snoc HOp.o HOE.o HLb.o)
      ·have q1:(oe !=0)=true:=by simpa using h0
       have q2:(oe==0)=false:=by simpa using h0
       have hst1:=HFQ.o.rb.storeR (cs':=lY) rfl rfl (by simp[Value.oneCell']);have F9:=HFQ.o.setR lY;have e9:=F9.eb.bx.c 0 (.int .i64 0) rfl;have f9:=F9.eb.bx.frozen 0;have HF9:=amy (F9.setE 4);clear F9
       gi_wp2_with fail
       have hlpS:((w2.setRow (w.heap.size+1+1) lY).setCell ⟨w.heap.size+1+1+1,0,none⟩ (.int .i64 4)).heap[V8.heap.size+1]? =some (.loop {r with state:=.busy}):=
        (amR _ _ _ _ (by show V8.heap.size+1≠w.heap.size+1+1+1;omega)).trans ((setRow_other _ _ _ _ (by omega)).trans hlpQ.o)
       have hkeep:∀ {j:Nat} {o:Obj},w.heap.size+1+1+1<j->j≠V8.heap.size+1->w2.heap[j]? =some o->∀o',(((w2.setRow (w.heap.size+1+1) lY).setCell ⟨w.heap.size+1+1+1,0,none⟩ (.int .i64 4)).putObj (V8.heap.size+1) o').heap[j]? =some o:=fun{j o} h1 h2 h3 o'=>
        (World.putObj_heap_other h2).trans ((amR _ _ _ _ (by show j≠w.heap.size+1+1+1;omega)).trans ((setRow_other _ _ _ _ (by omega)).trans h3))
       exact⟨_,_,run_endRound (some .ret) hlpS,.inr ⟨rfl,HF9.o.put (by omega) _,⟨_,World.putObj_heap_same (amA.1 hlpS).1,rfl,rfl⟩,hkeep (by omega) (by omega) hdfQ.o _,hkeep (by omega) (by omega) hd0Q.o _,k,M,_,HY.o,HOp.o,by rw[HOE.o];exact h0⟩⟩
     ·rintro e W4 ⟨⟨v,rfl⟩,hor⟩
      rcases hor with hG|hS
      ·have hend:=run_endLoop (P:=prog) hG.lp (by rw[hst];decide)
       obtain⟨o5,ho5⟩:∃o5:Obj,o5= .loop {r with state:=.exhausted}:=⟨_,rfl⟩;rw[<-ho5,hpe]at hend;obtain⟨R,B1,n1,d1,hT,hO,hOp⟩:=hG.res;have F6:=(HF6.o.on hG.low).put (l:=V8.heap.size+1) (by omega) o5;have T6:=hT.put (by omega:br≠V8.heap.size+1) o5;have O6:dw aa 62 7 W6.heap.size (W4.putObj (V8.heap.size+1) o5) (.slice B1 n1 d1) n1 R:=⟨hO.1,ownsRow_putObj hO.2 o5 hG.lp rfl⟩;have df6:(W4.putObj (V8.heap.size+1) o5).heap[V8.heap.size]? =some (.deferred (some [])):=(World.putObj_heap_other (by omega)).trans hG.df;have d06:(W4.putObj (V8.heap.size+1) o5).heap[D]? =some (.deferred (some [])):=(World.putObj_heap_other (by omega)).trans ((hG.low.block D hszD).trans HD6.o);obtain⟨Wx,hWx⟩:=eX (W4.putObj (V8.heap.size+1) o5);rw[hWx]at hend F6 T6 O6 df6 d06;refine⟨none,Wx,hend,?_⟩;simp only[];have HF6:=amy F6;have HT6:=amy T6;have HO6:=amy O6;have HDf:=amy df6;have HD0:=amy d06;have HOp:=amy hOp;have hst1:=F6.rb.storeR (cs':= #[.slice B1 n1 d1,.slice none 0 0,.slice A3 k3 c3,.slice none 0 0]) rfl rfl (by simp[Value.oneCell']);have F9:=F6.setR #[.slice B1 n1 d1,.slice none 0 0,.slice A3 k3 c3,.slice none 0 0];have e9:=F9.eb.bx.c 0 (.int .i64 0) rfl;have f9:=F9.eb.bx.frozen 0;have HF9:=amy (F9.setE 0);have t9:=T6.bx.result rfl;clear ho5 hWx hend hr hst hpe HS hT hO hOp hG F6 T6 O6 df6 d06 F9
       gi_wp2_with fail
       have hkeep:∀ {j:Nat} {o:Obj},w.heap.size+1+1+1<j->Wx.heap[j]? =some o->((Wx.setRow (w.heap.size+1+1) #[.slice B1 n1 d1,.slice none 0 0,.slice A3 k3 c3,.slice none 0 0]).setCell ⟨w.heap.size+1+1+1,0,none⟩ (.int .i64 0)).heap[j]? =some o:=fun{j o} h1 h3=>
        (amR _ _ _ _ (by show j≠w.heap.size+1+1+1;omega)).trans ((setRow_other _ _ _ _ (by omega)).trans h3)
       have df9:=hkeep (by omega:w.heap.size+1+1+1<V8.heap.size) HDf.o;have d09:=(World.putObj_heap_other (o:=.deferred none) (by omega:D≠V8.heap.size)).trans (hkeep hb67' HD0.o);have F10:=(HF9.o.put (l:=V8.heap.size) (by omega) (.deferred none)).put (l:=D) hb67' (.deferred none);have r7:=F10.rb.bx.result rfl;have g7:=F10.eb.bx.c 0 (.int .i64 0) rfl;have O9:=HF6.o.o HO6.o #[.slice B1 n1 d1,.slice none 0 0,.slice A3 k3 c3,.slice none 0 0] 0;have O10:=ownsRow_putObj (ownsRow_putObj O9.2 (.deferred none) df9 rfl) (.deferred none) d09 rfl;refine⟨by simp,.inl ⟨_,_,rfl,run_takeDeferred df9,by simp,.inl ⟨_,_,rfl,run_takeDeferred d09,?_⟩⟩⟩;refine⟨.tuple #[.agg #[.slice B1 n1 d1,.slice none 0 0,.slice A3 k3 c3,.slice none 0 0],.int .i64 0],by simp[results,results26,go_sem,r7,g7],F10.low,_,rfl,_,_,0,rfl,rfl,rfl,.inl ⟨rfl,R,⟨fun e=>absurd (by rw[HPN.o,e];rfl) hp0,fun _=>⟨fun x hx y hy=>?_,?_⟩⟩,?_⟩⟩
       ·obtain⟨i,hi⟩:=List.mem_iff_getElem?.1 hx
        exact HNO.o i (by have:=(amH.1 hi).1;unfold bD at this;rw[dS]at this;rw[HPN.o];exact this) x hi y hy
       ·have:=HOp.o
        rwa[amK (by unfold bD;rw[dS,HPN.o];exact am4 _)]at this
       ·have hn1:R.length=n1:=HO6.o.1
        refine⟨rfl,aS ?_ hs6.2.size⟩;rw[hn1];exact O10
      ·obtain⟨rec,hlp,hrs,hrp⟩:=hS.lp
       obtain⟨o5,ho5⟩:∃o5:Obj,o5= .loop {rec with state:=.exhausted}:=⟨_,rfl⟩;have hend:=run_endLoop (P:=prog) hlp (by rw[hrs];decide);rw[<-ho5,hrp]at hend;have F6:=hS.fm.put (l:=V8.heap.size+1) (by omega) o5;have df6:(W4.putObj (V8.heap.size+1) o5).heap[V8.heap.size]? =some (.deferred (some [])):=(World.putObj_heap_other (by omega)).trans hS.df;have d06:(W4.putObj (V8.heap.size+1) o5).heap[D]? =some (.deferred (some [])):=(World.putObj_heap_other (by omega)).trans hS.d0;obtain⟨Wx,hWx⟩:=eX (W4.putObj (V8.heap.size+1) o5);rw[hWx]at hend F6 df6 d06;refine⟨some .ret,Wx,hend,?_⟩;simp only[];have hno:=hS.no;clear ho5 hWx hend hr hst hpe HS hS hlp hrs hrp
       gi_wp2_with fail
       have F7:=(F6.put (l:=V8.heap.size) (by omega) (.deferred none)).put (l:=D) hb67' (.deferred none);have r7:=F7.rb.bx.result rfl;have g7:=F7.eb.bx.c 0 (.int .i64 4) rfl;refine⟨by simp,.inl ⟨_,_,rfl,run_takeDeferred df6,by simp,.inl ⟨_,_,rfl,run_takeDeferred ((World.putObj_heap_other (by omega)).trans d06),?_⟩⟩⟩;exact⟨.tuple #[.agg lY,.int .i64 4],by simp[results,results26,go_sem,r7,g7],F7.low,_,rfl,_,_,4,rfl,rfl,rfl,.inr (.inr ⟨rfl,fun e=>hp0 (by rw[HPN.o,e];rfl),fun x hx y hy=>by
        obtain⟨i,hi⟩:=List.mem_iff_getElem?.1 hx;exact HNO.o i (by have:=(amH.1 hi).1;unfold bD at this;rw[dS]at this;rw[HPN.o];exact this) x hi y hy,hno⟩)⟩
   ·obtain⟨rec,hlp,hrs,hrp⟩:=hS.lp
    obtain⟨o5,ho5⟩:∃o5:Obj,o5= .loop {rec with state:=.exhausted}:=⟨_,rfl⟩;have hend:=run_endLoop (P:=prog) hlp (by rw[hrs];decide);rw[<-ho5,hrp]at hend;have F6:=hS.fm.put (l:=W8.heap.size+1) (by have:=hb67.o;omega) o5;have df6:(W4.putObj (W8.heap.size+1) o5).heap[W8.heap.size]? =some (.deferred (some [])):=(World.putObj_heap_other (by omega)).trans hS.df;obtain⟨W6,hW6⟩:=eX (W4.putObj (W8.heap.size+1) o5);rw[hW6]at hend F6 df6;refine⟨some .ret,W6,hend,?_⟩;simp only[];have r9:=F6.rb.bx.result rfl;have g9:=F6.eb.bx.c 0 (.int .i64 5) rfl;clear ho5 hW6 hend hr hst hpe HS hS hlp hrs hrp
    gi_wp2_with fail
    have F7:=F6.put (l:=W8.heap.size) hb67' (.deferred none);have r7:=F7.rb.bx.result rfl;have g7:=F7.eb.bx.c 0 (.int .i64 5) rfl;refine⟨by simp,.inl ⟨_,_,rfl,run_takeDeferred df6,?_⟩⟩;exact⟨.tuple #[.agg lY,.int .i64 5],by simp[results,results26,go_sem,r7,g7],F7.low,_,rfl,_,_,5,rfl,rfl,rfl,.inr (.inl rfl)⟩
end Go.Proofs.YtbkhnggmcheelaaGreatDoor
