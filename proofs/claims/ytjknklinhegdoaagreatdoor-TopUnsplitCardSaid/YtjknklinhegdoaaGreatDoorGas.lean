/- Regions that leave their order open, inside a round of a loop over an iterator: reads and calls that turn nothing old, then stores in one forced order. Plain facts; no condition. Regions that leave their order open, inside a round of a loop over an iterator: reads and calls alone; any operations, shown order by order. Plain facts; no condition. Lots: lot.Total. Conditions: lists and numbers of bounded length; the library's variables lie as the program's text lays them. Mappings of lots: lotmap.Cash and lotmap.Moved, where the new parts are whole. Conditions: lists of bounded length; the library's variables lie as the program's text lays them. -/
import Derived.OrdersIn
import Derived.TacticsIn
import Derived.Deep.RegionHeld
import Derived.Test.YtjknklinhegdoaaGreatDoorGag
import Derived.Test.YtjknklinhegdoaaGreatDoorLm8
set_option linter.unusedSimpArgs false
set_option linter.unusedVariables false
set_option maxHeartbeats 4000000
set_option maxRecDepth 100000
namespace Go.Proofs.YtjknklinhegdoaaGreatDoor
open Go.RowKit
section
variable {P:Program} {ops:Array Oper} {md:Region.Mode} {C:World→Prop} {l0 m:Nat}
theorem wC {f:FuncId}{args:Array Value}{w:World}{R:Ending→World→Prop}(h:Calls P f args w R):CallsIn (Fence.wide.inRound l0) m P f args w R:=callsIn_wide.2 h
theorem uw {i:Nat}{a:Act}{K:Act→Prop}{K':Act→World→Prop}{Q':Exit→Act→World→Prop}{w:World}(hnd:∀o,ops[i]? =some o→∀c,o.op≠ .defer c)(hC:C w)(h:∀a w',C w'→K a→K' a w')(hh:qOp P ops C i K a):
 wpOpIn (Fence.wide.inRound l0) m P ops Q' i K' a w:=by
 unfold qOp at hh;unfold wpOpIn;split
 ·rename_i ho;simp only[ho]at hh;exact h _ _ hC hh
 ·rename_i o ho
  simp only[ho]at hh;split
  ·rename_i hw
   simp only[hw,if_true]at hh;obtain⟨v,h1,h2⟩:=hh;refine⟨fun f _=>trivial,?_⟩;rw[Oper.semAt_eq _ _ _ (hnd o ho)];have hq:=h1 w hC;unfold Oper.quietAt at hq;generalize (execOp a.eval o).run P w=r at hq⊢
   cases r with
   |ok nx v'=>
    cases nx<;>simp only[Oper.quietUpon]at hq<;>simp only[Oper.uponIn]
    case value u=>
     obtain⟨e1,e2⟩:=hq;subst e1 e2;exact h _ _ hC h2
    case skip=>
     obtain⟨e1,e2⟩:=hq;subst e1 e2;exact h _ _ hC h2
    case enter f args=>
     obtain⟨e1,hc⟩:=hq;subst e1;refine⟨fun hd=>by simp[Fence.wide,Fence.inRound]at hd,wC (hc.mono fun e w'' ⟨he,hw''⟩=>?_)⟩;subst he;exact h _ _ hw'' h2
   |halt x v'=>simp only[Oper.quietUpon]at hq
  ·rename_i hw
   simp only[hw]at hh;exact⟨fun f _=>trivial,h _ _ hC hh⟩
theorem dH.soundIn {n g:Nat}{L:Array Bool→Act→Prop}{Q:Exit→Act→World→Prop}(hnd:∀(i:Nat) (o:Oper),ops[i]? =some o→∀c,o.op≠ .defer c)(hL:∀s a w,C w→L s a→wpAnyIn (Fence.wide.inRound l0) m P md ops Q g s a w):
 ∀(f:Nat) (s:Array Bool) (a:Act) (w:World),C w→dH P md ops C n L f s a→wpAnyIn (Fence.wide.inRound l0) m P md ops Q (f+g) s a w
 |0,s,a,w,hw,h=>by rw[Nat.zero_add];exact hL s a w hw h
 |f+1,s,a,w,hw,h=>by
  rw[Nat.succ_add];exact⟨fun h0=>absurd h0 h.1,fun i hi=>uw (hnd i) hw (fun a' w' hw' h'=>dH.soundIn hnd hL f _ a' w' hw' h') (h.2 i hi).2⟩
theorem jT {F:Fence}{Q':Exit→Act→World→Prop}:∀(l:List Oper) (k:Nat) (listed:Array Bool) (a:Act) (w:World),(∀j,l[j]? =ops[k+j]?)→
 Region.seqB md ops l.length k listed=true→wpListIn F m P ops Q' l a w→wpAnyIn F m P md ops Q' l.length listed a w
 | [],_,_,_,_,_,hB,h=>⟨by simpa[Region.seqB]using hB,h⟩
 |o::l,k,listed,a,w,hl,hB,h=>by
  have h0:ops[k]? =some o:=by simpa using(hl 0).symm
  simp only[aly,Region.seqB,ale,decide_eq_true_eq]at hB;refine⟨fun h1=>(by rw[hB.1]at h1;cases h1),fun i hi=>?_⟩;rw[hB.1]at hi;have hik:i=k:=by simpa using hi
  subst hik;have hw:wpOpIn F m P ops Q' i (wpListIn F m P ops Q' l) a w:=by unfold wpOpIn;simp only[h0];exact h
  exact wpOpIn_mono (fun a' w' h'=>jT l (i+1) _ a' w' (fun j=>by have:=hl (j+1);simpa[Nat.add_assoc,Nat.add_comm 1 j]using this) hB.2 h') hw
def zI (l:List Oper):Bool:=l.all fun o=>match o.op with| .defer _=>false|_=>true
theorem xG {l:List Oper}(h:zI l=true):∀(i:Nat) (o:Oper),l.toArray[i]? =some o→∀c,o.op≠ .defer c:=by
 intro i o ho c e;have hm:o∈l:=alk (by simpa using ho);unfold zI at h;have:=alz.1 h o hm;rw[e]at this;cases this
theorem jm {id:Nat}{w:World}{Q:Exit→Act→World→Prop}{a:Act}{l:List Oper}(n:Nat)(hm:P.follows .mixedOrders =true)(hB:Region.lexTailB .any l.toArray n=true)(hD:zI l=true)
 (h:wpQuiet P l.toArray (fun w'=>∃u:Kept w,w'=u.W) (fun a'=>∀w',(∃u:Kept w,w'=u.W)→wpListIn (Fence.wide.inRound l0) m P l.toArray Q (l.drop n) a' w') (l.take n) a):(Code.region id l.toArray true).wpIn (Fence.wide.inRound l0) m P Q a w:=by
 simp only[Region.lexTailB,ale,decide_eq_true_eq]at hB;obtain⟨⟨⟨⟨hns,hn⟩,hs⟩,hc⟩,hlex⟩:=hB;have hn':n<l.length:=hn;have htl:(l.take n).length =n:=by rw[alr];omega
 have hdl:(l.drop n).length =l.toArray.size-n:=by rw[List.length_drop];rfl
 have inv0:HeadInv .any l.toArray n (Array.replicate l.toArray.size false):=
  ⟨by simp,fun j oj _ hl=>(by rw[getD_replicate_false]at hl;cases hl),fun t _ ht=>getD_in (by simpa using ht) (getD_replicate_false _ _)⟩
 have H:=dH.lex (md:=.any) (g:=l.toArray.size-n) hns hs hc hn (l.take n) 0 _ a (fun j hj=>by
  rw[htl]at hj;simp[hj]) (by rw[htl];exact Nat.zero_add n) inv0 (by rw[htl];exact hlex) h
 have H2:=dH.soundIn (l0:=l0) (m:=m) (Q:=Q) (g:=l.toArray.size-n) (xG hD) (fun s a' w' hw hL=>by
  have:=jT (F:=Fence.wide.inRound l0) (m:=m) (md:=.any) (Q':=Q) (l.drop n) n s a' w' (fun j=>by simp[List.getElem?_drop]) (by rw[hdl];exact hL.1) (hL.2 w' hw);rwa[hdl]at this) _ _ _ _ (qB w) H
 rw[htl,show n+(l.toArray.size-n)=l.toArray.size by omega]at H2;exact wpIn_region_any hm H2
end
end Go.Proofs.YtjknklinhegdoaaGreatDoor
namespace Go.Proofs.YtjknklinhegdoaaGreatDoor
open Go.RowKit
end Go.Proofs.YtjknklinhegdoaaGreatDoor
namespace Go.Proofs.YtjknklinhegdoaaGreatDoor
open Go.RowKit Go.Shelf Dec QQ SP
attribute [local go_sem] Oper.semAt_some
def yO (ins:ByteArray)(l:List Lt):Int:=(iv ((av ins l).map (·.q))).sum
def sF (ins:ByteArray)(l:List Lt):Int:=(iv ((av ins l).map (·.c))).sum
theorem agx {ins:ByteArray}{l:List Lt}{k:Nat}{x:Lt}(h:l[k]? =some x)(hx:eqB x.ins ins=true):yO ins (l.take (k+1))=yO ins (l.take k)+aj x.q:=by
 unfold yO iv;rw[oh h hx];simp
theorem agy {ins:ByteArray}{l:List Lt}{k:Nat}{x:Lt}(h:l[k]? =some x)(hx:eqB x.ins ins=true):sF ins (l.take (k+1))=sF ins (l.take k)+aj x.c:=by
 unfold sF iv;rw[oh h hx];simp
theorem ajd {ins:ByteArray}{l:List Lt}{k:Nat}{x:Lt}(h:l[k]? =some x)(hx:eqB x.ins ins=false):yO ins (l.take (k+1))=yO ins (l.take k):=by
 unfold yO;rw[zh h hx]
theorem aje {ins:ByteArray}{l:List Lt}{k:Nat}{x:Lt}(h:l[k]? =some x)(hx:eqB x.ins ins=false):sF ins (l.take (k+1))=sF ins (l.take k):=by
 unfold sF;rw[zh h hx]
theorem aaC {ins:ByteArray}{l:List Lt}(hz:∀x∈l,x.le 1000)(hl:l.length≤1000)(k:Nat):Fit 1003 (yO ins (l.take k))∧Fit 1003 (sF ins (l.take k)):=by
 have hm:∀x∈av ins (l.take k),x.le 1000:=fun x hx=>hz x (List.mem_of_mem_take (List.mem_filter.1 hx).1)
 have hlen:=ali (ol (ins:=ins) (l:=l) k) hl;constructor
 ·refine kw (lU (k:=1000) fun s hs=>?_) (by rw[aP,List.length_map];exact hlen)
  obtain⟨x,hx,rfl⟩:=alq.1 hs;exact(hm x hx).q
 ·refine kw (lU (k:=1000) fun s hs=>?_) (by rw[aP,List.length_map];exact hlen)
  obtain⟨x,hx,rfl⟩:=alq.1 hs;exact(hm x hx).c
structure TSt (w:World) (ins:ByteArray) (L:List Lt) (vl:Value) (l0 D:Nat) (rec:Loop) (k:Nat) (W:World):Prop where
 low:Below w.heap.size w W
 qb:TBx W w.heap.size #[.string (ag (yO ins (L.take k)))] 24
 cb:TBx W (w.heap.size+1) #[.string (ag (sF ins (L.take k)))] 24
 bl:Boxed W (w.heap.size+1+1) 22 vl
 bi:Boxed W (w.heap.size+1+1+1) 9 (.string ins)
 lp:W.heap[l0]? =some (.loop rec)
 df:W.heap[D]? =some (.deferred (some []))
theorem TSt.up {w:World}{ins:ByteArray}{L:List Lt}{vl:Value}{l0 D k:Nat}{rec:Loop}{W W':World}(h:TSt w ins L vl l0 D rec k W)(hb:Below W.heap.size W W'):TSt w ins L vl l0 D rec k W':=
 ⟨h.low.trans (hb.mono h.low.size),h.qb.on hb,h.cb.on hb,TBx.on h.bl hb,TBx.on h.bi hb,(hb.block l0 (alc.1 h.lp).1).trans h.lp,(hb.block D (alc.1 h.df).1).trans h.df⟩
theorem TSt.round {w:World}{ins:ByteArray}{L:List Lt}{vl:Value}{l0 D k:Nat}{rec rec':Loop}{W:World}(h:TSt w ins L vl l0 D rec k W)(hl:w.heap.size+1+1+1<l0)(hD:w.heap.size+1+1+1<D)(hne:D≠l0){q c:Int}(hq:yO ins (L.take (k+1))=q)(hc:sF ins (L.take (k+1))=c):
 TSt w ins L vl l0 D rec' (k+1) (((W.setCell ⟨w.heap.size,0,none⟩ (.string (ag q))).setCell ⟨w.heap.size+1,0,none⟩ (.string (ag c))).putObj l0 (.loop rec'))∧((W.setCell ⟨w.heap.size,0,none⟩ (.string (ag q))).setCell ⟨w.heap.size+1,0,none⟩ (.string (ag c))).heap[l0]? =some (.loop rec):=by
 subst hq hc;have b1:=(h.low.setCell (p:=⟨w.heap.size,0,none⟩) alK (.string (ag (yO ins (L.take (k+1)))))).setCell (p:=⟨w.heap.size+1,0,none⟩) (by show w.heap.size≤w.heap.size+1;omega) (.string (ag (sF ins (L.take (k+1)))));have far:∀ {j:Nat} {o:Obj},w.heap.size+1<j→W.heap[j]? =some o→((W.setCell ⟨w.heap.size,0,none⟩ (.string (ag (yO ins (L.take (k+1)))))).setCell ⟨w.heap.size+1,0,none⟩ (.string (ag (sF ins (L.take (k+1)))))).heap[j]? =some o:=fun{j o} h1 h2=>
  (alv _ _ _ _ (by show j≠w.heap.size+1;omega)).trans ((alv _ _ _ _ (by show j≠w.heap.size;omega)).trans h2)
 have hlp:=far (by omega) h.lp;refine⟨⟨aJ b1 (by omega) _,((h.qb.set 0 _).other (by omega) _ _).put (by omega) _,(((h.cb.other (by omega) _ _)).set 0 _).put (by omega) _,TBx.put (far (by omega) h.bl) (by omega) _,TBx.put (far (by omega) h.bi) (by omega) _,World.putObj_heap_same (alc.1 hlp).1,(World.putObj_heap_other hne).trans (far (by omega) h.df)⟩,hlp⟩
theorem ada {A:Option Addr}{n c:Nat}{L:List Lt}{ins:ByteArray}(hn:L.length=n)(hm:n≤1000)(hz:∀x∈L,x.le 1000):
 ig (fun w=>Row w A (au aa L)) 18 #[.slice A n c,.string ins] (.tuple #[.string (ag (yO ins L)),.string (ag (sF ins L))]):=by
 intro w hg hi;have HN:=ala hn;have HI:=ala hi;have HG:=ala hg;have HFT:=ala (aaC (ins:=ins) hz (by omega));have HZ:=ala hz;have KF:=aiM A n c ins ((w.alloc (.cells #[.string ⟨#[]⟩] 24)).alloc (.cells #[.string ⟨#[]⟩] 24));simp only[alf]at KF;clear hn hi hz hg;refine(callsIn_wide (n:=6)).1 ?_;refine callsIn_of_wp_marks Tryz.func18 rfl trivial ?_ rfl;simp only[Tryz.ntmps18,List.size_toArray,aly,List.length_nil,Nat.reduceAdd,Nat.reduceSub,Array.replicate_succ,Array.replicate_zero,List.push_toArray,List.append_toArray,List.nil_append,List.cons_append]
 gi_wp2_with fail
 refine⟨trivial,(callsIn_wide).2 (KF.mono ?_)⟩;rintro e w4 ⟨rfl,rfl⟩;clear KF;have hb4:Below w.heap.size w ((((w.alloc (.cells #[.string ⟨#[]⟩] 24)).alloc (.cells #[.string ⟨#[]⟩] 24)).alloc (.cells #[.slice A n c] 22)).alloc (.cells #[.string ins] 9)):=((alL.alloc (by simp) _).alloc (by simp;omega) _).alloc (by simp;omega) _;have q4:=(((TBx.new w #[.string ⟨#[]⟩] 24).alloc (.cells #[.string ⟨#[]⟩] 24)).alloc (.cells #[.slice A n c] 22)).alloc (.cells #[.string ins] 9);have c4:TBx ((((w.alloc (.cells #[.string ⟨#[]⟩] 24)).alloc (.cells #[.string ⟨#[]⟩] 24)).alloc (.cells #[.slice A n c] 22)).alloc (.cells #[.string ins] 9)) (w.heap.size+1) #[.string ⟨#[]⟩] 24:=by
  have:=((TBx.new (w.alloc (.cells #[.string ⟨#[]⟩] 24)) #[.string ⟨#[]⟩] 24).alloc (.cells #[.slice A n c] 22)).alloc (.cells #[.string ins] 9);rwa[alf]at this
 have l4:TBx ((((w.alloc (.cells #[.string ⟨#[]⟩] 24)).alloc (.cells #[.string ⟨#[]⟩] 24)).alloc (.cells #[.slice A n c] 22)).alloc (.cells #[.string ins] 9)) (w.heap.size+1+1) #[.slice A n c] 22:=by
  have:=(TBx.new ((w.alloc (.cells #[.string ⟨#[]⟩] 24)).alloc (.cells #[.string ⟨#[]⟩] 24)) #[.slice A n c] 22).alloc (.cells #[.string ins] 9);rwa[alf,alf]at this
 have i4:TBx ((((w.alloc (.cells #[.string ⟨#[]⟩] 24)).alloc (.cells #[.string ⟨#[]⟩] 24)).alloc (.cells #[.slice A n c] 22)).alloc (.cells #[.string ins] 9)) (w.heap.size+1+1+1) #[.string ins] 9:=by
  have:=TBx.new (((w.alloc (.cells #[.string ⟨#[]⟩] 24)).alloc (.cells #[.string ⟨#[]⟩] 24)).alloc (.cells #[.slice A n c] 22)) #[.string ins] 9;rwa[alf,alf,alf]at this
 obtain⟨W4,hW4⟩:∃W4,(((w.alloc (.cells #[.string ⟨#[]⟩] 24)).alloc (.cells #[.string ⟨#[]⟩] 24)).alloc (.cells #[.slice A n c] 22)).alloc (.cells #[.string ins] 9)=W4:=⟨_,rfl⟩;have s4:w.heap.size+1+1+1<W4.heap.size:=by rw[←hW4];simp
 rw[hW4]at hb4 q4 c4 l4 i4⊢
 clear hW4;simp only[]
 gi_wp2_with fail
 refine gu rfl (by omega) rfl trivial (enters_of Tryz.func84 (by kernel_rfl) rfl) ?_;intro fn hfn r hr;have hst:r.state= .ready :=by rw[hr]
 have hpe:r.pending=none:=by rw[hr]
 have HS:Hid (TSt w ins L (.slice A n c) (W4.heap.size+1) W4.heap.size r 0 ((W4.alloc (.deferred (some []))).alloc (.loop r))):=by
  have hbb:Below W4.heap.size W4 ((W4.alloc (.deferred (some []))).alloc (.loop r)):=alL.alloc (by simp) _;refine⟨hb4.trans (hbb.mono hb4.size),q4.on hbb,c4.on hbb,l4.on hbb,i4.on hbb,?_,?_⟩
  ·have:=World.alloc_heap_new (W4.alloc (.deferred (some []))) (.loop r)
   rwa[alf]at this
  ·exact(Below.heap_alloc _ _ _ (by simp)).trans (World.alloc_heap_new W4 _)
 have hnn:n≤1000000:=by omega
 refine(of_in (W4.heap.size+1) (w.heap.size+1+1) (w.heap.size+1+1+1) HN.out hnn (fun k W=>TSt w ins L (.slice A n c) (W4.heap.size+1) W4.heap.size r k W) (fun k W h=>⟨HI.out.on h.low,h.bl,h.bi⟩) (fun k W W' h hb=>h.up hb) (fun k W x hx hq h=>⟨h.low,by rw[ajd hx hq];exact h.qb,by rw[aje hx hq];exact h.cb,h.bl,h.bi,h.lp,h.df⟩) ?_ _ HS.out).mono ?_
 ·intro k W1 x hk hx hq hG
  have hy:=run_yield (P:=Tryz.prog) (args:= #[ltV x]) hG.lp (by rw[hr];rfl);refine⟨_,_,_,_,hy,roundIn_of_wpIn (by rw[hr];exact hfn) ?_⟩;have e1:=congrArg Loop.assign hr;have e2:=congrArg Loop.body hr;have e3:=congrArg Loop.tmps hr;have e4:=congrArg Loop.params hr;dsimp only at e1 e2 e3 e4;rw[e1,e2,e3,e4];have HGG:=ala hG;have Hst:=ala hst;have Hpe:=ala hpe;have HQ1:=ala (agx hx hq);have HC1:=ala (agy hx hq);have hzx:=HZ.out x (alk hx);have f1:=HFT.out k;have KQ:=agr (Vs.can f1.1 (by omega)) (Vs.arg (s:=x.q) (by have:=hzx.q;omega));have KC:=agr (Vs.can f1.2 (by omega)) (Vs.arg (s:=x.c) (by have:=hzx.c;omega));clear e1 e2 e3 e4 hr hy hG hst hpe HS hx hq hzx f1 q4 c4 l4 i4 hb4;generalize yO ins (L.take k)+aj x.q=q1 at*
  generalize sF ins (L.take k)+aj x.c=c1 at*
  dsimp only[ltV,ltA]
  gi_wp2_with fail
  have HGa:=ala (HGG.out.up ((alJ W1.heap.size W1).alloc alK (.cells #[.string x.id,.string x.ins,.int .i64 x.acq,.int .i64 x.opn,.string x.q,.string x.c,.string x.u] 47)));refine⟨_,run_beginRound HGa.out.lp Hst.out,?_⟩;have hlt:=(alc.1 HGG.out.lp).1;have hl0:W1.heap.size≠W4.heap.size+1:=by omega
  have XP:Bx ((W1.alloc (.cells #[.string x.id,.string x.ins,.int .i64 x.acq,.int .i64 x.opn,.string x.q,.string x.c,.string x.u] 47)).putObj (W4.heap.size+1) (.loop {r with state:=.busy})) W1.heap.size #[.string x.id,.string x.ins,.int .i64 x.acq,.int .i64 x.opn,.string x.q,.string x.c,.string x.u]:=((TBx.new W1 _ 47).put hl0 _).bx;have HGP:Hid (TSt w ins L (.slice A n c) (W4.heap.size+1) W4.heap.size {r with state:=.busy} k ((W1.alloc (.cells #[.string x.id,.string x.ins,.int .i64 x.acq,.int .i64 x.opn,.string x.q,.string x.c,.string x.u] 47)).putObj (W4.heap.size+1) (.loop {r with state:=.busy}))):=
   ⟨aJ HGa.out.low (by omega) _,HGa.out.qb.put (by omega) _,HGa.out.cb.put (by omega) _,TBx.put HGa.out.bl (by omega) _,TBx.put HGa.out.bi (by omega) _,World.putObj_heap_same (alc.1 HGa.out.lp).1,(World.putObj_heap_other (by omega)).trans HGa.out.df⟩
  obtain⟨WP,hWP⟩:∃WP,(W1.alloc (.cells #[.string x.id,.string x.ins,.int .i64 x.acq,.int .i64 x.opn,.string x.q,.string x.c,.string x.u] 47)).putObj (W4.heap.size+1) (.loop {r with state:=.busy})=WP:=⟨_,rfl⟩;rw[hWP]at XP HGP⊢
  have hsP:St w WP:=⟨HG.out,HGP.out.low⟩;generalize hqk:ag (yO ins (L.take k))=qk at*
  generalize hck:ag (sF ins (L.take k))=ck at*
  have qb:Bx WP w.heap.size #[.string qk]:=by rw[←hqk];exact HGP.out.qb.bx
  have cb:Bx WP (w.heap.size+1) #[.string ck]:=by rw[←hck];exact HGP.out.cb.bx
  have k1:=qb.keeps (i:=0) (v:=.string qk) rfl;have k2:=cb.keeps (i:=0) (v:=.string ck) rfl;have k3:=XP.keeps (i:=4) (v:=.string x.q) rfl;have k4:=XP.keeps (i:=5) (v:=.string x.c) rfl;clear hWP hlt HGa hqk hck
  gi_wp2_with fail
  refine jm 8 (by kernel_rfl) (by kernel_rfl) (by kernel_rfl) ?_;simp only[List.take_succ_cons,List.take_zero,List.drop_succ_cons,List.drop_zero]
  repeat (go_big_quiet_step (first|(with_reducible exact KQ.kept hsP)|(with_reducible exact KC.kept hsP)))
  refine wpQuiet_nil ?_;rintro _ ⟨u,rfl⟩;have HU:=ala (HGP.out.up u.low);have c0:=k1 u;have d0:=k2 u;have c0f:=HU.out.qb.bx.frozen 0;have d0f:=HU.out.cb.bx.frozen 0;clear k1 k2 k3 k4 KQ KC XP qb cb
  gi_wp2_with fail
  obtain⟨hR1,hR2⟩:=HU.out.round (rec':=r) (by omega) (by omega) (by omega) HQ1.out HC1.out;refine⟨_,_,run_endRound none hR2,rfl,?_⟩;have hlr:({r with state:=if (none:Option Code).isNone then LoopState.ready else .done,pending:=none}:Loop)=r:=by have h1:=Hst.out;have h2:=Hpe.out;cases r;simp_all
  show TSt _ _ _ _ _ _ _ _ (World.putObj _ _ (.loop {r with state:=if (none:Option Code).isNone then LoopState.ready else .done,pending:=none}));rw[hlr];exact hR1
 ·rintro e W5 ⟨⟨v,rfl⟩,hG⟩
  obtain⟨o5,ho5⟩:∃o5:Obj,o5= .loop {r with state:=.exhausted}:=⟨_,rfl⟩;have hend:=run_endLoop (P:=Tryz.prog) hG.lp (by rw[hst];decide);rw[←ho5]at hend;rw[hpe]at hend;have hqb:=hG.qb.put (by omega:w.heap.size≠W4.heap.size+1) o5;have hcb:=hG.cb.put (by omega:w.heap.size+1≠W4.heap.size+1) o5;have hlow:Hid (Below w.heap.size w (W5.putObj (W4.heap.size+1) o5)):=aJ hG.low (by omega) _;have hdf:Hid ((W5.putObj (W4.heap.size+1) o5).heap[W4.heap.size]? =some (.deferred (some []))):=(World.putObj_heap_other (by omega)).trans hG.df;obtain⟨W6,hW6⟩:∃W6,W5.putObj (W4.heap.size+1) o5=W6:=⟨_,rfl⟩;rw[hW6]at hend hqb hcb hlow hdf;rw[aln (Nat.le_of_eq HN.out)]at hqb hcb;refine⟨none,W6,hend,?_⟩;have k1:=hqb.bx.cell (i:=0) (v:=.string (ag (yO ins L))) rfl;have k2:=hcb.bx.cell (i:=0) (v:=.string (ag (sF ins L))) rfl;clear ho5 hr hG hst hpe HS hW6 hend hqb hcb q4 c4 l4 i4 hb4;obtain⟨qs,hqs⟩:∃qs,ag (yO ins L)=qs:=⟨_,rfl⟩;obtain⟨cs,hcs⟩:∃cs,ag (sF ins L)=cs:=⟨_,rfl⟩;rw[hqs]at k1;rw[hcs]at k2;have HQS:=ala hqs;have HCS:=ala hcs;clear hqs hcs;simp only[]
  gi_wp2_with fail
  refine wpIn_wide.2 ?_
  go_quiet (fail)
  gi_wp2_with fail
  have hdfn:(W6.drewN nq).heap[W4.heap.size]? =some (.deferred (some [])):=hdf.out;refine⟨by simp,.inl ⟨_,_,rfl,run_takeDeferred hdfn,?_⟩⟩;have hlown:Below w.heap.size w (W6.drewN nq):=hlow.out.trans (below_drewN _ _ _);exact⟨_,results_tmp2 rfl _ _ _,by rw[HQS.out,HCS.out];rfl,aJ hlown (by omega) _⟩
end Go.Proofs.YtjknklinhegdoaaGreatDoor
namespace Go.Proofs.YtjknklinhegdoaaGreatDoor
open Go.RowKit Go.Shelf Dec QQ SP
attribute [local go_sem] Oper.semAt_some
attribute [-go_sem] loadVar storeVar
attribute [local go_sem] aey aiJ
theorem akp (xs:List Int):au dD xs=(xs.map ag).map sv:=by
 unfold au
 induction xs with
 |nil=>rfl
 |cons x xs ih=>rw[List.flatMap_cons,ih];rfl
theorem zq {w:World}{A:Option Addr}{xs:List Int}(h:si w A xs):Row w A ((xs.map ag).map sv):=by
 have:=h;unfold si at this;rwa[akp]at this
theorem yF {k:Nat}{xs:List Int}(h:∀x∈xs,Fit k x):∀s∈xs.map ag,s.size≤k+1:=fun s hs=>by
 obtain⟨x,hx,rfl⟩:=alq.1 hs;exact(h x hx).size
theorem aiq {A':Option Addr}{n' c':Nat}{l:List Lt}(m:MapS){r pr:Rat}{z:Int}(hmo:MOk m)(hn:l.length=n')(hle:aL l=0)(hz:∀x∈l,x.le 1000)(hr:Vq m.rn m.rd r)(hrf:bH 1000 r)(hsn:m.sn=⟨#[49]⟩)(hsd:m.sd=⟨#[]⟩)(hpp:Vq m.pn m.pd pr)(hpf:bH 1000 pr)(hw:((iv ((av m.ins l).map (·.q))).sum :Rat)*r=(z:Rat))(hms:∀x∈dM (ag (iv ((av m.ins l).map (·.c))).sum) ((av m.ins l).map (·.c)),Fit 3000 x)(hfp:∀x∈dM ⟨#[]⟩ ((av m.ins l).map (·.q)),Fit 3000 x):
 ig (fun w=>Row w A' (au aa l)) 31 #[.slice A' n' c',mpV m] (.tuple #[.string (ag (iv ((dM ⟨#[]⟩ ((av m.ins l).map (·.q))).map ag)).sum),.int .i64 0]):=by
 intro w hg hi;have hm:n'≤1000:=by
  rw[←hn];unfold aL at hle;by_cases h:1000<l.length
  ·rw[alI h]at hle;cases hle
  ·omega
 have K1:=ala (mY (A:=A') (c:=c') hn (by omega) hz hmo);have K2:=ala (uM (A':=A') (c':=c') m hn hm hz hr hrf hsn hsd hpp hpf hw hms);have hqv:(aL l==0)=true:=by rw[hle];rfl
 rw[hqv]at K1;have hs:=(St.refl hg).alloc (.cells (mpA m) 75);have HR:=ala (hi.on ((alJ _ _).alloc alK (.cells (mpA m) 75)));have HX:=ala (TBx.new w (mpA m) 75);have hdl:(dM ⟨#[]⟩ ((av m.ins l).map (·.q))).length ≤1000:=by
  have:(av m.ins l).length ≤l.length:=List.length_filter_le _ _;unfold dM;split<;>simp[dI,aP]<;>omega
 have hdn:(dM ⟨#[]⟩ ((av m.ins l).map (·.q))).length =(av m.ins l).length :=by
  unfold dM;split<;>simp[dI,aP]
 have HDL:=ala hdl;have HDN:=ala hdn;have HFP:=ala hfp;obtain⟨V,hV⟩:∃V,ag (iv ((dM ⟨#[]⟩ ((av m.ins l).map (·.q))).map ag)).sum =V:=⟨_,rfl⟩;rw[hV];have HV:=ala hV;clear hn hle hz hr hrf hpp hpf hw hms hmo hqv hi hg hsn hsd hV hdl hdn hfp;have k0:=HX.out.bx.mapping rfl;dsimp only[mpV]at*
 go_enter Tryz.func31,Tryz.ntmps31
 go_wp2_with fail
 refine(K1.out).step hs HR.out ?_;intro w1 hs hb1;have HR1:=ala (HR.out.on hb1);have HX1:=ala (HX.out.on hb1);clear k0 K1 HX HR hb1;have k0:=HX1.out.bx.mapping rfl
 go_wp2_with fail
 refine(K2.out w1 hs.gl HR1.out).mono ?_;rintro e w2 ⟨v2,rfl,⟨p,rfl,hpm,hpn,hpp,hpa,hpd,hpw,hpp2⟩,hb2⟩;have hs:=hs.on hb2;have KS:=ala (lL (A:=p.AP) (n:=p.n) (c:=p.cP) (k0:=3001) (ws:=(dM ⟨#[]⟩ ((av m.ins l).map (·.q))).map ag) (by rw[List.length_map,HDN.out,hpn]) (by rw[hpn, ←HDN.out];exact HDL.out) (by omega) (yF HFP.out));rw[HV.out]at KS;have HRP:=ala (zq hpp2);clear k0 K2 HX1 HR1 hb2 hpw hpp2 hpp hpa hpd hpm hpn;obtain⟨⟨cause,day,ins,oth,rn,rd,sn,sd,pn,pd,keep⟩,A,n,c,parts,an,ad,AN,cN,AM,cM,AF,cF,AP,cP⟩:=p;dsimp only[plV,plA]at*
 have hfd:∀u:World,(Instr.field 162 (.agg #[.string cause,.int .i64 day,.string ins,.string oth,.string rn,.string rd,.string sn,.string sd,.string pn,.string pd,.bool keep,.slice A n c,.string parts,.string an,.string ad,.slice AN n cN,.slice AM n cM,.slice AF n cF,.slice AP n cP]) 7).run Tryz.prog u= .ok (.slice AP n cP) u:=fun u=>by kernel_rfl
 go_wp2_with fail
 refine(KS.out).step hs HRP.out ?_;intro w3 hs hb3
 go_wp2_with fail
 go_ret2
 exact⟨rfl,hs.2⟩
theorem aet {A':Option Addr}{n' c':Nat}{l:List Lt}(m:MapS){r pr:Rat}{z:Int}(hmo:MOk m)(hn:l.length=n')(hle:aL l=0)(hz:∀x∈l,x.le 1000)(hr:Vq m.rn m.rd r)(hrf:bH 1000 r)(hsn:m.sn=⟨#[49]⟩)(hsd:m.sd=⟨#[]⟩)(hpp:Vq m.pn m.pd pr)(hpf:bH 1000 pr)(hw:((iv ((av m.ins l).map (·.q))).sum :Rat)*r=(z:Rat))(hms:∀x∈dM (ag (iv ((av m.ins l).map (·.c))).sum) ((av m.ins l).map (·.c)),Fit 3000 x)(hfs:∀x∈(dM ⟨#[]⟩ ((dM (ag (iv ((av m.ins l).map (·.c))).sum) ((av m.ins l).map (·.c))).map ag)),Fit 3000 x):
 ∃s1 s2 s3,ig (fun w=>Row w A' (au aa l)) 32 #[.slice A' n' c',mpV m] (.tuple #[.string s1,.string s2,.string s3,.int .i64 0]):=by
 refine⟨ag ((iv ((dM (ag (iv ((av m.ins l).map (·.c))).sum) ((av m.ins l).map (·.c))).map ag)).sum -(iv ((dM ⟨#[]⟩ ((dM (ag (iv ((av m.ins l).map (·.c))).sum) ((av m.ins l).map (·.c))).map ag)).map ag)).sum),ag (iv ((dM ⟨#[]⟩ ((dM (ag (iv ((av m.ins l).map (·.c))).sum) ((av m.ins l).map (·.c))).map ag)).map ag)).sum,ag (sF m.ins l-(iv ((dM (ag (iv ((av m.ins l).map (·.c))).sum) ((av m.ins l).map (·.c))).map ag)).sum),?_⟩;intro w hg hi;have hm:n'≤1000:=by
  rw[←hn];unfold aL at hle;by_cases h:1000<l.length
  ·rw[alI h]at hle;cases hle
  ·omega
 have K1:=ala (mY (A:=A') (c:=c') hn (by omega) hz hmo);have K2:=ala (uM (A':=A') (c':=c') m hn hm hz hr hrf hsn hsd hpp hpf hw hms);have K3:=ala (ada (A:=A') (c:=c') (ins:=m.ins) hn hm hz);have hqv:(aL l==0)=true:=by rw[hle];rfl
 rw[hqv]at K1;have hs:=(St.refl hg).alloc (.cells (mpA m) 75);have HR:=ala (hi.on ((alJ _ _).alloc alK (.cells (mpA m) 75)));have HX:=ala (TBx.new w (mpA m) 75);have hlen:(av m.ins l).length ≤l.length:=List.length_filter_le _ _;have hmn:(dM (ag (iv ((av m.ins l).map (·.c))).sum) ((av m.ins l).map (·.c))).length =(av m.ins l).length :=by unfold dM;split<;>simp[dI,aP]
 have hfn:(dM ⟨#[]⟩ ((dM (ag (iv ((av m.ins l).map (·.c))).sum) ((av m.ins l).map (·.c))).map ag)).length =(av m.ins l).length :=by
  rw[←hmn];generalize (dM (ag (iv ((av m.ins l).map (·.c))).sum) ((av m.ins l).map (·.c)))=ms;unfold dM;split<;>simp[dI,aP]
 have hfm:Fit 3004 (iv ((dM (ag (iv ((av m.ins l).map (·.c))).sum) ((av m.ins l).map (·.c))).map ag)).sum :=kw (lU (k:=3001) (yF hms)) (by rw[aP,List.length_map,hmn];omega);have hff:Fit 3004 (iv ((dM ⟨#[]⟩ ((dM (ag (iv ((av m.ins l).map (·.c))).sum) ((av m.ins l).map (·.c))).map ag)).map ag)).sum :=kw (lU (k:=3001) (yF hfs)) (by rw[aP,List.length_map,hfn];omega);have hfc:Fit 1003 (sF m.ins l):=by
  have:=(aaC (ins:=m.ins) hz (by omega) l.length).2;rwa[aln alK]at this
 have KA:=SubR (Vs.can hfm (by omega)) (Vs.can hff (by omega));have KB:=SubR (Vs.can hfc (by omega)) (Vs.can hfm (by omega));have HMN:=ala hmn;have HFN:=ala hfn;have HMS:=ala hms;have HFS:=ala hfs;have HLN:=ala (show (av m.ins l).length ≤1000 by omega);generalize (dM ⟨#[]⟩ ((dM (ag (iv ((av m.ins l).map (·.c))).sum) ((av m.ins l).map (·.c))).map ag))=fs at*
 generalize (dM (ag (iv ((av m.ins l).map (·.c))).sum) ((av m.ins l).map (·.c)))=ms at*
 clear hn hle hz hr hrf hpp hpf hw hms hmo hqv hi hg hsn hsd hmn hfn hfm hff hfc hfs hlen;have k0:=HX.out.bx.mapping rfl;dsimp only[mpV]at*
 generalize ag ((iv (ms.map ag)).sum -(iv (fs.map ag)).sum)=s1 at*
 generalize ag (sF m.ins l-(iv (ms.map ag)).sum)=s3 at*
 go_enter Tryz.func32,Tryz.ntmps32
 go_wp2_with fail
 refine(K1.out).step hs HR.out ?_;intro w1 hs hb1;have HR1:=ala (HR.out.on hb1);have HX1:=ala (HX.out.on hb1);clear k0 K1 HX HR hb1;have k0:=HX1.out.bx.mapping rfl
 go_wp2_with fail
 refine(K2.out w1 hs.gl HR1.out).mono ?_;rintro e w2 ⟨v2,rfl,⟨p,rfl,hpm,hpn,hpp,hpa,hpd,hpw,hpp2⟩,hb2⟩;have hps:∀v:World,(storeVar 162 ⟨v.heap.size,0,none⟩ (.agg (plA p))).run Tryz.prog (v.alloc (.cells #[.string ⟨#[]⟩,.int .i64 0,.string ⟨#[]⟩,.string ⟨#[]⟩,.string ⟨#[]⟩,.string ⟨#[]⟩,.string ⟨#[]⟩,.string ⟨#[]⟩,.string ⟨#[]⟩,.string ⟨#[]⟩,.bool false,.slice none 0 0,.string ⟨#[]⟩,.string ⟨#[]⟩,.string ⟨#[]⟩,.slice none 0 0,.slice none 0 0,.slice none 0 0,.slice none 0 0] 162))= .ok () (v.alloc (.cells (plA p) 162)):=fun v=>by
  rw[TBx.store (TBx.new v #[.string ⟨#[]⟩,.int .i64 0,.string ⟨#[]⟩,.string ⟨#[]⟩,.string ⟨#[]⟩,.string ⟨#[]⟩,.string ⟨#[]⟩,.string ⟨#[]⟩,.string ⟨#[]⟩,.string ⟨#[]⟩,.bool false,.slice none 0 0,.string ⟨#[]⟩,.string ⟨#[]⟩,.string ⟨#[]⟩,.slice none 0 0,.slice none 0 0,.slice none 0 0,.slice none 0 0] 162) rfl rfl (by simp[plA,Value.oneCell']),World.setRow_alloc_new]
 have hba:Below w2.heap.size w2 (w2.alloc (.cells (plA p) 162)):=bal _ _;have hs:=(hs.on hb2).on hba;have HR3:=ala ((HR1.out.on hb2).on hba);have HX3:=ala ((HX1.out.on hb2).on hba);have HP3:=ala (TBx.new w2 (plA p) 162);have HRM:=ala (zq (hpw.rm.on hba));have HRF:=ala (zq (hpw.rf.on hba));have KS:=ala (lL (A:=p.AM) (n:=p.n) (c:=p.cM) (k0:=3001) (ws:=ms.map ag) (by rw[List.length_map,HMN.out,hpn]) (by rw[hpn];exact HLN.out) (by omega) (yF HMS.out));have KF:=ala (lL (A:=p.AF) (n:=p.n) (c:=p.cF) (k0:=3001) (ws:=fs.map ag) (by rw[List.length_map,HFN.out,hpn]) (by rw[hpn];exact HLN.out) (by omega) (yF HFS.out));generalize ag (iv (ms.map ag)).sum =a1 at*
 obtain⟨a2,ha2⟩:∃a2,ag (iv (fs.map ag)).sum =a2:=⟨_,rfl⟩;rw[ha2]at KF KA;have HA2:=ala ha2;clear ha2;generalize ag (sF m.ins l)=a3 at*
 unfold plV;clear k0 K2 HX1 HR1 hb2 hpw hpp2 hpp hpa hpd hpm hpn HMS HFS HMN HFN
 go_wp2_with fail
 have k16:=HP3.out.bx.keeps (i:=16) (v:=.slice p.AM p.n p.cM) rfl;have k17:=HP3.out.bx.keeps (i:=17) (v:=.slice p.AF p.n p.cF) rfl;have hI1:∀u:Kept (w2.alloc (.cells (plA p) 162)),Row u.W p.AM ((ms.map ag).map sv):=fun u=>HRM.out.on u.low
 have hI2:∀u:Kept (w2.alloc (.cells (plA p) 162)),Row u.W p.AF ((fs.map ag).map sv):=fun u=>HRF.out.on u.low
 refine ax (by kernel_rfl) (by kernel_rfl) ?_
 repeat (go_big_quiet_step (first|(with_reducible exact dK KS.out hs hI1)|(with_reducible exact dK KF.out hs hI2)))
 refine wpQuiet_nil ?_;rintro _ ⟨u1,rfl⟩;have hs:=hs.kept u1;have HR4:=ala (HR3.out.on u1.low);have HX4:=ala (HX3.out.on u1.low);clear k16 k17 hI1 hI2 KS KF HP3 HRM HRF HX3 HR3 hps hba;generalize u1.W=w4 at*
 have x2:=HX4.out.bx.cell (i:=2) (v:=.string m.ins) rfl
 go_wp2_with fail
 refine(K3.out).step hs HR4.out ?_;intro w5 hs hb5;clear x2 K3 HX4 HR4 hb5
 go_wp2_with fail
 refine KA.step hs ?_;intro w6 hs hb6
 go_wp2_with fail
 refine KB.step hs ?_;intro w7 hs hb7
 go_wp2_with fail
 refine bodyPost_ret (wW rfl _ _ _) rfl ?_;exact⟨by rw[HA2.out];rfl,hs.2⟩
end Go.Proofs.YtjknklinhegdoaaGreatDoor
