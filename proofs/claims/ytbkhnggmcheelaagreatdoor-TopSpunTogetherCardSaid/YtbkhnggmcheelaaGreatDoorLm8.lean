/- TopSpunTogether: Mappings of lots. Conditions: bounded sizes; variables as laid. -/
import Derived.Test.YtbkhnggmcheelaaGreatDoorGan
set_option linter.unusedSimpArgs false
set_option linter.unusedVariables false
set_option maxHeartbeats 4000000
set_option maxRecDepth 100000
namespace Go.Proofs.YtbkhnggmcheelaaGreatDoor
open Proofs.Tryz
open Go.RowKit Go.Shelf Dec QQ SP
attribute [local go_sem] Oper.semAt_some
attribute [-go_sem] loadVar storeVar
abbrev gP (x0:BA)(x1:Int)(x2 x3 x4 x5 x6 x7 x8 x9:BA)(x10:Bool):Array Value:= #[.string x0,.int .i64 x1,.string x2,.string x3,.string x4,.string x5,.string x6,.string x7,.string x8,.string x9,.bool x10]
abbrev iq:Array Value:= #[.string ⟨#[]⟩,.int .i64 0,.string ⟨#[]⟩,.string ⟨#[]⟩,.string ⟨#[]⟩,.string ⟨#[]⟩,.string ⟨#[]⟩,.string ⟨#[]⟩,.string ⟨#[]⟩,.string ⟨#[]⟩,.bool false,.slice none 0 0,.string ⟨#[]⟩,.string ⟨#[]⟩,.string ⟨#[]⟩,.slice none 0 0,.slice none 0 0,.slice none 0 0,.slice none 0 0]
abbrev xY (x0:BA)(x1:Int)(x2 x3 x4 x5 x6 x7 x8 x9:BA)(x10:Bool)(x11:Option Addr)(x12 x13:Nat)(x14:BA)(x15:Option Addr)(x16 x17:Nat)(x18:Option Addr)(x19 x20:Nat)(x21:Option Addr)(x22 x23:Nat)(x24:Option Addr)(x25 x26:Nat):Array Value:= #[.string x0,.int .i64 x1,.string x2,.string x3,.string x4,.string x5,.string x6,.string x7,.string x8,.string x9,.bool x10,.slice x11 x12 x13,.string x14,.string ⟨#[]⟩,.string ⟨#[]⟩,.slice x15 x16 x17,.slice x18 x19 x20,.slice x21 x22 x23,.slice x24 x25 x26]
abbrev zZ (x0:BA)(x1:Int)(x2 x3 x4 x5 x6 x7 x8 x9:BA)(x10:Bool)(x11:Option Addr)(x12 x13:Nat):Array Value:= #[.string x0,.int .i64 x1,.string x2,.string x3,.string x4,.string x5,.string x6,.string x7,.string x8,.string x9,.bool x10,.slice x11 x12 x13,.string ⟨#[]⟩,.string ⟨#[]⟩,.string ⟨#[]⟩,.slice none 0 0,.slice none 0 0,.slice none 0 0,.slice none 0 0]
theorem afs (t:TypeId)(_:t≠155)(_:t≠76)(a:Addr):loadVar t a=(do if<-isAgg t then pure (.agg (<-loadCells a (<-sizeOf t)))else load a):=rfl
theorem ajQ (t:TypeId)(_:t≠155)(a:Addr)(v:Value):storeVar t a v=(do
 if v.cells.size≠(<-sizeOf t)then stuck "storeVar: the value has not the size of the variable"
 storeCells a v.cells.toList):=rfl
attribute [local go_sem] afs ajQ
theorem bW {w:World}{base n size:Nat}{T:TypeId}{v:Value}{xs:List Value}(h:w.ownsRow base T size v n xs):∃A c,v= .slice A n c:=by
 rcases h.2 with ⟨rfl,h0⟩|⟨g,cap,cur,rfl,_⟩
 ·exact⟨_,_,by rw[h0]⟩
 ·exact⟨_,_,rfl⟩
theorem Bx.mapping {w:World}{b:Nat}{cs:Array Value}(h:Bx w b cs)(hs:cs.size=11):(loadVar 76 ⟨b,0,none⟩).run prog w= .ok (.agg cs) w:=by
 have:=run_loadVar_mid (P:=prog) w b 0 76 cs.toList (prog.underlying 76).get! (fun j v hv=>by rw[am5];exact h.cell (by simpa using hv)) (by kernel_rfl) (by kernel_rfl) (by rw[Array.length_toList,hs];kernel_rfl);simpa using this
theorem TBx.store {w:World}{b:Nat}{cs cs':Array Value}{T:TypeId}(h:TBx w b cs T)(hs:cs.size=19)(hs':cs'.size=19)(h1:cs'.all (·.oneCell')=true):(storeVar 155 ⟨b,0,none⟩ (.agg cs')).run prog w= .ok () (w.setRow b cs'):=
 run_storeVar_row (P:=prog) w b T 155 cs cs' h (by rw[hs'];kernel_rfl) (by rw[hs,hs']) h1
theorem di (W:World)(b:Nat)(cs:Array Value):W.grownBy (W.setRow b cs) (some b):=
 ⟨rfl,rfl,rfl,by simp,fun k _ hk=>setRow_other W b k cs (fun e=>hk (by rw[e]))⟩
theorem TBx.row {w:World}{b:Nat}{cs:Array Value}{T:TypeId}(h:TBx w b cs T)(cs':Array Value):TBx (w.setRow b cs') b cs' T:=setRow_heap w b cs cs' T (0,0) h
theorem TBx.rowOther {w:World}{b c:Nat}{cs:Array Value}{T:TypeId}(h:TBx w b cs T)(hne:b≠c)(cs':Array Value):TBx (w.setRow c cs') b cs T:=(setRow_other w c b cs' hne).trans h
theorem afG:(prog.info? 24).map (fun i=>(i.zero,i.size,i.bytes))=some (some (.string ⟨#[]⟩),1,16):=by kernel_rfl
theorem rJ {w w':World}{base base' n n' s s':Nat}{T T':TypeId}{v v':Value}{xs xs':List Value}(h:w.ownsRow base T s v n xs)(h':w.ownsRow base' T' s' v' n' xs')(hg:w.grownBy w' v'.ownBlock)(hne:T≠T'\/∀g,v.ownBlock=some g->v'.ownBlock≠some g):w'.ownsRow base T s v n xs:=by
 refine⟨h.1,?_⟩;rcases h.2 with h2|⟨g,cap,cur,e1,e2,e3,r⟩
 ·exact .inl h2
 ·refine .inr ⟨g,cap,cur,e1,e2,(hg.block g (amA.1 e3).1 ?_).trans e3,r⟩
  rcases hne with hT|hb
  ·exact own_ne h' e3 (fun cur e=>by injection e with _ e;exact hT e)
  ·exact fun e=>hb g (by rw[e1];rfl) e.symm
theorem uL {w:World}{base n s:Nat}{T:TypeId}{v:Value}{xs:List Value}(h:w.ownsRow base T s v n xs){g:Nat}(hg:v.ownBlock=some g):g<w.heap.size:=by
 rcases h.2 with ⟨rfl,_⟩|⟨g',cap,cur,rfl,_,e3,_⟩
 ·cases hg
 ·injection hg with hg
  subst hg;exact(amA.1 e3).1
theorem TBx.grownNe {w w':World}{b:Nat}{cs:Array Value}{T:TypeId}{r:Option Nat}(h:TBx w b cs T)(hg:w.grownBy w' r)(hne:some b≠r):TBx w' b cs T:=(hg.block b (amA.1 h).1 hne).trans h
theorem bal (w:World)(o:Obj):Below w.heap.size w (w.alloc o):=anp
theorem rdr {w:World}{b:Nat}{v:Value}{T:TypeId}(h:TBx w b #[v] T):Reads w w.heap.size 1 (some ⟨b,0,none⟩) 1 [v]:=fD (Row.of h.bx) rfl (by decide)
theorem iD {w:World}{base n k c:Nat}{A:Option Addr}{T:TypeId}{xs:List Value}(h:w.ownsRow base T 1 (.slice A k c) n xs):k=n/\Row w A xs:=by
 obtain⟨A1,c1,e1,h1⟩:=dw.row (cs:=fun(v:Value)=>[v]) (m:=1) (xs:=xs) (T:=T) (base:=base) (n:=n) (w:=w) (v:=.slice A k c) ⟨by have:=h.1;omega,by rw[show av (fun v:Value=>[v]) xs=xs by unfold av;simp];exact h⟩;injection e1 with e2 e3 e4
 rw[show av (fun v:Value=>[v]) xs=xs by unfold av;simp]at h1;exact⟨e3,by rw[e2];exact h1⟩
structure Fr8 (w:World) (b5 bl:Nat) (T4:TypeId) (mc zc pc lc:Array Value) (old:List Lt) (vo:Value) (W:World):Prop where
 low:Below w.heap.size w W
 mt:TBx W w.heap.size mc 76
 z:TBx W (w.heap.size+1) zc 155
 pl:TBx W b5 pc 155
 lt:TBx W bl lc T4
 tn:T4≠24
 old:dw aa 62 7 w.heap.size W vo old.length old
theorem Fr8.on {w:World}{b5 bl:Nat}{T4:TypeId}{mc zc pc lc:Array Value}{old:List Lt}{vo:Value}{W W':World}(h:Fr8 w b5 bl T4 mc zc pc lc old vo W)(hb:Below W.heap.size W W'):Fr8 w b5 bl T4 mc zc pc lc old vo W':=
 ⟨h.low.trans (hb.mono h.low.size),h.mt.on hb,h.z.on hb,h.pl.on hb,h.lt.on hb,h.tn,h.old.on hb⟩
theorem Fr8.grown {w:World}{b5 bl:Nat}{T4:TypeId}{mc zc pc lc:Array Value}{old:List Lt}{vo:Value}{W W':World}(h:Fr8 w b5 bl T4 mc zc pc lc old vo W){v:Value}{k:Nat}{xs:List Value}(ho:W.ownsRow w.heap.size 24 1 v k xs)(hg:W.grownBy W' v.ownBlock):Fr8 w b5 bl T4 mc zc pc lc old vo W':=
 ⟨h.low.grown hg h.low.size (fE ho),h.mt.grown ho hg (by decide),h.z.grown ho hg (by decide),h.pl.grown ho hg (by decide),h.lt.grown ho hg h.tn,h.tn,h.old.1,rJ h.old.2 ho hg (.inl (by decide))⟩
theorem aD (W:World)(b i:Nat)(v:Value):W.grownBy (W.setCell ⟨b,i,none⟩ v) (some b):=
 ⟨rfl,rfl,rfl,(KeepsWalks.setCell W _ v).size,fun k _ hk=>amR _ _ _ k (fun e=>hk (by rw[e]))⟩
theorem Fr8.setPl {w:World}{b5 bl:Nat}{T4:TypeId}{mc zc pc lc:Array Value}{old:List Lt}{vo:Value}{W:World}(h:Fr8 w b5 bl T4 mc zc pc lc old vo W)(h5:w.heap.size+2<=b5)(hl:bl≠b5)(i:Nat)(v:Value):Fr8 w b5 bl T4 mc zc (pc.setIfInBounds i v) lc old vo (W.setCell ⟨b5,i,none⟩ v):=
 ⟨h.low.setCell (p:=⟨b5,i,none⟩) (by show w.heap.size<=b5;omega) v,h.mt.other (by omega) i v,h.z.other (by omega) i v,h.pl.set i v,h.lt.other hl i v,h.tn,h.old.1,aP h.old.2 h.pl (fun cur e=>by injection e with _ e;revert e;decide) (aD _ _ _ _)⟩
structure Pr8 (w:World) (vq vc:Value) (kq kc:Nat) (xq xc:List Value) (W:World):Prop where
 q:W.ownsRow w.heap.size 24 1 vq kq xq
 c:W.ownsRow w.heap.size 24 1 vc kc xc
 ne:∀g,vq.ownBlock=some g->vc.ownBlock≠some g
theorem Pr8.ltq {w:World}{vq vc:Value}{kq kc:Nat}{xq xc:List Value}{W:World}(h:Pr8 w vq vc kq kc xq xc W)(g:Nat)(hg:vq.ownBlock=some g):g<W.heap.size:=uL h.q hg
theorem Pr8.ltc {w:World}{vq vc:Value}{kq kc:Nat}{xq xc:List Value}{W:World}(h:Pr8 w vq vc kq kc xq xc W)(g:Nat)(hg:vc.ownBlock=some g):g<W.heap.size:=uL h.c hg
theorem Pr8.on {w:World}{vq vc:Value}{kq kc:Nat}{xq xc:List Value}{W W':World}(h:Pr8 w vq vc kq kc xq xc W)(hb:Below W.heap.size W W'):Pr8 w vq vc kq kc xq xc W':=⟨own_below h.q hb,own_below h.c hb,h.ne⟩
theorem Pr8.appq {w:World}{vq vc vq':Value}{kq kc:Nat}{xq xc ys:List Value}{W W':World}(h:Pr8 w vq vc kq kc xq xc W)(ho:W'.ownsRow w.heap.size 24 1 vq' (kq+1) ys)(hg:W.grownBy W' vq.ownBlock)(hor:vq'.ownBlock=vq.ownBlock\/vq'.ownBlock=some W.heap.size):Pr8 w vq' vc (kq+1) kc ys xc W':=
 ⟨ho,rJ h.c h.q hg (.inr fun g e e2=>h.ne g e2 e),fun g e e2=>by
  rcases hor with e3|e3
  ·exact h.ne g (by rw[<-e3];exact e) e2
  ·rw[e3]at e
   injection e with e
   have:=uL h.c e2;omega⟩
theorem Pr8.appc {w:World}{vq vc vc':Value}{kq kc:Nat}{xq xc ys:List Value}{W W':World}(h:Pr8 w vq vc kq kc xq xc W)(ho:W'.ownsRow w.heap.size 24 1 vc' (kc+1) ys)(hg:W.grownBy W' vc.ownBlock)(hor:vc'.ownBlock=vc.ownBlock\/vc'.ownBlock=some W.heap.size):Pr8 w vq vc' kq (kc+1) xq ys W':=
 ⟨rJ h.q h.c hg (.inr fun g e e2=>h.ne g e e2),ho,fun g e e2=>by
  rcases hor with e3|e3
  ·exact h.ne g e (by rw[<-e3];exact e2)
  ·rw[e3]at e2
   injection e2 with e2
   have:=uL h.q e;omega⟩
theorem Pr8.setPl {w:World}{vq vc:Value}{kq kc:Nat}{xq xc:List Value}{W:World}{b5:Nat}{pc:Array Value}(h:Pr8 w vq vc kq kc xq xc W)(hp:TBx W b5 pc 155)(i:Nat)(v:Value):Pr8 w vq vc kq kc xq xc (W.setCell ⟨b5,i,none⟩ v):=
 ⟨aP h.q hp (fun cur e=>by injection e with _ e;revert e;decide) (aD _ _ _ _),aP h.c hp (fun cur e=>by injection e with _ e;revert e;decide) (aD _ _ _ _),h.ne⟩
theorem dM {α:Type}{cs:α->List Value}{m base n:Nat}{w:World}{v:Value}{xs:List α}{b5:Nat}{pc:Array Value}(h:dw cs 24 m base w v n xs)(hp:TBx w b5 pc 155)(i:Nat)(u:Value):dw cs 24 m base (w.setCell ⟨b5,i,none⟩ u) v n xs:=
 ⟨h.1,aP h.2 hp (fun cur e=>by injection e with _ e;revert e;decide) (aD _ _ _ _)⟩
theorem ahX (C:Int):ahY 1 (C:Rat)=ae C:=by
 rw[(mJ (by decide) (by decide) (C:Rat)).2,qZ (by rw[Rat.num_intCast,Rat.den_intCast];simp),Rat.floor_intCast]
theorem aeT (cause ins oth rn rd sn sd pn pd parts t a b:BA)(day:Int)(keep:Bool)(A A5 A6 A7 A8:Option Addr)(n c n5 c5 n6 c6 n7 c7 n8 c8:Nat):Ret 141 #[.agg (xY cause day ins oth rn rd sn sd pn pd keep A n c parts A5 n5 c5 A6 n6 c6 A7 n7 c7 A8 n8 c8),.string t,FV a b] (.string ⟨#[]⟩):=by
 intro w hg;have hs:=((St.refl hg).alloc (.cells (xY cause day ins oth rn rd sn sd pn pd keep A n c parts A5 n5 c5 A6 n6 c6 A7 n7 c7 A8 n8 c8) 155)).alloc (.cells #[.string a,.string b] 26);have X:=(Bx.new w (xY cause day ins oth rn rd sn sd pn pd keep A n c parts A5 n5 c5 A6 n6 c6 A7 n7 c7 A8 n8 c8) 155).alloc (.cells #[.string a,.string b] 26);have K:=iY (a:=⟨#[]⟩) (b:=⟨#[]⟩) (q:=0) (k:=1) vq0 fit0 (by omega);rw[show il 0 0=0 by decide+kernel]at K;unfold FV at*
 have x13:=X.c 13 (.string ⟨#[]⟩) rfl;have x14:=X.c 14 (.string ⟨#[]⟩) rfl
 go_enter func141,ntmps141
 go_wp2_with fail
 refine K.step hs ?_;intro w1 hs hb
 go_wp2_with fail
 go_ret
 exact⟨rfl,hs.2⟩
theorem wI {A':Option Addr}{n' c':Nat}{l:List Lt}(m:MapS){r pr sh:Rat}{z M:Int}(hn:l.length=n')(hm:n'<=1000)(hz:∀x∈l,x.le 1000)(hr:Vq m.rn m.rd r)(hrf:bP 1000 r)(hsh:Vq m.sn m.sd sh)(hshf:bP 1000 sh)(hM:pO 1 (sh*((iv ((ak m.ins l).map (·.c))).sum :Rat))=M)(hMf:Fit 3900 M)(hpp:Vq m.pn m.pd pr)(hpf:bP 1000 pr)(hw:((iv ((ak m.ins l).map (·.q))).sum :Rat)*r=(z:Rat))(hms:∀x∈dX (ae M) ((ak m.ins l).map (·.c)),Fit 3000 x):
 RetO (fun w=>Row w A' (av aa l)) 71 #[.slice A' n' c',mpV m] fun B w' v=>∃p:PlS,v=plV p/\p.m=m/\p.n=(ak m.ins l).length /\p.parts=ae z/\p.an=⟨#[]⟩/\p.ad=⟨#[]⟩/\PlW p (ak m.ins l) (dX (ae z) ((ak m.ins l).map (·.q))) (dX (ae M) ((ak m.ins l).map (·.c))) (dX ⟨#[]⟩ ((dX (ae M) ((ak m.ins l).map (·.c))).map ae)) w'/\pW w' p.AP (dX ⟨#[]⟩ ((ak m.ins l).map (·.q))):=by
 intro w hg hi;have hgw:=hg;have hs:=(St.refl hg).alloc (.cells (mpA m) 76);have X:=TBx.new w (mpA m) 76;have hOf:=tJ (A:=A') (n:=n') (c:=c') (L:=l) (ins:=m.ins) hn (by omega);have HOF:=amy hOf;have HZ:=amy (fun x (hx:x∈ak m.ins l)=>hz x (List.mem_filter.1 hx).1);have HR:=amy (⟨hr,hrf⟩:Vq m.rn m.rd r/\bP 1000 r);have HPQ:=amy (⟨hpp,hpf⟩:Vq m.pn m.pd pr/\bP 1000 pr);have HW8:=amy hw;have HMS:=amy hms;have HSH:=amy (⟨hsh,hshf⟩:Vq m.sn m.sd sh/\bP 1000 sh);have HM8:=amy hM;have HMF:=amy hMf;clear hOf hz hr hrf hpp hpf hw hms hsh hshf hM hMf;obtain⟨cause,day,ins,oth,rn,rd,sn,sd,pn,pd,keep⟩:=m;dsimp only[mpV,mpA]at*
 have a2:=X.alloc (.cells iq 155);have p2:=TBx.new (w.alloc (.cells (gP cause day ins oth rn rd sn sd pn pd keep) 76)) iq 155;have hb2:Below w.heap.size w ((w.alloc (.cells (gP cause day ins oth rn rd sn sd pn pd keep) 76)).alloc (.cells iq 155)):=anp.alloc (by simp) _;have s2:(w.alloc (.cells (gP cause day ins oth rn rd sn sd pn pd keep) 76)).heap.size =w.heap.size+1:=by simp
 rw[s2]at p2
 go_enter func71,ntmps71
 have hgr:Hid (∀v,Below ((w.alloc (.cells (gP cause day ins oth rn rd sn sd pn pd keep) 76)).alloc (.cells iq 155)).heap.size ((w.alloc (.cells (gP cause day ins oth rn rd sn sd pn pd keep) 76)).alloc (.cells iq 155)) v->Gl v/\Row v A' (av aa l)):=fun v hv=>⟨hg.below (hb2.trans (hv.mono hb2.size)),(hi.on hb2).on hv⟩
 have HT:=amy a2;have HP2:=amy p2;have HB2:=amy hb2;obtain⟨Wb,hWb⟩:=eX (((w.alloc (.cells (gP cause day ins oth rn rd sn sd pn pd keep) 76)).alloc (.cells iq 155)));have hHW:=amy hWb;have s2':Hid (Wb.heap.size=w.heap.size+2):=by show Wb.heap.size=_;rw[<-hWb];simp
 rw[hWb]at hgr HT HP2 HB2;clear hWb a2 p2 hb2 X s2 hi hs hg
 go_upto_region 1 with (fail)
 rw[show ((w.alloc (.cells (gP cause day ins oth rn rd sn sd pn pd keep) 76)).alloc (.cells iq 155))=Wb from hHW.o];clear hHW
 go_cut [5] (fun s5 wx=>∃b5 A c,s5= .pointer (some ⟨b5,0,none⟩)/\Hid (Below w.heap.size w wx/\TBx wx w.heap.size (gP cause day ins oth rn rd sn sd pn pd keep) 76/\TBx wx (w.heap.size+1) iq 155/\TBx wx b5 #[.string cause,.int .i64 day,.string ins,.string oth,.string rn,.string rd,.string sn,.string sd,.string pn,.string pd,.bool keep,.slice A (ak ins l).length c,.string ⟨#[]⟩,.string ⟨#[]⟩,.string ⟨#[]⟩,.slice none 0 0,.slice none 0 0,.slice none 0 0,.slice none 0 0] 155/\w.heap.size+2<=b5/\dw aa 62 7 w.heap.size wx (.slice A (ak ins l).length c) (ak ins l).length (ak ins l)))
 case first=>
  have hSOK:Hid (∀v,Below Wb.heap.size Wb v->(loadVar 76 ⟨w.heap.size,0,none⟩).run prog v= .ok (.agg (gP cause day ins oth rn rd sn sd pn pd keep)) v/\v.cell? ⟨w.heap.size,2,none⟩=some (.string ins)):=fun v hv=>⟨(HT.o.on hv).bx.mapping rfl,(HT.o.on hv).bx.cell (i:=2) rfl⟩
  have BL0:Hid (Below Wb.heap.size Wb Wb.drew):=(am3 _ _).drew;have HS1:∀(v:World) (A3:Option Addr) (k3 c3:Nat),(storeVar 155 ⟨v.heap.size,0,none⟩ (.agg (zZ cause day ins oth rn rd sn sd pn pd keep A3 k3 c3))).run prog (v.alloc (.cells iq 155))= .ok () (v.alloc (.cells (zZ cause day ins oth rn rd sn sd pn pd keep A3 k3 c3) 155)):=fun v A3 k3 c3=>by
   rw[TBx.store (TBx.new v iq 155) rfl rfl (by simp[Value.oneCell']),World.setRow_alloc_new]
  have HS2:Hid (∀(v:World) (A3:Option Addr) (k3 c3:Nat),TBx v Wb.heap.size iq 155->(storeVar 155 ⟨Wb.heap.size,0,none⟩ (.agg (zZ cause day ins oth rn rd sn sd pn pd keep A3 k3 c3))).run prog v= .ok () (v.setRow Wb.heap.size (zZ cause day ins oth rn rd sn sd pn pd keep A3 k3 c3))):=fun v A3 k3 c3 h=>h.store rfl rfl (by simp[Value.oneCell'])
  have BL0a:Hid (Below Wb.heap.size Wb (Wb.drew.alloc (.cells iq 155))):=BL0.o.alloc BL0.o.size _;have TA0:Hid (TBx (Wb.drew.alloc (.cells iq 155)) Wb.heap.size iq 155):=TBx.new Wb.drew iq 155
  go_region_held3 (fun v=>(loadVar 76 ⟨w.heap.size,0,none⟩).run prog v= .ok (.agg (gP cause day ins oth rn rd sn sd pn pd keep)) v/\v.cell? ⟨w.heap.size,2,none⟩=some (.string ins))
   (first|exact hSOK.o _ BL0.o|exact hSOK.o _ BL0a.o|exact hSOK.o _ BL1.o|exact hSOK.o _ (BL1.o.alloc BL1.o.size _)|exact hSOK.o _ (below_setRow BL1.o ano _))
   (first
    |(go_at_call 6;refine(HOF.o Wb.drew (hgr.o _ BL0.o).1 (hgr.o _ BL0.o).2).mono ?_;rintro e w3 ⟨v3,rfl,ho3,hb3⟩;obtain⟨A3,c3,rfl⟩:=bW ho3.2;have BL1:Hid (Below Wb.heap.size Wb w3):=BL0.o.trans (hb3.mono BL0.o.size);have HO3:=amy ho3;clear ho3 hb3)
    |(go_at_call 6;refine(HOF.o _ (hgr.o _ BL0a.o).1 (hgr.o _ BL0a.o).2).mono ?_;rintro e w3 ⟨v3,rfl,ho3,hb3⟩;obtain⟨A3,c3,rfl⟩:=bW ho3.2;have BL1:Hid (Below Wb.heap.size Wb w3):=BL0a.o.trans (hb3.mono BL0a.o.size);have TA1:=amy (TA0.o.on hb3);have HS3:=HS2.o w3 A3 (ak ins l).length c3 TA1.o;have HO3:=amy ho3;clear ho3 hb3))
  ·go_wp2_with fail
   go_meet
   exact⟨_,_,_,rfl,HB2.o.trans ((BL1.o.alloc BL1.o.size _).mono HB2.o.size),(HT.o.on BL1.o).alloc _,(HP2.o.on BL1.o).alloc _,TBx.new _ _ _,by have:=s2'.o;have:=BL1.o.size;omega,rfl,aS ((HO3.o.2).alloc _) (by show w.heap.size<=Wb.heap.size;have:=s2'.o;omega)⟩
  ·go_wp2_with fail
   go_meet
   exact⟨_,_,_,rfl,HB2.o.trans ((below_setRow BL1.o ano _).mono HB2.o.size),(HT.o.on BL1.o).rowOther (by have:=s2'.o;omega) _,(HP2.o.on BL1.o).rowOther (by have:=s2'.o;omega) _,TA1.o.row _,by have:=s2'.o;omega,rfl,aS (aP HO3.o.2 TA1.o (fun cur e=>by injection e with _ e;revert e;decide) (di _ _ _)) (by have:=s2'.o;simp;omega)⟩
 case rest=>
  clear HT HP2 HB2 hgr s2';obtain⟨b5,A,c,rfl,HW⟩:=hcut;have hol:(ak ins l).length <=1000:=by
   have:=pY (ins:=ins) (l:=l) l.length;rw[amK ano]at this;omega
  generalize hoE:ak ins l=old at*
  have HOE:=amy hoE;clear hoE;obtain⟨n,hnl⟩:=eX (old.length);have HNL:=amy hnl;have x11:=HW.o.2.2.2.1.bx.c 11 (.slice A old.length c) rfl;rw[hnl]at x11 HW hol;have hb5:w.heap.size+2<=b5:=HW.o.2.2.2.2.1;have HF0:Hid (Fr8 w b5 w.heap.size 76 (gP cause day ins oth rn rd sn sd pn pd keep) iq (zZ cause day ins oth rn rd sn sd pn pd keep A n c) (gP cause day ins oth rn rd sn sd pn pd keep) old (.slice A n c) wc):=⟨HW.o.1,HW.o.2.1,HW.o.2.2.1,HW.o.2.2.2.1,HW.o.2.1,by decide,by rw[HNL.o];exact HW.o.2.2.2.2.2⟩;have HP0:Hid (Pr8 w (.slice none 0 0) (.slice none 0 0) 0 0 [] [] wc):=⟨World.ownsRow_nil _ _ _ _,World.ownsRow_nil _ _ _ _,fun g e=>by cases e⟩;obtain⟨i0,hi0,hz0,hz1,hz2⟩:=info_parts afG;have Hi:=amy hi0;have Hz0:=amy hz0;have Hz1:=amy hz1;have Hz2:=amy hz2;clear hi0 hz0 hz1 hz2 hnl HW HOF
  go_wp2_with fail
  clear x11
  go_loopw [21,6,7] (fun s vq vc wr=>∃k:Nat,k<=n/\s= .int .i64 (k:Int)/\(∃Aq kq cq Ac kc cc,vq= .slice Aq kq cq/\vc= .slice Ac kc cc)/\Hid (Fr8 w b5 w.heap.size 76 (gP cause day ins oth rn rd sn sd pn pd keep) iq (zZ cause day ins oth rn rd sn sd pn pd keep A n c) (gP cause day ins oth rn rd sn sd pn pd keep) old (.slice A n c) wr)/\Hid (Pr8 w vq vc k k ((old.take k).map fun x=>.string x.q) ((old.take k).map fun x=>.string x.c) wr)) (fun s _ _ _=>(n-intOf s).toNat)
  case atStart=>exact⟨0,by omega,rfl,⟨_,_,_,_,_,_,rfl,rfl⟩,HF0,HP0⟩
  case round=>
   clear HF0 HP0;obtain⟨k,hk,rfl,⟨Aq,kq,cq,Ac,kc,cc,rfl,rfl⟩,HF,HP⟩:=hrel;by_cases hkn:k=n
   ·have hkn2:=hkn.symm
    subst hkn2;have q:decide ((n:Int)<(n:Int))=false:=am1 (by omega)
    go_wp2_with fail
    clear q;have hrq:=iD HP.o.q;have hrc:=iD HP.o.c;rw[amK (Nat.le_of_eq HNL.o)]at hrq hrc;obtain⟨rfl,hrq⟩:=hrq;obtain⟨hkc,hrc⟩:=hrc;subst hkc;have eq1:(old.map fun x=>(Value.string x.q))=(old.map (·.q)).map sv:=by rw[List.map_map];rfl
    have ec1:(old.map fun x=>(Value.string x.c))=(old.map (·.c)).map sv:=by rw[List.map_map];rfl
    rw[eq1]at hrq;rw[ec1]at hrc;clear eq1 ec1;have hgl:Gl wr:=hgw.below HF.o.low;have hsw:=St.refl hgl;have hzq:∀s∈old.map (·.q),s.size<=1000:=fun s hs=>by
     obtain⟨x,hx,rfl⟩:=amN.1 hs;exact(HZ.o x hx).q
    have hzc:∀s∈old.map (·.c),s.size<=1000:=fun s hs=>by
     obtain⟨x,hx,rfl⟩:=amN.1 hs;exact(HZ.o x hx).c
    have KQ:=mZ (A:=Aq) (n:=kc) (c:=cq) (k0:=1000) (ws:=old.map (·.q)) (by rw[am6];exact HNL.o) hol (by omega) hzq;have KC:=mZ (A:=Ac) (n:=kc) (c:=cc) (k0:=1000) (ws:=old.map (·.c)) (by rw[am6];exact HNL.o) hol (by omega) hzc;have hfq:Fit 2001 (iv (old.map (·.q))).sum :=by
     have h:=mE (m:=(iv (old.map (·.q))).length) hzq (by rw[am6,HNL.o];omega);rw[amK ano]at h;exact Fit.mono h (by omega)
    have hfc:Fit 2001 (iv (old.map (·.c))).sum :=by
     have h:=mE (m:=(iv (old.map (·.c))).length) hzc (by rw[am6,HNL.o];omega);rw[amK ano]at h;exact Fit.mono h (by omega)
    obtain⟨Q,hQ⟩:=eX ((iv (old.map (·.q))).sum );obtain⟨C,hC⟩:=eX ((iv (old.map (·.c))).sum );have HWW:Hid ((Q:Rat)*r=(z:Rat)):=by rw[<-hQ];exact HW8
    rw[hQ]at KQ hfq;rw[hC]at KC hfc;have K2:=OfF (a:=ae Q) (Vs.can hfq (by omega)) (by have:=hfq.size;omega);have K3:=amn (Vq.fr (q:=(Q:Rat)) (k:=2001) (ig hfq (by omega)) (by omega)) HR.o.1;rw[HWW.o]at K3;unfold FR at K2 K3;unfold FV at K3;have BM:=HF.o.mt.bx;generalize ae Q=sQ at*
    generalize frN (Q:Rat)=qn1 at*
    generalize frD (Q:Rat)=qd1 at*
    generalize hen:frN (z:Rat)=en at*
    generalize hed:frD (z:Rat)=ed at*
    have hII:∀ {S:Type} {W:S->World},(∀u,Below wr.heap.size wr (W u))->∀u,Row (W u) Aq ((old.map (·.q)).map sv):=fun hk u=>hrq.on (hk u)
    refine gm 7 6 10 #[.string ⟨#[]⟩,.string ⟨#[]⟩] (by kernel_rfl) (by kernel_rfl) (by kernel_rfl) (by omega) rfl (by kernel_rfl) ⟨_,10,_,rfl,rfl,rfl,fun _ _=>by simp[execOp,go_sem,ptrTo];rfl⟩ ?_;apply Exists.intro;refine⟨fun S W hne hk hcl=>?_,?_⟩
    ·simp only[List.take_succ_cons,List.take_zero,ib,anf,List.not_mem_nil,or_false,Nat.reduceAdd,Nat.reduceEqDiff,reduceIte,am5]
     have kk4:=BM.in hk (i:=4) (v:=.string rn) rfl;have kk5:=BM.in hk (i:=5) (v:=.string rd) rfl
     repeat (go_big_quiet_step (first|(with_reducible exact uC KQ hsw (hII hk) hk hcl)|(with_reducible exact K2.fresh hsw hk hcl)|(with_reducible exact K3.fresh hsw hk hcl)))
     exact wpQuiet_nil rfl
    intro b10 v hb10 hv hx10;simp only[List.drop_succ_cons,List.drop_zero,ptrTo];have e0:=hx10.c 0 (.string ⟨#[]⟩) rfl;have g0:=hx10.frozen 0;have e1:=hx10.c 1 (.string ⟨#[]⟩) rfl;have g1:=hx10.frozen 1;clear K2 K3 KQ;have hfz:bP 3100 (z:Rat):=by
     rw[<-HWW.o];exact(bP.mul (ig hfq (by omega)) HR.o.2).mono (by omega)
    have KW:=uO (Vq.fr hfz (by omega)) hfz (by omega) (by omega);rw[Rat.floor_intCast,show (z:Rat)-(z:Rat)=0 by grind,xC,hen,hed]at KW;unfold FV at KW;have hszz:(ae z).size <=4000:=by
     have h1:Fit 3100 z:=by have:=hfz.1;rwa[Rat.num_intCast]at this
     have:=h1.size;omega
    generalize hszE:ae z=sz at*
    have HSZ:=amy hszE;clear hszE
    go_wp2_with fail
    have hW8:∃W8,((v.setCell ⟨b10,0,none⟩ (.string en)).setCell ⟨b10,1,none⟩ (.string ed))=W8/\Bx W8 b10 #[.string en,.string ed]/\Below wr.heap.size wr W8:=⟨_,rfl,(hx10.set 0 (.string en)).set 1 (.string ed),(hv.setCell (p:=⟨b10,0,none⟩) hb10 _).setCell (p:=⟨b10,1,none⟩) hb10 _⟩;obtain⟨W8,hW8,B8,L8⟩:=hW8;rw[hW8];clear e0 e1 g0 g1 hx10 hv hW8 BM hsw;have F8:=HF.o.on L8;have P8:=HP.o.on L8;have R8:=hrq.on L8;have R8c:=hrc.on L8;have hgl8:Gl W8:=hgl.below L8;have hb105:b10≠b5:=by have:=(amA.1 HF.o.pl).1;omega
    refine KW.step (St.refl hgl8) ?_;intro W9 hs9 L9;have F9:=amy (F8.on L9);have P9:=amy (P8.on L9);have R9:=amy (R8.on L9);have R9c:=amy (R8c.on L9);have B9:=B8.on L9;clear F8 P8 R8 R8c KW L8 L9 hrq hrc B8;have f12:=F9.o.pl.bx.frozen 12;have f13:=F9.o.pl.bx.frozen 13;have f14:=F9.o.pl.bx.frozen 14;have c12:=F9.o.pl.bx.c 12 (.string ⟨#[]⟩) rfl;have c13:=F9.o.pl.bx.c 13 (.string ⟨#[]⟩) rfl;have c14:=F9.o.pl.bx.c 14 (.string ⟨#[]⟩) rfl;have hne5:w.heap.size≠b5:=by omega
    go_wp2_with fail
    obtain⟨W10,hW10,F10,P10⟩:∃W10,((W9.setCell ⟨b5,12,none⟩ (.string sz)).setCell ⟨b5,13,none⟩ (.string ⟨#[]⟩)).setCell ⟨b5,14,none⟩ (.string ⟨#[]⟩)=W10/\Fr8 w b5 w.heap.size 76 (gP cause day ins oth rn rd sn sd pn pd keep) iq #[.string cause,.int .i64 day,.string ins,.string oth,.string rn,.string rd,.string sn,.string sd,.string pn,.string pd,.bool keep,.slice A kc c,.string sz,.string ⟨#[]⟩,.string ⟨#[]⟩,.slice none 0 0,.slice none 0 0,.slice none 0 0,.slice none 0 0] (gP cause day ins oth rn rd sn sd pn pd keep) old (.slice A kc c) W10/\Pr8 w (.slice Aq kc cq) (.slice Ac kc cc) kc kc ((old.take kc).map fun x=>.string x.q) ((old.take kc).map fun x=>.string x.c) W10:=
     ⟨_,rfl,((F9.o.setPl hb5 hne5 12 (.string sz)).setPl hb5 hne5 13 (.string ⟨#[]⟩)).setPl hb5 hne5 14 (.string ⟨#[]⟩),((P9.o.setPl F9.o.pl 12 (.string sz)).setPl (F9.o.setPl hb5 hne5 12 (.string sz)).pl 13 (.string ⟨#[]⟩)).setPl ((F9.o.setPl hb5 hne5 12 (.string sz)).setPl hb5 hne5 13 (.string ⟨#[]⟩)).pl 14 (.string ⟨#[]⟩)⟩
    rw[hW10];have B10:Bx W10 b10 #[.string en,.string ed]:=by
     rw[<-hW10];exact((B9.other hb105 12 _).other hb105 13 _).other hb105 14 _
    clear hW10 f12 f13 f14 c12 c13 c14 B9 F9 P9 R9 R9c hs9;have hgl10:Gl W10:=hgw.below F10.low;have hs10:=St.refl hgl10;have hrq:=(iD P10.q).2;have hrc:=(iD P10.c).2;rw[amK (Nat.le_of_eq HNL.o)]at hrq hrc;rw[show (old.map fun x=>(Value.string x.q))=(old.map (·.q)).map sv by rw[List.map_map];rfl]at hrq;rw[show (old.map fun x=>(Value.string x.c))=(old.map (·.c)).map sv by rw[List.map_map];rfl]at hrc;have K5:=OfF (a:=ae C) (Vs.can hfc (by omega)) (by have:=hfc.size;omega);have HMM:pO 1 (sh*(C:Rat))=M:=by rw[<-hC];exact HM8.o
    have hfm:bP 3100 (sh*(C:Rat)):=(bP.mul HSH.o.2 (ig hfc (by omega))).mono (by omega);have K6:=amn HSH.o.1 (Vq.fr (q:=(C:Rat)) (k:=2001) (ig hfc (by omega)) (by omega));have K7:=abX (Vq.fr hfm (by omega)) hfm (by omega);rw[(mJ (by decide) (by decide) _).2,HMM]at K7;have hms:∀x∈dX (ae M) (old.map (·.c)),Fit 3000 x:=HMS.o;have hscz:(ae M).size <=4000:=by have:=HMF.o.size;omega
    clear HMM hfm;unfold FR at K5 K6;unfold FV at K6 K7;have kk5:=F10.mt.bx.k 6 (.string sn) rfl;have kk6:=F10.mt.bx.k 7 (.string sd) rfl;generalize ae C=sC at*
    generalize hsME:ae M=sM at*
    have HSC:=amy hsME;clear hsME;generalize frN (sh*(C:Rat))=mn1 at*
    generalize frD (sh*(C:Rat))=md1 at*
    generalize frN (C:Rat)=cn1 at*
    generalize frD (C:Rat)=cd1 at*
    have hII:∀u:Kept W10,Row u.W Ac ((old.map (·.c)).map sv):=fun u=>hrc.on u.low
    refine ax (by kernel_rfl) (by kernel_rfl) ?_
    repeat (go_big_quiet_step (first|(with_reducible exact dY KC hs10 hII)|(with_reducible exact K5.kept hs10)|(with_reducible exact K6.kept hs10)|(with_reducible exact K7.kept hs10)))
    refine wpQuiet_nil ?_;rintro _ ⟨u,rfl⟩;have F11:=amy (F10.on u.low);have P11:=amy (P10.on u.low);have R11:=amy (hrq.on u.low);have R11c:=amy (hrc.on u.low);have B11:=amy (B10.on u.low);have G11:=amy (hgl10.below u.low);clear kk5 kk6 hII K5 K6 K7 KC F10 P10 hrq hrc B10 hgl10 hs10;generalize u.W=W11 at*
    have hlq:(old.map (·.q)).length =kc:=by rw[am6];exact HNL.o
    have hlc:(old.map (·.c)).length =kc:=by rw[am6];exact HNL.o
    have KD1:=qm (A:=Aq) (n:=kc) (c:=cq) (k0:=4000) (t:=sz) (ws:=old.map (·.q)) hlq hol (by omega) hszz (fun s hs=>amG (hzq s hs) (by omega)) W11 G11.o R11.o;have c12:=F11.o.pl.bx.c 12 (.string sz) rfl
    go_wp2_with fail
    refine KD1.mono ?_;rintro e W12 ⟨v12,rfl,ho12,L12⟩;obtain⟨A12,c12',rfl⟩:=bW ho12.2;have F12:=amy (F11.o.on L12);have P12:=amy (P11.o.on L12);have R12:=amy (R11.o.on L12);have R12c:=amy (R11c.o.on L12);have B12:=amy (B11.o.on L12);have G12:=amy (G11.o.below L12);have O12:=amy (show dw aO 24 1 w.heap.size W12 _ kc _ from⟨ho12.1,aS ho12.2 F11.o.low.size⟩);clear KD1 L12 ho12 c12 F11 P11 R11 R11c B11 G11;have KD2:=qm (A:=Ac) (n:=kc) (c:=cc) (k0:=4000) (t:=sM) (ws:=old.map (·.c)) hlc hol (by omega) hscz (fun s hs=>amG (hzc s hs) (by omega)) W12 G12.o R12c.o
    go_wp2_with fail
    refine KD2.mono ?_;rintro e W13 ⟨v13,rfl,ho13,L13⟩;obtain⟨A13,c13',rfl⟩:=bW ho13.2;have F13:=amy (F12.o.on L13);have P13:=amy (P12.o.on L13);have B13:=amy (B12.o.on L13);have O13n:=amy (O12.o.on L13);have O13:=amy (show dw aO 24 1 w.heap.size W13 _ kc _ from⟨ho13.1,aS ho13.2 F12.o.low.size⟩);clear KD2 L13 ho13 F12 P12 R12 R12c B12 G12 O12;have f15:=F13.o.pl.bx.frozen 15;have f16:=F13.o.pl.bx.frozen 16;have c15:=F13.o.pl.bx.c 15 (.slice none 0 0) rfl;have c16:=F13.o.pl.bx.c 16 (.slice none 0 0) rfl
    go_wp2_with fail
    obtain⟨W14,hW14,F14,P14⟩:∃W14,((W13.setCell ⟨b5,15,none⟩ (.slice A12 kc c12')).setCell ⟨b5,16,none⟩ (.slice A13 kc c13'))=W14/\Fr8 w b5 w.heap.size 76 (gP cause day ins oth rn rd sn sd pn pd keep) iq #[.string cause,.int .i64 day,.string ins,.string oth,.string rn,.string rd,.string sn,.string sd,.string pn,.string pd,.bool keep,.slice A kc c,.string sz,.string ⟨#[]⟩,.string ⟨#[]⟩,.slice A12 kc c12',.slice A13 kc c13',.slice none 0 0,.slice none 0 0] (gP cause day ins oth rn rd sn sd pn pd keep) old (.slice A kc c) W14/\Pr8 w (.slice Aq kc cq) (.slice Ac kc cc) kc kc ((old.take kc).map fun x=>.string x.q) ((old.take kc).map fun x=>.string x.c) W14:=
     ⟨_,rfl,(F13.o.setPl hb5 hne5 15 (.slice A12 kc c12')).setPl hb5 hne5 16 (.slice A13 kc c13'),(P13.o.setPl F13.o.pl 15 (.slice A12 kc c12')).setPl (F13.o.setPl hb5 hne5 15 (.slice A12 kc c12')).pl 16 (.slice A13 kc c13')⟩
    rw[hW14];have B14:Bx W14 b10 #[.string en,.string ed]:=by
     rw[<-hW14];exact(B13.o.other hb105 15 _).other hb105 16 _
    have O14n:=dM (dM O13n.o F13.o.pl 15 (.slice A12 kc c12')) (F13.o.setPl hb5 hne5 15 (.slice A12 kc c12')).pl 16 (.slice A13 kc c13');have O14m:=dM (dM O13.o F13.o.pl 15 (.slice A12 kc c12')) (F13.o.setPl hb5 hne5 15 (.slice A12 kc c12')).pl 16 (.slice A13 kc c13');rw[hW14]at O14n O14m;clear hW14 f15 f16 c15 c16 F13 P13 B13 O13 O13n;obtain⟨ms,hmsE⟩:=eX (dX sM (old.map (·.c)));rw[hmsE]at O14m hms;have hrm:=(iD O14m.2).2;rw[alG]at hrm;have hlm:(ms.map ae).length =kc:=by rw[am6];exact O14m.1
    have hzm:∀s∈ms.map ae,s.size<=4000:=fun s hs=>by
     obtain⟨x,hx,rfl⟩:=amN.1 hs;have:=(hms x hx).size;omega
    have KP:=aeT cause ins oth rn rd sn sd pn pd sz sM en ed day keep A A12 A13 none none kc c kc c12' kc c13' 0 0 0 0;unfold FV at KP;have hgl14:Gl W14:=hgw.below F14.low;have hSOK:Hid (∀v,Below W14.heap.size W14 v->v.cell? ⟨b10,0,none⟩=some (.string en)/\v.cell? ⟨b10,1,none⟩=some (.string ed)/\v.cell? ⟨b5,16,none⟩=some (.slice A13 kc c13')):=fun v hv=>⟨(B14.on hv).cell (i:=0) rfl,(B14.on hv).cell (i:=1) rfl,(F14.pl.bx.on hv).cell (i:=16) rfl⟩
    have hSO2:Hid (∀v x,Below W14.heap.size W14 v->(v.setCell ⟨b5,17,none⟩ x).cell? ⟨b10,0,none⟩=some (.string en)/\(v.setCell ⟨b5,17,none⟩ x).cell? ⟨b10,1,none⟩=some (.string ed)/\(v.setCell ⟨b5,17,none⟩ x).cell? ⟨b5,16,none⟩=some (.slice A13 kc c13')):=fun v x hv=>⟨((B14.on hv).other hb105 17 x).cell (i:=0) rfl,((B14.on hv).other hb105 17 x).cell (i:=1) rfl,((F14.pl.bx.on hv).set 17 x).cell (i:=16) rfl⟩
    have BL0:Hid (Below W14.heap.size W14 W14.drew):=(am3 _ _).drew;have kpl:=(F14.pl.bx.on BL0.o).plan rfl;have HG14:=amy (fun v (hv:Below W14.heap.size W14 v)=>hgl14.below hv);have HR14:=amy (fun v (hv:Below W14.heap.size W14 v)=>hrm.on hv);have hKP:=amy KP;have HF14:=amy F14;have HP14:=amy P14;have HB14:=amy B14;have HN14:=amy O14n;have HM14:=amy O14m;clear KP F14 P14 B14 O14n O14m hgl14 hrm;refine wp_region_noPanic ?_;refine wp_region_held_drew (S:=fun w'=>w'.cell? ⟨b10,0,none⟩=some (.string en)/\w'.cell? ⟨b10,1,none⟩=some (.string ed)/\w'.cell? ⟨b5,16,none⟩=some (.slice A13 kc c13')) (by kernel_rfl) ?_ (fun hHeld=>?_)
    ·try dsimp only
     exact hSOK.o _ BL0.o
    refine wpAnyH_take (i:=1) (v:=?vv1) rfl (by kernel_rfl) (by kernel_rfl) (by kernel_rfl) (fun _ _ _ h=>h) (Or.inl ⟨by rfl,?hy1⟩) (by assumption) ?rest1
    case hy1=>
     intro w hSw
     try dsimp only at hSw
     go_simp
     try with_reducible rfl
    try simp only[Act.put]
    try simp only[List.setIfInBounds_toArray]
    try simp only[List.set_cons_succ]
    try simp only[List.set_cons_zero]
    refine wpAnyH_take (i:=2) (v:=?vv2) rfl (by kernel_rfl) (by kernel_rfl) (by kernel_rfl) (fun _ _ _ h=>h) (Or.inl ⟨by rfl,?hy2⟩) (by assumption) ?rest2
    case hy2=>
     intro w hSw
     try dsimp only at hSw
     go_simp
     try with_reducible rfl
    try simp only[Act.put]
    try simp only[List.setIfInBounds_toArray]
    try simp only[List.set_cons_succ]
    try simp only[List.set_cons_zero]
    refine wpAnyH_take (i:=4) (v:=?vv3) rfl (by kernel_rfl) (by kernel_rfl) (by kernel_rfl) (fun _ _ _ h=>h) (Or.inl ⟨by rfl,?hy3⟩) (by assumption) ?rest3
    case hy3=>
     intro w hSw
     try dsimp only at hSw
     go_simp
     try with_reducible rfl
    try simp only[Act.put]
    try simp only[List.setIfInBounds_toArray]
    try simp only[List.set_cons_succ]
    try simp only[List.set_cons_zero]
    refine wpAnyH_take (i:=5) (v:=?vv4) rfl (by kernel_rfl) (by kernel_rfl) (by kernel_rfl) (fun _ _ _ h=>h) (Or.inl ⟨by rfl,?hy4⟩) (by assumption) ?rest4
    case hy4=>
     intro w hSw
     try dsimp only at hSw
     go_simp
     try with_reducible rfl
    try simp only[Act.put]
    try simp only[List.setIfInBounds_toArray]
    try simp only[List.set_cons_succ]
    try simp only[List.set_cons_zero]
    refine wpAnyH_ready (rs:=[0]) (by kernel_rfl) (by simp) ?_;refine AllReadyH.cons rfl (fun K hK=>?_) AllReadyH.nil
    go_simp
    refine hK.out _ _ ?_ (fun hHeld=>?_)
    ·try dsimp only
     exact hSOK.o _ BL0.o
    clear hK K
    try simp only[Act.put]
    try simp only[List.setIfInBounds_toArray]
    try simp only[List.set_cons_succ]
    try simp only[List.set_cons_zero]
    refine wpAnyH_ready (rs:=[3]) (by kernel_rfl) (by simp) ?_;refine AllReadyH.cons rfl (fun K hK=>?_) AllReadyH.nil
    go_simp
    refine(hKP.o W14.drew (HG14.o _ BL0.o)).mono ?_;rintro e W15 ⟨rfl,hb15⟩;have BL1:Hid (Below W14.heap.size W14 W15):=BL0.o.trans (hb15.mono BL0.o.size);clear hb15
    try go_wp2_with fail
    refine hK.out _ _ ?_ (fun hHeld=>?_)
    ·try dsimp only
     exact hSOK.o _ BL1.o
    clear hK K
    try simp only[Act.put]
    try simp only[List.setIfInBounds_toArray]
    try simp only[List.set_cons_succ]
    try simp only[List.set_cons_zero]
    refine wpAnyH_ready (rs:=[6]) (by kernel_rfl) (by simp) ?_;refine AllReadyH.cons rfl (fun K hK=>?_) AllReadyH.nil
    go_simp
    refine(qm (A:=A13) (n:=kc) (c:=c13') (k0:=4000) (t:=⟨#[]⟩) (ws:=ms.map ae) hlm hol (by omega) (by decide) hzm W15 (HG14.o _ BL1.o) (HR14.o _ BL1.o)).mono ?_;rintro e W16 ⟨v16,rfl,ho16,hb16⟩;obtain⟨A16,c16',rfl⟩:=bW ho16.2;have BL2:Hid (Below W14.heap.size W14 W16):=BL1.o.trans (hb16.mono BL1.o.size);have HO16:=amy (show dw aO 24 1 w.heap.size W16 _ kc _ from⟨ho16.1,aS ho16.2 (amG HF14.o.low.size BL1.o.size)⟩);have f17:=(HF14.o.on BL2.o).pl.bx.frozen 17;have c17:=(HF14.o.on BL2.o).pl.bx.c 17 (.slice none 0 0) rfl;clear ho16 hb16
    try go_wp2_with fail
    refine hK.out _ _ ?_ (fun hHeld=>?_)
    ·try dsimp only
     exact hSOK.o _ BL2.o
    clear hK K
    try simp only[Act.put]
    try simp only[List.setIfInBounds_toArray]
    try simp only[List.set_cons_succ]
    try simp only[List.set_cons_zero]
    refine wpAnyH_take (i:=7) (v:=?vv5) rfl (by kernel_rfl) (by kernel_rfl) (by kernel_rfl) (fun _ _ _ h=>h) (Or.inl ⟨by rfl,?hy5⟩) (by assumption) ?rest5
    case hy5=>
     intro w hSw
     try dsimp only at hSw
     go_simp
     try with_reducible rfl
    try simp only[Act.put]
    try simp only[List.setIfInBounds_toArray]
    try simp only[List.set_cons_succ]
    try simp only[List.set_cons_zero]
    refine wpAnyH_ready (rs:=[8]) (by kernel_rfl) (by simp) ?_;refine AllReadyH.cons rfl (fun K hK=>?_) AllReadyH.nil
    go_simp
    refine hK.out _ _ ?_ (fun hHeld=>?_)
    ·try dsimp only
     exact hSO2.o _ _ BL2.o
    clear hK K
    try simp only[Act.put]
    try simp only[List.setIfInBounds_toArray]
    try simp only[List.set_cons_succ]
    try simp only[List.set_cons_zero]
    refine wpAnyH_done (by kernel_rfl) ?_ _;refine NoPanic.normal ?_;obtain⟨W17,hW17,F17,P17⟩:∃W17,W16.setCell ⟨b5,17,none⟩ (.slice A16 kc c16')=W17/\Fr8 w b5 w.heap.size 76 (gP cause day ins oth rn rd sn sd pn pd keep) iq #[.string cause,.int .i64 day,.string ins,.string oth,.string rn,.string rd,.string sn,.string sd,.string pn,.string pd,.bool keep,.slice A kc c,.string sz,.string ⟨#[]⟩,.string ⟨#[]⟩,.slice A12 kc c12',.slice A13 kc c13',.slice A16 kc c16',.slice none 0 0] (gP cause day ins oth rn rd sn sd pn pd keep) old (.slice A kc c) W17/\Pr8 w (.slice Aq kc cq) (.slice Ac kc cc) kc kc ((old.take kc).map fun x=>.string x.q) ((old.take kc).map fun x=>.string x.c) W17:=
     ⟨_,rfl,(HF14.o.on BL2.o).setPl hb5 hne5 17 (.slice A16 kc c16'),(HP14.o.on BL2.o).setPl (HF14.o.on BL2.o).pl 17 (.slice A16 kc c16')⟩
    have ON17:=dM (HN14.o.on BL2.o) (HF14.o.on BL2.o).pl 17 (.slice A16 kc c16');have OM17:=dM (HM14.o.on BL2.o) (HF14.o.on BL2.o).pl 17 (.slice A16 kc c16');have OF17:=dM HO16.o (HF14.o.on BL2.o).pl 17 (.slice A16 kc c16');rw[hW17]at ON17 OM17 OF17⊢
    clear hW17 f17 c17 HO16 HF14 HP14 HB14 HN14 HM14 hKP HG14 HR14 kpl BL0 BL1 BL2 hSOK hSO2;have HON:=amy ON17;have HOM:=amy OM17;have HOF2:=amy OF17;have HF17:=amy F17;have hgl17:Gl W17:=hgw.below F17.low;have hrq:=(iD P17.q).2;rw[amK (Nat.le_of_eq HNL.o)]at hrq;rw[show (old.map fun x=>(Value.string x.q))=(old.map (·.q)).map sv by rw[List.map_map];rfl]at hrq;have m8:=F17.mt.bx.c 8 (.string pn) rfl;have m9:=F17.mt.bx.c 9 (.string pd) rfl;have p13:=F17.pl.bx.c 13 (.string ⟨#[]⟩) rfl;have p14:=F17.pl.bx.c 14 (.string ⟨#[]⟩) rfl;have K8:=amn vq0 HPQ.o.1;have K9:=abX (Vq.fr fit0 (by omega)) fit0 (by omega);rw[Rat.zero_mul,xC]at K8;rw[show (0:Rat)=((0:Int):Rat)from rfl,ahX,show ae 0=⟨#[]⟩by decide+kernel]at K9;rw[show ((0:Int):Rat)=0 from rfl,show frN (0:Rat)=⟨#[]⟩from by decide+kernel,show frD (0:Rat)=⟨#[]⟩from by decide+kernel]at K9;unfold FV at K8 K9;clear ON17 OM17 OF17 P17
    go_wp2_with fail
    refine K8.step (St.refl hgl17) ?_;intro W18 hs18 L18;clear m8 m9 p13 p14
    go_wp2_with fail
    refine K9.step hs18 ?_;intro W19 hs19 L19;have L1719:=L18.trans (L19.mono L18.size);have KD4:=qm (A:=Aq) (n:=kc) (c:=cq) (k0:=4000) (t:=⟨#[]⟩) (ws:=old.map (·.q)) hlq hol (by omega) (by decide) (fun s hs=>amG (hzq s hs) (by omega)) W19 hs19.gl (hrq.on L1719)
    go_wp2_with fail
    refine KD4.mono ?_;rintro e W20 ⟨v20,rfl,ho20,L20⟩;obtain⟨A20,c20',rfl⟩:=bW ho20.2;have L1720:=L1719.trans (L20.mono L1719.size);have HO20p:=amy (show dw aO 24 1 w.heap.size W20 (.slice A20 kc c20') kc _ from⟨ho20.1,aS ho20.2 (amG HF17.o.low.size L1719.size)⟩);have F20:=HF17.o.on L1720;have HF20:=amy F20;have f18:=F20.pl.bx.frozen 18;have c18:=F20.pl.bx.c 18 (.slice none 0 0) rfl;have HO20n:=amy (HON.o.on L1720);have HO20m:=amy (HOM.o.on L1720);have HO20f:=amy (HOF2.o.on L1720);clear KD4 K8 K9 L18 L19 L1719 L20 L1720 ho20 hrq F20 F17 hs18 hs19 hgl17
    go_upto_region 14 with (fail)
    obtain⟨W21,hW21,F21⟩:∃W21,W20.setCell ⟨b5,18,none⟩ (.slice A20 kc c20')=W21/\Fr8 w b5 w.heap.size 76 (gP cause day ins oth rn rd sn sd pn pd keep) iq (xY cause day ins oth rn rd sn sd pn pd keep A kc c sz A12 kc c12' A13 kc c13' A16 kc c16' A20 kc c20') (gP cause day ins oth rn rd sn sd pn pd keep) old (.slice A kc c) W21:=⟨_,rfl,HF20.o.setPl hb5 hne5 18 (.slice A20 kc c20')⟩;have ON21:=dM HO20n.o HF20.o.pl 18 (.slice A20 kc c20');have OM21:=dM HO20m.o HF20.o.pl 18 (.slice A20 kc c20');have OF21:=dM HO20f.o HF20.o.pl 18 (.slice A20 kc c20');have OP21:=dM HO20p.o HF20.o.pl 18 (.slice A20 kc c20');rw[hW21]at ON21 OM21 OF21 OP21⊢
    clear hW21 f18 c18 HF20 HF17;have kp21:=F21.pl.bx.plan rfl;have st21:=TBx.store F21.z (cs':=(xY cause day ins oth rn rd sn sd pn pd keep A kc c sz A12 kc c12' A13 kc c13' A16 kc c16' A20 kc c20')) rfl rfl (by simp[Value.oneCell']);have HN21:=amy ON21;have HM21:=amy OM21;have HF21:=amy OF21;have HP21:=amy OP21;have HFF:=amy F21;clear ON21 OM21 OF21 OP21 F21
    go_wp2_with fail
    have z22:=(HFF.o.z.row (xY cause day ins oth rn rd sn sd pn pd keep A kc c sz A12 kc c12' A13 kc c13' A16 kc c16' A20 kc c20')).bx.plan rfl;refine bodyPost_ret (v:=.agg (xY cause day ins oth rn rd sn sd pn pd keep A kc c sz A12 kc c12' A13 kc c13' A16 kc c16' A20 kc c20')) (by simp[results,results71,go_sem,z22]) rfl ?_;refine⟨_,rfl,⟨⟨⟨cause,day,ins,oth,rn,rd,sn,sd,pn,pd,keep⟩,A,kc,c,sz,⟨#[]⟩,⟨#[]⟩,A12,c12',A13,c13',A16,c16',A20,c20'⟩,?_,rfl,?_,HSZ.o.symm,rfl,rfl,?_⟩,?_⟩
    ·rfl
    ·rw[HOE.o];exact HNL.o.symm
    ·have hz21:=HFF.o.z
     have kk:∀ {n1:Nat} {A1:Option Addr} {c1:Nat} {xs:List Int},dw aO 24 1 w.heap.size W21 (.slice A1 n1 c1) kc xs->pW (W21.setRow (w.heap.size+1) (xY cause day ins oth rn rd sn sd pn pd keep A kc c sz A12 kc c12' A13 kc c13' A16 kc c16' A20 kc c20')) A1 xs:=fun h=>(iD (aP h.2 hz21 (fun cur e=>by injection e with _ e;revert e;decide) (di W21 _ _))).2
     rw[HOE.o,HSZ.o,HSC.o,hmsE];refine⟨⟨hgw.below (below_setRow HFF.o.low (by omega) _),?_,kk HN21.o,kk HM21.o,kk HF21.o⟩,kk HP21.o⟩;obtain⟨A1,c1,e1,h1⟩:=dw.row (cs:=aa) (m:=7) (show dw aa 62 7 w.heap.size (W21.setRow (w.heap.size+1) (xY cause day ins oth rn rd sn sd pn pd keep A kc c sz A12 kc c12' A13 kc c13' A16 kc c16' A20 kc c20')) (.slice A kc c) kc old from⟨HNL.o,aP (by have:=HFF.o.old.2;rw[HNL.o]at this;exact this) hz21 (fun cur e=>by injection e with _ e;revert e;decide) (di W21 _ _)⟩);injection e1 with e2
     rw[<-e2]at h1;exact h1
    ·exact below_setRow HFF.o.low (by omega) _
   ·have hkl:k<n:=by omega
    have q:decide ((k:Int)<(n:Int))=true:=am2 (by omega);have qn:decide (k<n)=true:=am2 hkl;obtain⟨x,hx⟩:∃x,old[k]? =some x:=⟨old[k]'(by rw[HNL.o];exact hkl),by simp⟩;have hro:Row wr A (av aa old):=by
     obtain⟨A1,c1,e1,h1⟩:=HF.o.old.row;injection e1 with e1
     rw[e1];exact h1
    obtain⟨b2,o2,e2,l2,hcells⟩:=dV (cs:=aa) (m:=7) aJ (by decide) hro hx;obtain⟨y0,y1,y2,y3,y4,y5,y6⟩:=dI hcells;have hX:=amy hx;subst e2;clear hro hcells hx;have hq2:((old.take (k+1)).map fun x=>(Value.string x.q))=((old.take k).map fun x=>.string x.q)++ [.string x.q]:=by rw[ani,hX.o];simp
    have hc2:((old.take (k+1)).map fun x=>(Value.string x.c))=((old.take k).map fun x=>.string x.c)++ [.string x.c]:=by rw[ani,hX.o];simp
    have Hq2:=amy hq2;have Hc2:=amy hc2;generalize ((old.take k).map fun x=>(Value.string x.q))=flq at*
    generalize ((old.take k).map fun x=>(Value.string x.c))=flc at*
    clear hq2 hc2
    go_upto_region 6 with (fail)
    have hF0:=HF.o.on (bal wr (.cells #[.string x.id,.string x.ins,.int .i64 x.acq,.int .i64 x.opn,.string x.q,.string x.c,.string x.u] 62));have hP0:=HP.o.on (bal wr (.cells #[.string x.id,.string x.ins,.int .i64 x.acq,.int .i64 x.opn,.string x.q,.string x.c,.string x.u] 62));have hLT:=TBx.new wr #[.string x.id,.string x.ins,.int .i64 x.acq,.int .i64 x.opn,.string x.q,.string x.c,.string x.u] 62;obtain⟨W0,hW0⟩:=eX (wr.alloc (.cells #[.string x.id,.string x.ins,.int .i64 x.acq,.int .i64 x.opn,.string x.q,.string x.c,.string x.u] 62));rw[hW0]at hF0 hP0 hLT⊢
    have hbl:wr.heap.size<W0.heap.size:=by rw[<-hW0];simp
    generalize wr.heap.size=bl at*
    clear hW0 y0 y1 y2 y3 y4 y5 y6;have F0:Hid (Fr8 w b5 bl 62 (gP cause day ins oth rn rd sn sd pn pd keep) iq (zZ cause day ins oth rn rd sn sd pn pd keep (some ⟨b2,o2,none⟩) n c) #[.string x.id,.string x.ins,.int .i64 x.acq,.int .i64 x.opn,.string x.q,.string x.c,.string x.u] old (.slice (some ⟨b2,o2,none⟩) n c) W0):=⟨hF0.low,hF0.mt,hF0.z,hF0.pl,hLT,by decide,hF0.old⟩;have hSOK:Hid (∀v,Fr8 w b5 bl 62 (gP cause day ins oth rn rd sn sd pn pd keep) iq (zZ cause day ins oth rn rd sn sd pn pd keep (some ⟨b2,o2,none⟩) n c) #[.string x.id,.string x.ins,.int .i64 x.acq,.int .i64 x.opn,.string x.q,.string x.c,.string x.u] old (.slice (some ⟨b2,o2,none⟩) n c) v->v.cell? ⟨bl,4,none⟩=some (.string x.q)/\v.cell? ⟨bl,5,none⟩=some (.string x.c)):=fun v hv=>⟨hv.lt.bx.cell (i:=4) rfl,hv.lt.bx.cell (i:=5) rfl⟩
    have lV0:Below W0.heap.size W0 W0.drew:=(am3 _ _).drew;have lV1:Below W0.heap.size W0 (W0.drew.alloc (.cells #[.string x.q] 24)):=lV0.alloc lV0.size _;have lV2:Below W0.heap.size W0 (W0.drew.alloc (.cells #[.string x.c] 24)):=lV0.alloc lV0.size _;have lV12:Below W0.heap.size W0 ((W0.drew.alloc (.cells #[.string x.q] 24)).alloc (.cells #[.string x.c] 24)):=lV1.alloc lV1.size _;have lV21:Below W0.heap.size W0 ((W0.drew.alloc (.cells #[.string x.c] 24)).alloc (.cells #[.string x.q] 24)):=lV2.alloc lV2.size _;have FV0:=amy (F0.o.on lV0);have FV1:=amy (F0.o.on lV1);have FV2:=amy (F0.o.on lV2);have FV12:=amy (F0.o.on lV12);have FV21:=amy (F0.o.on lV21);have PV1:=amy (hP0.on lV1);have PV2:=amy (hP0.on lV2);have PV12:=amy (hP0.on lV12);have PV21:=amy (hP0.on lV21);have TV1q:Hid (TBx (W0.drew.alloc (.cells #[.string x.q] 24)) W0.heap.size #[.string x.q] 24):=TBx.new W0.drew _ _;have TV2c:Hid (TBx (W0.drew.alloc (.cells #[.string x.c] 24)) W0.heap.size #[.string x.c] 24):=TBx.new W0.drew _ _;have TV12q:=amy (TV1q.o.alloc (.cells #[.string x.c] 24));have TV21c:=amy (TV2c.o.alloc (.cells #[.string x.q] 24));have TV12c:Hid (TBx ((W0.drew.alloc (.cells #[.string x.q] 24)).alloc (.cells #[.string x.c] 24)) (W0.heap.size+1) #[.string x.c] 24):=by
     have:=TBx.new (W0.drew.alloc (.cells #[.string x.q] 24)) #[.string x.c] 24;rwa[amD]at this
    have TV21q:Hid (TBx ((W0.drew.alloc (.cells #[.string x.c] 24)).alloc (.cells #[.string x.q] 24)) (W0.heap.size+1) #[.string x.q] 24):=by
     have:=TBx.new (W0.drew.alloc (.cells #[.string x.c] 24)) #[.string x.q] 24;rwa[amD]at this
    have HLQ:Hid ((∀g,(Value.slice Aq kq cq).ownBlock =some g->g<W0.heap.size)/\(∀g,(Value.slice Ac kc cc).ownBlock =some g->g<W0.heap.size)):=⟨hP0.ltq,hP0.ltc⟩;clear lV0 lV1 lV2 lV12 lV21 hP0 hF0 hLT
    go_region_held3 (fun v=>v.cell? ⟨bl,4,none⟩=some (.string x.q)/\v.cell? ⟨bl,5,none⟩=some (.string x.c))
     (first
      |exact hSOK.o _ FV0.o
      |exact hSOK.o _ FV1.o
      |exact hSOK.o _ FV2.o
      |exact hSOK.o _ FV12.o
      |exact hSOK.o _ FV21.o
      |exact hSOK.o _ F7.o
      |exact hSOK.o _ (F7.o.on (bal _ _))
      |exact hSOK.o _ F8.o)
     (first
    |(refine aR _ (by rfl) (.tmp 25) (.tmp 28) 153 (by rfl) w.heap.size 24 i0 (.string ⟨#[]⟩) 1 16 (by kernel_rfl) Hi.o Hz0.o Hz1.o Hz2.o rfl (by omega) (.slice Aq kq cq) k flq (by rfl) (PV1.o.q) _ _ 1 1 [.string x.q] (by rfl) (rdr TV1q.o) (by simp[Value.oneCell']) (by unfold maxLen;omega) (by omega) (FV1.o.low.size) ?_;intro v7 w7 hown7 hg7 hor7;have F7:=amy (FV1.o.grown PV1.o.q hg7);have P7:=amy (PV1.o.appq hown7 hg7 hor7);obtain⟨g7,c7,rfl⟩:=ownsRow_succ hown7;clear hown7 hg7 hor7)
    |(refine aR _ (by rfl) (.tmp 25) (.tmp 28) 153 (by rfl) w.heap.size 24 i0 (.string ⟨#[]⟩) 1 16 (by kernel_rfl) Hi.o Hz0.o Hz1.o Hz2.o rfl (by omega) (.slice Aq kq cq) k flq (by rfl) (PV12.o.q) _ _ 1 1 [.string x.q] (by rfl) (rdr TV12q.o) (by simp[Value.oneCell']) (by unfold maxLen;omega) (by omega) (FV12.o.low.size) ?_;intro v7 w7 hown7 hg7 hor7;have F7:=amy (FV12.o.grown PV12.o.q hg7);have P7:=amy (PV12.o.appq hown7 hg7 hor7);have T7:=amy ((TV12c.o).grownNe hg7 (fun e=>by have:=HLQ.o.1 _ e.symm;omega));obtain⟨g7,c7,rfl⟩:=ownsRow_succ hown7;clear hown7 hg7 hor7)
    |(refine aR _ (by rfl) (.tmp 25) (.tmp 28) 153 (by rfl) w.heap.size 24 i0 (.string ⟨#[]⟩) 1 16 (by kernel_rfl) Hi.o Hz0.o Hz1.o Hz2.o rfl (by omega) (.slice Aq kq cq) k flq (by rfl) (PV21.o.q) _ _ 1 1 [.string x.q] (by rfl) (rdr TV21q.o) (by simp[Value.oneCell']) (by unfold maxLen;omega) (by omega) (FV21.o.low.size) ?_;intro v7 w7 hown7 hg7 hor7;have F7:=amy (FV21.o.grown PV21.o.q hg7);have P7:=amy (PV21.o.appq hown7 hg7 hor7);have T7:=amy ((TV21c.o).grownNe hg7 (fun e=>by have:=HLQ.o.1 _ e.symm;omega));obtain⟨g7,c7,rfl⟩:=ownsRow_succ hown7;clear hown7 hg7 hor7)
    |(refine aR _ (by rfl) (.tmp 30) (.tmp 33) 153 (by rfl) w.heap.size 24 i0 (.string ⟨#[]⟩) 1 16 (by kernel_rfl) Hi.o Hz0.o Hz1.o Hz2.o rfl (by omega) (.slice Ac kc cc) k flc (by rfl) (PV2.o.c) _ _ 1 1 [.string x.c] (by rfl) (rdr TV2c.o) (by simp[Value.oneCell']) (by unfold maxLen;omega) (by omega) (FV2.o.low.size) ?_;intro v7 w7 hown7 hg7 hor7;have F7:=amy (FV2.o.grown PV2.o.c hg7);have P7:=amy (PV2.o.appc hown7 hg7 hor7);obtain⟨g7,c7,rfl⟩:=ownsRow_succ hown7;clear hown7 hg7 hor7)
    |(refine aR _ (by rfl) (.tmp 30) (.tmp 33) 153 (by rfl) w.heap.size 24 i0 (.string ⟨#[]⟩) 1 16 (by kernel_rfl) Hi.o Hz0.o Hz1.o Hz2.o rfl (by omega) (.slice Ac kc cc) k flc (by rfl) (PV12.o.c) _ _ 1 1 [.string x.c] (by rfl) (rdr TV12c.o) (by simp[Value.oneCell']) (by unfold maxLen;omega) (by omega) (FV12.o.low.size) ?_;intro v7 w7 hown7 hg7 hor7;have F7:=amy (FV12.o.grown PV12.o.c hg7);have P7:=amy (PV12.o.appc hown7 hg7 hor7);have T7:=amy ((TV12q.o).grownNe hg7 (fun e=>by have:=HLQ.o.2 _ e.symm;omega));obtain⟨g7,c7,rfl⟩:=ownsRow_succ hown7;clear hown7 hg7 hor7)
    |(refine aR _ (by rfl) (.tmp 30) (.tmp 33) 153 (by rfl) w.heap.size 24 i0 (.string ⟨#[]⟩) 1 16 (by kernel_rfl) Hi.o Hz0.o Hz1.o Hz2.o rfl (by omega) (.slice Ac kc cc) k flc (by rfl) (PV21.o.c) _ _ 1 1 [.string x.c] (by rfl) (rdr TV21c.o) (by simp[Value.oneCell']) (by unfold maxLen;omega) (by omega) (FV21.o.low.size) ?_;intro v7 w7 hown7 hg7 hor7;have F7:=amy (FV21.o.grown PV21.o.c hg7);have P7:=amy (PV21.o.appc hown7 hg7 hor7);have T7:=amy ((TV21q.o).grownNe hg7 (fun e=>by have:=HLQ.o.2 _ e.symm;omega));obtain⟨g7,c7,rfl⟩:=ownsRow_succ hown7;clear hown7 hg7 hor7)
    |(refine aR _ (by rfl) (.tmp 30) (.tmp 33) 153 (by rfl) w.heap.size 24 i0 (.string ⟨#[]⟩) 1 16 (by kernel_rfl) Hi.o Hz0.o Hz1.o Hz2.o rfl (by omega) (.slice Ac kc cc) k flc (by rfl) ((P7.o.on (bal w7 _)).c) _ _ 1 1 [.string x.c] (by rfl) (rdr (TBx.new w7 _ _)) (by simp[Value.oneCell']) (by unfold maxLen;omega) (by omega) ((F7.o.on (bal w7 _)).low.size) ?_;intro v8 w8 hown8 hg8 hor8;have F8:=amy ((F7.o.on (bal w7 _)).grown (P7.o.on (bal w7 _)).c hg8);have P8:=amy ((P7.o.on (bal w7 _)).appc hown8 hg8 hor8);obtain⟨g8,c8,rfl⟩:=ownsRow_succ hown8;clear hown8 hg8 hor8)
    |(refine aR _ (by rfl) (.tmp 30) (.tmp 33) 153 (by rfl) w.heap.size 24 i0 (.string ⟨#[]⟩) 1 16 (by kernel_rfl) Hi.o Hz0.o Hz1.o Hz2.o rfl (by omega) (.slice Ac kc cc) k flc (by rfl) (P7.o.c) _ _ 1 1 [.string x.c] (by rfl) (rdr T7.o) (by simp[Value.oneCell']) (by unfold maxLen;omega) (by omega) (F7.o.low.size) ?_;intro v8 w8 hown8 hg8 hor8;have F8:=amy (F7.o.grown P7.o.c hg8);have P8:=amy (P7.o.appc hown8 hg8 hor8);obtain⟨g8,c8,rfl⟩:=ownsRow_succ hown8;clear hown8 hg8 hor8)
    |(refine aR _ (by rfl) (.tmp 25) (.tmp 28) 153 (by rfl) w.heap.size 24 i0 (.string ⟨#[]⟩) 1 16 (by kernel_rfl) Hi.o Hz0.o Hz1.o Hz2.o rfl (by omega) (.slice Aq kq cq) k flq (by rfl) ((P7.o.on (bal w7 _)).q) _ _ 1 1 [.string x.q] (by rfl) (rdr (TBx.new w7 _ _)) (by simp[Value.oneCell']) (by unfold maxLen;omega) (by omega) ((F7.o.on (bal w7 _)).low.size) ?_;intro v8 w8 hown8 hg8 hor8;have F8:=amy ((F7.o.on (bal w7 _)).grown (P7.o.on (bal w7 _)).q hg8);have P8:=amy ((P7.o.on (bal w7 _)).appq hown8 hg8 hor8);obtain⟨g8,c8,rfl⟩:=ownsRow_succ hown8;clear hown8 hg8 hor8)
    |(refine aR _ (by rfl) (.tmp 25) (.tmp 28) 153 (by rfl) w.heap.size 24 i0 (.string ⟨#[]⟩) 1 16 (by kernel_rfl) Hi.o Hz0.o Hz1.o Hz2.o rfl (by omega) (.slice Aq kq cq) k flq (by rfl) (P7.o.q) _ _ 1 1 [.string x.q] (by rfl) (rdr T7.o) (by simp[Value.oneCell']) (by unfold maxLen;omega) (by omega) (F7.o.low.size) ?_;intro v8 w8 hown8 hg8 hor8;have F8:=amy (F7.o.grown P7.o.q hg8);have P8:=amy (P7.o.appq hown8 hg8 hor8);obtain⟨g8,c8,rfl⟩:=ownsRow_succ hown8;clear hown8 hg8 hor8))
    all_goals
     go_wp2_with fail
     go_roundw
     case rel=>
      refine⟨k+1,by omega,by go_num,⟨_,_,_,_,_,_,rfl,rfl⟩,?_,?_⟩
      ·exact⟨F8.o.low,F8.o.mt,F8.o.z,F8.o.pl,F8.o.mt,by decide,F8.o.old⟩
      ·rw[Hq2.o,Hc2.o];exact P8
     case measure=>simp[intOf];omega
end Go.Proofs.YtbkhnggmcheelaaGreatDoor
