/- Mappings of lots: prepare, where the new parts are whole. Conditions: lists of bounded length; the library's variables lie as the program's text lays them. -/
import Derived.Deep.RegionHeld3
import Derived.Test.YtjknklinhegdoaaGreatDoorLm7
set_option linter.unusedSimpArgs false
set_option linter.unusedVariables false
set_option maxHeartbeats 4000000
set_option maxRecDepth 100000
namespace Go.Proofs.YtjknklinhegdoaaGreatDoor
open Go.RowKit Go.Shelf Dec QQ SP
attribute [local go_sem] Oper.semAt_some
attribute [-go_sem] loadVar storeVar
abbrev gp (x0:ByteArray)(x1:Int)(x2 x3 x4 x5 x6 x7 x8 x9:ByteArray)(x10:Bool):Array Value:= #[.string x0,.int .i64 x1,.string x2,.string x3,.string x4,.string x5,.string x6,.string x7,.string x8,.string x9,.bool x10]
abbrev gK:Array Value:= #[.string ⟨#[]⟩,.int .i64 0,.string ⟨#[]⟩,.string ⟨#[]⟩,.string ⟨#[]⟩,.string ⟨#[]⟩,.string ⟨#[]⟩,.string ⟨#[]⟩,.string ⟨#[]⟩,.string ⟨#[]⟩,.bool false,.slice none 0 0,.string ⟨#[]⟩,.string ⟨#[]⟩,.string ⟨#[]⟩,.slice none 0 0,.slice none 0 0,.slice none 0 0,.slice none 0 0]
abbrev wG (x0:ByteArray)(x1:Int)(x2 x3 x4 x5 x6 x7 x8 x9:ByteArray)(x10:Bool)(x11:Option Addr)(x12 x13:Nat)(x14:ByteArray)(x15:Option Addr)(x16 x17:Nat)(x18:Option Addr)(x19 x20:Nat)(x21:Option Addr)(x22 x23:Nat)(x24:Option Addr)(x25 x26:Nat):Array Value:= #[.string x0,.int .i64 x1,.string x2,.string x3,.string x4,.string x5,.string x6,.string x7,.string x8,.string x9,.bool x10,.slice x11 x12 x13,.string x14,.string ⟨#[]⟩,.string ⟨#[]⟩,.slice x15 x16 x17,.slice x18 x19 x20,.slice x21 x22 x23,.slice x24 x25 x26]
abbrev yL (x0:ByteArray)(x1:Int)(x2 x3 x4 x5 x6 x7 x8 x9:ByteArray)(x10:Bool)(x11:Option Addr)(x12 x13:Nat):Array Value:= #[.string x0,.int .i64 x1,.string x2,.string x3,.string x4,.string x5,.string x6,.string x7,.string x8,.string x9,.bool x10,.slice x11 x12 x13,.string ⟨#[]⟩,.string ⟨#[]⟩,.string ⟨#[]⟩,.slice none 0 0,.slice none 0 0,.slice none 0 0,.slice none 0 0]
theorem aey (t:TypeId)(_:t≠162)(_:t≠75)(a:Addr):loadVar t a=(do if←isAgg t then pure (.agg (←loadCells a (←sizeOf t)))else load a):=rfl
theorem aiJ (t:TypeId)(_:t≠162)(a:Addr)(v:Value):storeVar t a v=(do
 if v.cells.size≠(←sizeOf t)then stuck "storeVar: the value has not the size of the variable"
 storeCells a v.cells.toList):=rfl
attribute [local go_sem] aey aiJ
theorem fK {w:World}{base n size:Nat}{T:TypeId}{v:Value}{xs:List Value}(h:w.ownsRow base T size v n xs):∃A c,v= .slice A n c:=by
 rcases h.2 with ⟨rfl,h0⟩|⟨g,cap,cur,rfl,_⟩
 ·exact⟨_,_,by rw[h0]⟩
 ·exact⟨_,_,rfl⟩
theorem Bx.mapping {w:World}{b:Nat}{cs:Array Value}(h:Bx w b cs)(hs:cs.size=11):(loadVar 75 ⟨b,0,none⟩).run Tryz.prog w= .ok (.agg cs) w:=by
 have:=run_loadVar_mid (P:=Tryz.prog) w b 0 75 cs.toList (Tryz.prog.underlying 75).get! (fun j v hv=>by rw[Nat.zero_add];exact h.cell (by simpa using hv)) (by kernel_rfl) (by kernel_rfl) (by rw[Array.length_toList,hs];kernel_rfl);simpa using this
theorem TBx.store {w:World}{b:Nat}{cs cs':Array Value}{T:TypeId}(h:TBx w b cs T)(hs:cs.size=19)(hs':cs'.size=19)(h1:cs'.all (·.oneCell')=true):(storeVar 162 ⟨b,0,none⟩ (.agg cs')).run Tryz.prog w= .ok () (w.setRow b cs'):=
 run_storeVar_row (P:=Tryz.prog) w b T 162 cs cs' h (by rw[hs'];kernel_rfl) (by rw[hs,hs']) h1
theorem cZ (W:World)(b:Nat)(cs:Array Value):W.grownBy (W.setRow b cs) (some b):=
 ⟨rfl,rfl,rfl,by simp,fun k _ hk=>setRow_other W b k cs (fun e=>hk (by rw[e]))⟩
theorem TBx.row {w:World}{b:Nat}{cs:Array Value}{T:TypeId}(h:TBx w b cs T)(cs':Array Value):TBx (w.setRow b cs') b cs' T:=setRow_heap w b cs cs' T (0,0) h
theorem TBx.rowOther {w:World}{b c:Nat}{cs:Array Value}{T:TypeId}(h:TBx w b cs T)(hne:b≠c)(cs':Array Value):TBx (w.setRow c cs') b cs T:=(setRow_other w c b cs' hne).trans h
theorem akc:(Tryz.prog.info? 24).map (fun i=>(i.zero,i.size,i.bytes))=some (some (.string ⟨#[]⟩),1,16):=by kernel_rfl
theorem zy {w w':World}{base base' n n' s s':Nat}{T T':TypeId}{v v':Value}{xs xs':List Value}(h:w.ownsRow base T s v n xs)(h':w.ownsRow base' T' s' v' n' xs')(hg:w.grownBy w' v'.ownBlock)(hne:T≠T'∨∀g,v.ownBlock=some g→v'.ownBlock≠some g):w'.ownsRow base T s v n xs:=by
 refine⟨h.1,?_⟩;rcases h.2 with h2|⟨g,cap,cur,e1,e2,e3,r⟩
 ·exact .inl h2
 ·refine .inr ⟨g,cap,cur,e1,e2,(hg.block g (alc.1 e3).1 ?_).trans e3,r⟩
  rcases hne with hT|hb
  ·exact own_ne h' e3 (fun cur e=>by injection e with _ e;exact hT e)
  ·exact fun e=>hb g (by rw[e1];rfl) e.symm
theorem aaT {w:World}{base n s:Nat}{T:TypeId}{v:Value}{xs:List Value}(h:w.ownsRow base T s v n xs){g:Nat}(hg:v.ownBlock=some g):g<w.heap.size:=by
 rcases h.2 with ⟨rfl,_⟩|⟨g',cap,cur,rfl,_,e3,_⟩
 ·cases hg
 ·injection hg with hg
  subst hg;exact(alc.1 e3).1
theorem TBx.grownNe {w w':World}{b:Nat}{cs:Array Value}{T:TypeId}{r:Option Nat}(h:TBx w b cs T)(hg:w.grownBy w' r)(hne:some b≠r):TBx w' b cs T:=(hg.block b (alc.1 h).1 hne).trans h
theorem bal (w:World)(o:Obj):Below w.heap.size w (w.alloc o):=alL
theorem rdr {w:World}{b:Nat}{v:Value}{T:TypeId}(h:TBx w b #[v] T):Reads w w.heap.size 1 (some ⟨b,0,none⟩) 1 [v]:=lu (Row.of h.bx) rfl (by decide)
theorem iO {w:World}{base n k c:Nat}{A:Option Addr}{T:TypeId}{xs:List Value}(h:w.ownsRow base T 1 (.slice A k c) n xs):k=n∧Row w A xs:=by
 obtain⟨A1,c1,e1,h1⟩:=fM.row (cs:=fun(v:Value)=>[v]) (m:=1) (xs:=xs) (T:=T) (base:=base) (n:=n) (w:=w) (v:=.slice A k c) ⟨by have:=h.1;omega,by rw[show au (fun v:Value=>[v]) xs=xs by unfold au;simp];exact h⟩;injection e1 with e2 e3 e4
 rw[show au (fun v:Value=>[v]) xs=xs by unfold au;simp]at h1;exact⟨e3,by rw[e2];exact h1⟩
structure Fr8 (w:World) (b5 bl:Nat) (T4:TypeId) (mc zc pc lc:Array Value) (old:List Lt) (vo:Value) (W:World):Prop where
 low:Below w.heap.size w W
 mt:TBx W w.heap.size mc 75
 z:TBx W (w.heap.size+1) zc 162
 pl:TBx W b5 pc 162
 lt:TBx W bl lc T4
 tn:T4≠24
 old:fM aa 47 7 w.heap.size W vo old.length old
theorem Fr8.on {w:World}{b5 bl:Nat}{T4:TypeId}{mc zc pc lc:Array Value}{old:List Lt}{vo:Value}{W W':World}(h:Fr8 w b5 bl T4 mc zc pc lc old vo W)(hb:Below W.heap.size W W'):Fr8 w b5 bl T4 mc zc pc lc old vo W':=
 ⟨h.low.trans (hb.mono h.low.size),h.mt.on hb,h.z.on hb,h.pl.on hb,h.lt.on hb,h.tn,h.old.on hb⟩
theorem Fr8.grown {w:World}{b5 bl:Nat}{T4:TypeId}{mc zc pc lc:Array Value}{old:List Lt}{vo:Value}{W W':World}(h:Fr8 w b5 bl T4 mc zc pc lc old vo W){v:Value}{k:Nat}{xs:List Value}(ho:W.ownsRow w.heap.size 24 1 v k xs)(hg:W.grownBy W' v.ownBlock):Fr8 w b5 bl T4 mc zc pc lc old vo W':=
 ⟨h.low.grown hg h.low.size (qh ho),h.mt.grown ho hg (by decide),h.z.grown ho hg (by decide),h.pl.grown ho hg (by decide),h.lt.grown ho hg h.tn,h.tn,h.old.1,zy h.old.2 ho hg (.inl (by decide))⟩
theorem bZ (W:World)(b i:Nat)(v:Value):W.grownBy (W.setCell ⟨b,i,none⟩ v) (some b):=
 ⟨rfl,rfl,rfl,(KeepsWalks.setCell W _ v).size,fun k _ hk=>alv _ _ _ k (fun e=>hk (by rw[e]))⟩
theorem Fr8.setPl {w:World}{b5 bl:Nat}{T4:TypeId}{mc zc pc lc:Array Value}{old:List Lt}{vo:Value}{W:World}(h:Fr8 w b5 bl T4 mc zc pc lc old vo W)(h5:w.heap.size+2≤b5)(hl:bl≠b5)(i:Nat)(v:Value):Fr8 w b5 bl T4 mc zc (pc.setIfInBounds i v) lc old vo (W.setCell ⟨b5,i,none⟩ v):=
 ⟨h.low.setCell (p:=⟨b5,i,none⟩) (by show w.heap.size≤b5;omega) v,h.mt.other (by omega) i v,h.z.other (by omega) i v,h.pl.set i v,h.lt.other hl i v,h.tn,h.old.1,bX h.old.2 h.pl (fun cur e=>by injection e with _ e;revert e;decide) (bZ _ _ _ _)⟩
structure Pr8 (w:World) (vq vc:Value) (kq kc:Nat) (xq xc:List Value) (W:World):Prop where
 q:W.ownsRow w.heap.size 24 1 vq kq xq
 c:W.ownsRow w.heap.size 24 1 vc kc xc
 ne:∀g,vq.ownBlock=some g→vc.ownBlock≠some g
theorem Pr8.ltq {w:World}{vq vc:Value}{kq kc:Nat}{xq xc:List Value}{W:World}(h:Pr8 w vq vc kq kc xq xc W)(g:Nat)(hg:vq.ownBlock=some g):g<W.heap.size:=aaT h.q hg
theorem Pr8.ltc {w:World}{vq vc:Value}{kq kc:Nat}{xq xc:List Value}{W:World}(h:Pr8 w vq vc kq kc xq xc W)(g:Nat)(hg:vc.ownBlock=some g):g<W.heap.size:=aaT h.c hg
theorem Pr8.on {w:World}{vq vc:Value}{kq kc:Nat}{xq xc:List Value}{W W':World}(h:Pr8 w vq vc kq kc xq xc W)(hb:Below W.heap.size W W'):Pr8 w vq vc kq kc xq xc W':=⟨own_below h.q hb,own_below h.c hb,h.ne⟩
theorem Pr8.appq {w:World}{vq vc vq':Value}{kq kc:Nat}{xq xc ys:List Value}{W W':World}(h:Pr8 w vq vc kq kc xq xc W)(ho:W'.ownsRow w.heap.size 24 1 vq' (kq+1) ys)(hg:W.grownBy W' vq.ownBlock)(hor:vq'.ownBlock=vq.ownBlock∨vq'.ownBlock=some W.heap.size):Pr8 w vq' vc (kq+1) kc ys xc W':=
 ⟨ho,zy h.c h.q hg (.inr fun g e e2=>h.ne g e2 e),fun g e e2=>by
  rcases hor with e3|e3
  ·exact h.ne g (by rw[←e3];exact e) e2
  ·rw[e3]at e
   injection e with e
   have:=aaT h.c e2;omega⟩
theorem Pr8.appc {w:World}{vq vc vc':Value}{kq kc:Nat}{xq xc ys:List Value}{W W':World}(h:Pr8 w vq vc kq kc xq xc W)(ho:W'.ownsRow w.heap.size 24 1 vc' (kc+1) ys)(hg:W.grownBy W' vc.ownBlock)(hor:vc'.ownBlock=vc.ownBlock∨vc'.ownBlock=some W.heap.size):Pr8 w vq vc' kq (kc+1) xq ys W':=
 ⟨zy h.q h.c hg (.inr fun g e e2=>h.ne g e e2),ho,fun g e e2=>by
  rcases hor with e3|e3
  ·exact h.ne g e (by rw[←e3];exact e2)
  ·rw[e3]at e2
   injection e2 with e2
   have:=aaT h.q e;omega⟩
theorem Pr8.setPl {w:World}{vq vc:Value}{kq kc:Nat}{xq xc:List Value}{W:World}{b5:Nat}{pc:Array Value}(h:Pr8 w vq vc kq kc xq xc W)(hp:TBx W b5 pc 162)(i:Nat)(v:Value):Pr8 w vq vc kq kc xq xc (W.setCell ⟨b5,i,none⟩ v):=
 ⟨bX h.q hp (fun cur e=>by injection e with _ e;revert e;decide) (bZ _ _ _ _),bX h.c hp (fun cur e=>by injection e with _ e;revert e;decide) (bZ _ _ _ _),h.ne⟩
theorem dC {α:Type}{cs:α→List Value}{m base n:Nat}{w:World}{v:Value}{xs:List α}{b5:Nat}{pc:Array Value}(h:fM cs 24 m base w v n xs)(hp:TBx w b5 pc 162)(i:Nat)(u:Value):fM cs 24 m base (w.setCell ⟨b5,i,none⟩ u) v n xs:=
 ⟨h.1,bX h.2 hp (fun cur e=>by injection e with _ e;revert e;decide) (bZ _ _ _ _)⟩
theorem agT (C:Int):agU 1 (C:Rat)=ag C:=by
 rw[(ou (by decide) (by decide) (C:Rat)).2,pV (by rw[Rat.num_intCast,Rat.den_intCast];simp),Rat.floor_intCast]
theorem ad1 (cause ins oth rn rd sn sd pn pd parts t a b:ByteArray)(day:Int)(keep:Bool)(A A5 A6 A7 A8:Option Addr)(n c n5 c5 n6 c6 n7 c7 n8 c8:Nat):Ret 150 #[.agg (wG cause day ins oth rn rd sn sd pn pd keep A n c parts A5 n5 c5 A6 n6 c6 A7 n7 c7 A8 n8 c8),.string t,FV a b] (.string ⟨#[]⟩):=by
 intro w hg;have hs:=((St.refl hg).alloc (.cells (wG cause day ins oth rn rd sn sd pn pd keep A n c parts A5 n5 c5 A6 n6 c6 A7 n7 c7 A8 n8 c8) 162)).alloc (.cells #[.string a,.string b] 26);have X:=(Bx.new w (wG cause day ins oth rn rd sn sd pn pd keep A n c parts A5 n5 c5 A6 n6 c6 A7 n7 c7 A8 n8 c8) 162).alloc (.cells #[.string a,.string b] 26);have K:=jA (a:=⟨#[]⟩) (b:=⟨#[]⟩) (q:=0) (k:=1) vq0 fit0 (by omega);rw[show iI 0 0=0 by decide+kernel]at K;unfold FV at*
 have x13:=X.cell (i:=13) (v:=.string ⟨#[]⟩) rfl;have x14:=X.cell (i:=14) (v:=.string ⟨#[]⟩) rfl
 go_enter Tryz.func150,Tryz.ntmps150
 go_wp2_with fail
 refine K.step hs ?_;intro w1 hs hb
 go_wp2_with fail
 go_ret
 exact⟨rfl,hs.2⟩
theorem ag5 {A':Option Addr}{n' c':Nat}{l:List Lt}(m:MapS){r pr sh:Rat}{z M:Int}(hn:l.length=n')(hm:n'≤1000)(hz:∀x∈l,x.le 1000)(hr:Vq m.rn m.rd r)(hrf:bH 1000 r)(hsh:Vq m.sn m.sd sh)(hshf:bH 1000 sh)(hM:adG 1 (sh*((iv ((av m.ins l).map (·.c))).sum :Rat))=M)(hMf:Fit 3900 M)(hpp:Vq m.pn m.pd pr)(hpf:bH 1000 pr)(hw:((iv ((av m.ins l).map (·.q))).sum :Rat)*r=(z:Rat))(hms:∀x∈dM (ag M) ((av m.ins l).map (·.c)),Fit 3000 x):
 RetO (fun w=>Row w A' (au aa l)) 77 #[.slice A' n' c',mpV m] fun B w' v=>∃p:PlS,v=plV p∧p.m=m∧p.n=(av m.ins l).length ∧p.parts=ag z∧p.an=⟨#[]⟩∧p.ad=⟨#[]⟩∧PlW p (av m.ins l) (dM (ag z) ((av m.ins l).map (·.q))) (dM (ag M) ((av m.ins l).map (·.c))) (dM ⟨#[]⟩ ((dM (ag M) ((av m.ins l).map (·.c))).map ag)) w'∧si w' p.AP (dM ⟨#[]⟩ ((av m.ins l).map (·.q))):=by
 intro w hg hi;have hgw:=hg;have hs:=(St.refl hg).alloc (.cells (mpA m) 75);have X:=TBx.new w (mpA m) 75;have hOf:=wH (A:=A') (n:=n') (c:=c') (L:=l) (ins:=m.ins) hn (by omega);have HOF:=ala hOf;have HZ:=ala (fun x (hx:x∈av m.ins l)=>hz x (List.mem_filter.1 hx).1);have HR:=ala (⟨hr,hrf⟩:Vq m.rn m.rd r∧bH 1000 r);have HPQ:=ala (⟨hpp,hpf⟩:Vq m.pn m.pd pr∧bH 1000 pr);have HW8:=ala hw;have HMS:=ala hms;have HSH:=ala (⟨hsh,hshf⟩:Vq m.sn m.sd sh∧bH 1000 sh);have HM8:=ala hM;have HMF:=ala hMf;clear hOf hz hr hrf hpp hpf hw hms hsh hshf hM hMf;obtain⟨cause,day,ins,oth,rn,rd,sn,sd,pn,pd,keep⟩:=m;dsimp only[mpV,mpA]at*
 have a2:=X.alloc (.cells gK 162);have p2:=TBx.new (w.alloc (.cells (gp cause day ins oth rn rd sn sd pn pd keep) 75)) gK 162;have hb2:Below w.heap.size w ((w.alloc (.cells (gp cause day ins oth rn rd sn sd pn pd keep) 75)).alloc (.cells gK 162)):=alL.alloc (by simp) _;have s2:(w.alloc (.cells (gp cause day ins oth rn rd sn sd pn pd keep) 75)).heap.size =w.heap.size+1:=by simp
 rw[s2]at p2
 go_enter Tryz.func77,Tryz.ntmps77
 have hgr:Hid (∀v,Below ((w.alloc (.cells (gp cause day ins oth rn rd sn sd pn pd keep) 75)).alloc (.cells gK 162)).heap.size ((w.alloc (.cells (gp cause day ins oth rn rd sn sd pn pd keep) 75)).alloc (.cells gK 162)) v→Gl v∧Row v A' (au aa l)):=fun v hv=>⟨hg.below (hb2.trans (hv.mono hb2.size)),(hi.on hb2).on hv⟩
 have HT:=ala a2;have HP2:=ala p2;have HB2:=ala hb2;obtain⟨Wb,hWb⟩:∃Wb,((w.alloc (.cells (gp cause day ins oth rn rd sn sd pn pd keep) 75)).alloc (.cells gK 162))=Wb:=⟨_,rfl⟩;have hHW:=ala hWb;have s2':Hid (Wb.heap.size=w.heap.size+2):=by show Wb.heap.size=_;rw[←hWb];simp
 rw[hWb]at hgr HT HP2 HB2;clear hWb a2 p2 hb2 X s2 hi hs hg
 go_upto_region 1 with (fail)
 rw[show ((w.alloc (.cells (gp cause day ins oth rn rd sn sd pn pd keep) 75)).alloc (.cells gK 162))=Wb from hHW.out];clear hHW
 go_cut [5] (fun s5 wx=>∃b5 A c,s5= .pointer (some ⟨b5,0,none⟩)∧Hid (Below w.heap.size w wx∧TBx wx w.heap.size (gp cause day ins oth rn rd sn sd pn pd keep) 75∧TBx wx (w.heap.size+1) gK 162∧TBx wx b5 #[.string cause,.int .i64 day,.string ins,.string oth,.string rn,.string rd,.string sn,.string sd,.string pn,.string pd,.bool keep,.slice A (av ins l).length c,.string ⟨#[]⟩,.string ⟨#[]⟩,.string ⟨#[]⟩,.slice none 0 0,.slice none 0 0,.slice none 0 0,.slice none 0 0] 162∧w.heap.size+2≤b5∧fM aa 47 7 w.heap.size wx (.slice A (av ins l).length c) (av ins l).length (av ins l)))
 case first=>
  have hSOK:Hid (∀v,Below Wb.heap.size Wb v→(loadVar 75 ⟨w.heap.size,0,none⟩).run Tryz.prog v= .ok (.agg (gp cause day ins oth rn rd sn sd pn pd keep)) v∧v.cell? ⟨w.heap.size,2,none⟩=some (.string ins)):=fun v hv=>⟨(HT.out.on hv).bx.mapping rfl,(HT.out.on hv).bx.cell (i:=2) rfl⟩
  have BL0:Hid (Below Wb.heap.size Wb Wb.drew):=(alJ _ _).drew;have HS1:∀(v:World) (A3:Option Addr) (k3 c3:Nat),(storeVar 162 ⟨v.heap.size,0,none⟩ (.agg (yL cause day ins oth rn rd sn sd pn pd keep A3 k3 c3))).run Tryz.prog (v.alloc (.cells gK 162))= .ok () (v.alloc (.cells (yL cause day ins oth rn rd sn sd pn pd keep A3 k3 c3) 162)):=fun v A3 k3 c3=>by
   rw[TBx.store (TBx.new v gK 162) rfl rfl (by simp[Value.oneCell']),World.setRow_alloc_new]
  have HS2:Hid (∀(v:World) (A3:Option Addr) (k3 c3:Nat),TBx v Wb.heap.size gK 162→(storeVar 162 ⟨Wb.heap.size,0,none⟩ (.agg (yL cause day ins oth rn rd sn sd pn pd keep A3 k3 c3))).run Tryz.prog v= .ok () (v.setRow Wb.heap.size (yL cause day ins oth rn rd sn sd pn pd keep A3 k3 c3))):=fun v A3 k3 c3 h=>h.store rfl rfl (by simp[Value.oneCell'])
  have BL0a:Hid (Below Wb.heap.size Wb (Wb.drew.alloc (.cells gK 162))):=BL0.out.alloc BL0.out.size _;have TA0:Hid (TBx (Wb.drew.alloc (.cells gK 162)) Wb.heap.size gK 162):=TBx.new Wb.drew gK 162
  go_region_held3 (fun v=>(loadVar 75 ⟨w.heap.size,0,none⟩).run Tryz.prog v= .ok (.agg (gp cause day ins oth rn rd sn sd pn pd keep)) v∧v.cell? ⟨w.heap.size,2,none⟩=some (.string ins))
   (first|exact hSOK.out _ BL0.out|exact hSOK.out _ BL0a.out|exact hSOK.out _ BL1.out|exact hSOK.out _ (BL1.out.alloc BL1.out.size _)|exact hSOK.out _ (below_setRow BL1.out alK _))
   (first
    |(go_at_call 10;refine(HOF.out Wb.drew (hgr.out _ BL0.out).1 (hgr.out _ BL0.out).2).mono ?_;rintro e w3 ⟨v3,rfl,ho3,hb3⟩;obtain⟨A3,c3,rfl⟩:=fK ho3.2;have BL1:Hid (Below Wb.heap.size Wb w3):=BL0.out.trans (hb3.mono BL0.out.size);have HO3:=ala ho3;clear ho3 hb3)
    |(go_at_call 10;refine(HOF.out _ (hgr.out _ BL0a.out).1 (hgr.out _ BL0a.out).2).mono ?_;rintro e w3 ⟨v3,rfl,ho3,hb3⟩;obtain⟨A3,c3,rfl⟩:=fK ho3.2;have BL1:Hid (Below Wb.heap.size Wb w3):=BL0a.out.trans (hb3.mono BL0a.out.size);have TA1:=ala (TA0.out.on hb3);have HS3:=HS2.out w3 A3 (av ins l).length c3 TA1.out;have HO3:=ala ho3;clear ho3 hb3))
  ·go_wp2_with fail
   go_meet
   exact⟨_,_,_,rfl,HB2.out.trans ((BL1.out.alloc BL1.out.size _).mono HB2.out.size),(HT.out.on BL1.out).alloc _,(HP2.out.on BL1.out).alloc _,TBx.new _ _ _,by have:=s2'.out;have:=BL1.out.size;omega,rfl,dB ((HO3.out.2).alloc _) (by show w.heap.size≤Wb.heap.size;have:=s2'.out;omega)⟩
  ·go_wp2_with fail
   go_meet
   exact⟨_,_,_,rfl,HB2.out.trans ((below_setRow BL1.out alK _).mono HB2.out.size),(HT.out.on BL1.out).rowOther (by have:=s2'.out;omega) _,(HP2.out.on BL1.out).rowOther (by have:=s2'.out;omega) _,TA1.out.row _,by have:=s2'.out;omega,rfl,dB (bX HO3.out.2 TA1.out (fun cur e=>by injection e with _ e;revert e;decide) (cZ _ _ _)) (by have:=s2'.out;simp;omega)⟩
 case rest=>
  clear HT HP2 HB2 hgr s2';obtain⟨b5,A,c,rfl,HW⟩:=hcut;have hol:(av ins l).length ≤1000:=by
   have:=ol (ins:=ins) (l:=l) l.length;rw[aln alK]at this;omega
  generalize hoE:av ins l=old at*
  have HOE:=ala hoE;clear hoE;obtain⟨n,hnl⟩:∃n,old.length=n:=⟨_,rfl⟩;have HNL:=ala hnl;have x11:=HW.out.2.2.2.1.bx.cell (i:=11) (v:=.slice A old.length c) rfl;rw[hnl]at x11 HW hol;have hb5:w.heap.size+2≤b5:=HW.out.2.2.2.2.1;have HF0:Hid (Fr8 w b5 w.heap.size 75 (gp cause day ins oth rn rd sn sd pn pd keep) gK (yL cause day ins oth rn rd sn sd pn pd keep A n c) (gp cause day ins oth rn rd sn sd pn pd keep) old (.slice A n c) wc):=⟨HW.out.1,HW.out.2.1,HW.out.2.2.1,HW.out.2.2.2.1,HW.out.2.1,by decide,by rw[HNL.out];exact HW.out.2.2.2.2.2⟩;have HP0:Hid (Pr8 w (.slice none 0 0) (.slice none 0 0) 0 0 [] [] wc):=⟨World.ownsRow_nil _ _ _ _,World.ownsRow_nil _ _ _ _,fun g e=>by cases e⟩;obtain⟨i0,hi0,hz0,hz1,hz2⟩:=info_parts akc;have Hi:=ala hi0;have Hz0:=ala hz0;have Hz1:=ala hz1;have Hz2:=ala hz2;clear hi0 hz0 hz1 hz2 hnl HW HOF
  go_wp2_with fail
  clear x11
  go_loopw [21,6,7] (fun s vq vc wr=>∃k:Nat,k≤n∧s= .int .i64 (k:Int)∧(∃Aq kq cq Ac kc cc,vq= .slice Aq kq cq∧vc= .slice Ac kc cc)∧Hid (Fr8 w b5 w.heap.size 75 (gp cause day ins oth rn rd sn sd pn pd keep) gK (yL cause day ins oth rn rd sn sd pn pd keep A n c) (gp cause day ins oth rn rd sn sd pn pd keep) old (.slice A n c) wr)∧Hid (Pr8 w vq vc k k ((old.take k).map fun x=>.string x.q) ((old.take k).map fun x=>.string x.c) wr)) (fun s _ _ _=>(n-intOf s).toNat)
  case atStart=>exact⟨0,by omega,rfl,⟨_,_,_,_,_,_,rfl,rfl⟩,HF0,HP0⟩
  case round=>
   clear HF0 HP0;obtain⟨k,hk,rfl,⟨Aq,kq,cq,Ac,kc,cc,rfl,rfl⟩,HF,HP⟩:=hrel;by_cases hkn:k=n
   ·have hkn2:=hkn.symm
    subst hkn2;have q:decide ((n:Int)<(n:Int))=false:=alH (by omega)
    go_wp2_with fail
    clear q;have hrq:=iO HP.out.q;have hrc:=iO HP.out.c;rw[aln (Nat.le_of_eq HNL.out)]at hrq hrc;obtain⟨rfl,hrq⟩:=hrq;obtain⟨hkc,hrc⟩:=hrc;subst hkc;have eq1:(old.map fun x=>(Value.string x.q))=(old.map (·.q)).map sv:=by rw[List.map_map];rfl
    have ec1:(old.map fun x=>(Value.string x.c))=(old.map (·.c)).map sv:=by rw[List.map_map];rfl
    rw[eq1]at hrq;rw[ec1]at hrc;clear eq1 ec1;have hgl:Gl wr:=hgw.below HF.out.low;have hsw:=St.refl hgl;have hzq:∀s∈old.map (·.q),s.size≤1000:=fun s hs=>by
     obtain⟨x,hx,rfl⟩:=alq.1 hs;exact(HZ.out x hx).q
    have hzc:∀s∈old.map (·.c),s.size≤1000:=fun s hs=>by
     obtain⟨x,hx,rfl⟩:=alq.1 hs;exact(HZ.out x hx).c
    have KQ:=lL (A:=Aq) (n:=kc) (c:=cq) (k0:=1000) (ws:=old.map (·.q)) (by rw[List.length_map];exact HNL.out) hol (by omega) hzq;have KC:=lL (A:=Ac) (n:=kc) (c:=cc) (k0:=1000) (ws:=old.map (·.c)) (by rw[List.length_map];exact HNL.out) hol (by omega) hzc;have hfq:Fit 2001 (iv (old.map (·.q))).sum :=by
     have h:=jH (m:=(iv (old.map (·.q))).length) hzq (by rw[List.length_map,HNL.out];omega);rw[aln alK]at h;exact Fit.mono h (by omega)
    have hfc:Fit 2001 (iv (old.map (·.c))).sum :=by
     have h:=jH (m:=(iv (old.map (·.c))).length) hzc (by rw[List.length_map,HNL.out];omega);rw[aln alK]at h;exact Fit.mono h (by omega)
    obtain⟨Q,hQ⟩:∃Q,(iv (old.map (·.q))).sum =Q:=⟨_,rfl⟩;obtain⟨C,hC⟩:∃C,(iv (old.map (·.c))).sum =C:=⟨_,rfl⟩;have HWW:Hid ((Q:Rat)*r=(z:Rat)):=by rw[←hQ];exact HW8
    rw[hQ]at KQ hfq;rw[hC]at KC hfc;have K2:=OfF (a:=ag Q) (Vs.can hfq (by omega)) (by have:=hfq.size;omega);have K3:=MulF (Vq.fr (q:=(Q:Rat)) (k:=2001) (qI hfq (by omega)) (by omega)) HR.out.1;rw[HWW.out]at K3;unfold FR at K2 K3;unfold FV at K3;have BM:=HF.out.mt.bx;generalize ag Q=sQ at*
    generalize frN (Q:Rat)=qn1 at*
    generalize frD (Q:Rat)=qd1 at*
    generalize hen:frN (z:Rat)=en at*
    generalize hed:frD (z:Rat)=ed at*
    have hII:∀ {S:Type} {W:S→World},(∀u,Below wr.heap.size wr (W u))→∀u,Row (W u) Aq ((old.map (·.q)).map sv):=fun hk u=>hrq.on (hk u)
    refine jh 7 6 10 #[.string ⟨#[]⟩,.string ⟨#[]⟩] (by kernel_rfl) (by kernel_rfl) (by kernel_rfl) (by omega) rfl (by kernel_rfl) ⟨_,10,_,rfl,rfl,rfl,fun _ _=>by simp[execOp,go_sem,ptrTo];rfl⟩ ?_;apply Exists.intro;refine⟨fun S W hne hk hcl=>?_,?_⟩
    ·simp only[List.take_succ_cons,List.take_zero,gQ,List.mem_cons,List.not_mem_nil,or_false,Nat.reduceAdd,Nat.reduceEqDiff,reduceIte,Nat.zero_add]
     have kk4:=BM.in hk (i:=4) (v:=.string rn) rfl;have kk5:=BM.in hk (i:=5) (v:=.string rd) rfl
     repeat (go_big_quiet_step (first|(with_reducible exact sO KQ hsw (hII hk) hk hcl)|(with_reducible exact K2.fresh hsw hk hcl)|(with_reducible exact K3.fresh hsw hk hcl)))
     exact wpQuiet_nil rfl
    intro b10 v hb10 hv hx10;simp only[List.drop_succ_cons,List.drop_zero,ptrTo];have e0:=hx10.cell (i:=0) (v:=.string ⟨#[]⟩) rfl;have g0:=hx10.frozen 0;have e1:=hx10.cell (i:=1) (v:=.string ⟨#[]⟩) rfl;have g1:=hx10.frozen 1;clear K2 K3 KQ;have hfz:bH 3100 (z:Rat):=by
     rw[←HWW.out];exact(bH.mul (qI hfq (by omega)) HR.out.2).mono (by omega)
    have KW:=ach (Vq.fr hfz (by omega)) hfz (by omega) (by omega);rw[Rat.floor_intCast,show (z:Rat)-(z:Rat)=0 by grind,aeP,hen,hed]at KW;unfold FV at KW;have hszz:(ag z).size ≤4000:=by
     have h1:Fit 3100 z:=by have:=hfz.1;rwa[Rat.num_intCast]at this
     have:=h1.size;omega
    generalize hszE:ag z=sz at*
    have HSZ:=ala hszE;clear hszE
    go_wp2_with fail
    have hW8:∃W8,((v.setCell ⟨b10,0,none⟩ (.string en)).setCell ⟨b10,1,none⟩ (.string ed))=W8∧Bx W8 b10 #[.string en,.string ed]∧Below wr.heap.size wr W8:=⟨_,rfl,(hx10.set 0 (.string en)).set 1 (.string ed),(hv.setCell (p:=⟨b10,0,none⟩) hb10 _).setCell (p:=⟨b10,1,none⟩) hb10 _⟩;obtain⟨W8,hW8,B8,L8⟩:=hW8;rw[hW8];clear e0 e1 g0 g1 hx10 hv hW8 BM hsw;have F8:=HF.out.on L8;have P8:=HP.out.on L8;have R8:=hrq.on L8;have R8c:=hrc.on L8;have hgl8:Gl W8:=hgl.below L8;have hb105:b10≠b5:=by have:=(alc.1 HF.out.pl).1;omega
    refine KW.step (St.refl hgl8) ?_;intro W9 hs9 L9;have F9:=ala (F8.on L9);have P9:=ala (P8.on L9);have R9:=ala (R8.on L9);have R9c:=ala (R8c.on L9);have B9:=B8.on L9;clear F8 P8 R8 R8c KW L8 L9 hrq hrc B8;have f12:=F9.out.pl.bx.frozen 12;have f13:=F9.out.pl.bx.frozen 13;have f14:=F9.out.pl.bx.frozen 14;have c12:=F9.out.pl.bx.cell (i:=12) (v:=.string ⟨#[]⟩) rfl;have c13:=F9.out.pl.bx.cell (i:=13) (v:=.string ⟨#[]⟩) rfl;have c14:=F9.out.pl.bx.cell (i:=14) (v:=.string ⟨#[]⟩) rfl;have hne5:w.heap.size≠b5:=by omega
    go_wp2_with fail
    obtain⟨W10,hW10,F10,P10⟩:∃W10,((W9.setCell ⟨b5,12,none⟩ (.string sz)).setCell ⟨b5,13,none⟩ (.string ⟨#[]⟩)).setCell ⟨b5,14,none⟩ (.string ⟨#[]⟩)=W10∧Fr8 w b5 w.heap.size 75 (gp cause day ins oth rn rd sn sd pn pd keep) gK #[.string cause,.int .i64 day,.string ins,.string oth,.string rn,.string rd,.string sn,.string sd,.string pn,.string pd,.bool keep,.slice A kc c,.string sz,.string ⟨#[]⟩,.string ⟨#[]⟩,.slice none 0 0,.slice none 0 0,.slice none 0 0,.slice none 0 0] (gp cause day ins oth rn rd sn sd pn pd keep) old (.slice A kc c) W10∧Pr8 w (.slice Aq kc cq) (.slice Ac kc cc) kc kc ((old.take kc).map fun x=>.string x.q) ((old.take kc).map fun x=>.string x.c) W10:=
     ⟨_,rfl,((F9.out.setPl hb5 hne5 12 (.string sz)).setPl hb5 hne5 13 (.string ⟨#[]⟩)).setPl hb5 hne5 14 (.string ⟨#[]⟩),((P9.out.setPl F9.out.pl 12 (.string sz)).setPl (F9.out.setPl hb5 hne5 12 (.string sz)).pl 13 (.string ⟨#[]⟩)).setPl ((F9.out.setPl hb5 hne5 12 (.string sz)).setPl hb5 hne5 13 (.string ⟨#[]⟩)).pl 14 (.string ⟨#[]⟩)⟩
    rw[hW10];have B10:Bx W10 b10 #[.string en,.string ed]:=by
     rw[←hW10];exact((B9.other hb105 12 _).other hb105 13 _).other hb105 14 _
    clear hW10 f12 f13 f14 c12 c13 c14 B9 F9 P9 R9 R9c hs9;have hgl10:Gl W10:=hgw.below F10.low;have hs10:=St.refl hgl10;have hrq:=(iO P10.q).2;have hrc:=(iO P10.c).2;rw[aln (Nat.le_of_eq HNL.out)]at hrq hrc;rw[show (old.map fun x=>(Value.string x.q))=(old.map (·.q)).map sv by rw[List.map_map];rfl]at hrq;rw[show (old.map fun x=>(Value.string x.c))=(old.map (·.c)).map sv by rw[List.map_map];rfl]at hrc;have K5:=OfF (a:=ag C) (Vs.can hfc (by omega)) (by have:=hfc.size;omega);have HMM:adG 1 (sh*(C:Rat))=M:=by rw[←hC];exact HM8.out
    have hfm:bH 3100 (sh*(C:Rat)):=(bH.mul HSH.out.2 (qI hfc (by omega))).mono (by omega);have K6:=MulF HSH.out.1 (Vq.fr (q:=(C:Rat)) (k:=2001) (qI hfc (by omega)) (by omega));have K7:=aa1 (Vq.fr hfm (by omega)) hfm (by omega);rw[(ou (by decide) (by decide) _).2,HMM]at K7;have hms:∀x∈dM (ag M) (old.map (·.c)),Fit 3000 x:=HMS.out;have hscz:(ag M).size ≤4000:=by have:=HMF.out.size;omega
    clear HMM hfm;unfold FR at K5 K6;unfold FV at K6 K7;have kk5:=F10.mt.bx.keeps (i:=6) (v:=.string sn) rfl;have kk6:=F10.mt.bx.keeps (i:=7) (v:=.string sd) rfl;generalize ag C=sC at*
    generalize hsME:ag M=sM at*
    have HSC:=ala hsME;clear hsME;generalize frN (sh*(C:Rat))=mn1 at*
    generalize frD (sh*(C:Rat))=md1 at*
    generalize frN (C:Rat)=cn1 at*
    generalize frD (C:Rat)=cd1 at*
    have hII:∀u:Kept W10,Row u.W Ac ((old.map (·.c)).map sv):=fun u=>hrc.on u.low
    refine ax (by kernel_rfl) (by kernel_rfl) ?_
    repeat (go_big_quiet_step (first|(with_reducible exact dK KC hs10 hII)|(with_reducible exact K5.kept hs10)|(with_reducible exact K6.kept hs10)|(with_reducible exact K7.kept hs10)))
    refine wpQuiet_nil ?_;rintro _ ⟨u,rfl⟩;have F11:=ala (F10.on u.low);have P11:=ala (P10.on u.low);have R11:=ala (hrq.on u.low);have R11c:=ala (hrc.on u.low);have B11:=ala (B10.on u.low);have G11:=ala (hgl10.below u.low);clear kk5 kk6 hII K5 K6 K7 KC F10 P10 hrq hrc B10 hgl10 hs10;generalize u.W=W11 at*
    have hlq:(old.map (·.q)).length =kc:=by rw[List.length_map];exact HNL.out
    have hlc:(old.map (·.c)).length =kc:=by rw[List.length_map];exact HNL.out
    have KD1:=oJ (A:=Aq) (n:=kc) (c:=cq) (k0:=4000) (t:=sz) (ws:=old.map (·.q)) hlq hol (by omega) hszz (fun s hs=>ali (hzq s hs) (by omega)) W11 G11.out R11.out;have c12:=F11.out.pl.bx.cell (i:=12) (v:=.string sz) rfl
    go_wp2_with fail
    refine KD1.mono ?_;rintro e W12 ⟨v12,rfl,ho12,L12⟩;obtain⟨A12,c12',rfl⟩:=fK ho12.2;have F12:=ala (F11.out.on L12);have P12:=ala (P11.out.on L12);have R12:=ala (R11.out.on L12);have R12c:=ala (R11c.out.on L12);have B12:=ala (B11.out.on L12);have G12:=ala (G11.out.below L12);have O12:=ala (show fM dD 24 1 w.heap.size W12 _ kc _ from⟨ho12.1,dB ho12.2 F11.out.low.size⟩);clear KD1 L12 ho12 c12 F11 P11 R11 R11c B11 G11;have KD2:=oJ (A:=Ac) (n:=kc) (c:=cc) (k0:=4000) (t:=sM) (ws:=old.map (·.c)) hlc hol (by omega) hscz (fun s hs=>ali (hzc s hs) (by omega)) W12 G12.out R12c.out
    go_wp2_with fail
    refine KD2.mono ?_;rintro e W13 ⟨v13,rfl,ho13,L13⟩;obtain⟨A13,c13',rfl⟩:=fK ho13.2;have F13:=ala (F12.out.on L13);have P13:=ala (P12.out.on L13);have B13:=ala (B12.out.on L13);have O13n:=ala (O12.out.on L13);have O13:=ala (show fM dD 24 1 w.heap.size W13 _ kc _ from⟨ho13.1,dB ho13.2 F12.out.low.size⟩);clear KD2 L13 ho13 F12 P12 R12 R12c B12 G12 O12;have f15:=F13.out.pl.bx.frozen 15;have f16:=F13.out.pl.bx.frozen 16;have c15:=F13.out.pl.bx.cell (i:=15) (v:=.slice none 0 0) rfl;have c16:=F13.out.pl.bx.cell (i:=16) (v:=.slice none 0 0) rfl
    go_wp2_with fail
    obtain⟨W14,hW14,F14,P14⟩:∃W14,((W13.setCell ⟨b5,15,none⟩ (.slice A12 kc c12')).setCell ⟨b5,16,none⟩ (.slice A13 kc c13'))=W14∧Fr8 w b5 w.heap.size 75 (gp cause day ins oth rn rd sn sd pn pd keep) gK #[.string cause,.int .i64 day,.string ins,.string oth,.string rn,.string rd,.string sn,.string sd,.string pn,.string pd,.bool keep,.slice A kc c,.string sz,.string ⟨#[]⟩,.string ⟨#[]⟩,.slice A12 kc c12',.slice A13 kc c13',.slice none 0 0,.slice none 0 0] (gp cause day ins oth rn rd sn sd pn pd keep) old (.slice A kc c) W14∧Pr8 w (.slice Aq kc cq) (.slice Ac kc cc) kc kc ((old.take kc).map fun x=>.string x.q) ((old.take kc).map fun x=>.string x.c) W14:=
     ⟨_,rfl,(F13.out.setPl hb5 hne5 15 (.slice A12 kc c12')).setPl hb5 hne5 16 (.slice A13 kc c13'),(P13.out.setPl F13.out.pl 15 (.slice A12 kc c12')).setPl (F13.out.setPl hb5 hne5 15 (.slice A12 kc c12')).pl 16 (.slice A13 kc c13')⟩
    rw[hW14];have B14:Bx W14 b10 #[.string en,.string ed]:=by
     rw[←hW14];exact(B13.out.other hb105 15 _).other hb105 16 _
    have O14n:=dC (dC O13n.out F13.out.pl 15 (.slice A12 kc c12')) (F13.out.setPl hb5 hne5 15 (.slice A12 kc c12')).pl 16 (.slice A13 kc c13');have O14m:=dC (dC O13.out F13.out.pl 15 (.slice A12 kc c12')) (F13.out.setPl hb5 hne5 15 (.slice A12 kc c12')).pl 16 (.slice A13 kc c13');rw[hW14]at O14n O14m;clear hW14 f15 f16 c15 c16 F13 P13 B13 O13 O13n;obtain⟨ms,hmsE⟩:∃ms,dM sM (old.map (·.c))=ms:=⟨_,rfl⟩;rw[hmsE]at O14m hms;have hrm:=(iO O14m.2).2;rw[ako]at hrm;have hlm:(ms.map ag).length =kc:=by rw[List.length_map];exact O14m.1
    have hzm:∀s∈ms.map ag,s.size≤4000:=fun s hs=>by
     obtain⟨x,hx,rfl⟩:=alq.1 hs;have:=(hms x hx).size;omega
    have KP:=ad1 cause ins oth rn rd sn sd pn pd sz sM en ed day keep A A12 A13 none none kc c kc c12' kc c13' 0 0 0 0;unfold FV at KP;have hgl14:Gl W14:=hgw.below F14.low;have hSOK:Hid (∀v,Below W14.heap.size W14 v→v.cell? ⟨b10,0,none⟩=some (.string en)∧v.cell? ⟨b10,1,none⟩=some (.string ed)∧v.cell? ⟨b5,16,none⟩=some (.slice A13 kc c13')):=fun v hv=>⟨(B14.on hv).cell (i:=0) rfl,(B14.on hv).cell (i:=1) rfl,(F14.pl.bx.on hv).cell (i:=16) rfl⟩
    have hSO2:Hid (∀v x,Below W14.heap.size W14 v→(v.setCell ⟨b5,17,none⟩ x).cell? ⟨b10,0,none⟩=some (.string en)∧(v.setCell ⟨b5,17,none⟩ x).cell? ⟨b10,1,none⟩=some (.string ed)∧(v.setCell ⟨b5,17,none⟩ x).cell? ⟨b5,16,none⟩=some (.slice A13 kc c13')):=fun v x hv=>⟨((B14.on hv).other hb105 17 x).cell (i:=0) rfl,((B14.on hv).other hb105 17 x).cell (i:=1) rfl,((F14.pl.bx.on hv).set 17 x).cell (i:=16) rfl⟩
    have BL0:Hid (Below W14.heap.size W14 W14.drew):=(alJ _ _).drew;have kpl:=(F14.pl.bx.on BL0.out).plan rfl;have HG14:=ala (fun v (hv:Below W14.heap.size W14 v)=>hgl14.below hv);have HR14:=ala (fun v (hv:Below W14.heap.size W14 v)=>hrm.on hv);have hKP:=ala KP;have HF14:=ala F14;have HP14:=ala P14;have HB14:=ala B14;have HN14:=ala O14n;have HM14:=ala O14m;clear KP F14 P14 B14 O14n O14m hgl14 hrm;refine wp_region_noPanic ?_;refine wp_region_held_drew (S:=fun w'=>w'.cell? ⟨b10,0,none⟩=some (.string en)∧w'.cell? ⟨b10,1,none⟩=some (.string ed)∧w'.cell? ⟨b5,16,none⟩=some (.slice A13 kc c13')) (by kernel_rfl) ?_ (fun hHeld=>?_)
    ·try dsimp only
     exact hSOK.out _ BL0.out
    refine wpAnyH_take (i:=1) (v:=?vv1) rfl (by kernel_rfl) (by kernel_rfl) (by kernel_rfl) (fun _ _ _ h=>h) (Or.inl ⟨by rfl,?hy1⟩) (by assumption) ?rest1
    case hy1=>
     intro w hSw
     try dsimp only at hSw
     go_simp
     try with_reducible rfl
    try simp only[Act.put]
    try simp only[List.setIfInBounds_toArray]
    try simp only[List.set_cons_succ]
    try simp only[List.set_cons_zero]
    refine wpAnyH_take (i:=2) (v:=?vv2) rfl (by kernel_rfl) (by kernel_rfl) (by kernel_rfl) (fun _ _ _ h=>h) (Or.inl ⟨by rfl,?hy2⟩) (by assumption) ?rest2
    case hy2=>
     intro w hSw
     try dsimp only at hSw
     go_simp
     try with_reducible rfl
    try simp only[Act.put]
    try simp only[List.setIfInBounds_toArray]
    try simp only[List.set_cons_succ]
    try simp only[List.set_cons_zero]
    refine wpAnyH_take (i:=4) (v:=?vv3) rfl (by kernel_rfl) (by kernel_rfl) (by kernel_rfl) (fun _ _ _ h=>h) (Or.inl ⟨by rfl,?hy3⟩) (by assumption) ?rest3
    case hy3=>
     intro w hSw
     try dsimp only at hSw
     go_simp
     try with_reducible rfl
    try simp only[Act.put]
    try simp only[List.setIfInBounds_toArray]
    try simp only[List.set_cons_succ]
    try simp only[List.set_cons_zero]
    refine wpAnyH_take (i:=5) (v:=?vv4) rfl (by kernel_rfl) (by kernel_rfl) (by kernel_rfl) (fun _ _ _ h=>h) (Or.inl ⟨by rfl,?hy4⟩) (by assumption) ?rest4
    case hy4=>
     intro w hSw
     try dsimp only at hSw
     go_simp
     try with_reducible rfl
    try simp only[Act.put]
    try simp only[List.setIfInBounds_toArray]
    try simp only[List.set_cons_succ]
    try simp only[List.set_cons_zero]
    refine wpAnyH_ready (rs:=[0]) (by kernel_rfl) (by simp) ?_;refine AllReadyH.cons rfl (fun K hK=>?_) AllReadyH.nil
    go_simp
    refine hK.out _ _ ?_ (fun hHeld=>?_)
    ·try dsimp only
     exact hSOK.out _ BL0.out
    clear hK K
    try simp only[Act.put]
    try simp only[List.setIfInBounds_toArray]
    try simp only[List.set_cons_succ]
    try simp only[List.set_cons_zero]
    refine wpAnyH_ready (rs:=[3]) (by kernel_rfl) (by simp) ?_;refine AllReadyH.cons rfl (fun K hK=>?_) AllReadyH.nil
    go_simp
    refine(hKP.out W14.drew (HG14.out _ BL0.out)).mono ?_;rintro e W15 ⟨rfl,hb15⟩;have BL1:Hid (Below W14.heap.size W14 W15):=BL0.out.trans (hb15.mono BL0.out.size);clear hb15
    try go_wp2_with fail
    refine hK.out _ _ ?_ (fun hHeld=>?_)
    ·try dsimp only
     exact hSOK.out _ BL1.out
    clear hK K
    try simp only[Act.put]
    try simp only[List.setIfInBounds_toArray]
    try simp only[List.set_cons_succ]
    try simp only[List.set_cons_zero]
    refine wpAnyH_ready (rs:=[6]) (by kernel_rfl) (by simp) ?_;refine AllReadyH.cons rfl (fun K hK=>?_) AllReadyH.nil
    go_simp
    refine(oJ (A:=A13) (n:=kc) (c:=c13') (k0:=4000) (t:=⟨#[]⟩) (ws:=ms.map ag) hlm hol (by omega) (by decide) hzm W15 (HG14.out _ BL1.out) (HR14.out _ BL1.out)).mono ?_;rintro e W16 ⟨v16,rfl,ho16,hb16⟩;obtain⟨A16,c16',rfl⟩:=fK ho16.2;have BL2:Hid (Below W14.heap.size W14 W16):=BL1.out.trans (hb16.mono BL1.out.size);have HO16:=ala (show fM dD 24 1 w.heap.size W16 _ kc _ from⟨ho16.1,dB ho16.2 (ali HF14.out.low.size BL1.out.size)⟩);have f17:=(HF14.out.on BL2.out).pl.bx.frozen 17;have c17:=(HF14.out.on BL2.out).pl.bx.cell (i:=17) (v:=.slice none 0 0) rfl;clear ho16 hb16
    try go_wp2_with fail
    refine hK.out _ _ ?_ (fun hHeld=>?_)
    ·try dsimp only
     exact hSOK.out _ BL2.out
    clear hK K
    try simp only[Act.put]
    try simp only[List.setIfInBounds_toArray]
    try simp only[List.set_cons_succ]
    try simp only[List.set_cons_zero]
    refine wpAnyH_take (i:=7) (v:=?vv5) rfl (by kernel_rfl) (by kernel_rfl) (by kernel_rfl) (fun _ _ _ h=>h) (Or.inl ⟨by rfl,?hy5⟩) (by assumption) ?rest5
    case hy5=>
     intro w hSw
     try dsimp only at hSw
     go_simp
     try with_reducible rfl
    try simp only[Act.put]
    try simp only[List.setIfInBounds_toArray]
    try simp only[List.set_cons_succ]
    try simp only[List.set_cons_zero]
    refine wpAnyH_ready (rs:=[8]) (by kernel_rfl) (by simp) ?_;refine AllReadyH.cons rfl (fun K hK=>?_) AllReadyH.nil
    go_simp
    refine hK.out _ _ ?_ (fun hHeld=>?_)
    ·try dsimp only
     exact hSO2.out _ _ BL2.out
    clear hK K
    try simp only[Act.put]
    try simp only[List.setIfInBounds_toArray]
    try simp only[List.set_cons_succ]
    try simp only[List.set_cons_zero]
    refine wpAnyH_done (by kernel_rfl) ?_ _;refine NoPanic.normal ?_;obtain⟨W17,hW17,F17,P17⟩:∃W17,W16.setCell ⟨b5,17,none⟩ (.slice A16 kc c16')=W17∧Fr8 w b5 w.heap.size 75 (gp cause day ins oth rn rd sn sd pn pd keep) gK #[.string cause,.int .i64 day,.string ins,.string oth,.string rn,.string rd,.string sn,.string sd,.string pn,.string pd,.bool keep,.slice A kc c,.string sz,.string ⟨#[]⟩,.string ⟨#[]⟩,.slice A12 kc c12',.slice A13 kc c13',.slice A16 kc c16',.slice none 0 0] (gp cause day ins oth rn rd sn sd pn pd keep) old (.slice A kc c) W17∧Pr8 w (.slice Aq kc cq) (.slice Ac kc cc) kc kc ((old.take kc).map fun x=>.string x.q) ((old.take kc).map fun x=>.string x.c) W17:=
     ⟨_,rfl,(HF14.out.on BL2.out).setPl hb5 hne5 17 (.slice A16 kc c16'),(HP14.out.on BL2.out).setPl (HF14.out.on BL2.out).pl 17 (.slice A16 kc c16')⟩
    have ON17:=dC (HN14.out.on BL2.out) (HF14.out.on BL2.out).pl 17 (.slice A16 kc c16');have OM17:=dC (HM14.out.on BL2.out) (HF14.out.on BL2.out).pl 17 (.slice A16 kc c16');have OF17:=dC HO16.out (HF14.out.on BL2.out).pl 17 (.slice A16 kc c16');rw[hW17]at ON17 OM17 OF17⊢
    clear hW17 f17 c17 HO16 HF14 HP14 HB14 HN14 HM14 hKP HG14 HR14 kpl BL0 BL1 BL2 hSOK hSO2;have HON:=ala ON17;have HOM:=ala OM17;have HOF2:=ala OF17;have HF17:=ala F17;have hgl17:Gl W17:=hgw.below F17.low;have hrq:=(iO P17.q).2;rw[aln (Nat.le_of_eq HNL.out)]at hrq;rw[show (old.map fun x=>(Value.string x.q))=(old.map (·.q)).map sv by rw[List.map_map];rfl]at hrq;have m8:=F17.mt.bx.cell (i:=8) (v:=.string pn) rfl;have m9:=F17.mt.bx.cell (i:=9) (v:=.string pd) rfl;have p13:=F17.pl.bx.cell (i:=13) (v:=.string ⟨#[]⟩) rfl;have p14:=F17.pl.bx.cell (i:=14) (v:=.string ⟨#[]⟩) rfl;have K8:=MulF vq0 HPQ.out.1;have K9:=aa1 (Vq.fr fit0 (by omega)) fit0 (by omega);rw[Rat.zero_mul,aeP]at K8;rw[show (0:Rat)=((0:Int):Rat)from rfl,agT,show ag 0=⟨#[]⟩by decide+kernel]at K9;rw[show ((0:Int):Rat)=0 from rfl,show frN (0:Rat)=⟨#[]⟩from by decide+kernel,show frD (0:Rat)=⟨#[]⟩from by decide+kernel]at K9;unfold FV at K8 K9;clear ON17 OM17 OF17 P17
    go_wp2_with fail
    refine K8.step (St.refl hgl17) ?_;intro W18 hs18 L18;clear m8 m9 p13 p14
    go_wp2_with fail
    refine K9.step hs18 ?_;intro W19 hs19 L19;have L1719:=L18.trans (L19.mono L18.size);have KD4:=oJ (A:=Aq) (n:=kc) (c:=cq) (k0:=4000) (t:=⟨#[]⟩) (ws:=old.map (·.q)) hlq hol (by omega) (by decide) (fun s hs=>ali (hzq s hs) (by omega)) W19 hs19.gl (hrq.on L1719)
    go_wp2_with fail
    refine KD4.mono ?_;rintro e W20 ⟨v20,rfl,ho20,L20⟩;obtain⟨A20,c20',rfl⟩:=fK ho20.2;have L1720:=L1719.trans (L20.mono L1719.size);have HO20p:=ala (show fM dD 24 1 w.heap.size W20 (.slice A20 kc c20') kc _ from⟨ho20.1,dB ho20.2 (ali HF17.out.low.size L1719.size)⟩);have F20:=HF17.out.on L1720;have HF20:=ala F20;have f18:=F20.pl.bx.frozen 18;have c18:=F20.pl.bx.cell (i:=18) (v:=.slice none 0 0) rfl;have HO20n:=ala (HON.out.on L1720);have HO20m:=ala (HOM.out.on L1720);have HO20f:=ala (HOF2.out.on L1720);clear KD4 K8 K9 L18 L19 L1719 L20 L1720 ho20 hrq F20 F17 hs18 hs19 hgl17
    go_upto_region 14 with (fail)
    obtain⟨W21,hW21,F21⟩:∃W21,W20.setCell ⟨b5,18,none⟩ (.slice A20 kc c20')=W21∧Fr8 w b5 w.heap.size 75 (gp cause day ins oth rn rd sn sd pn pd keep) gK (wG cause day ins oth rn rd sn sd pn pd keep A kc c sz A12 kc c12' A13 kc c13' A16 kc c16' A20 kc c20') (gp cause day ins oth rn rd sn sd pn pd keep) old (.slice A kc c) W21:=⟨_,rfl,HF20.out.setPl hb5 hne5 18 (.slice A20 kc c20')⟩;have ON21:=dC HO20n.out HF20.out.pl 18 (.slice A20 kc c20');have OM21:=dC HO20m.out HF20.out.pl 18 (.slice A20 kc c20');have OF21:=dC HO20f.out HF20.out.pl 18 (.slice A20 kc c20');have OP21:=dC HO20p.out HF20.out.pl 18 (.slice A20 kc c20');rw[hW21]at ON21 OM21 OF21 OP21⊢
    clear hW21 f18 c18 HF20 HF17;have kp21:=F21.pl.bx.plan rfl;have st21:=TBx.store F21.z (cs':=(wG cause day ins oth rn rd sn sd pn pd keep A kc c sz A12 kc c12' A13 kc c13' A16 kc c16' A20 kc c20')) rfl rfl (by simp[Value.oneCell']);have HN21:=ala ON21;have HM21:=ala OM21;have HF21:=ala OF21;have HP21:=ala OP21;have HFF:=ala F21;clear ON21 OM21 OF21 OP21 F21
    go_wp2_with fail
    have z22:=(HFF.out.z.row (wG cause day ins oth rn rd sn sd pn pd keep A kc c sz A12 kc c12' A13 kc c13' A16 kc c16' A20 kc c20')).bx.plan rfl;refine bodyPost_ret (v:=.agg (wG cause day ins oth rn rd sn sd pn pd keep A kc c sz A12 kc c12' A13 kc c13' A16 kc c16' A20 kc c20')) (by simp[results,Tryz.results77,go_sem,z22]) rfl ?_;refine⟨_,rfl,⟨⟨⟨cause,day,ins,oth,rn,rd,sn,sd,pn,pd,keep⟩,A,kc,c,sz,⟨#[]⟩,⟨#[]⟩,A12,c12',A13,c13',A16,c16',A20,c20'⟩,?_,rfl,?_,HSZ.out.symm,rfl,rfl,?_⟩,?_⟩
    ·rfl
    ·rw[HOE.out];exact HNL.out.symm
    ·have hz21:=HFF.out.z
     have kk:∀ {n1:Nat} {A1:Option Addr} {c1:Nat} {xs:List Int},fM dD 24 1 w.heap.size W21 (.slice A1 n1 c1) kc xs→si (W21.setRow (w.heap.size+1) (wG cause day ins oth rn rd sn sd pn pd keep A kc c sz A12 kc c12' A13 kc c13' A16 kc c16' A20 kc c20')) A1 xs:=fun h=>(iO (bX h.2 hz21 (fun cur e=>by injection e with _ e;revert e;decide) (cZ W21 _ _))).2
     rw[HOE.out,HSZ.out,HSC.out,hmsE];refine⟨⟨hgw.below (below_setRow HFF.out.low (by omega) _),?_,kk HN21.out,kk HM21.out,kk HF21.out⟩,kk HP21.out⟩;obtain⟨A1,c1,e1,h1⟩:=fM.row (cs:=aa) (m:=7) (show fM aa 47 7 w.heap.size (W21.setRow (w.heap.size+1) (wG cause day ins oth rn rd sn sd pn pd keep A kc c sz A12 kc c12' A13 kc c13' A16 kc c16' A20 kc c20')) (.slice A kc c) kc old from⟨HNL.out,bX (by have:=HFF.out.old.2;rw[HNL.out]at this;exact this) hz21 (fun cur e=>by injection e with _ e;revert e;decide) (cZ W21 _ _)⟩);injection e1 with e2
     rw[←e2]at h1;exact h1
    ·exact below_setRow HFF.out.low (by omega) _
   ·have hkl:k<n:=by omega
    have q:decide ((k:Int)<(n:Int))=true:=alI (by omega);have qn:decide (k<n)=true:=alI hkl;obtain⟨x,hx⟩:∃x,old[k]? =some x:=⟨old[k]'(by rw[HNL.out];exact hkl),by simp⟩;have hro:Row wr A (au aa old):=by
     obtain⟨A1,c1,e1,h1⟩:=HF.out.old.row;injection e1 with e1
     rw[e1];exact h1
    obtain⟨b2,o2,e2,l2,hcells⟩:=eT (cs:=aa) (m:=7) aM (by decide) hro hx;obtain⟨y0,y1,y2,y3,y4,y5,y6⟩:=eD hcells;have hX:=ala hx;subst e2;clear hro hcells hx;have hq2:((old.take (k+1)).map fun x=>(Value.string x.q))=((old.take k).map fun x=>.string x.q)++ [.string x.q]:=by rw[List.take_add_one,hX.out];simp
    have hc2:((old.take (k+1)).map fun x=>(Value.string x.c))=((old.take k).map fun x=>.string x.c)++ [.string x.c]:=by rw[List.take_add_one,hX.out];simp
    have Hq2:=ala hq2;have Hc2:=ala hc2;generalize ((old.take k).map fun x=>(Value.string x.q))=flq at*
    generalize ((old.take k).map fun x=>(Value.string x.c))=flc at*
    clear hq2 hc2
    go_upto_region 6 with (fail)
    have hF0:=HF.out.on (bal wr (.cells #[.string x.id,.string x.ins,.int .i64 x.acq,.int .i64 x.opn,.string x.q,.string x.c,.string x.u] 47));have hP0:=HP.out.on (bal wr (.cells #[.string x.id,.string x.ins,.int .i64 x.acq,.int .i64 x.opn,.string x.q,.string x.c,.string x.u] 47));have hLT:=TBx.new wr #[.string x.id,.string x.ins,.int .i64 x.acq,.int .i64 x.opn,.string x.q,.string x.c,.string x.u] 47;obtain⟨W0,hW0⟩:∃W0,wr.alloc (.cells #[.string x.id,.string x.ins,.int .i64 x.acq,.int .i64 x.opn,.string x.q,.string x.c,.string x.u] 47)=W0:=⟨_,rfl⟩;rw[hW0]at hF0 hP0 hLT⊢
    have hbl:wr.heap.size<W0.heap.size:=by rw[←hW0];simp
    generalize wr.heap.size=bl at*
    clear hW0 y0 y1 y2 y3 y4 y5 y6;have F0:Hid (Fr8 w b5 bl 47 (gp cause day ins oth rn rd sn sd pn pd keep) gK (yL cause day ins oth rn rd sn sd pn pd keep (some ⟨b2,o2,none⟩) n c) #[.string x.id,.string x.ins,.int .i64 x.acq,.int .i64 x.opn,.string x.q,.string x.c,.string x.u] old (.slice (some ⟨b2,o2,none⟩) n c) W0):=⟨hF0.low,hF0.mt,hF0.z,hF0.pl,hLT,by decide,hF0.old⟩;have hSOK:Hid (∀v,Fr8 w b5 bl 47 (gp cause day ins oth rn rd sn sd pn pd keep) gK (yL cause day ins oth rn rd sn sd pn pd keep (some ⟨b2,o2,none⟩) n c) #[.string x.id,.string x.ins,.int .i64 x.acq,.int .i64 x.opn,.string x.q,.string x.c,.string x.u] old (.slice (some ⟨b2,o2,none⟩) n c) v→v.cell? ⟨bl,4,none⟩=some (.string x.q)∧v.cell? ⟨bl,5,none⟩=some (.string x.c)):=fun v hv=>⟨hv.lt.bx.cell (i:=4) rfl,hv.lt.bx.cell (i:=5) rfl⟩
    have lV0:Below W0.heap.size W0 W0.drew:=(alJ _ _).drew;have lV1:Below W0.heap.size W0 (W0.drew.alloc (.cells #[.string x.q] 24)):=lV0.alloc lV0.size _;have lV2:Below W0.heap.size W0 (W0.drew.alloc (.cells #[.string x.c] 24)):=lV0.alloc lV0.size _;have lV12:Below W0.heap.size W0 ((W0.drew.alloc (.cells #[.string x.q] 24)).alloc (.cells #[.string x.c] 24)):=lV1.alloc lV1.size _;have lV21:Below W0.heap.size W0 ((W0.drew.alloc (.cells #[.string x.c] 24)).alloc (.cells #[.string x.q] 24)):=lV2.alloc lV2.size _;have FV0:=ala (F0.out.on lV0);have FV1:=ala (F0.out.on lV1);have FV2:=ala (F0.out.on lV2);have FV12:=ala (F0.out.on lV12);have FV21:=ala (F0.out.on lV21);have PV1:=ala (hP0.on lV1);have PV2:=ala (hP0.on lV2);have PV12:=ala (hP0.on lV12);have PV21:=ala (hP0.on lV21);have TV1q:Hid (TBx (W0.drew.alloc (.cells #[.string x.q] 24)) W0.heap.size #[.string x.q] 24):=TBx.new W0.drew _ _;have TV2c:Hid (TBx (W0.drew.alloc (.cells #[.string x.c] 24)) W0.heap.size #[.string x.c] 24):=TBx.new W0.drew _ _;have TV12q:=ala (TV1q.out.alloc (.cells #[.string x.c] 24));have TV21c:=ala (TV2c.out.alloc (.cells #[.string x.q] 24));have TV12c:Hid (TBx ((W0.drew.alloc (.cells #[.string x.q] 24)).alloc (.cells #[.string x.c] 24)) (W0.heap.size+1) #[.string x.c] 24):=by
     have:=TBx.new (W0.drew.alloc (.cells #[.string x.q] 24)) #[.string x.c] 24;rwa[alf]at this
    have TV21q:Hid (TBx ((W0.drew.alloc (.cells #[.string x.c] 24)).alloc (.cells #[.string x.q] 24)) (W0.heap.size+1) #[.string x.q] 24):=by
     have:=TBx.new (W0.drew.alloc (.cells #[.string x.c] 24)) #[.string x.q] 24;rwa[alf]at this
    have HLQ:Hid ((∀g,(Value.slice Aq kq cq).ownBlock =some g→g<W0.heap.size)∧(∀g,(Value.slice Ac kc cc).ownBlock =some g→g<W0.heap.size)):=⟨hP0.ltq,hP0.ltc⟩;clear lV0 lV1 lV2 lV12 lV21 hP0 hF0 hLT
    go_region_held3 (fun v=>v.cell? ⟨bl,4,none⟩=some (.string x.q)∧v.cell? ⟨bl,5,none⟩=some (.string x.c))
     (first
      |exact hSOK.out _ FV0.out
      |exact hSOK.out _ FV1.out
      |exact hSOK.out _ FV2.out
      |exact hSOK.out _ FV12.out
      |exact hSOK.out _ FV21.out
      |exact hSOK.out _ F7.out
      |exact hSOK.out _ (F7.out.on (bal _ _))
      |exact hSOK.out _ F8.out)
     (first
    |(refine aI _ (by rfl) (.tmp 25) (.tmp 28) 160 (by rfl) w.heap.size 24 i0 (.string ⟨#[]⟩) 1 16 (by kernel_rfl) Hi.out Hz0.out Hz1.out Hz2.out rfl (by omega) (.slice Aq kq cq) k flq (by rfl) (PV1.out.q) _ _ 1 1 [.string x.q] (by rfl) (rdr TV1q.out) (by simp[Value.oneCell']) (by unfold maxLen;omega) (by omega) (FV1.out.low.size) ?_;intro v7 w7 hown7 hg7 hor7;have F7:=ala (FV1.out.grown PV1.out.q hg7);have P7:=ala (PV1.out.appq hown7 hg7 hor7);obtain⟨g7,c7,rfl⟩:=ownsRow_succ hown7;clear hown7 hg7 hor7)
    |(refine aI _ (by rfl) (.tmp 25) (.tmp 28) 160 (by rfl) w.heap.size 24 i0 (.string ⟨#[]⟩) 1 16 (by kernel_rfl) Hi.out Hz0.out Hz1.out Hz2.out rfl (by omega) (.slice Aq kq cq) k flq (by rfl) (PV12.out.q) _ _ 1 1 [.string x.q] (by rfl) (rdr TV12q.out) (by simp[Value.oneCell']) (by unfold maxLen;omega) (by omega) (FV12.out.low.size) ?_;intro v7 w7 hown7 hg7 hor7;have F7:=ala (FV12.out.grown PV12.out.q hg7);have P7:=ala (PV12.out.appq hown7 hg7 hor7);have T7:=ala ((TV12c.out).grownNe hg7 (fun e=>by have:=HLQ.out.1 _ e.symm;omega));obtain⟨g7,c7,rfl⟩:=ownsRow_succ hown7;clear hown7 hg7 hor7)
    |(refine aI _ (by rfl) (.tmp 25) (.tmp 28) 160 (by rfl) w.heap.size 24 i0 (.string ⟨#[]⟩) 1 16 (by kernel_rfl) Hi.out Hz0.out Hz1.out Hz2.out rfl (by omega) (.slice Aq kq cq) k flq (by rfl) (PV21.out.q) _ _ 1 1 [.string x.q] (by rfl) (rdr TV21q.out) (by simp[Value.oneCell']) (by unfold maxLen;omega) (by omega) (FV21.out.low.size) ?_;intro v7 w7 hown7 hg7 hor7;have F7:=ala (FV21.out.grown PV21.out.q hg7);have P7:=ala (PV21.out.appq hown7 hg7 hor7);have T7:=ala ((TV21c.out).grownNe hg7 (fun e=>by have:=HLQ.out.1 _ e.symm;omega));obtain⟨g7,c7,rfl⟩:=ownsRow_succ hown7;clear hown7 hg7 hor7)
    |(refine aI _ (by rfl) (.tmp 30) (.tmp 33) 160 (by rfl) w.heap.size 24 i0 (.string ⟨#[]⟩) 1 16 (by kernel_rfl) Hi.out Hz0.out Hz1.out Hz2.out rfl (by omega) (.slice Ac kc cc) k flc (by rfl) (PV2.out.c) _ _ 1 1 [.string x.c] (by rfl) (rdr TV2c.out) (by simp[Value.oneCell']) (by unfold maxLen;omega) (by omega) (FV2.out.low.size) ?_;intro v7 w7 hown7 hg7 hor7;have F7:=ala (FV2.out.grown PV2.out.c hg7);have P7:=ala (PV2.out.appc hown7 hg7 hor7);obtain⟨g7,c7,rfl⟩:=ownsRow_succ hown7;clear hown7 hg7 hor7)
    |(refine aI _ (by rfl) (.tmp 30) (.tmp 33) 160 (by rfl) w.heap.size 24 i0 (.string ⟨#[]⟩) 1 16 (by kernel_rfl) Hi.out Hz0.out Hz1.out Hz2.out rfl (by omega) (.slice Ac kc cc) k flc (by rfl) (PV12.out.c) _ _ 1 1 [.string x.c] (by rfl) (rdr TV12c.out) (by simp[Value.oneCell']) (by unfold maxLen;omega) (by omega) (FV12.out.low.size) ?_;intro v7 w7 hown7 hg7 hor7;have F7:=ala (FV12.out.grown PV12.out.c hg7);have P7:=ala (PV12.out.appc hown7 hg7 hor7);have T7:=ala ((TV12q.out).grownNe hg7 (fun e=>by have:=HLQ.out.2 _ e.symm;omega));obtain⟨g7,c7,rfl⟩:=ownsRow_succ hown7;clear hown7 hg7 hor7)
    |(refine aI _ (by rfl) (.tmp 30) (.tmp 33) 160 (by rfl) w.heap.size 24 i0 (.string ⟨#[]⟩) 1 16 (by kernel_rfl) Hi.out Hz0.out Hz1.out Hz2.out rfl (by omega) (.slice Ac kc cc) k flc (by rfl) (PV21.out.c) _ _ 1 1 [.string x.c] (by rfl) (rdr TV21c.out) (by simp[Value.oneCell']) (by unfold maxLen;omega) (by omega) (FV21.out.low.size) ?_;intro v7 w7 hown7 hg7 hor7;have F7:=ala (FV21.out.grown PV21.out.c hg7);have P7:=ala (PV21.out.appc hown7 hg7 hor7);have T7:=ala ((TV21q.out).grownNe hg7 (fun e=>by have:=HLQ.out.2 _ e.symm;omega));obtain⟨g7,c7,rfl⟩:=ownsRow_succ hown7;clear hown7 hg7 hor7)
    |(refine aI _ (by rfl) (.tmp 30) (.tmp 33) 160 (by rfl) w.heap.size 24 i0 (.string ⟨#[]⟩) 1 16 (by kernel_rfl) Hi.out Hz0.out Hz1.out Hz2.out rfl (by omega) (.slice Ac kc cc) k flc (by rfl) ((P7.out.on (bal w7 _)).c) _ _ 1 1 [.string x.c] (by rfl) (rdr (TBx.new w7 _ _)) (by simp[Value.oneCell']) (by unfold maxLen;omega) (by omega) ((F7.out.on (bal w7 _)).low.size) ?_;intro v8 w8 hown8 hg8 hor8;have F8:=ala ((F7.out.on (bal w7 _)).grown (P7.out.on (bal w7 _)).c hg8);have P8:=ala ((P7.out.on (bal w7 _)).appc hown8 hg8 hor8);obtain⟨g8,c8,rfl⟩:=ownsRow_succ hown8;clear hown8 hg8 hor8)
    |(refine aI _ (by rfl) (.tmp 30) (.tmp 33) 160 (by rfl) w.heap.size 24 i0 (.string ⟨#[]⟩) 1 16 (by kernel_rfl) Hi.out Hz0.out Hz1.out Hz2.out rfl (by omega) (.slice Ac kc cc) k flc (by rfl) (P7.out.c) _ _ 1 1 [.string x.c] (by rfl) (rdr T7.out) (by simp[Value.oneCell']) (by unfold maxLen;omega) (by omega) (F7.out.low.size) ?_;intro v8 w8 hown8 hg8 hor8;have F8:=ala (F7.out.grown P7.out.c hg8);have P8:=ala (P7.out.appc hown8 hg8 hor8);obtain⟨g8,c8,rfl⟩:=ownsRow_succ hown8;clear hown8 hg8 hor8)
    |(refine aI _ (by rfl) (.tmp 25) (.tmp 28) 160 (by rfl) w.heap.size 24 i0 (.string ⟨#[]⟩) 1 16 (by kernel_rfl) Hi.out Hz0.out Hz1.out Hz2.out rfl (by omega) (.slice Aq kq cq) k flq (by rfl) ((P7.out.on (bal w7 _)).q) _ _ 1 1 [.string x.q] (by rfl) (rdr (TBx.new w7 _ _)) (by simp[Value.oneCell']) (by unfold maxLen;omega) (by omega) ((F7.out.on (bal w7 _)).low.size) ?_;intro v8 w8 hown8 hg8 hor8;have F8:=ala ((F7.out.on (bal w7 _)).grown (P7.out.on (bal w7 _)).q hg8);have P8:=ala ((P7.out.on (bal w7 _)).appq hown8 hg8 hor8);obtain⟨g8,c8,rfl⟩:=ownsRow_succ hown8;clear hown8 hg8 hor8)
    |(refine aI _ (by rfl) (.tmp 25) (.tmp 28) 160 (by rfl) w.heap.size 24 i0 (.string ⟨#[]⟩) 1 16 (by kernel_rfl) Hi.out Hz0.out Hz1.out Hz2.out rfl (by omega) (.slice Aq kq cq) k flq (by rfl) (P7.out.q) _ _ 1 1 [.string x.q] (by rfl) (rdr T7.out) (by simp[Value.oneCell']) (by unfold maxLen;omega) (by omega) (F7.out.low.size) ?_;intro v8 w8 hown8 hg8 hor8;have F8:=ala (F7.out.grown P7.out.q hg8);have P8:=ala (P7.out.appq hown8 hg8 hor8);obtain⟨g8,c8,rfl⟩:=ownsRow_succ hown8;clear hown8 hg8 hor8))
    all_goals
     go_wp2_with fail
     go_roundw
     case rel=>
      refine⟨k+1,by omega,by go_num,⟨_,_,_,_,_,_,rfl,rfl⟩,?_,?_⟩
      ·exact⟨F8.out.low,F8.out.mt,F8.out.z,F8.out.pl,F8.out.mt,by decide,F8.out.old⟩
      ·rw[Hq2.out,Hc2.out];exact P8
     case measure=>simp[intOf];omega
theorem adF (C:Int):adG 1 (C:Rat)=C:=by
 rw[pV (by rw[Rat.num_intCast,Rat.den_intCast];simp),Rat.floor_intCast]
theorem uM {A':Option Addr}{n' c':Nat}{l:List Lt}(m:MapS){r pr:Rat}{z:Int}(hn:l.length=n')(hm:n'≤1000)(hz:∀x∈l,x.le 1000)(hr:Vq m.rn m.rd r)(hrf:bH 1000 r)(hsn:m.sn=⟨#[49]⟩)(hsd:m.sd=⟨#[]⟩)(hpp:Vq m.pn m.pd pr)(hpf:bH 1000 pr)(hw:((iv ((av m.ins l).map (·.q))).sum :Rat)*r=(z:Rat))(hms:∀x∈dM (ag (iv ((av m.ins l).map (·.c))).sum) ((av m.ins l).map (·.c)),Fit 3000 x):
 RetO (fun w=>Row w A' (au aa l)) 77 #[.slice A' n' c',mpV m] fun B w' v=>∃p:PlS,v=plV p∧p.m=m∧p.n=(av m.ins l).length ∧p.parts=ag z∧p.an=⟨#[]⟩∧p.ad=⟨#[]⟩∧PlW p (av m.ins l) (dM (ag z) ((av m.ins l).map (·.q))) (dM (ag (iv ((av m.ins l).map (·.c))).sum) ((av m.ins l).map (·.c))) (dM ⟨#[]⟩ ((dM (ag (iv ((av m.ins l).map (·.c))).sum) ((av m.ins l).map (·.c))).map ag)) w'∧si w' p.AP (dM ⟨#[]⟩ ((av m.ins l).map (·.q))):=by
 have hC:Fit 3900 (iv ((av m.ins l).map (·.c))).sum :=by
  have h:=jH (k:=1000) (m:=(iv ((av m.ins l).map (·.c))).length) (ws:=(av m.ins l).map (·.c)) (fun s hs=>by
   obtain⟨x,hx,rfl⟩:=alq.1 hs;exact(hz x (List.mem_filter.1 hx).1).c) (by have:=ol (ins:=m.ins) (l:=l) l.length;rw[aln alK]at this;rw[List.length_map];omega)
  rw[aln alK]at h;exact Fit.mono h (by omega)
 exact ag5 m hn hm hz hr hrf (by rw[hsn,hsd];exact vq1) (fit1.mono (by omega)) (by rw[Rat.one_mul];exact adF _) hC hpp hpf hw hms
end Go.Proofs.YtjknklinhegdoaaGreatDoor
