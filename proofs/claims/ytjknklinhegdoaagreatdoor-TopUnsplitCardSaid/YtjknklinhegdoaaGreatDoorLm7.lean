/- Mappings of lots: the steps. Conditions: lists of bounded length; the library's variables lie as the program's text lays them. -/
import Derived.Test.YtjknklinhegdoaaGreatDoorGag
import Derived.Test.YtjknklinhegdoaaGreatDoorGap
set_option linter.unusedSimpArgs false
set_option linter.unusedVariables false
set_option maxHeartbeats 4000000
set_option maxRecDepth 100000
namespace Go.Proofs.YtjknklinhegdoaaGreatDoor
open Go.RowKit Go.Shelf Dec QQ SP
attribute [local go_sem] Oper.semAt_some
attribute [-go_sem] loadVar
attribute [local go_sem] aiQ
abbrev fJ (x0:ByteArray)(x1:Int)(x2 x3 x4 x5 x6 x7 x8 x9:ByteArray)(x10:Option Addr)(x11 x12:Nat)(x13 x14 x15:ByteArray)(x16:Option Addr)(x17 x18:Nat)(x19:Option Addr)(x20 x21:Nat)(x22:Option Addr)(x23 x24:Nat)(x25:Option Addr)(x26 x27:Nat):Array Value:= #[.string x0,.int .i64 x1,.string x2,.string x3,.string x4,.string x5,.string x6,.string x7,.string x8,.string x9,.bool false,.slice x10 x11 x12,.string x13,.string x14,.string x15,.slice x16 x17 x18,.slice x19 x20 x21,.slice x22 x23 x24,.slice x25 x26 x27]
abbrev ry (x0 x1:ByteArray)(x2 x3:Int)(x4 x5 x6:ByteArray):Array Value:= #[.string x0,.string x1,.int .i64 x2,.int .i64 x3,.string x4,.string x5,.string x6]
theorem akb:(Tryz.prog.info? 9).map (fun i=>(i.zero,i.size,i.bytes))=some (some (.string ⟨#[]⟩),1,16):=by kernel_rfl
def ToR (n k:Nat)(cs:Array Value):Prop:=cs.size=n∧∀i,i<n→∃s:ByteArray,cs[i]? =some (.string s)∧(i<k→(s.toList== [])=false)
theorem ToR.made (n:Nat):ToR n 0 (madeCells #[.string ⟨#[]⟩] n):=by
 refine⟨size_madeCells _ _,fun i hi=>⟨⟨#[]⟩,?_,fun h=>absurd h (by omega)⟩⟩;rw[Array.getElem?_eq_getElem (by rw[size_madeCells];exact hi)];simp[madeCells,Nat.mod_one]
theorem ToR.set {n k:Nat}{cs:Array Value}(h:ToR n k cs)(hk:k<n){s:ByteArray}(hs:(s.toList== [])=false):ToR n (k+1) (cs.setIfInBounds k (.string s)):=by
 refine⟨by simp[h.1],fun i hi=>?_⟩;by_cases e:i=k
 ·subst e
  exact⟨s,by simp[h.1,hk],fun _=>hs⟩
 ·obtain⟨t,h1,h2⟩:=h.2 i hi
  refine⟨t,?_,fun h3=>h2 (by omega)⟩;rw[←h1];simp[Array.getElem?_setIfInBounds,Ne.symm e]
structure SSt (w:World) (pc:Array Value) (n l0 D:Nat) (rec:Loop) (k:Nat) (W:World):Prop where
 low:Below w.heap.size w W
 pb:TBx W w.heap.size pc 162
 st:TBx W (w.heap.size+1) #[.slice none 0 0] 38
 tr:∃cs,ToR n k cs∧TBx W (w.heap.size+2) cs 9
 tv:TBx W (w.heap.size+3) #[.slice (some ⟨w.heap.size+2,0,none⟩) n n] 243
 pf:TBx W (w.heap.size+4) pc 162
 lp:W.heap[l0]? =some (.loop rec)
 df:W.heap[D]? =some (.deferred (some []))
theorem SSt.up {w:World}{pc:Array Value}{n l0 D k:Nat}{rec:Loop}{W W':World}(h:SSt w pc n l0 D rec k W)(hb:Below W.heap.size W W'):SSt w pc n l0 D rec k W':=by
 obtain⟨cs,h1,h2⟩:=h.tr;exact⟨h.low.trans (hb.mono h.low.size),h.pb.on hb,h.st.on hb,⟨cs,h1,h2.on hb⟩,h.tv.on hb,h.pf.on hb,(hb.block l0 (alc.1 h.lp).1).trans h.lp,(hb.block D (alc.1 h.df).1).trans h.df⟩
theorem TBx.put {w:World}{b l:Nat}{cs:Array Value}{T:TypeId}(h:TBx w b cs T)(hne:b≠l)(o:Obj):TBx (w.putObj l o) b cs T:=(World.putObj_heap_other hne).trans h
theorem TBx.other {w:World}{b c:Nat}{cs:Array Value}{T:TypeId}(h:TBx w b cs T)(hne:b≠c)(i:Nat)(v:Value):TBx (w.setCell ⟨c,i,none⟩ v) b cs T:=(alv w _ v b hne).trans h
theorem TBx.set {w:World}{b:Nat}{cs:Array Value}{T:TypeId}(h:TBx w b cs T)(i:Nat)(v:Value):TBx (w.setCell ⟨b,i,none⟩ v) b (cs.setIfInBounds i v) T:=by
 have h':w.heap[b]? =some (.cells cs T (0,0)):=h;show (w.setCell ⟨b,i,none⟩ v).heap[b]? =_;simp[World.setCell,Array.getElem?_modify,h']
theorem SSt.round {w:World}{pc:Array Value}{n l0 D k:Nat}{rec:Loop}{W:World}(h:SSt w pc n l0 D rec k W)(hk:k<n)(hl:w.heap.size+5≤l0)(hD:w.heap.size+5≤D)(hne:D≠l0)(o1 o2:Obj){s:ByteArray}(hs:(s.toList== [])=false):
 SSt w pc n l0 D rec (k+1) ((((W.alloc o1).putObj l0 o2).setCell ⟨w.heap.size+2,k,none⟩ (.string s)).putObj l0 (.loop rec)):=by
 have h1:=h.up ((alJ W.heap.size W).alloc alK o1);obtain⟨cs,hc1,hc2⟩:=h1.tr;have hll:l0<(W.alloc o1).heap.size :=(alc.1 h1.lp).1;have b1:=aJ h1.low (by omega:w.heap.size≤l0) o2;have b2:=b1.setCell (p:=⟨w.heap.size+2,k,none⟩) (by show w.heap.size≤w.heap.size+2;omega) (.string s);refine⟨aJ b2 (by omega) _,((h1.pb.put (by omega) _).other (by omega) _ _).put (by omega) _,((h1.st.put (by omega) _).other (by omega) _ _).put (by omega) _,⟨_,hc1.set hk hs,((hc2.put (by omega) _).set k (.string s)).put (by omega) _⟩,((h1.tv.put (by omega) _).other (by omega) _ _).put (by omega) _,((h1.pf.put (by omega) _).other (by omega) _ _).put (by omega) _,World.putObj_heap_same ?_,?_⟩
 ·exact alx hll (by simp)
 ·refine(World.putObj_heap_other hne).trans ((alv _ _ _ _ ?_).trans ((World.putObj_heap_other hne).trans h1.df))
  show D≠w.heap.size+2;omega
structure S2t (w:World) (pc:Array Value) (n D M:Nat) (W:World):Prop where
 low:Below w.heap.size w W
 pb:TBx W w.heap.size pc 162
 st:ac6 w.heap.size (w.heap.size+1) M W
 tr:∃cs,ToR n n cs∧TBx W (w.heap.size+2) cs 9
 tv:TBx W (w.heap.size+3) #[.slice (some ⟨w.heap.size+2,0,none⟩) n n] 243
 df:W.heap[D]? =some (.deferred (some []))
theorem S2t.up {w:World}{pc:Array Value}{n D M:Nat}{W W':World}(h:S2t w pc n D M W)(hb:Below W.heap.size W W'):S2t w pc n D M W':=by
 obtain⟨cs,h1,h2⟩:=h.tr;exact⟨h.low.trans (hb.mono h.low.size),h.pb.on hb,h.st.on hb,⟨cs,h1,h2.on hb⟩,h.tv.on hb,(hb.block D (alc.1 h.df).1).trans h.df⟩
theorem S2t.left {w:World}{pc:Array Value}{n D M:Nat}{W W':World}(h:S2t w pc n D M W)(hl:SLeft w.heap.size (w.heap.size+1) (M+1) W W')(hD:D≠w.heap.size+1):S2t w pc n D (M+1) W':=by
 obtain⟨cs,h1,h2⟩:=h.tr;exact⟨h.low.trans hl.low,hl.tb h.pb (by omega) (by decide),hl.st,⟨cs,h1,hl.tb h2 (by omega) (by decide)⟩,hl.tb h.tv (by omega) (by decide),hl.far _ _ h.df hD (fun cur e=>by cases e)⟩
theorem idS_ne (cause:ByteArray)(k:Nat):((idS cause k).toList == [])=false:=by
 have h:(idS cause k).size ≠0:=by
  unfold idS;rw[ByteArray.size_append,ByteArray.size_append];show cause.size+1+_≠0;omega
 cases hq:((idS cause k).toList == [])with
 |false=>rfl
 |true=>
  have h2:(idS cause k).toList =[]:=by simpa using hq
  rw[aD]at h2;exact absurd (by rw[bP];rw[h2];rfl) h
theorem ab6 (p:PlS){old:List Lt}{ns ms fs:List Int}{K:Nat}(hk:p.m.keep=false)(hq:(p.parts.toList== [])=false)(hp:PlOk p old ns ms fs K)(hn0:1≤p.n)(w:World)(hl:PlW p old ns ms fs w):
 Calls Tryz.prog 81 #[plV p] w fun e w'=>(∃A n c,e= .returned (.slice A n c))∧Below w.heap.size w w':=by
 have HP:=ala hp;have HL:=ala hl;have hnn:=hp.n;have KF:=mO p;obtain⟨p0,hp0⟩:∃q,p=q:=⟨_,rfl⟩;have HP0:=ala hp0;obtain⟨⟨cause,day,ins,oth,rn,rd,sn,sd,pn,pd,keep⟩,A,n,c,parts,an,ad,AN,cN,AM,cM,AF,cF,AP,cP⟩:=p;dsimp only[plV,plA]at*
 subst hk;clear hp hl hp0;replace HP:Hid (PlOk p0 old ns ms fs K):=by rw[←HP0.out];exact HP
 replace HL:Hid (PlW p0 old ns ms fs w):=by rw[←HP0.out];exact HL
 have HC:Hid (plA p0=(fJ cause day ins oth rn rd sn sd pn pd A n c parts an ad AN n cN AM n cM AF n cF AP n cP)):=by show plA p0=_;rw[←HP0.out];rfl
 have HCa:Hid (p0.m.cause=cause∧p0.n=n):=by rw[←HP0.out];exact⟨rfl,rfl⟩
 have HM:∀u:World,(Instr.makeSlice 243 (.int .i64 (n:Int)) (.int .i64 (n:Int))).run Tryz.prog u= .ok (.slice (some ⟨u.heap.size,0,none⟩) n n) (u.alloc (.cells (madeCells #[.string ⟨#[]⟩] n) 9)):=by
  intro u;obtain⟨i0,hi,hz0,hz1,hz2⟩:=info_parts akb;have:=run_make u 243 9 i0 (.string ⟨#[]⟩) (by kernel_rfl) hi hz0 .i64 .i64 (n:Int) (n:Int) (by omega) (Int.le_refl _) (by rw[hz2];omega) (by omega);rw[hz1,Int.toNat_natCast,Nat.mul_one]at this;exact this
 have a1:=TBx.new w (fJ cause day ins oth rn rd sn sd pn pd A n c parts an ad AN n cN AM n cM AF n cF AP n cP) 162;have b1:=TBx.new (w.alloc (.cells (fJ cause day ins oth rn rd sn sd pn pd A n c parts an ad AN n cN AM n cM AF n cF AP n cP) 162)) #[.slice none 0 0] 38;have c1:=TBx.new ((w.alloc (.cells (fJ cause day ins oth rn rd sn sd pn pd A n c parts an ad AN n cN AM n cM AF n cF AP n cP) 162)).alloc (.cells #[.slice none 0 0] 38)) (madeCells #[.string ⟨#[]⟩] n) 9;have d1:=TBx.new (((w.alloc (.cells (fJ cause day ins oth rn rd sn sd pn pd A n c parts an ad AN n cN AM n cM AF n cF AP n cP) 162)).alloc (.cells #[.slice none 0 0] 38)).alloc (.cells (madeCells #[.string ⟨#[]⟩] n) 9)) #[.slice (some ⟨w.heap.size+2,0,none⟩) n n] 243;have hb4:Below w.heap.size w ((((w.alloc (.cells (fJ cause day ins oth rn rd sn sd pn pd A n c parts an ad AN n cN AM n cM AF n cF AP n cP) 162)).alloc (.cells #[.slice none 0 0] 38)).alloc (.cells (madeCells #[.string ⟨#[]⟩] n) 9)).alloc (.cells #[.slice (some ⟨w.heap.size+2,0,none⟩) n n] 243)):=((alL.alloc (by simp) _).alloc (by simp;omega) _).alloc (by simp;omega) _;have a4:=((a1.alloc (.cells #[.slice none 0 0] 38)).alloc (.cells (madeCells #[.string ⟨#[]⟩] n) 9)).alloc (.cells #[.slice (some ⟨w.heap.size+2,0,none⟩) n n] 243);have b4:=(b1.alloc (.cells (madeCells #[.string ⟨#[]⟩] n) 9)).alloc (.cells #[.slice (some ⟨w.heap.size+2,0,none⟩) n n] 243);have c4:=c1.alloc (.cells #[.slice (some ⟨w.heap.size+2,0,none⟩) n n] 243);have s4:((((w.alloc (.cells (fJ cause day ins oth rn rd sn sd pn pd A n c parts an ad AN n cN AM n cM AF n cF AP n cP) 162)).alloc (.cells #[.slice none 0 0] 38)).alloc (.cells (madeCells #[.string ⟨#[]⟩] n) 9)).alloc (.cells #[.slice (some ⟨w.heap.size+2,0,none⟩) n n] 243)).heap.size =w.heap.size+4:=by simp
 simp only[alf]at b4 c4 d1;have k1:=(a1.alloc (.cells #[.slice none 0 0] 38)).bx.cell (i:=11) (v:=.slice A n c) rfl;have kp:=a4.bx.plan rfl;clear a1 b1 c1;refine(callsIn_wide (n:=6)).1 ?_;refine callsIn_of_wp_marks Tryz.func81 rfl trivial ?_ rfl;simp only[Tryz.ntmps81,List.size_toArray,aly,List.length_nil,Nat.reduceAdd,Nat.reduceSub,Array.replicate_succ,Array.replicate_zero,List.push_toArray,List.append_toArray,List.nil_append,List.cons_append]
 gi_wp2_with fail
 refine⟨trivial,(callsIn_wide).2 ((KF _).mono ?_)⟩;rintro e w5 ⟨rfl,rfl⟩;have hb5:Below w.heap.size w (((((w.alloc (.cells (fJ cause day ins oth rn rd sn sd pn pd A n c parts an ad AN n cN AM n cM AF n cF AP n cP) 162)).alloc (.cells #[.slice none 0 0] 38)).alloc (.cells (madeCells #[.string ⟨#[]⟩] n) 9)).alloc (.cells #[.slice (some ⟨w.heap.size+2,0,none⟩) n n] 243)).alloc (.cells (fJ cause day ins oth rn rd sn sd pn pd A n c parts an ad AN n cN AM n cM AF n cF AP n cP) 162)):=hb4.alloc (by rw[s4];omega) _;have a5:=a4.alloc (.cells (fJ cause day ins oth rn rd sn sd pn pd A n c parts an ad AN n cN AM n cM AF n cF AP n cP) 162);have b5:=b4.alloc (.cells (fJ cause day ins oth rn rd sn sd pn pd A n c parts an ad AN n cN AM n cM AF n cF AP n cP) 162);have c5:=c4.alloc (.cells (fJ cause day ins oth rn rd sn sd pn pd A n c parts an ad AN n cN AM n cM AF n cF AP n cP) 162);have d5:=d1.alloc (.cells (fJ cause day ins oth rn rd sn sd pn pd A n c parts an ad AN n cN AM n cM AF n cF AP n cP) 162);have e5:=TBx.new ((((w.alloc (.cells (fJ cause day ins oth rn rd sn sd pn pd A n c parts an ad AN n cN AM n cM AF n cF AP n cP) 162)).alloc (.cells #[.slice none 0 0] 38)).alloc (.cells (madeCells #[.string ⟨#[]⟩] n) 9)).alloc (.cells #[.slice (some ⟨w.heap.size+2,0,none⟩) n n] 243)) (fJ cause day ins oth rn rd sn sd pn pd A n c parts an ad AN n cN AM n cM AF n cF AP n cP) 162;have s5:(((((w.alloc (.cells (fJ cause day ins oth rn rd sn sd pn pd A n c parts an ad AN n cN AM n cM AF n cF AP n cP) 162)).alloc (.cells #[.slice none 0 0] 38)).alloc (.cells (madeCells #[.string ⟨#[]⟩] n) 9)).alloc (.cells #[.slice (some ⟨w.heap.size+2,0,none⟩) n n] 243)).alloc (.cells (fJ cause day ins oth rn rd sn sd pn pd A n c parts an ad AN n cN AM n cM AF n cF AP n cP) 162)).heap.size =w.heap.size+5:=by simp
 obtain⟨W5,hW5⟩:∃W5,((((w.alloc (.cells (fJ cause day ins oth rn rd sn sd pn pd A n c parts an ad AN n cN AM n cM AF n cF AP n cP) 162)).alloc (.cells #[.slice none 0 0] 38)).alloc (.cells (madeCells #[.string ⟨#[]⟩] n) 9)).alloc (.cells #[.slice (some ⟨w.heap.size+2,0,none⟩) n n] 243)).alloc (.cells (fJ cause day ins oth rn rd sn sd pn pd A n c parts an ad AN n cN AM n cM AF n cF AP n cP) 162)=W5:=⟨_,rfl⟩;rw[s4]at e5⊢
 rw[hW5]at hb5 a5 b5 c5 d5 e5 s5⊢
 replace s5:=Nat.le_of_eq s5.symm;clear a4 b4 c4 d1 hb4 s4 kp k1 hW5;simp only[]
 gi_wp2_with fail
 refine gu rfl (by omega) rfl trivial (enters_of Tryz.func151 (by kernel_rfl) rfl) ?_;intro fn hfn r hr;have hst:r.state= .ready :=by rw[hr]
 have hpe:r.pending=none:=by rw[hr]
 have HS:Hid (SSt w (fJ cause day ins oth rn rd sn sd pn pd A n c parts an ad AN n cN AM n cM AF n cF AP n cP) n (W5.heap.size+1) W5.heap.size r 0 ((W5.alloc (.deferred (some []))).alloc (.loop r))):=by
  have hbb:Below W5.heap.size W5 ((W5.alloc (.deferred (some []))).alloc (.loop r)):=alL.alloc (by simp) _;refine⟨hb5.trans (hbb.mono hb5.size),a5.on hbb,b5.on hbb,⟨_,ToR.made n,c5.on hbb⟩,d5.on hbb,e5.on hbb,?_,?_⟩
  ·have:=World.alloc_heap_new (W5.alloc (.deferred (some []))) (.loop r)
   rwa[alf]at this
  ·exact(Below.heap_alloc _ _ _ (by simp)).trans (World.alloc_heap_new W5 _)
 refine(vJ (p:=p0) (W5.heap.size+1) (w.heap.size+4) HP.out (fun k W=>SSt w (fJ cause day ins oth rn rd sn sd pn pd A n c parts an ad AN n cN AM n cM AF n cF AP n cP) n (W5.heap.size+1) W5.heap.size r k W) (fun W=>False) (fun k W h=>⟨HL.out.on h.low,by unfold PBox;rw[HC.out];exact h.pf⟩) (fun k W W' h hb=>h.up hb) ?_ _ HS.out).mono ?_
 ·intro k W1 x hk hx hG
  have hy:=run_yield (P:=Tryz.prog) (args:= #[.int .i64 (k:Int),ltV (frL p0.m x k ns[k]! ms[k]! fs[k]!)]) hG.lp (by rw[hr];rfl);refine⟨_,_,_,_,hy,roundIn_of_wpIn (by rw[hr];exact hfn) ?_⟩;have e1:=congrArg Loop.assign hr;have e2:=congrArg Loop.body hr;have e3:=congrArg Loop.tmps hr;have e4:=congrArg Loop.params hr;dsimp only at e1 e2 e3 e4;rw[e1,e2,e3,e4];have HG:=ala hG;have Hst:=ala hst;have Hpe:=ala hpe;clear e1 e2 e3 e4 hr hy hG hst hpe HS hx;have hkn:k<n:=by have:=HCa.out.2;omega
  have hid:=idS_ne p0.m.cause (k+1);dsimp only[ltV,ltA,frL];generalize idS p0.m.cause (k+1)=nid at*
  generalize ag ns[k]! =c1 at*
  generalize ag (ms[k]! -fs[k]!)=c2 at*
  gi_wp2_with fail
  have HGa:=ala (HG.out.up ((alJ W1.heap.size W1).alloc alK (.cells (ry nid p0.m.oth x.acq x.opn c1 c2 c1) 47)));refine⟨_,run_beginRound HGa.out.lp Hst.out,?_⟩;have hl0:W1.heap.size≠W5.heap.size+1:=by have:=(alc.1 HG.out.lp).1;omega
  have XP:Bx ((W1.alloc (.cells (ry nid p0.m.oth x.acq x.opn c1 c2 c1) 47)).putObj (W5.heap.size+1) (.loop {r with state:=.busy})) W1.heap.size (ry nid p0.m.oth x.acq x.opn c1 c2 c1):=⟨_,(World.putObj_heap_other hl0).trans (aZ W1 _)⟩;have VP:=HGa.out.tv.put (by omega:w.heap.size+3≠W5.heap.size+1) (.loop {r with state:=.busy});obtain⟨cs,hcs,hct⟩:=HGa.out.tr;have TP:=hct.put (by omega:w.heap.size+2≠W5.heap.size+1) (.loop {r with state:=.busy});have HRR:=ala (HG.out.round hkn (by omega) (by omega) (by omega) (.cells (ry nid p0.m.oth x.acq x.opn c1 c2 c1) 47) (.loop {r with state:=.busy}) hid);obtain⟨WP,hWP⟩:∃WP,(W1.alloc (.cells (ry nid p0.m.oth x.acq x.opn c1 c2 c1) 47)).putObj (W5.heap.size+1) (.loop {r with state:=.busy})=WP:=⟨_,rfl⟩;have hlpP:WP.heap[W5.heap.size+1]? =some (.loop {r with state:=.busy}):=by rw[←hWP];exact World.putObj_heap_same (alc.1 HGa.out.lp).1
  rw[hWP]at XP VP TP HRR⊢
  obtain⟨t,ht1,ht2⟩:=hcs.2 k hkn;have z0:=XP.cell (i:=0) (v:=.string nid) rfl;have vc:=VP.bx.cell (i:=0) (v:=.slice (some ⟨w.heap.size+2,0,none⟩) n n) rfl;have tc:=TP.bx.cell (i:=k) (v:=.string t) ht1;have tf:=TP.bx.frozen k;have qk:decide (k<n)=true:=alI hkn;have qk2:(k:Int)<(n:Int):=by omega
  have hlpS:(WP.setCell ⟨w.heap.size+2,k,none⟩ (.string nid)).heap[W5.heap.size+1]? =some (.loop {r with state:=.busy}):=(alv _ _ _ _ (by show W5.heap.size+1≠w.heap.size+2;omega)).trans hlpP;have HLS:=ala hlpS;clear hWP hcs hct hid ht1 ht2 hlpP hlpS XP VP TP
  gi_wp2_with fail
  refine⟨_,_,run_endRound none HLS.out,.inl ⟨rfl,?_⟩⟩;have hlr:({r with state:=if (none:Option Code).isNone then LoopState.ready else .done,pending:=none}:Loop)=r:=by have h1:=Hst.out;have h2:=Hpe.out;cases r;simp_all
  show SSt _ _ _ _ _ _ _ (World.putObj _ _ (.loop {r with state:=if (none:Option Code).isNone then LoopState.ready else .done,pending:=none}));rw[hlr];exact HRR.out
 ·rintro e W4 ⟨⟨v,rfl⟩,hor⟩
  have hG:=hor.resolve_right (fun h=>h);clear hor;obtain⟨o5,ho5⟩:∃o5:Obj,o5= .loop {r with state:=.exhausted}:=⟨_,rfl⟩;have hend:=run_endLoop (P:=Tryz.prog) hG.lp (by rw[hst];decide);rw[←ho5]at hend;clear ho5;rw[hpe]at hend;have hlp:W5.heap.size+1<W4.heap.size:=(alc.1 hG.lp).1;have hb6:Below w.heap.size w (W4.putObj (W5.heap.size+1) o5):=aJ hG.low (by omega) _;have a6:=hG.pb.put (by omega:w.heap.size≠W5.heap.size+1) o5;have b6:=hG.st.put (by omega:w.heap.size+1≠W5.heap.size+1) o5;obtain⟨cs,hcs,hct⟩:=hG.tr;have c6:=hct.put (by omega:w.heap.size+2≠W5.heap.size+1) o5;have d6:=hG.tv.put (by omega:w.heap.size+3≠W5.heap.size+1) o5;have df6:(W4.putObj (W5.heap.size+1) o5).heap[W5.heap.size]? =some (.deferred (some [])):=(World.putObj_heap_other (by omega)).trans hG.df;obtain⟨W6,hW6⟩:∃W6,W4.putObj (W5.heap.size+1) o5=W6:=⟨_,rfl⟩;rw[hW6]at hend hb6 a6 b6 c6 d6 df6;refine⟨none,W6,hend,?_⟩;have HA6:=ala a6;have HB6:Hid (ac6 w.heap.size (w.heap.size+1) 0 W6):=⟨_,0,[],Nat.le_refl _,b6,World.ownsRow_nil _ _ _ _⟩;have HC6:Hid (∃cs,ToR n n cs∧TBx W6 (w.heap.size+2) cs 9):=⟨cs,by rw[HCa.out.2]at hcs;exact hcs,c6⟩;have HD6:=ala d6;have HF6:=ala df6;have HBB:=ala hb6;have x11:=a6.bx.cell (i:=11) (v:=.slice A n c) rfl;clear hr hG hst hpe HS hW6 hend hcs hct c6 a6 b6 d6 df6 hb6 hlp;simp only[];have H2:Hid (S2t w (fJ cause day ins oth rn rd sn sd pn pd A n c parts an ad AN n cN AM n cM AF n cF AP n cP) n W5.heap.size 0 W6):=⟨HBB.out,HA6.out,HB6.out,HC6.out,HD6.out,HF6.out⟩;clear HA6 HB6 HC6 HD6 HF6 HBB
  gi_wp2_with fail
  refine wpIn_wide.2 ?_;clear x11;simp only[List.cons_append,List.nil_append]
  go_loopw [28] (fun s wr=>∃k:Nat,k≤n∧s= .int .i64 (k:Int)∧Hid (S2t w (fJ cause day ins oth rn rd sn sd pn pd A n c parts an ad AN n cN AM n cM AF n cF AP n cP) n W5.heap.size (2*k) wr)) (fun s _=>(n-intOf s).toNat)
  case atStart=>exact⟨0,by omega,rfl,H2⟩
  case round=>
   clear H2;obtain⟨k,hk,rfl,H⟩:=hrel;by_cases hkn:k=n
   ·subst hkn
    have q:decide ((k:Int)<(k:Int))=false:=alH (by omega);obtain⟨v,m,xs,hm,hv,hown⟩:=H.out.st;have vc:=hv.bx.cell (i:=0) (v:=v) rfl;clear hv hm;have hvv:∃A n c,v= .slice A n c:=by
     rcases hown.2 with ⟨rfl,_⟩|⟨g,cap,cur,rfl,_⟩
     ·exact⟨_,_,_,rfl⟩
     ·exact⟨_,_,_,rfl⟩
    obtain⟨Av,nv,cv,rfl⟩:=hvv;clear hown
    go_wp2_with fail
    gi_wp2_with fail
    refine⟨by simp,.inl ⟨_,_,rfl,run_takeDeferred H.out.df,?_⟩⟩;refine⟨_,results_tmp rfl _ _ _,⟨_,_,_,rfl⟩,aJ H.out.low (by omega) _⟩
   ·have hkl:k<n:=by omega
    have q:decide ((k:Int)<(n:Int))=true:=alI (by omega);have qn:(k:Int)<(n:Int):=by omega
    have qn2:decide (k<n)=true:=alI hkl;have hnp:=HCa.out.2;obtain⟨x,hx⟩:∃x,old[k]? =some x:=⟨old[k]'(by have:=HP.out.lo;omega),by simp⟩;have hA0:p0.A=A∧p0.AN=AN∧p0.AM=AM∧p0.AF=AF:=by rw[←HP0.out];exact⟨rfl,rfl,rfl,rfl⟩
    obtain⟨b2,o2,e2,l2,hcells⟩:=eT (cs:=aa) (m:=7) aM (by decide) (HL.out.on H.out.low).ro hx;obtain⟨y0,y1,y2,y3,y4,y5,y6⟩:=eD hcells;rw[hA0.1]at e2;have KMV:=tu p0 HP.out.lm HP.out.lf (by omega:k<p0.n) HP.out.kk HP.out.zm HP.out.zf (by omega);have hpv:plV p0= .agg (fJ cause day ins oth rn rd sn sd pn pd A n c parts an ad AN n cN AM n cM AF n cF AP n cP):=by rw[←HC.out];rfl
    rw[hpv,hA0.2.2.1,hA0.2.2.2]at KMV;have hba:Below wr.heap.size wr (wr.alloc (.cells (ry x.id x.ins x.acq x.opn x.q x.c x.u) 47)):=alL;have HA:=ala (H.out.up hba);have BD:=TBx.new wr (ry x.id x.ins x.acq x.opn x.q x.c x.u) 47;have x11:=H.out.pb.bx.cell (i:=11) (v:=.slice A n c) rfl;subst e2;generalize ag (ms[k]! -fs[k]!)=cm at*
    clear hcells hx;have hgA:Gl (wr.alloc (.cells (ry x.id x.ins x.acq x.opn x.q x.c x.u) 47)):=HL.out.gl.below HA.out.low;have hsA:St w (wr.alloc (.cells (ry x.id x.ins x.acq x.opn x.q x.c x.u) 47)):=⟨HL.out.gl,HA.out.low⟩;obtain⟨cs,hcs,hct⟩:=HA.out.tr;obtain⟨t,ht1,ht2⟩:=hcs.2 k hkl;replace ht2:=ht2 hkl;have PBA:=HA.out.pb;have TVA:=HA.out.tv;have vq:=BD.bx.cell (i:=4) (v:=.string x.q) rfl;have vk:=PBA.bx.cell (i:=10) (v:=.bool false) rfl;have vp:=PBA.bx.cell (i:=12) (v:=.string parts) rfl;have vt:=TVA.bx.cell (i:=0) (v:=.slice (some ⟨w.heap.size+2,0,none⟩) n n) rfl;have vr:=hct.bx.cell (i:=k) (v:=.string t) ht1
    go_wp2_with fail
    have hbxl:w.heap.size+3<wr.heap.size:=(alc.1 H.out.tv).1;have hWn:wr.heap.size<(wr.alloc (.cells (ry x.id x.ins x.acq x.opn x.q x.c x.u) 47)).heap.size :=by simp
    have hRN:=(HL.out.on HA.out.low).rn;have hRM:=(HL.out.on HA.out.low).rm;have hRF:=(HL.out.on HA.out.low).rf;rw[hA0.2.1]at hRN;rw[hA0.2.2.1]at hRM;rw[hA0.2.2.2]at hRF;obtain⟨bN,oN,eN,lN,cNk⟩:=hRN.at (k:=k) (by have:=HP.out.ln;omega);obtain⟨bF,oF,eF,lF,cFk⟩:=hRF.at (k:=k) (by have:=HP.out.lf;omega);subst eN eF;generalize ag (ns[k]'(by have:=HP.out.ln;omega))=nk at*
    generalize ag (fs[k]'(by have:=HP.out.lf;omega))=fk at*
    obtain⟨W7,hW7⟩:∃W7,wr.alloc (.cells (ry x.id x.ins x.acq x.opn x.q x.c x.u) 47)=W7:=⟨_,rfl⟩;rw[hW7]at HA BD hgA hsA hct PBA TVA hWn vr hRM hRF lN cNk lF cFk⊢
    generalize wr.heap.size=bx at*
    have kpl0:∀u:Kept W7,(loadVar 162 ⟨w.heap.size,0,none⟩).run Tryz.prog u.W= .ok (.agg (fJ cause day ins oth rn rd sn sd pn pd (some ⟨b2,o2,none⟩) n c parts an ad (some ⟨bN,oN,none⟩) n cN AM n cM (some ⟨bF,oF,none⟩) n cF AP n cP)) u.W:=fun u=>(PBA.on u.low).bx.plan rfl
    have kf0:=PBA.bx.keeps (i:=0) (v:=.string cause) rfl;have kf15:=PBA.bx.keeps (i:=15) (v:=.slice (some ⟨bN,oN,none⟩) n cN) rfl;have kx0:=BD.bx.keeps (i:=0) (v:=.string x.id) rfl;have kv0:=TVA.bx.keeps (i:=0) (v:=.slice (some ⟨w.heap.size+2,0,none⟩) n n) rfl;have kt0:=hct.bx.keeps (i:=k) (v:=.string t) ht1;have kn0:∀u:Kept W7,u.W.cell? ⟨bN,oN+k,none⟩=some (.string nk):=Kept.cell_of cNk;have hII:∀u:Kept W7,si u.W AM ms∧si u.W (some ⟨bF,oF,none⟩) fs:=fun u=>⟨hRM.on u.low,hRF.on u.low⟩
    refine bI 20 (by kernel_rfl) (by kernel_rfl) ?_;simp only[List.take_succ_cons,List.take_zero,List.drop_succ_cons,List.drop_zero]
    repeat (go_big_quiet_step (first|(with_reducible exact dK KMV (St.refl hgA) hII)))
    refine wpQuiet_nil ?_;rintro _ ⟨u,rfl⟩;have HU1:=ala (HA.out.up u.low);have hsu:w.heap.size≤u.W.heap.size:=HU1.out.low.size;have HBD:=ala BD;have HLW:=ala u.low;clear kpl0 kf0 kf15 kx0 kv0 kt0 kn0 hII KMV vt vr
    go_wp2_with fail
    refine(abH _ _ _ _ _ _ u.W (by omega) (by omega) hsu HU1.out.st).mono ?_;rintro e w8 ⟨⟨v8,rfl⟩,hl8⟩;have HL8:=ala hl8;have HU2:=ala (HU1.out.left hl8 (by omega));have BD8:=hl8.tb (BD.on u.low) (by omega) (by decide);clear hl8
    go_wp2_with fail
    have hRF8:=(HL.out.on HU2.out.low).rf;rw[hA0.2.2.2]at hRF8;obtain⟨bG,oG,eG,lG,cGk⟩:=hRF8.at (k:=k) (by have:=HP.out.lf;omega);injection eG with eG
    injection eG with eG1 eG2
    subst eG1 eG2;generalize ag (fs[k]'(by have:=HP.out.lf;omega))=fk8 at*
    have PB8:=HU2.out.pb;have kf0:=PB8.bx.keeps (i:=0) (v:=.string cause) rfl;have kf17:=PB8.bx.keeps (i:=17) (v:=.slice (some ⟨bF,oF,none⟩) n cF) rfl;have kx0:=BD8.bx.keeps (i:=0) (v:=.string x.id) rfl;have kn0:∀u:Kept w8,u.W.cell? ⟨bF,oF+k,none⟩=some (.string fk8):=Kept.cell_of cGk;refine bI 13 (by kernel_rfl) (by kernel_rfl) ?_;simp only[List.take_succ_cons,List.take_zero,List.drop_succ_cons,List.drop_zero]
    repeat (go_big_quiet_step (fail))
    refine wpQuiet_nil ?_;rintro _ ⟨u8,rfl⟩;have HU3:=ala (HU2.out.up u8.low);have hsu8:w.heap.size≤u8.W.heap.size:=HU3.out.low.size;clear kf0 kf17 kx0 kn0 BD8 PB8 cGk
    go_wp2_with fail
    refine(abH _ _ _ _ _ _ u8.W (by omega) (by omega) hsu8 HU3.out.st).mono ?_;rintro e w9 ⟨⟨v9,rfl⟩,hl9⟩;have HU4:=ala (HU3.out.left hl9 (by omega));rw[show 2*k+1+1=2*(k+1)by omega]at HU4;clear hl9
    go_wp2_with fail
    go_roundw
    case rel=>exact⟨k+1,by omega,by go_num,HU4⟩
    case measure=>simp[intOf];omega
end Go.Proofs.YtjknklinhegdoaaGreatDoor
