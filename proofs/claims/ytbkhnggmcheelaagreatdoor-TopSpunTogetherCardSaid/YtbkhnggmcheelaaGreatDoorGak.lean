/- TopSpunTogether: Allocation. Conditions: bounded sizes; variables as laid. -/
import Derived.Test.YtbkhnggmcheelaaGreatDoorGaj
import Derived.Test.YtbkhnggmcheelaaGreatDoorGai
set_option maxHeartbeats 4000000
set_option maxRecDepth 100000
namespace Go.Proofs.YtbkhnggmcheelaaGreatDoor
open Proofs.Tryz
section
open Go.RowKit Go.Shelf Go.Sort SP Dec
def cfO {m:Nat}(r:List Int)(x y:Fin (m+1)):Int:=if dW (at0 r y.val) (at0 r x.val)=0 then dW (x.val:Int) (y.val:Int)else dW (at0 r y.val) (at0 r x.val)
theorem ny {m:Nat}(r:List Int)(x y:Fin (m+1)):ltC (cfO r) x y=jg r x.val y.val:=by
 unfold ltC;rw[Bool.eq_iff_iff,decide_eq_true_eq,ek];unfold cfO dW
 repeat' split
 all_goals omega
theorem ame {m:Nat}(r:List Int):SWO (ltC (cfO (m:=m) r)) where
 irrefl:=fun x=>by rw[ny];exact pg _ _
 trans:=fun x y z h1 h2=>by rw[ny]at*;exact abg h1 h2
 ntrans:=fun x y z h1 h2=>by
  rw[ny]at*
  rw[<-Bool.not_eq_true,ek]at*
  omega
theorem ajv {m B RB:Nat}{rs:List BA}(hrs:rs.length=m+1)(hz:∀s∈rs,s.size<=1000000)(x y:Fin (m+1))(w:World)(hg:Gl w)(hbox:w.cell? ⟨B,0,none⟩=some (.slice (some ⟨RB,0,none⟩) (m+1) (m+1)))(hrow:Row w (some ⟨RB,0,none⟩) (rs.map sv)):
 Calls prog 258 #[.int .i64 (x.val:Int),.int .i64 (y.val:Int),.pointer (some ⟨B,0,none⟩)] w fun e w'=>e= .returned (.int .i64 (cfO (iv rs) x y))/\Below w.heap.size w w':=by
 have hs:=St.refl hg;obtain⟨xi,hx⟩:=x;obtain⟨yi,hy⟩:=y;obtain⟨sx,hsx⟩:∃s,rs[xi]? =some s:=⟨rs[xi]'(by omega),by simp⟩;obtain⟨sy,hsy⟩:∃s,rs[yi]? =some s:=⟨rs[yi]'(by omega),by simp⟩;obtain⟨b1,o1,e1,l1,c1⟩:=hrow xi (sv sx) (by rw[amP,hsx];rfl);obtain⟨b2,o2,e2,l2,c2⟩:=hrow yi (sv sy) (by rw[amP,hsy];rfl);injection e1 with e1;injection e1 with e1 e1'
 injection e2 with e2;injection e2 with e2 e2'
 subst e1 e1' e2 e2';unfold sv at c1 c2;rw[am5]at c1 c2;have KC:=aab (Vs.arg (s:=sy) (hz _ (amI hsy))) (Vs.arg (s:=sx) (hz _ (amI hsx)));have HE:Hid (cfO (iv rs) (⟨xi,hx⟩:Fin (m+1)) ⟨yi,hy⟩=if dW (ah sy) (ah sx)=0 then dW (xi:Int) (yi:Int)else dW (ah sy) (ah sx)):=by
  show _=_;unfold cfO;rw[afD hsx,afD hsy]
 rw[HE.o];have KI:∀u:Kept w,Calls prog 259 #[.int .i64 (xi:Int),.int .i64 (yi:Int)] u.W fun e w''=>e= .returned (.int .i64 (dW (xi:Int) (yi:Int)))/\∃u':Kept w,w''=u'.W:=
  fun u=>(adF _ _ u.W).mono fun _ w'' ⟨he,hw⟩=>⟨he,u,hw⟩
 generalize dW (ah sy) (ah sx)=ca at*
 generalize dW (xi:Int) (yi:Int)=cb at*
 have k0:=Kept.cell_of hbox;have k1:=Kept.cell_of c1;have k2:=Kept.cell_of c2;have q1:(xi:Int)<(m:Int)+1:=by omega
 have q2:(yi:Int)<(m:Int)+1:=by omega
 have q3:xi<m+1:=hx;have q4:yi<m+1:=hy;show Calls prog 258 #[.int .i64 (xi:Int),.int .i64 (yi:Int),.pointer (some ⟨B,0,none⟩)] w _;have KO:=fun(v:World)=>agk ca cb v.heap.size (v.alloc (.cells #[.int .i64 ca,.int .i64 cb] 3)) ((Bx.new v _ _).cell (i:=0) rfl) ((Bx.new v _ _).cell (i:=1) rfl)
 obtain⟨r,hr⟩:=eX ((if ca=0 then cb else ca));rw[hr]at KO⊢
 clear hr;clear hg hbox hrow hrs hz c1 c2 hsx hsy HE hx hy
 go_enter func258,ntmps258
 go_wp2_with fail
 refine bA 12 (by kernel_rfl) (by kernel_rfl) ?_;simp only[List.take_succ_cons,List.take_zero,List.drop_succ_cons,List.drop_zero]
 repeat (go_big_quiet_step (first|(with_reducible exact KC.kept hs)|(with_reducible exact KI _)))
 refine wpQuiet_nil ?_;rintro _ ⟨u,rfl⟩;have hs1:=hs.kept u
 go_wp2_with fail
 refine(KO u.W).mono ?_;rintro e w1 ⟨rfl,rfl⟩
 go_wp2_with fail
 go_ret
 exact⟨rfl,(hs1.alloc _).2⟩
end
section
open Go.RowKit Go.Shelf Dec QQ SP
theorem nC (l:List Int):iv (l.map ae)=l:=by
 unfold iv;rw[List.map_map];rw[show (ah∘ae)=id from funext fun z=>aK z,List.map_id]
theorem chk_eq {t:BA}(h:chk t=0):ae (ah t)=t:=(ajw.1 h).symm
end
end Go.Proofs.YtbkhnggmcheelaaGreatDoor
namespace SP
def ati (l:List Nat)(i:Nat):Nat:=l.getD i 0
theorem agZ {l:List Nat}{i:Nat}(h:i<l.length):l[i]? =some (ati l i):=by simp[ati,List.getD_eq_getElem?_getD,amB h]
theorem qG {l:List Nat}{i x:Nat}(h:l[i]? =some x):ati l i=x:=by simp[ati,List.getD_eq_getElem?_getD,h]
def Srt (r:List Int)(l:List Nat)(i:Nat):Prop:=∀a b,a<b->b<i->jg r (ati l a) (ati l b)=true
def Ins (r:List Int)(l:List Nat)(i j:Nat):Prop:=∀a b,a<b->b<=i->b≠j->jg r (ati l a) (ati l b)=true
theorem akp {r:List Int}{l:List Nat}{n:Nat}(hp:l.Perm (List.range n))(hr:r.length=n)(h:Srt r l n):Ord r l:=by
 subst hr;refine⟨hp,List.pairwise_iff_getElem.2 fun i j hi hj hij=>?_⟩;have hl:=hp.length_eq;rw[List.length_range]at hl;have:=h i j hij (by omega);rwa[qG (amB hi),qG (amB hj)]at this
theorem ati_ne {l:List Nat}{n a b:Nat}(hp:l.Perm (List.range n))(ha:a<n)(hb:b<n)(h:a≠b):ati l a≠ati l b:=by
 have hl:=hp.length_eq;rw[List.length_range]at hl;have hn:l.Nodup:=hp.nodup_iff.2 List.nodup_range;intro e;have e1:=agZ (l:=l) (i:=a) (by omega);have e2:=agZ (l:=l) (i:=b) (by omega);rw[e, <-e2]at e1;exact h ((List.getElem?_inj (by omega) hn).1 e1)
end SP
namespace Go.Proofs.YtbkhnggmcheelaaGreatDoor.R3
open Go.RowKit
section
variable {P:Program} {ops:Array Oper} {w:World} {ks:List Nat} {val:Nat->Value} {md:Region.Mode} {mk:Nat->Nat->Value} {zs:Nat->Array Value×TypeId}
def sliTo (n c b:Nat):Value:=.slice (some ⟨b,0,none⟩) n c
end
end Go.Proofs.YtbkhnggmcheelaaGreatDoor.R3
namespace Go.Proofs.YtbkhnggmcheelaaGreatDoor
open Proofs.Tryz
section
open Go.RowKit Go.Shelf Go.Sort SP Dec
theorem madeS {n:Nat}(h:n<=1000):∃Z:Array Value,Z.size=n/\∀u:World,(Instr.makeSlice 153 (.int .i64 (n:Int)) (.int .i64 (n:Int))).run prog u= .ok (R3.sliTo n n u.heap.size) (u.alloc (.cells Z 24)):=by
 obtain⟨i0,hi,hz0,hz1,hz2⟩:=info_parts (P:=prog) (e:=24) (z:=.string ⟨#[]⟩) (size:=1) (bytes:=16) (by kernel_rfl);refine⟨madeCells (.string ⟨#[]⟩:Value).cells (n*1),by rw[size_madeCells,Nat.mul_one],fun u=>?_⟩;have:=run_make u 153 24 i0 (.string ⟨#[]⟩) (by kernel_rfl) hi hz0 .i64 .i64 (n:Int) (n:Int) (by omega) (Int.le_refl _) (by rw[hz2];omega) (by omega);rw[anm,hz1]at this;exact this
theorem madeI {n:Nat}(h:n<=1000):∃Z:Array Value,Z.size=n/\∀u:World,(Instr.makeSlice 202 (.int .i64 (n:Int)) (.int .i64 (n:Int))).run prog u= .ok (R3.sliTo n n u.heap.size) (u.alloc (.cells Z 3)):=by
 obtain⟨i0,hi,hz0,hz1,hz2⟩:=info_parts (P:=prog) (e:=3) (z:=.int .i64 0) (size:=1) (bytes:=8) (by kernel_rfl);refine⟨madeCells (.int .i64 0:Value).cells (n*1),by rw[size_madeCells,Nat.mul_one],fun u=>?_⟩;have:=run_make u 202 3 i0 (.int .i64 0) (by kernel_rfl) hi hz0 .i64 .i64 (n:Int) (n:Int) (by omega) (Int.le_refl _) (by rw[hz2];omega) (by omega);rw[anm,hz1]at this;exact this
theorem tri0 (w:World)(a b c:Obj):(((w.alloc a).alloc b).alloc c).drew.heap[w.heap.size]? =some a:=
 (Below.heap_alloc _ _ _ (by simp;omega)).trans ((Below.heap_alloc _ _ _ (by simp)).trans (bJ w a))
theorem tri1 (w:World)(a b c:Obj):(((w.alloc a).alloc b).alloc c).drew.heap[w.heap.size+1]? =some b:=by
 have:=bJ (w.alloc a) b;rw[amD]at this;exact(Below.heap_alloc _ _ _ (by simp)).trans this
theorem tri2 (w:World)(a b c:Obj):(((w.alloc a).alloc b).alloc c).drew.heap[w.heap.size+1+1]? =some c:=by
 have:=bJ ((w.alloc a).alloc b) c;rw[amD,amD]at this;exact this
def Fil (W:World)(b:Nat)(T:TypeId)(n k:Nat)(f:Nat->Value):Prop:=∃cs,W.heap[b]? =some (.cells cs T (0,0))/\cs.size=n/\∀i,i<k->cs[i]? =some (f i)
section
variable {W W':World} {b n k:Nat} {T:TypeId} {f:Nat->Value}
theorem Fil.start {cs:Array Value}(h:W.heap[b]? =some (.cells cs T (0,0)))(hn:cs.size=n):Fil W b T n 0 f:=⟨cs,h,hn,fun i hi=>by omega⟩
theorem Fil.on (h:Fil W b T n k f)(hb:Below W.heap.size W W'):Fil W' b T n k f:=by
 obtain⟨cs,h1,h2⟩:=h;exact⟨cs,(hb.block b (amA.1 h1).1).trans h1,h2⟩
theorem Fil.lt (h:Fil W b T n k f):b<W.heap.size:=by
 obtain⟨cs,h1,_⟩:=h;exact(amA.1 h1).1
theorem Fil.other (h:Fil W b T n k f){c:Nat}(hc:b≠c)(i:Nat)(v:Value):Fil (W.setCell ⟨c,i,none⟩ v) b T n k f:=by
 obtain⟨cs,h1,h2⟩:=h;exact⟨cs,(amR _ _ _ _ hc).trans h1,h2⟩
theorem Fil.set (h:Fil W b T n k f)(hk:k<n):Fil (W.setCell ⟨b,k,none⟩ (f k)) b T n (k+1) f:=by
 obtain⟨cs,h1,h2,h3⟩:=h;refine⟨cs.setIfInBounds k (f k),by simp[World.setCell,Array.getElem?_modify,h1],by simpa using h2,fun i hi=>?_⟩;rw[Array.getElem?_setIfInBounds];by_cases e:k=i
 ·subst e;rw[if_pos rfl,if_pos (by omega)]
 ·rw[if_neg e];exact h3 i (by omega)
theorem Fil.cell (h:Fil W b T n k f){i:Nat}(hi:i<k):W.cell? ⟨b,i,none⟩=some (f i):=by
 obtain⟨cs,h1,_,h3⟩:=h;simp[World.cell?,h1,h3 i hi]
theorem Fil.some (h:Fil W b T n k f){i:Nat}(hi:i<n):∃v,W.cell? ⟨b,i,none⟩=Option.some v:=by
 obtain⟨cs,h1,h2,_⟩:=h;exact⟨cs[i]'(by omega),by simp[World.cell?,h1,h2,hi]⟩
theorem Fil.frozen (h:Fil W b T n k f)(i:Nat):W.frozen? ⟨b,i,none⟩=false:=by
 obtain⟨cs,h1,_⟩:=h;simp[World.frozen?,h1]
end
structure PZ (w:World) (T:Int) (l:List Int) (n P R O B k ko:Nat) (W:World):Prop where
 st:St w W
 pr:Fil W P 24 n k (fun i=>.string (ae (at0 (qL T l) i)))
 rr:Fil W R 24 n k (fun i=>.string (ae (at0 (rL T l) i)))
 oo:Fil W O 3 n ko (fun i=>.int .i64 (i:Int))
 bb:W.heap[B]? =some (.cells #[.slice (some ⟨R,0,none⟩) n n] 153 (0,0))
 lo:w.heap.size<=P/\w.heap.size<=R/\w.heap.size<=B/\w.heap.size<=O
 ne:P≠R/\P≠B/\P≠O/\R≠B/\R≠O/\B≠O
section
variable {w:World} {T:Int} {l:List Int} {n P R O B k ko:Nat} {W W':World}
theorem PZ.up (h:PZ w T l n P R O B k ko W)(hb:Below W.heap.size W W'):PZ w T l n P R O B k ko W':=
 ⟨h.st.on hb,h.pr.on hb,h.rr.on hb,h.oo.on hb,(hb.block _ (amA.1 h.bb).1).trans h.bb,h.lo,h.ne⟩
theorem PZ.drew (h:PZ w T l n P R O B k ko W):PZ w T l n P R O B k ko W.drew:=h.up (am3 _ _).drew
theorem PZ.box (h:PZ w T l n P R O B k ko W):W.cell? ⟨B,0,none⟩=some (.slice (some ⟨R,0,none⟩) n n):=by simp[World.cell?,h.bb]
theorem PZ.two (h:PZ w T l n P R O B k ko W)(hk:k<n){q r:BA}(hq:ae (at0 (qL T l) k)=q)(hr:ae (at0 (rL T l) k)=r):PZ w T l n P R O B (k+1) ko ((W.setCell ⟨P,k,none⟩ (.string q)).setCell ⟨R,k,none⟩ (.string r)):=by
 subst hq hr;obtain⟨n1,n2,n3,n4,n5,n6⟩:=h.ne;refine⟨(h.st.set h.lo.1 _ _).set h.lo.2.1 _ _,(Fil.set h.pr hk).other n1 _ _,Fil.set (h.rr.other (fun e=>n1 e.symm) _ _) hk,(h.oo.other (fun e=>n3 e.symm) _ _).other (fun e=>n5 e.symm) _ _,(amR _ _ _ _ (fun e=>n4 e.symm)).trans ((amR _ _ _ _ (fun e=>n2 e.symm)).trans h.bb),h.lo,h.ne⟩
theorem PZ.three (h:PZ w T l n P R O B k ko W)(hk:ko<n):PZ w T l n P R O B k (ko+1) (W.setCell ⟨O,ko,none⟩ (.int .i64 (ko:Int))):=by
 obtain⟨n1,n2,n3,n4,n5,n6⟩:=h.ne;exact⟨h.st.set h.lo.2.2.2 _ _,h.pr.other n3 _ _,h.rr.other n5 _ _,Fil.set h.oo hk,(amR _ _ _ _ n6).trans h.bb,h.lo,h.ne⟩
end
structure PB0 (w:World) (Z:Array Value) (n P R B:Nat) (W:World):Prop where
 low:Below w.heap.size w W
 pr:W.heap[P]? =some (.cells Z 24 (0,0))
 rr:W.heap[R]? =some (.cells Z 24 (0,0))
 bb:W.heap[B]? =some (.cells #[.slice (some ⟨R,0,none⟩) n n] 153 (0,0))
 lP:w.heap.size<=P
 lR:w.heap.size<=R
 lB:w.heap.size<=B
 nPR:P≠R
 nPB:P≠B
 nRB:R≠B
theorem akH {t:BA}{ws:List BA}{k0:Nat}(ht:t.size<=k0)(hz:∀s∈ws,s.size<=k0):∀x∈qL (ah t) (iv ws),Fit (k0+k0+1) x:=by
 intro x hx;unfold qL at hx;obtain⟨y,hy,rfl⟩:=amN.1 hx;exact((Fit.val ht).mul (jM hz y hy)).fdiv
theorem ak8 {t:BA}{ws:List BA}{k0:Nat}(ht:t.size<=k0)(hz:∀s∈ws,s.size<=k0)(h12:ws.length<=1000)(k:Nat):Fit (k0+k0+5) (ah t-((qL (ah t) (iv ws)).take k).sum):=by
 have h1:=iH (K:=k0+k0+1) (l:=(qL (ah t) (iv ws)).take k) (fun x hx=>akH ht hz x (am7 hx)) (by rw[amO,yG,aQ];omega);exact((Fit.val ht).mono (by omega)).sub h1
section
variable {W W':World} {b n k:Nat} {T:TypeId} {f:Nat->Value}
theorem Fil.congr (h:Fil W b T n k f){g:Nat->Value}(e:∀i,i<k->f i=g i):Fil W b T n k g:=by
 obtain⟨cs,h1,h2,h3⟩:=h;exact⟨cs,h1,h2,fun i hi=>by rw[h3 i hi,e i hi]⟩
theorem Fil.upd (h:Fil W b T n n f){g:Nat->Value}{i:Nat}{v:Value}(hv:g i=v)(e:∀k,k<n->k≠i->g k=f k):Fil (W.setCell ⟨b,i,none⟩ v) b T n n g:=by
 obtain⟨cs,h1,h2,h3⟩:=h;refine⟨cs.setIfInBounds i v,by simp[World.setCell,Array.getElem?_modify,h1],by simpa using h2,fun k hk=>?_⟩;rw[Array.getElem?_setIfInBounds];by_cases e':i=k
 ·subst e';rw[if_pos rfl,if_pos (by omega),hv]
 ·rw[if_neg e',h3 k hk,e k hk (fun h=>e' h.symm)]
theorem Fil.grown (h:Fil W b T n k f){row:Option Nat}(hg:W.grownBy W' row)(hne:Option.some b≠row):Fil W' b T n k f:=by
 have hlt:=h.lt;obtain⟨cs,h1,h2⟩:=h;exact⟨cs,(hg.block b hlt hne).trans h1,h2⟩
theorem Fil.own {base:Nat}(h:Fil W b T n n f)(hb:base<=b)(hn:n<=maxLen):W.ownsRow base T 1 (.slice (Option.some ⟨b,0,none⟩) n n) n ((List.range n).map f):=by
 obtain⟨cs,h1,h2,h3⟩:=h;refine⟨by simp,.inr ⟨b,n,cs,rfl,hb,h1,am4 _,hn,by omega,?_⟩⟩;apply anl;intro i;rw[Nat.mul_one,amK (by simp;omega),amV,amP];by_cases hi:i<n
 ·rw[h3 i hi,List.getElem?_range hi];rfl
 ·rw[Array.getElem?_eq_none (by omega),amW (by simp;omega)];rfl
theorem Fil.row (h:Fil W b T n n f):Row W (Option.some ⟨b,0,none⟩) ((List.range n).map f):=by
 intro i v hv;rw[amP]at hv;by_cases hi:i<n
 ·rw[List.getElem?_range hi]at hv
  injection hv with hv
  exact⟨b,0,rfl,h.lt,by rw[am5, <-hv];exact h.cell hi⟩
 ·rw[amW (by simp;omega)]at hv
  cases hv
theorem Fil.sow {O m:Nat}(h:Fil W O 3 n n (fun i=>.int .i64 (i:Int)))(hn:n=m+1):SoW W O (Array.ofFn (fun i:Fin (m+1)=>i)) W:=by
 subst hn;obtain⟨cs,h1,h2,h3⟩:=h;refine⟨World.grownBy.refl W _,?_⟩;have:cs=(Array.ofFn (fun i:Fin (m+1)=>i)).map adU:=by
  apply Array.ext_getElem?;intro i;by_cases hi:i<m+1
  ·rw[h3 i hi];simp[hi,adU]
  ·rw[Array.getElem?_eq_none (by omega),Array.getElem?_eq_none (by simp;omega)]
 rw[h1,this]
theorem SoW.fil {m O:Nat}{w0:World}{dk:Array (Fin (m+1))}(h:SoW w0 O dk W)(hn:dk.size=n):Fil W O 3 n n (fun i=>.int .i64 ((ati (dk.toList.map (fun x=>x.val)) i:Nat):Int)):=by
 refine⟨dk.map adU,h.row,by simpa using hn,fun i hi=>?_⟩;have e:ati (dk.toList.map (fun x=>x.val)) i=(dk[i]'(by omega)).val :=qG (by rw[amP,amV,Array.getElem?_eq_getElem (by omega)];rfl);rw[Array.getElem?_map,Array.getElem?_eq_getElem (by omega)];show some (adU _)=some (Value.int .i64 ((ati (dk.toList.map (fun x=>x.val)) i:Nat):Int));rw[e];rfl
end
theorem St.grown {w W W':World}{O:Nat}(h:St w W)(hg:W.grownBy W' (some O))(hO:w.heap.size<=O):St w W':=
 ⟨h.1,h.2.grown hg h.2.size (by rintro k hk;injection hk with hk;omega)⟩
theorem acR {m:Nat}{r:List Int}(hr:r.length=m+1){d:Array (Fin (m+1))}(h1:d.toList.Perm (Array.ofFn (fun i:Fin (m+1)=>i)).toList)(h2:d.size=m+1)(h3:∀i j,i<j->j<m+1->ltC (cfO r) d[j]! d[i]! =false):Ord r (d.toList.map (fun x=>x.val)):=by
 have hp:(d.toList.map (fun x=>x.val)).Perm (List.range (m+1)):=by
  have h4:=h1.map (fun x:Fin (m+1)=>x.val);have e:((Array.ofFn (fun i:Fin (m+1)=>i)).toList.map (fun x=>x.val))=List.range (m+1):=by
   apply List.ext_getElem
   ·simp
   ·intro i h5 h6
    rw[List.getElem_map,Array.getElem_toList,Array.getElem_ofFn,List.getElem_range]
  rwa[e]at h4
 have at_:∀a,a<m+1->ati (d.toList.map (fun x=>x.val)) a=(d[a]!).val :=fun a ha=>qG (by
  rw[amP,amV,Array.getElem?_eq_getElem (by omega),getElem!_pos d a (by omega)];rfl)
 refine akp hp hr (fun a b hab hb=>?_);have h4:=h3 a b hab hb;rw[ny]at h4;have hne:=ati_ne hp (a:=a) (b:=b) (by omega) (by omega) (by omega);rw[at_ a (by omega),at_ b hb]at hne⊢
 rcases jH (r:=r) hne with h|h
 ·exact h
 ·rw[h]at h4;cases h4
theorem amc {w W:World}{T:Int}{l:List Int}{n P R O B m k:Nat}(H:PZ w T l n P R O B n n W)(hn:n=m+1)(hl:l.length=n)(hk:k<=999999)(hz:∀x∈rL T l,Fit k x):
 CmpK W O 258 #[.pointer (some ⟨B,0,none⟩)] (cfO (m:=m) (rL T l)):=by
 subst hn;intro V hg x y;obtain⟨n1,n2,n3,n4,n5,n6⟩:=H.ne;have hs:=H.st.grown hg H.lo.2.2.2;have hR:=H.rr.grown hg (by intro e;injection e with e;exact n5 e);have hB:V.heap[B]? =_:=(hg.block B (amA.1 H.bb).1 (by intro e;injection e with e;exact n6 e)).trans H.bb;have hrow:=hR.row;have e:(List.range (m+1)).map (fun i=>Value.string (ae (at0 (rL T l) i)))=((rL T l).map ae).map sv:=by
  have e1:=aaO (rL T l);rw[abF,hl]at e1
  conv=>rhs;rw[<-e1]
  rw[List.map_map,List.map_map];rfl
 rw[e]at hrow;have K:=ajv (m:=m) (B:=B) (RB:=R) (rs:=(rL T l).map ae) (by rw[am6,abF,hl]) (fun s hs=>by
  obtain⟨z,hz',rfl⟩:=amN.1 hs;have:=(hz z hz').size;omega) x y V hs.gl (by simp[World.cell?,hB]) hrow
 rw[nC]at K;exact K
structure PY (w:World) (q r:List Int) (L:List Nat) (n P O j:Nat) (W:World):Prop where
 st:St w W
 pr:Fil W P 24 n n (fun i=>.string (ae (at0 q i+if rk r i<j then 1 else 0)))
 oo:Fil W O 3 n n (fun i=>.int .i64 ((ati L i:Nat):Int))
 lo:w.heap.size<=P
 ne:P≠O
section
variable {w W W':World} {q r:List Int} {L:List Nat} {n P O j:Nat}
theorem PY.up (h:PY w q r L n P O j W)(hb:Below W.heap.size W W'):PY w q r L n P O j W':=⟨h.st.on hb,h.pr.on hb,h.oo.on hb,h.lo,h.ne⟩
theorem PY.start (h1:St w W)(h2:Fil W P 24 n n (fun i=>.string (ae (at0 q i))))(h3:Fil W O 3 n n (fun i=>.int .i64 ((ati L i:Nat):Int)))(h4:w.heap.size<=P)(h5:P≠O):PY w q r L n P O 0 W:=
 ⟨h1,h2.congr (fun i _=>by rw[if_neg (Nat.not_lt_zero _),Int.add_zero]),h3,h4,h5⟩
theorem PY.place (hL:Ord r L)(hr:r.length=n)(hj:j<n):L[j]? =some (ati L j)/\ati L j<n/\rk r (ati L j)=j:=by
 have h1:L[j]? =some (ati L j):=agZ (by rw[akT hL,hr];exact hj);exact⟨h1,by rw[<-hr];exact(aeZ hL).1 (amI h1),rk_at hL h1⟩
theorem PY.at (h:PY w q r L n P O j W)(hL:Ord r L)(hr:r.length=n)(hj:j<n):W.cell? ⟨P,ati L j,none⟩=some (.string (ae (at0 q (ati L j)))):=by
 obtain⟨_,h2,h3⟩:=PY.place hL hr hj;have:=h.pr.cell h2;rwa[h3,if_neg (by omega),Int.add_zero]at this
theorem PY.step (h:PY w q r L n P O j W)(hL:Ord r L)(hr:r.length=n)(hj:j<n){v:BA}(hv:ae (at0 q (ati L j)+1)=v):PY w q r L n P O (j+1) (W.setCell ⟨P,ati L j,none⟩ (.string v)):=by
 obtain⟨_,h2,h3⟩:=PY.place hL hr hj;refine⟨h.st.set h.lo _ _,h.pr.upd ?_ ?_,h.oo.other (fun e=>h.ne e.symm) _ _,h.lo,h.ne⟩
 ·show Value.string (ae (_+if rk r (ati L j)<j+1 then 1 else 0))=_
  rw[h3,if_pos (by omega),hv]
 ·intro k hk hki
  have hne:rk r k≠j:=fun h'=>hki (rk_inj (r:=r) (by rw[hr];exact hk) (by rw[hr];exact h2) (by rw[h',h3]))
  show Value.string (ae (_+if rk r k<j+1 then 1 else 0))=Value.string (ae (_+if rk r k<j then 1 else 0));by_cases hlt:rk r k<j
  ·rw[if_pos (by omega),if_pos hlt]
  ·rw[if_neg (by omega),if_neg hlt]
end
def POut (w:World)(v:Value)(n:Nat)(l:List Int)(W:World):Prop:=∃P,v= .slice (some ⟨P,0,none⟩) n n/\w.heap.size<=P/\l.length=n/\Fil W P 24 n n (fun i=>.string (ae (at0 l i)))
theorem PY.done {w W:World}{T:Int}{l:List Int}{L:List Nat}{n P O j:Nat}(h:PY w (qL T l) (rL T l) L n P O j W)(hl:l.length=n)(hj:(j:Int)=mis T l):POut w (.slice (some ⟨P,0,none⟩) n n) n (wK T l) W:=by
 refine⟨P,rfl,h.lo,by rw[abJ,hl],h.pr.congr fun i hi=>?_⟩;rw[aax (by omega),ah3 (by omega)];unfold bon;by_cases hc:rk (rL T l) i<j
 ·rw[if_pos hc,if_pos (by omega)]
 ·rw[if_neg hc,if_neg (by omega)]
theorem r_fit {T:Int}{ws:List Int}{K:Nat}(h:WOk ws)(hs:Fit K ws.sum):∀x∈rL T ws,Fit K x:=by
 intro x hx;have h1:=ru T h x hx;unfold Fit at*
 omega
theorem aeO {T:Int}{ws:List Int}{k0:Nat}(hT:Fit k0 T)(hw:∀x∈ws,Fit k0 x):∀x∈wK T ws,Fit (k0+k0+2) x:=by
 intro x hx;unfold wK at hx;obtain⟨i,hi,rfl⟩:=amN.1 hx;rw[List.mem_range]at hi;rw[ah3 hi];have h1:Fit (k0+k0+1) ((T*at0 ws i).fdiv ws.sum):=(hT.mul (hw _ (amI (iF hi)))).fdiv;have h2:(10:Nat)^(k0+k0+2)=10^(k0+k0+1)*10:=by rw[<-anb]
 have h3:0<(10:Nat)^(k0+k0+1):=Nat.pow_pos (by omega);unfold Fit at*
 generalize 10^(k0+k0+1)=p at*
 rcases sV T ws i with e|e<;>rw[e,h2]<;>omega
end
section
open Go.RowKit Go.Shelf Go.Sort SP Dec
theorem abK {A:Option Addr}{n c k0:Nat}{t:BA}{ws:List BA}(hn:ws.length=n)(h12:n<=1000)(hk0:k0<=5000)(ht:t.size<=k0)(hz:∀s∈ws,s.size<=k0)(hcan:ae (ah t)=t)(hok:WOk (iv ws))
 (w:World) (hg:Gl w) (hr:Row w A (ws.map sv)):
 Calls prog 234 #[.string t,.slice A n c] w fun e w'=>∃v,e= .returned v/\POut w v n (wK (ah t) (iv ws)) w'/\Below w.heap.size w w':=by
 have hs:=St.refl hg;have hpos:(iv ws).sum ≠0:=by have:=hok.pos;omega
 have HOK:=amy hok;have KW:=xZ (A:=A) (c:=c) hn h12 hk0 hz;obtain⟨Z,hZ,hm⟩:=madeS h12;obtain⟨Y,hY,hmi⟩:=madeI h12;obtain⟨sm,hsm⟩:∃v,ae (iv ws).sum =v:=⟨_,rfl⟩;rw[hsm]at KW;have HM:=amy hm;have HR:=amy hr;have HMI:∀u:World,(Instr.makeSlice 202 (.int .i64 (n:Int)) (.int .i64 (n:Int))).run prog u= .ok (.slice (some ⟨u.heap.size,0,none⟩) n n) (u.alloc (.cells Y 3)):=hmi;have HN:=amy hn;have HZW:=amy hz;have HT:=amy ht;have HCAN:=amy hcan;have HSM:=amy hsm;have HPOS:=amy hpos;have HFS:Hid (Fit (k0+3) (iv ws).sum):=adZ hz (by omega);clear hm hmi hg hr hn hz ht hcan hsm hpos hok
 go_enter func234,ntmps234
 go_wp2_with fail
 refine KW.step hs HR.o ?_;intro w1 hs1 _
 go_wp2_with fail
 have HMS:∀u:World,(Instr.makeSlice 153 (.int .i64 (n:Int)) (.int .i64 (n:Int))).run prog u= .ok (.slice (some ⟨u.heap.size,0,none⟩) n n) (u.alloc (.cells Z 24)):=HM.o;have HSZ:Hid (w.heap.size<=w1.heap.size):=hs1.2.size;have HL1:=amy hs1;clear hs
 go_upto_region 2 with (fail)
 go_cut [6,7,23] (fun p q r wx=>∃P R B,p= .slice (some ⟨P,0,none⟩) n n/\q= .pointer (some ⟨B,0,none⟩)/\r= .slice (some ⟨R,0,none⟩) n n/\Hid (PB0 w1 Z n P R B wx))
 case first=>
  clear hs1
  go_big_region
  all_goals
   go_wp2_with fail
   go_meet
   refine⟨_,_,_,rfl,rfl,rfl,⟨⟨rfl,rfl,rfl,?_,?_⟩,?_,?_,?_,?_,?_,?_,?_,?_,?_⟩⟩
  all_goals try omega
  all_goals try first|exact tri0 _ _ _ _|exact tri1 _ _ _ _|exact tri2 _ _ _ _
  all_goals try (simp[-World.alloc_eq, -World.drew_eq,World.alloc,World.drew,Array.getElem?_push];done)
  all_goals try (intro k hk;simp[-World.alloc_eq, -World.drew_eq,World.alloc,World.drew,Array.getElem?_push];(repeat first|rw[if_neg (by omega)]|rw[if_pos (by omega)]);done)
  all_goals try (simp[-World.alloc_eq, -World.drew_eq,World.alloc,World.drew];omega)
  all_goals try (simp[-World.alloc_eq, -World.drew_eq,World.alloc,World.setCell,World.drew,Array.getElem?_push,Array.getElem?_modify];(repeat first|rw[if_neg (by omega)]|rw[if_pos (by omega)]);done)
 case rest=>
 obtain⟨P,R,B,rfl,rfl,rfl,HB⟩:=hcut;have hs2:St w wc:=hs1.on HB.o.low;generalize wc=W5 at*
 go_wp2_with fail
 have hs3:=hs2.alloc (.cells Y 3);have HZ0:Hid (∃O,O=W5.heap.size/\PZ w (ah t) (iv ws) n P R O B 0 0 (W5.alloc (.cells Y 3))):=by
  have hz:=hs1.2.size;have e:∀ {b:Nat} {o:Obj},W5.heap[b]? =some o->b<W5.heap.size/\(W5.alloc (.cells Y 3)).heap[b]? =some o:=fun{b o} h=>⟨(amA.1 h).1,(Below.heap_alloc _ _ _ (amA.1 h).1).trans h⟩
  have lp:=HB.o.lP;have lr:=HB.o.lR;have lb:=HB.o.lB;have l1:=(e HB.o.pr).1;have l2:=(e HB.o.rr).1;have l3:=(e HB.o.bb).1;exact⟨_,rfl,hs3,Fil.start (e HB.o.pr).2 hZ,Fil.start (e HB.o.rr).2 hZ,Fil.start (bJ _ _) hY,(e HB.o.bb).2,⟨by omega,by omega,by omega,by have:=hs2.2.size;omega⟩,⟨HB.o.nPR,HB.o.nPB,by omega,HB.o.nRB,by omega,by omega⟩⟩
 obtain⟨O,hO,HZZ⟩:=HZ0;rw[<-hO];have HP0:=amy HZZ;clear HZZ hO hs3 hs2 HB hs1 HL1 HSZ;generalize W5.alloc (.cells Y 3)=W6 at*
 go_loopw [30,9] (fun s ms wr=>∃k:Nat,k<=n/\s= .int .i64 (k:Int)/\ms= .string (ae (ah t-((qL (ah t) (iv ws)).take k).sum))/\Hid (PZ w (ah t) (iv ws) n P R O B k k wr)) (fun s _ _=>(n-intOf s).toNat)
 case atStart=>exact⟨0,by omega,rfl,by rw[List.take_zero];show Value.string t= .string (ae (ah t-0));rw[Int.sub_zero,HCAN.o],HP0.o⟩
 case round=>
  clear HP0;obtain⟨k,hk,rfl,rfl,HP⟩:=hrel;by_cases hkn:k=n
  ·subst hkn
   have q:decide ((k:Int)<(k:Int))=false:=am1 (by omega);obtain⟨m,hm⟩:∃m,k=m+1:=⟨k-1,by
    have h1:(iv ws).length =k:=by rw[aQ,HN.o]
    have h2:=HOK.o.pos;have h3:k≠0:=fun e=>by rw[List.length_eq_zero_iff.1 (h1.trans e)]at h2;simp at h2
    omega⟩
   have hiv:(iv ws).length =k:=by rw[aQ,HN.o]
   have hrl:(rL (ah t) (iv ws)).length =k:=by rw[abF,hiv]
   have HSo:=amy (ahK (m:=m) (blk:=O) (n:=k) (g:=258) (cb:= #[.pointer (some ⟨B,0,none⟩)]) (cf:=cfO (rL (ah t) (iv ws))) (d:=Array.ofFn (fun i:Fin (m+1)=>i)) (w0:=wr) (w:=wr) (fun _ _=>rfl) (ame _)
    (amc HP.o hm hiv (k:=k0+3) (by omega) (r_fit HOK.o HFS.o)) (by rw[Array.size_ofFn,hm]) (by omega) (Fil.sow HP.o.oo hm))
   obtain⟨j0,hj0,hjk⟩:∃j0:Nat,mis (ah t) (iv ws)=(j0:Int)/\j0<=k:=by
    have h1:=mis_le (ah t) HOK.o;rw[hiv]at h1;exact⟨(mis (ah t) (iv ws)).toNat,by omega,by omega⟩
   have e1:ah t-((qL (ah t) (iv ws)).take k).sum =(j0:Int):=by
    rw[amK (by rw[yG,hiv];exact am4 _)];exact hj0
   have KSm:Ret 260 #[.string (ae (j0:Int))] (.tuple #[.int .i64 (j0:Int),.bool true]):=fun w hg=>by
    have:=SmlV (Vs.can (k:=4) (z:=(j0:Int)) (by show (j0:Int).natAbs <10^4;omega) (by omega)) w hg;rwa[show sml (j0:Int)=((j0:Int),true)by unfold sml;rw[if_pos ⟨by omega,by omega⟩]]at this
   rw[e1];generalize ae (j0:Int)=mt at*
   have HHM:=amy (And.intro hm (And.intro hiv (And.intro hrl hj0)));have hk0n:¬k=0:=by omega
   clear hm hiv hrl hj0 e1
   go_wp2_with fail
   refine(HSo.o).mono ?_;rintro e w1 ⟨d1,rfl,hperm,hsz1,hasc,hS⟩;obtain⟨L,HL⟩:∃L:List Nat,Hid (Ord (rL (ah t) (iv ws)) L/\PY w (qL (ah t) (iv ws)) (rL (ah t) (iv ws)) L k P O 0 w1):=by
    have hm:=HHM.o.1;exact⟨_,acR (m:=m) (HHM.o.2.2.1.trans hm) hperm (hsz1.trans hm) (fun a b hab hb=>hasc a b hab (by omega)),PY.start (HP.o.st.grown hS.gr HP.o.lo.2.2.2) (HP.o.pr.grown hS.gr (by intro e;injection e with e;exact HP.o.ne.2.2.1 e)) (hS.fil hsz1) HP.o.lo.1 HP.o.ne.2.2.1⟩
   have hs1:=HL.o.2.st;have HPY:=amy HL.o.2;have HORD:=amy HL.o.1;clear HP HSo hS HL
   go_wp2_with fail
   refine KSm.step hs1 ?_;intro w2 hs2 hb2;replace HPY:=amy (HPY.o.up hb2);have hadd:∀a:Addr,a.add (0*1)=a:=fun a=>by simp[Addr.add]
   have jk:(j0:Int)<=(k:Int):=by omega
   go_wp2_with fail
   go_loopw [73] (fun s wr2=>∃j:Nat,j<=j0/\s= .int .i64 (j:Int)/\Hid (PY w (qL (ah t) (iv ws)) (rL (ah t) (iv ws)) L k P O j wr2)) (fun s _=>(j0-intOf s).toNat)
   case atStart=>exact⟨0,by omega,rfl,HPY.o⟩
   case round=>
    clear HPY hs1 hs2;obtain⟨j,hj,rfl,HPY⟩:=hrel;by_cases hjn:j=j0
    ·subst hjn
     have q:decide ((j:Int)<(j:Int))=false:=am1 (by omega)
     go_wp2_with fail
     go_ret
     exact⟨_,rfl,HPY.o.done HHM.o.2.1 HHM.o.2.2.2.symm,HPY.o.st.2⟩
    ·have hjl:j<k:=by omega
     have q:decide ((j:Int)<(j0:Int))=true:=am2 (by omega);have qn:decide (j<j0)=true:=am2 (by omega);have jl0:j<j0:=by omega
     obtain⟨_,hik,_⟩:=PY.place HORD.o HHM.o.2.2.1 hjl;have cO:=HPY.o.oo.cell (i:=j) hjl;have cP:=HPY.o.at HORD.o HHM.o.2.2.1 hjl;have hst:=fun(W:World) (h:PY w (qL (ah t) (iv ws)) (rL (ah t) (iv ws)) L k P O j W)=>h.step HORD.o HHM.o.2.2.1 hjl rfl
     have hql:(qL (ah t) (iv ws)).length =k:=by rw[yG];exact HHM.o.2.1
     have fq:=akH HT.o HZW.o _ (amI (iF (l:=qL (ah t) (iv ws)) (i:=ati L j) (by rw[hql];exact hik)));have KA:=abq (Vs.can fq (by omega)) (⟨by decide,by decide⟩:Vs ⟨#[49]⟩ 1);have HST:=amy hst;generalize ae (at0 (qL (ah t) (iv ws)) (ati L j)+1)=y at*
     generalize ae (at0 (qL (ah t) (iv ws)) (ati L j))=x at*
     generalize ati L j=i at*
     have ik:(i:Int)<(k:Int):=by omega
     have hs1:=HPY.o.st;clear fq hst hql hjn
     go_wp2_with fail
     refine KA.step hs1 ?_;intro w3 hs3 hb3;have HP3:=amy (HPY.o.up hb3);obtain⟨vP,cP3⟩:=HP3.o.pr.some hik;have fP3:=HP3.o.pr.frozen i;have HP4:=amy (HST.o _ HP3.o)
     go_wp2_with fail
     go_roundw
     case rel=>exact⟨j+1,by omega,by go_num,HP4.o⟩
     case measure=>simp[intOf];omega
  ·have hkl:k<n:=by omega
   have q:decide ((k:Int)<(n:Int))=true:=am2 (by omega);obtain⟨s,hd⟩:∃s,ws[k]? =some s:=⟨ws[k]'(by rw[HN.o];exact hkl),by simp⟩;obtain⟨b,o,hA,hb,hc⟩:=HR.o k (sv s) (by rw[amP,hd];rfl);subst hA;unfold sv at hc;have hcr:=(HP.o.st.2.cell (p:=⟨b,o+k,none⟩) hb).trans hc;have zs:=HZW.o s (amI hd);have KM:=ajN (Vs.arg (s:=t) (by have:=HT.o;omega)) (Vs.arg (s:=s) (by omega));obtain⟨tm,htm⟩:∃v,ae (ah t*ah s)=v:=⟨_,rfl⟩;rw[htm]at KM;obtain⟨ms,hms⟩:∃v,ae (ah t-((qL (ah t) (iv ws)).take k).sum)=v:=⟨_,rfl⟩;rw[hms];have HMS:=amy hms;clear hms;have b0:W6.cell? ⟨B,0,none⟩=W6.cell? ⟨B,0,none⟩:=rfl;have cB:wr.cell? ⟨B,0,none⟩=some (.slice (some ⟨R,0,none⟩) n n):=by simp[World.cell?,HP.o.bb]
   have kB:=Kept.cell_of cB;have hs:=HP.o.st;clear b0;have KD:=ams (Vs.can (k:=k0+k0) (z:=ah t*ah s) ((Fit.val HT.o).mul (Fit.val (HZW.o s (amI hd)))) (by omega)) (Vs.can (k:=k0+3) (z:=(iv ws).sum) HFS.o (by omega)) HPOS.o;rw[htm,HSM.o]at KD;have HQ:Hid (ae (at0 (qL (ah t) (iv ws)) k)=ae ((ah t*ah s).fdiv (iv ws).sum)/\ae (at0 (rL (ah t) (iv ws)) k)=ae ((ah t*ah s).fmod (iv ws).sum)):=by
    have hl:k<(iv ws).length :=by rw[aQ,HN.o];exact hkl
    exact⟨by rw[ah3 hl,afD hd],by rw[rL_at hl,afD hd]⟩
   obtain⟨qk,hqk⟩:∃v,ae ((ah t*ah s).fdiv (iv ws).sum)=v:=⟨_,rfl⟩;obtain⟨rk',hrk⟩:∃v,ae ((ah t*ah s).fmod (iv ws).sum)=v:=⟨_,rfl⟩;rw[hqk,hrk]at KD HQ;clear hqk hrk htm hd zs;have nRP:¬R=P:=fun e=>HP.o.ne.1 e.symm
   go_wp2_with fail
   go_cut [9] (fun m9 wx=>m9= .string ms/\Hid (PZ w (ah t) (iv ws) n P R O B (k+1) k wx))
   case first=>
    have HPP:=HP;have kl:(k:Int)<(n:Int):=by omega
    clear HP kB
    go_region_with (first
     |(go_at_call 79
       first|refine KM.step hs ?_|refine KM.step hs.drew ?_
       intro wA hsA hbA;have PA:=amy (show PZ w (ah t) (iv ws) n P R O B k k wA from by first|exact HPP.o.up hbA|exact HPP.o.drew.up hbA);have cA:=PA.o.box)
     |(go_at_call 150
       first|refine KD.step hsA ?_|refine KD.step hsA.drew ?_
       intro wB hsB hbB;have PB:=amy (show PZ w (ah t) (iv ws) n P R O B k k wB from by first|exact PA.o.up hbB|exact PA.o.drew.up hbB);have cB1:=PB.o.box;obtain⟨vP,cP⟩:=PB.o.pr.some hkl;obtain⟨vR,cR⟩:=PB.o.rr.some hkl;have fP:=PB.o.pr.frozen k;have fR:=PB.o.rr.frozen k;have cB2:(wB.setCell ⟨P,k,none⟩ (.string qk)).cell? ⟨B,0,none⟩=some (.slice (some ⟨R,0,none⟩) n n):=(World.cell?_of_block (amR _ _ _ _ (fun e=>PB.o.ne.2.1 e.symm))).trans cB1;have cR2:(wB.setCell ⟨P,k,none⟩ (.string qk)).cell? ⟨R,k,none⟩=some vR:=(World.cell?_of_block (amR _ _ _ _ (fun e=>PB.o.ne.1 e.symm))).trans cR;have fR2:(wB.setCell ⟨P,k,none⟩ (.string qk)).frozen? ⟨R,k,none⟩=false:=(World.frozen?_of_block (amR _ _ _ _ (fun e=>PB.o.ne.1 e.symm))).trans fR))
    all_goals
     have P2:=amy (PB.o.two hkl HQ.o.1 HQ.o.2)
     go_wp2_with fail
     go_meet
     first
      |exact⟨rfl,P2.o⟩
      |exact⟨rfl,P2.o.drew⟩
   case rest=>
   obtain⟨rfl,HP2⟩:=hcut;clear HP KM KD hs cB kB hc hb hcr;generalize wc=W7 at*
   have cq:W7.cell? ⟨P,k,none⟩=some (.string qk):=by
    have:=HP2.o.pr.cell (i:=k) (by omega);rwa[show ae (at0 (qL (ah t) (iv ws)) k)=qk from HQ.o.1]at this
   have hs7:=HP2.o.st;have kl:(k:Int)<(n:Int):=by omega
   have KS:=ahs (Vs.can (k:=k0+k0+5) (ak8 HT.o HZW.o (by rw[HN.o];omega) k) (by omega)) (Vs.can (k:=k0+k0+1) (z:=at0 (qL (ah t) (iv ws)) k) (akH HT.o HZW.o _ (amI (iF (by rw[yG,aQ,HN.o];exact hkl)))) (by omega));rw[HMS.o,HQ.o.1]at KS;have HNX:Hid (ah t-((qL (ah t) (iv ws)).take k).sum -at0 (qL (ah t) (iv ws)) k=ah t-((qL (ah t) (iv ws)).take (k+1)).sum):=by
    show _=_;rw[ani,iF (l:=qL (ah t) (iv ws)) (i:=k) (by rw[yG,aQ,HN.o];exact hkl)];simp;omega
   go_wp2_with fail
   refine KS.step hs7 ?_;intro w8 hs8 hb8;have HP3:=amy (HP2.o.up hb8);obtain⟨vO,cO⟩:=HP3.o.oo.some hkl;have fO:=HP3.o.oo.frozen k;have HP4:=amy (HP3.o.three hkl)
   go_wp2_with fail
   go_roundw
   case rel=>exact⟨k+1,by omega,by go_num,by rw[HNX.o],HP4.o⟩
   case measure=>simp[intOf];omega
end
section
open Go.RowKit Go.Shelf Dec QQ
def aO (z:Int):List Value:=[.string (ae z)]
theorem uY (z:Int):(aO z).length =1:=rfl
end
section
open Go.RowKit Go.Shelf Go.Sort SP Dec QQ
theorem aaZ (l:List Int):av aO l=(List.range l.length).map (fun i=>Value.string (ae (at0 l i))):=by
 have e1:av aO l=l.map (fun z=>Value.string (ae z)):=by
  induction l with
  |nil=>rfl
  |cons z l ih=>show aO z++av aO l=_;rw[ih];rfl
 have e2:(List.range l.length).map (fun i=>Value.string (ae (at0 l i)))=((List.range l.length).map (at0 l)).map (fun z=>Value.string (ae z)):=by rw[List.map_map];rfl
 rw[e1,e2,aaO]
theorem alG (l:List Int):av aO l=(l.map ae).map sv:=by
 induction l with
 |nil=>rfl
 |cons z l ih=>show aO z++av aO l=_;rw[ih];rfl
theorem POut.outG {w W:World}{v:Value}{n:Nat}{l:List Int}(h:POut w v n l W)(hn:n<=1000):dw aO 24 1 w.heap.size W v n l:=by
 obtain⟨P,rfl,lo,hl,F⟩:=h;refine⟨hl,?_⟩;rw[aaZ,hl];exact F.own lo (by unfold maxLen;omega)
theorem ajd {A:Option Addr}{n c k0:Nat}{t:BA}{ws:List BA}(hn:ws.length=n)(h12:n<=1000)(hk0:k0<=4000)(ht:t.size<=k0)(hz:∀s∈ws,s.size<=k0)(hcan:ae (ah t)=t)(hok:WOk (iv ws))
 (w:World) (hg:Gl w) (hr:Row w A (ws.map sv)):
 Calls prog 179 #[.string t,.slice A n c] w fun e w'=>∃v,e= .returned v/\POut w v n (tV (ah t) (iv ws)) w'/\Below w.heap.size w w':=by
 have hs:=St.refl hg;have HR:=amy hr;have K1:=abU (a:=t) (by omega);by_cases hT:ah t<0
 ·rw[am2 hT]at K1
  have KN:=NegR (Vs.arg (s:=t) (by omega));have hfit:Fit k0 (-ah t):=by have:=Fit.val (a:=t) ht;unfold Fit at*;rwa[Int.natAbs_neg]
  have KP:=amy (fun(w1:World) (hg1:Gl w1) (hr1:Row w1 A (ws.map sv))=>abK (A:=A) (c:=c) (k0:=k0+1) (t:=ae (-ah t)) (ws:=ws) hn h12 (by omega) (by have:=hfit.size;omega) (fun s hs=>by have:=hz s hs;omega) (by rw[aK]) hok w1 hg1 hr1);rw[aK]at KP;have HE:Hid (tV (ah t) (iv ws)=(wK (-ah t) (iv ws)).map (fun x=> -x)):=if_pos hT;have HFX:Hid (∀x∈wK (-ah t) (iv ws),Fit (k0+k0+2) x):=aeO hfit (jM hz);have HN:=amy hn;generalize ae (-ah t)=tn at*
  rw[HE.o];generalize wK (-ah t) (iv ws)=xs at*
  clear hr hn hz ht hcan hok hT hfit HE
  go_enter func179,ntmps179
  go_wp2_with fail
  refine K1.step hs ?_;intro w1 hs hb1
  go_wp2_with fail
  refine KN.step hs ?_;intro w2 hs hb2
  go_wp2_with fail
  refine(KP.o w2 hs.gl (HR.o.on hs.2)).mono ?_;rintro e w3 ⟨v,rfl,⟨P,rfl,lo,hxl,F⟩,hb3⟩;have HF:Hid (Fil w3 P 24 n n (fun i=>.string (ae (if i<0 then-at0 xs i else at0 xs i)))):=F.congr (fun i _=>by rw[if_neg (Nat.not_lt_zero _)]);have HL:Hid (w.heap.size<=P):=amG hs.2.size lo;have HXL:=amy hxl;replace hs:=hs.on hb3;clear lo hxl F
  go_wp2_with fail
  go_loopw [19] (fun s wr=>∃k:Nat,k<=n/\s= .int .i64 (k:Int)/\St w wr/\Hid (Fil wr P 24 n n (fun i=>.string (ae (if i<k then-at0 xs i else at0 xs i))))) (fun s _=>(n-intOf s).toNat)
  case atStart=>exact⟨0,by omega,rfl,hs,HF.o⟩
  case round=>
   clear hs HF;obtain⟨k,hk,rfl,hs,HF⟩:=hrel;by_cases hkn:k=n
   ·subst hkn
    have q:decide ((k:Int)<(k:Int))=false:=am1 (by omega)
    go_wp2_with fail
    go_ret
    refine⟨_,rfl,⟨P,rfl,HL.o,by rw[am6,HXL.o],HF.o.congr fun i hi=>?_⟩,hs.2⟩;rw[if_pos hi,ag0]
   ·have hkl:k<n:=by omega
    have q:decide ((k:Int)<(n:Int))=true:=am2 (by omega);have ck:wr.cell? ⟨P,k,none⟩=some (.string (ae (at0 xs k))):=by
     have:=HF.o.cell (i:=k) hkl;rwa[if_neg (Nat.lt_irrefl _)]at this
    have fx:=HFX.o _ (amI (iF (l:=xs) (i:=k) (by rw[HXL.o];exact hkl)));have KX:=NegR (Vs.can fx (by omega));have HS:∀W:World,Below wr.heap.size wr W->Hid (Fil (W.setCell ⟨P,k,none⟩ (.string (ae (-at0 xs k)))) P 24 n n (fun i=>.string (ae (if i<k+1 then-at0 xs i else at0 xs i)))):=fun W hb=>(HF.o.on hb).upd (by
     show Value.string (ae (if k<k+1 then _ else _))=_;rw[if_pos (by omega)]) (fun i hi hik=>by
     show Value.string (ae (if i<k+1 then _ else _))=Value.string (ae (if i<k then _ else _));by_cases hlt:i<k
     ·rw[if_pos (by omega),if_pos hlt]
     ·rw[if_neg (by omega),if_neg hlt])
    have kl:(k:Int)<(n:Int):=by omega
    generalize ae (-at0 xs k)=y at*
    generalize ae (at0 xs k)=x at*
    clear fx hkn
    go_wp2_with fail
    refine KX.step hs ?_;intro w4 hs hb4;obtain⟨vP,cP⟩:=(HF.o.on hb4).some hkl;have fP:=(HF.o.on hb4).frozen k;have HS4:=HS _ hb4;have hs5:=hs.set HL.o k (.string y)
    go_wp2_with fail
    go_roundw
    case rel=>exact⟨k+1,by omega,by go_num,hs5,HS4.o⟩
    case measure=>simp[intOf];omega
 ·rw[am1 hT]at K1
  have KP:=amy (fun(w1:World) (hg1:Gl w1) (hr1:Row w1 A (ws.map sv))=>abK (A:=A) (c:=c) (k0:=k0) (t:=t) (ws:=ws) hn h12 (by omega) ht hz hcan hok w1 hg1 hr1);have HE:Hid (tV (ah t) (iv ws)=wK (ah t) (iv ws)):=if_neg hT;rw[HE.o];generalize wK (ah t) (iv ws)=xs at*
  clear hr hn hz ht hcan hok hT HE
  go_enter func179,ntmps179
  go_wp2_with fail
  refine K1.step hs ?_;intro w1 hs hb1
  go_wp2_with fail
  refine(KP.o w1 hs.gl (HR.o.on hs.2)).mono ?_;rintro e w2 ⟨v,rfl,⟨P,rfl,lo,hxl,F⟩,hb2⟩;have HF:=amy F;have lo2:w.heap.size<=P:=amG hs.2.size lo;replace hs:=hs.on hb2;clear F
  go_wp2_with fail
  go_ret
  exact⟨_,rfl,⟨P,rfl,lo2,hxl,HF.o⟩,hs.2⟩
theorem uw {A:Option Addr}{n c k0:Nat}{t:BA}{ws:List BA}(hn:ws.length=n)(h12:n<=1000\/1000<n)(hm:n<=4611686018427387904)(hk0:k0<=4000)(ht:t.size<=k0)(hz:∀s∈ws,s.size<=k0)(w:World)(hg:Gl w)(hr:Row w A (ws.map sv)):
 Calls prog 120 #[.string t,.slice A n c] w fun e w'=>∃v,e= .returned (.tuple #[v,.int .i64 (alE t ws)])/\dw aO 24 1 w.heap.size w' v (alS t ws).length (alS t ws)/\Below w.heap.size w w':=by
 have hs:=St.refl hg;have HR:=amy hr;have K1:=ag9 (A:=A) (c:=c) hn h12 hm (by omega) ht hz;by_cases he:alE t ws=0
 ·have ho:=qH.1 he
  have h2:=ho.len;have e:alS t ws=tV (ah t) (iv ws):=if_pos he;have h12':n<=1000:=by omega
  have KD:=amy (fun(w1:World) (hg1:Gl w1) (hr1:Row w1 A (ws.map sv))=>ajd (A:=A) (c:=c) (k0:=k0) (t:=t) (ws:=ws) hn h12' hk0 ht hz (chk_eq ho.ct) ho.ok w1 hg1 hr1);rw[e,he,dz,aQ,hn];rw[he]at K1;clear e he hn hr hz ht ho h2 hm h12
  go_enter func120,ntmps120
  go_wp2_with fail
  refine K1.step hs (HR.o.on hs.2) ?_;intro w1 hs hb
  go_wp2_with fail
  refine(KD.o w1 hs.gl (HR.o.on hs.2)).mono ?_;rintro e w2 ⟨v,rfl,hP,hb2⟩;obtain⟨P,rfl,lo,hxl,F⟩:=hP;have HP:Hid (POut w (.slice (some ⟨P,0,none⟩) n n) n (tV (ah t) (iv ws)) w2):=⟨P,rfl,amG hs.2.size lo,hxl,F⟩;replace hs:=hs.on hb2;clear lo hxl F
  go_wp2_with fail
  go_ret2
  exact⟨_,rfl,HP.o.outG h12',hs.2⟩
 ·have e:alS t ws=[]:=if_neg he
  rw[e];have q:(alE t ws !=0)=true:=by simpa using he
  generalize alE t ws=ee at*
  clear hn hr hz ht e
  go_enter func120,ntmps120
  go_wp2_with fail
  refine K1.step hs (HR.o.on hs.2) ?_;intro w1 hs hb
  go_wp2_with fail
  go_ret2
  exact⟨_,rfl,⟨rfl,World.ownsRow_nil _ _ _ _⟩,hs.2⟩
end
section
open Go.RowKit Go.Shelf Dec QQ
theorem mK {w w1:World}{B:Nat}(hs:St w w1)(hb:w.heap.size<=B)(X:Bx w1 B #[.string ⟨#[]⟩,.string ⟨#[]⟩])(n d:BA):
 ∃W,(w1.setCell ⟨B,0,none⟩ (.string n)).setCell ⟨B,1,none⟩ (.string d)=W/\W.cell? ⟨B,0,none⟩=some (.string n)/\W.cell? ⟨B,1,none⟩=some (.string d)/\Below w.heap.size w W:=by
 have B6:=(X.set 0 (.string n)).set 1 (.string d);exact⟨_,rfl,B6.cell (i:=0) rfl,B6.cell (i:=1) rfl,((hs.set hb 0 (.string n)).set hb 1 (.string d)).2⟩
def quoQ (p q:Rat):Rat:=if q=0 then 0 else p/q
def quoE (q:Rat):Int:=if q=0 then 10 else 0
theorem xE {k:Nat}{x y:Int}(h:Fit k x)(hy:0<=y):Fit k (x.fdiv y):=by
 unfold Fit at*
 rw[Int.fdiv_eq_ediv_of_nonneg _ hy];exact Nat.lt_of_le_of_lt (Int.natAbs_ediv_le_natAbs _ _) h
theorem FloorF {a b:BA}{q:Rat}(h:Vq a b q):Ret 190 #[FV a b] (.string (ae q.floor)):=by
 intro w hg;obtain⟨e,h1,h2⟩:=h;have hs:=(St.refl hg).alloc (.cells #[.string a,.string b] 26);have K1:=dZ (n:=a) (d:=b) (by omega);have hd:=xM b;have K2:=ams (Vs.arg (s:=a) (by omega)) (Vs.arg (s:=dn b) (by omega)) (uj b);rw[jb (uj b),nE,e]at K2;unfold FV at K1⊢
 clear e h1 h2 hd;generalize ae q.floor=u1 at*
 generalize ae ((ah a).fmod (ah (dn b)))=u2 at*
 generalize dn b=b' at*
 go_enter func190,ntmps190
 go_wp2_with fail
 refine K1.step hs ?_;intro w1 hs _
 go_wp2_with fail
 refine K2.step hs ?_;intro w2 hs _
 go_wp2_with fail
 go_ret
 exact⟨rfl,hs.2⟩
theorem Quo0F {a b c d:BA}(hc:c.size<=100000)(h0:ah c=0):Ret 9 #[FV a b,FV c d] (.tuple #[FR 0,.int .i64 10]):=by
 intro w hg;have hs:=(((St.refl hg).alloc (.cells #[.string a,.string b] 26)).alloc (.cells #[.string c,.string d] 26)).alloc (.cells #[.string ⟨#[]⟩,.string ⟨#[]⟩] 26);have B2:=Bx.new2 w (.cells #[.string a,.string b] 26) (.cells #[.string c,.string d] 26) #[.string ⟨#[]⟩,.string ⟨#[]⟩] 26;have q:(dW (ah c) 0==0)=true:=by rw[aa9];exact am2 h0
 have K1:=aab (Vs.arg (s:=c) (by omega)) Vs.nil;generalize dW (ah c) 0=cc at*
 unfold FR FV;rw[aiR,aiS];clear h0
 go_enter func9,ntmps9
 go_wp2_with fail
 refine K1.step hs ?_;intro w1 hs hb;replace B2:=B2.on hb;have x0:=B2.c 0 (.string ⟨#[]⟩) rfl;have x1:=B2.c 1 (.string ⟨#[]⟩) rfl;have f0:=B2.frozen 0;have f1:=B2.frozen 1
 go_wp2_with fail
 obtain⟨W,hW,y0,y1,hbe⟩:=mK hs (by omega) B2 ⟨#[]⟩ ⟨#[]⟩;rw[hW];exact bodyPost_ret (v:=.tuple #[.agg #[.string ⟨#[]⟩,.string ⟨#[]⟩],.int .i64 10]) (by simp[results,results9,go_sem,y0,y1]) rfl ⟨rfl,hbe⟩
theorem QuoA {a b c d:BA}{p q:Rat}(h1:Vq a b p)(h2:Vq c d q):Ret 9 #[FV a b,FV c d] (.tuple #[FR (quoQ p q),.int .i64 (quoE q)]):=by
 unfold quoQ quoE;by_cases h:q=0
 ·rw[if_pos h,if_pos h]
  have e:=h2.1;rw[h]at e;exact Quo0F h2.2.1 (rE.1 e)
 ·rw[if_neg h,if_neg h]
  exact QuoF h1 h2 h
end
end Go.Proofs.YtbkhnggmcheelaaGreatDoor
namespace QQ
def sD (q:Rat):Rat:=q-(q.floor:Rat)
def evB (a:Int):Bool:=decide (a%2=0)
def upB (m c:Int)(neg ev:Bool):Bool:=
 if m=1 then decide (0<c)||((c==0)&& !ev)else if m=2 then decide (0<c)||((c==0)&& !neg)else if m=3 then neg else if m=4 then !neg else decide (m=6)
def pO (m:Int)(q:Rat):Int:=if sD q=0 then q.floor else if upB m (il (sD q) (1/2)) (decide (q<0)) (evB q.floor)=true then q.floor+1 else q.floor
def adS (m:Int):Int:=if m<1\/6<m then 7 else 0
theorem yC (m:Int)(q:Rat):pO m q=q.floor\/(sD q≠0/\pO m q=q.floor+1):=by
 unfold pO;split
 ·exact .inl rfl
 ·rename_i h
  split
  ·exact .inr ⟨h,rfl⟩
  ·exact .inl rfl
theorem akz {m:Int}{q:Rat}(h:sD q=0):pO m q=q.floor:=if_pos h
theorem adG (p q:Rat):il p q= -1\/il p q=0\/il p q=1:=by
 unfold il;split
 ·simp
 ·split<;>simp
theorem zF (q:Rat):sD q=rat (q.num.fmod (q.den:Int)) (q.den:Int):=by
 have hd:(q.den:Int)≠0:=by have:=q.den_nz;omega
 have h0:=bO q;have h1:q.num.fdiv (q.den:Int)=q.floor:=by rw[jb hd,bO]
 rw[Int.fmod_def,h1];rw[dL hd]at h0⊢
 rw[Rat.intCast_sub,anc];have:=bI hd;unfold sD
 conv=>lhs;lhs;rw[<-h0]
 grind
theorem uZ (q:Rat):q.num.fmod (q.den:Int)=0↔sD q=0:=by
 have hd:(q.den:Int)≠0:=by have:=q.den_nz;omega
 have h1:=bI hd;rw[zF,dL hd];constructor
 ·intro h;rw[h];show (0:Rat)/_=0;rw[Rat.div_def,Rat.zero_mul]
 ·intro h
  have:((q.num.fmod (q.den:Int):Int):Rat)=0:=by grind
  exact Rat.intCast_inj.1 this
theorem aiL (q:Rat):(if q.num.fmod (q.den:Int)+q.num.fmod (q.den:Int)<(q.den:Int)then-1 else if q.num.fmod (q.den:Int)+q.num.fmod (q.den:Int)=(q.den:Int)then 0 else 1:Int)=il (sD q) (1/2):=by
 have hd:0<(q.den:Int):=by have:=q.den_nz;omega
 have:=agl (a:=q.num.fmod (q.den:Int)) (b:=q.den) (c:=1) (d:=2) hd (by decide);rw[<-zF,show rat 1 2=1/2 from rfl,Int.one_mul]at this;rw[<-this,show q.num.fmod (q.den:Int)*2=q.num.fmod (q.den:Int)+q.num.fmod (q.den:Int)by omega]
theorem ak3 (q:Rat):q.num<0↔q<0:=by
 have:=rP q 0;rwa[show q-0=q by grind]at this
end QQ
namespace Go.Proofs.YtbkhnggmcheelaaGreatDoor
open Proofs.Tryz
open Go.RowKit Go.Shelf Dec QQ
theorem aat {k:Nat}{q:Rat}(m:Int)(h:bP k q):Fit (k+1) (pO m q):=by
 have h0:q.floor.natAbs<10^k:=by
  have h1:q.floor=q.num.fdiv (q.den:Int):=by
   rw[jb (by have:=q.den_nz;omega),bO]
  rw[h1];exact xE h.1 (by omega)
 have h1:0<10^k:=Nat.pow_pos (by decide);show (pO m q).natAbs <10^(k+1);rw[anb];rcases yC m q with e|⟨_,e⟩<;>omega
end Go.Proofs.YtbkhnggmcheelaaGreatDoor
