/- Allocation: negative, whole, check. Conditions: up to twelve weights of bounded length, or more than 1000. Allocation: the comparison of rests that positive sorts by. Condition: rests of bounded length. Allocation: the plain law: shares, fair divisions. No condition. Dividing an integer by weights: a sort by insertion puts the places into order. Plain facts. No condition. Regions that leave their order open and lay new blocks of any kind (alloc, make): reads, calls that turn nothing old, new blocks at whatever time, then stores in one forced order. Plain facts; no condition. Allocation: the blocks that positive makes, and what they hold. No condition. -/
import Derived.Test.YtjknklinhegdoaaGreatDoorGal
import Derived.Test.YtjknklinhegdoaaGreatDoorGak
import Derived.Test.YtjknklinhegdoaaGreatDoorGaj
import Derived.OwnWalk
import Derived.Laws.MakeOwn
import Derived.Deep.RegionHeld3
import Derived.Calls
import Derived.RunT
import Derived.StepT
import Derived.Shelf.SlSortCmp.Whole1
import Derived.Sort.OwnSortedInts
import Derived.Test.YtjknklinhegdoaaGreatDoorGai
set_option maxHeartbeats 4000000
set_option maxRecDepth 100000
namespace Go.Proofs.YtjknklinhegdoaaGreatDoor
open Go.RowKit Go.Shelf Dec QQ SP
theorem akN (z:Int):decide (fA z 0<0)=decide (z<0):=by
 unfold fA;rw[decide_eq_decide];split
 ·omega
 ·split<;>omega
theorem aaZ {a:ByteArray}(ha:a.size≤1000000):Ret 239 #[.string a] (.bool (decide (aj a<0))):=by
 intro w hg;have hs:=St.refl hg;have K:=ac7 (Vs.arg ha) Vs.nil;rw[←akN];generalize fA (aj a) 0=ci at*
 go_enter Tryz.func239,Tryz.ntmps239
 go_wp2_with fail
 refine K.step hs ?_;intro w1 hs hb
 go_wp2_with fail
 go_ret
 exact⟨rfl,hs.2⟩
theorem wJ {A:Option Addr}{n c k0:Nat}{ws:List ByteArray}(hn:ws.length=n)(h12:n≤1000)(hk0:k0≤5000)(hz:∀s∈ws,s.size≤k0):
 ig (fun w=>Row w A (ws.map sv)) 240 #[.slice A n c] (.string (ag (iv ws).sum)):=by
 intro w hg hi;have hs:=St.refl hg;have HN:=ala hn;have HI:=ala hi;have HZ:=ala hz;have HF:Hid (∀k,Fit (k0+3) ((iv ws).take k).sum):=fun k=>jH hz (by omega)
 obtain⟨r1,hr1⟩:∃v,ag (iv ws).sum =v:=⟨_,rfl⟩;rw[hr1];have HR1:=ala hr1;have HZ0:Hid (ag ((iv ws).take 0).sum =⟨#[]⟩):=qU;clear hn hi hz hr1
 go_enter Tryz.func240,Tryz.ntmps240
 go_wp2_with fail
 go_loopw [8,3] (fun s a wr=>∃k:Nat,k≤n∧s= .int .i64 (k:Int)∧a= .string (ag ((iv ws).take k).sum)∧St w wr) (fun s _ _=>(n-intOf s).toNat)
 case atStart=>exact⟨0,by omega,rfl,by rw[HZ0.out],hs⟩
 case round=>
  obtain⟨k,hk,rfl,rfl,hs⟩:=hrel;by_cases hkn:k=n
  ·subst hkn
   have q:decide ((k:Int)<(k:Int))=false:=alH (by omega);have e1:ag ((iv ws).take k).sum =r1:=by rw[aln (by rw[aP,HN.out];omega)];exact HR1.out
   rw[e1];clear e1
   go_wp2_with fail
   go_ret
   exact⟨rfl,hs.2⟩
  ·have hkl:k<n:=by omega
   have q:decide ((k:Int)<(n:Int))=true:=alI (by omega);have qn:decide (k<n)=true:=alI hkl;obtain⟨s,hd⟩:∃s,ws[k]? =some s:=⟨ws[k]'(by rw[HN.out];exact hkl),by simp⟩;obtain⟨b,o,hA,hb,hc⟩:=(HI.out.on hs.2) k (sv s) (by rw[als,hd];rfl);subst hA;have zs:=HZ.out s (alk hd);have K:=agr (Vs.can (HF.out k) (by omega)) (Vs.arg (s:=s) (by omega));rw[←qC hd]at K;unfold sv at hc;generalize ag ((iv ws).take k).sum =a at*
   obtain⟨a',ha'⟩:∃v,ag ((iv ws).take (k+1)).sum =v:=⟨_,rfl⟩;rw[ha']at K;have HA':=ala ha';clear hd ha' hkn zs
   go_wp2_with fail
   refine K.step hs ?_;intro w1 hs hb1
   go_wp2_with fail
   go_roundw
   case rel=>exact⟨k+1,by omega,by go_num,by rw[HA'.out],hs⟩
   case measure=>simp[intOf];omega
theorem aip {s:ByteArray}(hz:s.size≤1000000):Ret 238 #[.string s] (.bool (aiI s)):=by
 intro w hg;have hs:=St.refl hg;have K1:=ChkR hz;have K2:=aaZ hz;unfold aiI;generalize decide (aj s<0)=v2 at*
 by_cases h:chk s=0
 ·rw[h]at K1⊢
  go_enter Tryz.func238,Tryz.ntmps238
  go_wp2_with fail
  refine K1.step hs ?_;intro w1 hs hb
  go_wp2_with fail
  refine K2.step hs ?_;intro w2 hs hb
  go_wp2_with fail
  go_ret
  exact⟨by simp,hs.2⟩
 ·have q:(chk s !=0)=true:=by simpa using h
  rw[q];generalize chk s=e at*
  clear h
  go_enter Tryz.func238,Tryz.ntmps238
  go_wp2_with fail
  refine K1.step hs ?_;intro w1 hs hb
  go_wp2_with fail
  go_ret
  exact⟨by simp,hs.2⟩
theorem af4 {A:Option Addr}{n c k0:Nat}{t:ByteArray}{ws:List ByteArray}(hn:ws.length=n)(h12:n≤1000∨1000<n)(hm:n≤4611686018427387904)(hk0:k0≤5000)(ht:t.size≤k0)(hz:∀s∈ws,s.size≤k0):
 ig (fun w=>Row w A (ws.map sv)) 185 #[.string t,.slice A n c] (.int .i64 (alE t ws)):=by
 intro w hg hi;have hs:=St.refl hg;have K1:=ChkR (a:=t) (by omega);have K2:=yz (A:=A) (c:=c) (cap:= #[]) (f:=238) (p:=aiI) (l:=ws) (I:=fun _=>True) (fun _ _ _ _=>trivial) hn hm (fun _ _=>rfl) (fun s hs=>(aip (ali (hz s hs) (by omega))).i _);have Hi:=ala hi;have HE:Hid (alE t ws=if ws.length=0 then 11 else if 1000<ws.length then 4 else if chk t≠0∨ws.any aiI=true then 1 else if (iv ws).sum =0 then 10 else 0):=rfl;rw[hn]at HE;clear hi;by_cases h0:n=0
 ·rw[HE.out,if_pos h0]
  subst h0;clear HE K1 K2
  go_enter Tryz.func185,Tryz.ntmps185
  go_wp2_with fail
  go_ret
  exact⟨rfl,hs.2⟩
 ·have q0:((n:Int)==0)=false:=beq_eq_false_iff_ne.2 (by omega)
  by_cases h1:1000<n
  ·rw[HE.out,if_neg h0,if_pos h1]
   have q1:decide ((1000:Int)<(n:Int))=true:=alI (by omega);clear HE K1 K2 h0
   go_enter Tryz.func185,Tryz.ntmps185
   go_wp2_with fail
   go_ret
   exact⟨rfl,hs.2⟩
  ·have q1:decide ((1000:Int)<(n:Int))=false:=alH (by omega)
   have K3:=wJ (A:=A) (c:=c) hn (by omega) hk0 hz;have q3:=nil_eq (iv ws).sum;have e:=HE.out;rw[if_neg h0,if_neg h1]at e;rw[e];clear e HE h12;by_cases h2:chk t=0
   ·rw[h2]at K1
    cases h3:ws.any aiI with
    |true=>
     rw[h3]at K2;rw[if_pos (.inr rfl)];clear h3 h0 h1 hn hz q3 K3 h2
     go_enter Tryz.func185,Tryz.ntmps185
     go_wp2_with fail
     refine K1.step hs ?_;intro w1 hs hb
     go_wp2_with fail
     refine K2.step hs ⟨Hi.out.on hs.2,trivial⟩ ?_;intro w2 hs hb
     go_wp2_with fail
     go_ret
     exact⟨rfl,hs.2⟩
    |false=>
     rw[h3]at K2;rw[if_neg (by rw[h2];simp)];obtain⟨bz,hbz⟩:∃x,decide ((iv ws).sum =0)=x:=⟨_,rfl⟩;rw[hbz]at q3;have HB:=ala hbz;generalize ag (iv ws).sum =cs at*
     clear h3 h0 h1 hn hz h2 hbz;cases bz with
     |true=>
      rw[if_pos (of_decide_eq_true HB.out)]
      go_enter Tryz.func185,Tryz.ntmps185
      go_wp2_with fail
      refine K1.step hs ?_;intro w1 hs hb
      go_wp2_with fail
      refine K2.step hs ⟨Hi.out.on hs.2,trivial⟩ ?_;intro w2 hs hb
      go_wp2_with fail
      refine K3.step hs (Hi.out.on hs.2) ?_;intro w3 hs hb
      go_wp2_with fail
      go_ret
      exact⟨rfl,hs.2⟩
     |false=>
      rw[if_neg (of_decide_eq_false HB.out)]
      go_enter Tryz.func185,Tryz.ntmps185
      go_wp2_with fail
      refine K1.step hs ?_;intro w1 hs hb
      go_wp2_with fail
      refine K2.step hs ⟨Hi.out.on hs.2,trivial⟩ ?_;intro w2 hs hb
      go_wp2_with fail
      refine K3.step hs (Hi.out.on hs.2) ?_;intro w3 hs hb
      go_wp2_with fail
      go_ret
      exact⟨rfl,hs.2⟩
   ·have q2:(chk t !=0)=true:=by simpa using h2
    rw[if_pos (.inl h2)];generalize chk t=e at*
    clear h2 h0 h1 hn hz q3 K3 K2
    go_enter Tryz.func185,Tryz.ntmps185
    go_wp2_with fail
    refine K1.step hs ?_;intro w1 hs hb
    go_wp2_with fail
    go_ret
    exact⟨rfl,hs.2⟩
end Go.Proofs.YtjknklinhegdoaaGreatDoor
namespace Go.Proofs.YtjknklinhegdoaaGreatDoor
open Go.RowKit Go.Shelf Go.Sort SP Dec
def cfO {m:Nat}(r:List Int)(x y:Fin (m+1)):Int:=if fA (at0 r y.val) (at0 r x.val)=0 then fA (x.val:Int) (y.val:Int)else fA (at0 r y.val) (at0 r x.val)
theorem lS {m:Nat}(r:List Int)(x y:Fin (m+1)):ltC (cfO r) x y=iJ r x.val y.val:=by
 unfold ltC;rw[Bool.eq_iff_iff,decide_eq_true_eq,dO];unfold cfO fA
 repeat' split
 all_goals omega
theorem akR {m:Nat}(r:List Int):SWO (ltC (cfO (m:=m) r)) where
 irrefl:=fun x=>by rw[lS];exact nP _ _
 trans:=fun x y z h1 h2=>by rw[lS]at*;exact aao h1 h2
 ntrans:=fun x y z h1 h2=>by
  rw[lS]at*
  rw[←Bool.not_eq_true,dO]at*
  omega
theorem ain {m B RB:Nat}{rs:List ByteArray}(hrs:rs.length=m+1)(hz:∀s∈rs,s.size≤1000000)(x y:Fin (m+1))(w:World)(hg:Gl w)(hbox:w.cell? ⟨B,0,none⟩=some (.slice (some ⟨RB,0,none⟩) (m+1) (m+1)))(hrow:Row w (some ⟨RB,0,none⟩) (rs.map sv)):
 Calls Tryz.prog 265 #[.int .i64 (x.val:Int),.int .i64 (y.val:Int),.pointer (some ⟨B,0,none⟩)] w fun e w'=>e= .returned (.int .i64 (cfO (iv rs) x y))∧Below w.heap.size w w':=by
 have hs:=St.refl hg;obtain⟨xi,hx⟩:=x;obtain⟨yi,hy⟩:=y;obtain⟨sx,hsx⟩:∃s,rs[xi]? =some s:=⟨rs[xi]'(by omega),by simp⟩;obtain⟨sy,hsy⟩:∃s,rs[yi]? =some s:=⟨rs[yi]'(by omega),by simp⟩;obtain⟨b1,o1,e1,l1,c1⟩:=hrow xi (sv sx) (by rw[als,hsx];rfl);obtain⟨b2,o2,e2,l2,c2⟩:=hrow yi (sv sy) (by rw[als,hsy];rfl);injection e1 with e1;injection e1 with e1 e1'
 injection e2 with e2;injection e2 with e2 e2'
 subst e1 e1' e2 e2';unfold sv at c1 c2;rw[Nat.zero_add]at c1 c2;have KC:=ac7 (Vs.arg (s:=sy) (hz _ (alk hsy))) (Vs.arg (s:=sx) (hz _ (alk hsx)));have HE:Hid (cfO (iv rs) (⟨xi,hx⟩:Fin (m+1)) ⟨yi,hy⟩=if fA (aj sy) (aj sx)=0 then fA (xi:Int) (yi:Int)else fA (aj sy) (aj sx)):=by
  show _=_;unfold cfO;rw[zT hsx,zT hsy]
 rw[HE.out];have KI:∀u:Kept w,Calls Tryz.prog 266 #[.int .i64 (xi:Int),.int .i64 (yi:Int)] u.W fun e w''=>e= .returned (.int .i64 (fA (xi:Int) (yi:Int)))∧∃u':Kept w,w''=u'.W:=
  fun u=>(acN _ _ u.W).mono fun _ w'' ⟨he,hw⟩=>⟨he,u,hw⟩
 generalize fA (aj sy) (aj sx)=ca at*
 generalize fA (xi:Int) (yi:Int)=cb at*
 have k0:=Kept.cell_of hbox;have k1:=Kept.cell_of c1;have k2:=Kept.cell_of c2;have q1:(xi:Int)<(m:Int)+1:=by omega
 have q2:(yi:Int)<(m:Int)+1:=by omega
 have q3:xi<m+1:=hx;have q4:yi<m+1:=hy;show Calls Tryz.prog 265 #[.int .i64 (xi:Int),.int .i64 (yi:Int),.pointer (some ⟨B,0,none⟩)] w _;have KO:=fun(v:World)=>afj ca cb v.heap.size (v.alloc (.cells #[.int .i64 ca,.int .i64 cb] 3)) ((Bx.new v _ _).cell (i:=0) rfl) ((Bx.new v _ _).cell (i:=1) rfl)
 obtain⟨r,hr⟩:∃r,(if ca=0 then cb else ca)=r:=⟨_,rfl⟩;rw[hr]at KO⊢
 clear hr;clear hg hbox hrow hrs hz c1 c2 hsx hsy HE hx hy
 go_enter Tryz.func265,Tryz.ntmps265
 go_wp2_with fail
 refine bI 12 (by kernel_rfl) (by kernel_rfl) ?_;simp only[List.take_succ_cons,List.take_zero,List.drop_succ_cons,List.drop_zero]
 repeat (go_big_quiet_step (first|(with_reducible exact KC.kept hs)|(with_reducible exact KI _)))
 refine wpQuiet_nil ?_;rintro _ ⟨u,rfl⟩;have hs1:=hs.kept u
 go_wp2_with fail
 refine(KO u.W).mono ?_;rintro e w1 ⟨rfl,rfl⟩
 go_wp2_with fail
 go_ret
 exact⟨rfl,(hs1.alloc _).2⟩
end Go.Proofs.YtjknklinhegdoaaGreatDoor
namespace Go.Proofs.YtjknklinhegdoaaGreatDoor
open Go.RowKit Go.Shelf Dec QQ SP
theorem xQ (l:List Int):iv (l.map ag)=l:=by
 unfold iv;rw[List.map_map];rw[show (aj∘ag)=id from funext fun z=>aW z,List.map_id]
theorem chk_eq {t:ByteArray}(h:chk t=0):ag (aj t)=t:=(aio.1 h).symm
end Go.Proofs.YtjknklinhegdoaaGreatDoor
namespace SP
def ati (l:List Nat)(i:Nat):Nat:=l.getD i 0
theorem afX {l:List Nat}{i:Nat}(h:i<l.length):l[i]? =some (ati l i):=by simp[ati,List.getD_eq_getElem?_getD,ald h]
theorem pz {l:List Nat}{i x:Nat}(h:l[i]? =some x):ati l i=x:=by simp[ati,List.getD_eq_getElem?_getD,h]
def Srt (r:List Int)(l:List Nat)(i:Nat):Prop:=∀a b,a<b→b<i→iJ r (ati l a) (ati l b)=true
def Ins (r:List Int)(l:List Nat)(i j:Nat):Prop:=∀a b,a<b→b≤i→b≠j→iJ r (ati l a) (ati l b)=true
theorem ajh {r:List Int}{l:List Nat}{n:Nat}(hp:l.Perm (List.range n))(hr:r.length=n)(h:Srt r l n):Ord r l:=by
 subst hr;refine⟨hp,List.pairwise_iff_getElem.2 fun i j hi hj hij=>?_⟩;have hl:=hp.length_eq;rw[List.length_range]at hl;have:=h i j hij (by omega);rwa[pz (ald hi),pz (ald hj)]at this
theorem ati_ne {l:List Nat}{n a b:Nat}(hp:l.Perm (List.range n))(ha:a<n)(hb:b<n)(h:a≠b):ati l a≠ati l b:=by
 have hl:=hp.length_eq;rw[List.length_range]at hl;have hn:l.Nodup:=hp.nodup_iff.2 List.nodup_range;intro e;have e1:=afX (l:=l) (i:=a) (by omega);have e2:=afX (l:=l) (i:=b) (by omega);rw[e, ←e2]at e1;exact h ((List.getElem?_inj (by omega) hn).1 e1)
end SP
namespace Go.Proofs.YtjknklinhegdoaaGreatDoor.R3
open Go.RowKit
section
variable {P:Program} {ops:Array Oper} {w:World} {ks:List Nat} {val:Nat→Value} {md:Region.Mode} {mk:Nat→Nat→Value} {zs:Nat→Array Value×TypeId}
def sliTo (n c b:Nat):Value:=.slice (some ⟨b,0,none⟩) n c
end
end Go.Proofs.YtjknklinhegdoaaGreatDoor.R3
namespace Go.Proofs.YtjknklinhegdoaaGreatDoor
open Go.RowKit Go.Shelf Go.Sort SP Dec
theorem madeS {n:Nat}(h:n≤1000):∃Z:Array Value,Z.size=n∧∀u:World,(Instr.makeSlice 160 (.int .i64 (n:Int)) (.int .i64 (n:Int))).run Tryz.prog u= .ok (R3.sliTo n n u.heap.size) (u.alloc (.cells Z 24)):=by
 obtain⟨i0,hi,hz0,hz1,hz2⟩:=info_parts (P:=Tryz.prog) (e:=24) (z:=.string ⟨#[]⟩) (size:=1) (bytes:=16) (by kernel_rfl);refine⟨madeCells (.string ⟨#[]⟩:Value).cells (n*1),by rw[size_madeCells,Nat.mul_one],fun u=>?_⟩;have:=run_make u 160 24 i0 (.string ⟨#[]⟩) (by kernel_rfl) hi hz0 .i64 .i64 (n:Int) (n:Int) (by omega) (Int.le_refl _) (by rw[hz2];omega) (by omega);rw[Int.toNat_natCast,hz1]at this;exact this
theorem madeI {n:Nat}(h:n≤1000):∃Z:Array Value,Z.size=n∧∀u:World,(Instr.makeSlice 208 (.int .i64 (n:Int)) (.int .i64 (n:Int))).run Tryz.prog u= .ok (R3.sliTo n n u.heap.size) (u.alloc (.cells Z 3)):=by
 obtain⟨i0,hi,hz0,hz1,hz2⟩:=info_parts (P:=Tryz.prog) (e:=3) (z:=.int .i64 0) (size:=1) (bytes:=8) (by kernel_rfl);refine⟨madeCells (.int .i64 0:Value).cells (n*1),by rw[size_madeCells,Nat.mul_one],fun u=>?_⟩;have:=run_make u 208 3 i0 (.int .i64 0) (by kernel_rfl) hi hz0 .i64 .i64 (n:Int) (n:Int) (by omega) (Int.le_refl _) (by rw[hz2];omega) (by omega);rw[Int.toNat_natCast,hz1]at this;exact this
theorem tri0 (w:World)(a b c:Obj):(((w.alloc a).alloc b).alloc c).drew.heap[w.heap.size]? =some a:=
 (Below.heap_alloc _ _ _ (by simp;omega)).trans ((Below.heap_alloc _ _ _ (by simp)).trans (aZ w a))
theorem tri1 (w:World)(a b c:Obj):(((w.alloc a).alloc b).alloc c).drew.heap[w.heap.size+1]? =some b:=by
 have:=aZ (w.alloc a) b;rw[alf]at this;exact(Below.heap_alloc _ _ _ (by simp)).trans this
theorem tri2 (w:World)(a b c:Obj):(((w.alloc a).alloc b).alloc c).drew.heap[w.heap.size+1+1]? =some c:=by
 have:=aZ ((w.alloc a).alloc b) c;rw[alf,alf]at this;exact this
def Fil (W:World)(b:Nat)(T:TypeId)(n k:Nat)(f:Nat→Value):Prop:=∃cs,W.heap[b]? =some (.cells cs T (0,0))∧cs.size=n∧∀i,i<k→cs[i]? =some (f i)
section
variable {W W':World} {b n k:Nat} {T:TypeId} {f:Nat→Value}
theorem Fil.start {cs:Array Value}(h:W.heap[b]? =some (.cells cs T (0,0)))(hn:cs.size=n):Fil W b T n 0 f:=⟨cs,h,hn,fun i hi=>by omega⟩
theorem Fil.on (h:Fil W b T n k f)(hb:Below W.heap.size W W'):Fil W' b T n k f:=by
 obtain⟨cs,h1,h2⟩:=h;exact⟨cs,(hb.block b (alc.1 h1).1).trans h1,h2⟩
theorem Fil.lt (h:Fil W b T n k f):b<W.heap.size:=by
 obtain⟨cs,h1,_⟩:=h;exact(alc.1 h1).1
theorem Fil.other (h:Fil W b T n k f){c:Nat}(hc:b≠c)(i:Nat)(v:Value):Fil (W.setCell ⟨c,i,none⟩ v) b T n k f:=by
 obtain⟨cs,h1,h2⟩:=h;exact⟨cs,(alv _ _ _ _ hc).trans h1,h2⟩
theorem Fil.set (h:Fil W b T n k f)(hk:k<n):Fil (W.setCell ⟨b,k,none⟩ (f k)) b T n (k+1) f:=by
 obtain⟨cs,h1,h2,h3⟩:=h;refine⟨cs.setIfInBounds k (f k),by simp[World.setCell,Array.getElem?_modify,h1],by simpa using h2,fun i hi=>?_⟩;rw[Array.getElem?_setIfInBounds];by_cases e:k=i
 ·subst e;rw[if_pos rfl,if_pos (by omega)]
 ·rw[if_neg e];exact h3 i (by omega)
theorem Fil.cell (h:Fil W b T n k f){i:Nat}(hi:i<k):W.cell? ⟨b,i,none⟩=some (f i):=by
 obtain⟨cs,h1,_,h3⟩:=h;simp[World.cell?,h1,h3 i hi]
theorem Fil.some (h:Fil W b T n k f){i:Nat}(hi:i<n):∃v,W.cell? ⟨b,i,none⟩=Option.some v:=by
 obtain⟨cs,h1,h2,_⟩:=h;exact⟨cs[i]'(by omega),by simp[World.cell?,h1,h2,hi]⟩
theorem Fil.frozen (h:Fil W b T n k f)(i:Nat):W.frozen? ⟨b,i,none⟩=false:=by
 obtain⟨cs,h1,_⟩:=h;simp[World.frozen?,h1]
end
structure PZ (w:World) (T:Int) (l:List Int) (n P R O B k ko:Nat) (W:World):Prop where
 st:St w W
 pr:Fil W P 24 n k (fun i=>.string (ag (at0 (qL T l) i)))
 rr:Fil W R 24 n k (fun i=>.string (ag (at0 (rL T l) i)))
 oo:Fil W O 3 n ko (fun i=>.int .i64 (i:Int))
 bb:W.heap[B]? =some (.cells #[.slice (some ⟨R,0,none⟩) n n] 160 (0,0))
 lo:w.heap.size≤P∧w.heap.size≤R∧w.heap.size≤B∧w.heap.size≤O
 ne:P≠R∧P≠B∧P≠O∧R≠B∧R≠O∧B≠O
section
variable {w:World} {T:Int} {l:List Int} {n P R O B k ko:Nat} {W W':World}
theorem PZ.up (h:PZ w T l n P R O B k ko W)(hb:Below W.heap.size W W'):PZ w T l n P R O B k ko W':=
 ⟨h.st.on hb,h.pr.on hb,h.rr.on hb,h.oo.on hb,(hb.block _ (alc.1 h.bb).1).trans h.bb,h.lo,h.ne⟩
theorem PZ.drew (h:PZ w T l n P R O B k ko W):PZ w T l n P R O B k ko W.drew:=h.up (alJ _ _).drew
theorem PZ.box (h:PZ w T l n P R O B k ko W):W.cell? ⟨B,0,none⟩=some (.slice (some ⟨R,0,none⟩) n n):=by simp[World.cell?,h.bb]
theorem PZ.two (h:PZ w T l n P R O B k ko W)(hk:k<n){q r:ByteArray}(hq:ag (at0 (qL T l) k)=q)(hr:ag (at0 (rL T l) k)=r):PZ w T l n P R O B (k+1) ko ((W.setCell ⟨P,k,none⟩ (.string q)).setCell ⟨R,k,none⟩ (.string r)):=by
 subst hq hr;obtain⟨n1,n2,n3,n4,n5,n6⟩:=h.ne;refine⟨(h.st.set h.lo.1 _ _).set h.lo.2.1 _ _,(Fil.set h.pr hk).other n1 _ _,Fil.set (h.rr.other (fun e=>n1 e.symm) _ _) hk,(h.oo.other (fun e=>n3 e.symm) _ _).other (fun e=>n5 e.symm) _ _,(alv _ _ _ _ (fun e=>n4 e.symm)).trans ((alv _ _ _ _ (fun e=>n2 e.symm)).trans h.bb),h.lo,h.ne⟩
theorem PZ.three (h:PZ w T l n P R O B k ko W)(hk:ko<n):PZ w T l n P R O B k (ko+1) (W.setCell ⟨O,ko,none⟩ (.int .i64 (ko:Int))):=by
 obtain⟨n1,n2,n3,n4,n5,n6⟩:=h.ne;exact⟨h.st.set h.lo.2.2.2 _ _,h.pr.other n3 _ _,h.rr.other n5 _ _,Fil.set h.oo hk,(alv _ _ _ _ n6).trans h.bb,h.lo,h.ne⟩
end
structure PB0 (w:World) (Z:Array Value) (n P R B:Nat) (W:World):Prop where
 low:Below w.heap.size w W
 pr:W.heap[P]? =some (.cells Z 24 (0,0))
 rr:W.heap[R]? =some (.cells Z 24 (0,0))
 bb:W.heap[B]? =some (.cells #[.slice (some ⟨R,0,none⟩) n n] 160 (0,0))
 lP:w.heap.size≤P
 lR:w.heap.size≤R
 lB:w.heap.size≤B
 nPR:P≠R
 nPB:P≠B
 nRB:R≠B
theorem ajx {t:ByteArray}{ws:List ByteArray}{k0:Nat}(ht:t.size≤k0)(hz:∀s∈ws,s.size≤k0):∀x∈qL (aj t) (iv ws),Fit (k0+k0+1) x:=by
 intro x hx;unfold qL at hx;obtain⟨y,hy,rfl⟩:=alq.1 hx;exact((Fit.val ht).mul (lU hz y hy)).fdiv
theorem ajU {t:ByteArray}{ws:List ByteArray}{k0:Nat}(ht:t.size≤k0)(hz:∀s∈ws,s.size≤k0)(h12:ws.length≤1000)(k:Nat):Fit (k0+k0+5) (aj t-((qL (aj t) (iv ws)).take k).sum):=by
 have h1:=kw (K:=k0+k0+1) (l:=(qL (aj t) (iv ws)).take k) (fun x hx=>ajx ht hz x (List.mem_of_mem_take hx)) (by rw[alr,wZ,aP];omega);exact((Fit.val ht).mono (by omega)).sub h1
section
variable {W W':World} {b n k:Nat} {T:TypeId} {f:Nat→Value}
theorem Fil.congr (h:Fil W b T n k f){g:Nat→Value}(e:∀i,i<k→f i=g i):Fil W b T n k g:=by
 obtain⟨cs,h1,h2,h3⟩:=h;exact⟨cs,h1,h2,fun i hi=>by rw[h3 i hi,e i hi]⟩
theorem Fil.upd (h:Fil W b T n n f){g:Nat→Value}{i:Nat}{v:Value}(hv:g i=v)(e:∀k,k<n→k≠i→g k=f k):Fil (W.setCell ⟨b,i,none⟩ v) b T n n g:=by
 obtain⟨cs,h1,h2,h3⟩:=h;refine⟨cs.setIfInBounds i v,by simp[World.setCell,Array.getElem?_modify,h1],by simpa using h2,fun k hk=>?_⟩;rw[Array.getElem?_setIfInBounds];by_cases e':i=k
 ·subst e';rw[if_pos rfl,if_pos (by omega),hv]
 ·rw[if_neg e',h3 k hk,e k hk (fun h=>e' h.symm)]
theorem Fil.grown (h:Fil W b T n k f){row:Option Nat}(hg:W.grownBy W' row)(hne:Option.some b≠row):Fil W' b T n k f:=by
 have hlt:=h.lt;obtain⟨cs,h1,h2⟩:=h;exact⟨cs,(hg.block b hlt hne).trans h1,h2⟩
theorem Fil.own {base:Nat}(h:Fil W b T n n f)(hb:base≤b)(hn:n≤maxLen):W.ownsRow base T 1 (.slice (Option.some ⟨b,0,none⟩) n n) n ((List.range n).map f):=by
 obtain⟨cs,h1,h2,h3⟩:=h;refine⟨by simp,.inr ⟨b,n,cs,rfl,hb,h1,Nat.le_refl _,hn,by omega,?_⟩⟩;apply List.ext_getElem?;intro i;rw[Nat.mul_one,aln (by simp;omega),alA,als];by_cases hi:i<n
 ·rw[h3 i hi,List.getElem?_range hi];rfl
 ·rw[Array.getElem?_eq_none (by omega),alB (by simp;omega)];rfl
theorem Fil.row (h:Fil W b T n n f):Row W (Option.some ⟨b,0,none⟩) ((List.range n).map f):=by
 intro i v hv;rw[als]at hv;by_cases hi:i<n
 ·rw[List.getElem?_range hi]at hv
  injection hv with hv
  exact⟨b,0,rfl,h.lt,by rw[Nat.zero_add, ←hv];exact h.cell hi⟩
 ·rw[alB (by simp;omega)]at hv
  cases hv
theorem Fil.sow {O m:Nat}(h:Fil W O 3 n n (fun i=>.int .i64 (i:Int)))(hn:n=m+1):SoW W O (Array.ofFn (fun i:Fin (m+1)=>i)) W:=by
 subst hn;obtain⟨cs,h1,h2,h3⟩:=h;refine⟨World.grownBy.refl W _,?_⟩;have:cs=(Array.ofFn (fun i:Fin (m+1)=>i)).map ac3:=by
  apply Array.ext_getElem?;intro i;by_cases hi:i<m+1
  ·rw[h3 i hi];simp[hi,ac3]
  ·rw[Array.getElem?_eq_none (by omega),Array.getElem?_eq_none (by simp;omega)]
 rw[h1,this]
theorem SoW.fil {m O:Nat}{w0:World}{dk:Array (Fin (m+1))}(h:SoW w0 O dk W)(hn:dk.size=n):Fil W O 3 n n (fun i=>.int .i64 ((ati (dk.toList.map (fun x=>x.val)) i:Nat):Int)):=by
 refine⟨dk.map ac3,h.row,by simpa using hn,fun i hi=>?_⟩;have e:ati (dk.toList.map (fun x=>x.val)) i=(dk[i]'(by omega)).val :=pz (by rw[als,alA,Array.getElem?_eq_getElem (by omega)];rfl);rw[Array.getElem?_map,Array.getElem?_eq_getElem (by omega)];show some (ac3 _)=some (Value.int .i64 ((ati (dk.toList.map (fun x=>x.val)) i:Nat):Int));rw[e];rfl
end
theorem St.grown {w W W':World}{O:Nat}(h:St w W)(hg:W.grownBy W' (some O))(hO:w.heap.size≤O):St w W':=
 ⟨h.1,h.2.grown hg h.2.size (by rintro k hk;injection hk with hk;omega)⟩
theorem ab0 {m:Nat}{r:List Int}(hr:r.length=m+1){d:Array (Fin (m+1))}(h1:d.toList.Perm (Array.ofFn (fun i:Fin (m+1)=>i)).toList)(h2:d.size=m+1)(h3:∀i j,i<j→j<m+1→ltC (cfO r) d[j]! d[i]! =false):Ord r (d.toList.map (fun x=>x.val)):=by
 have hp:(d.toList.map (fun x=>x.val)).Perm (List.range (m+1)):=by
  have h4:=h1.map (fun x:Fin (m+1)=>x.val);have e:((Array.ofFn (fun i:Fin (m+1)=>i)).toList.map (fun x=>x.val))=List.range (m+1):=by
   apply List.ext_getElem
   ·simp
   ·intro i h5 h6
    rw[List.getElem_map,Array.getElem_toList,Array.getElem_ofFn,List.getElem_range]
  rwa[e]at h4
 have at_:∀a,a<m+1→ati (d.toList.map (fun x=>x.val)) a=(d[a]!).val :=fun a ha=>pz (by
  rw[als,alA,Array.getElem?_eq_getElem (by omega),getElem!_pos d a (by omega)];rfl)
 refine ajh hp hr (fun a b hab hb=>?_);have h4:=h3 a b hab hb;rw[lS]at h4;have hne:=ati_ne hp (a:=a) (b:=b) (by omega) (by omega) (by omega);rw[at_ a (by omega),at_ b hb]at hne⊢
 rcases jc (r:=r) hne with h|h
 ·exact h
 ·rw[h]at h4;cases h4
theorem akO {w W:World}{T:Int}{l:List Int}{n P R O B m k:Nat}(H:PZ w T l n P R O B n n W)(hn:n=m+1)(hl:l.length=n)(hk:k≤999999)(hz:∀x∈rL T l,Fit k x):
 CmpK W O 265 #[.pointer (some ⟨B,0,none⟩)] (cfO (m:=m) (rL T l)):=by
 subst hn;intro V hg x y;obtain⟨n1,n2,n3,n4,n5,n6⟩:=H.ne;have hs:=H.st.grown hg H.lo.2.2.2;have hR:=H.rr.grown hg (by intro e;injection e with e;exact n5 e);have hB:V.heap[B]? =_:=(hg.block B (alc.1 H.bb).1 (by intro e;injection e with e;exact n6 e)).trans H.bb;have hrow:=hR.row;have e:(List.range (m+1)).map (fun i=>Value.string (ag (at0 (rL T l) i)))=((rL T l).map ag).map sv:=by
  have e1:=zM (rL T l);rw[aaM,hl]at e1
  conv=>rhs;rw[←e1]
  rw[List.map_map,List.map_map];rfl
 rw[e]at hrow;have K:=ain (m:=m) (B:=B) (RB:=R) (rs:=(rL T l).map ag) (by rw[List.length_map,aaM,hl]) (fun s hs=>by
  obtain⟨z,hz',rfl⟩:=alq.1 hs;have:=(hz z hz').size;omega) x y V hs.gl (by simp[World.cell?,hB]) hrow
 rw[xQ]at K;exact K
structure PY (w:World) (q r:List Int) (L:List Nat) (n P O j:Nat) (W:World):Prop where
 st:St w W
 pr:Fil W P 24 n n (fun i=>.string (ag (at0 q i+if rk r i<j then 1 else 0)))
 oo:Fil W O 3 n n (fun i=>.int .i64 ((ati L i:Nat):Int))
 lo:w.heap.size≤P
 ne:P≠O
section
variable {w W W':World} {q r:List Int} {L:List Nat} {n P O j:Nat}
theorem PY.up (h:PY w q r L n P O j W)(hb:Below W.heap.size W W'):PY w q r L n P O j W':=⟨h.st.on hb,h.pr.on hb,h.oo.on hb,h.lo,h.ne⟩
theorem PY.start (h1:St w W)(h2:Fil W P 24 n n (fun i=>.string (ag (at0 q i))))(h3:Fil W O 3 n n (fun i=>.int .i64 ((ati L i:Nat):Int)))(h4:w.heap.size≤P)(h5:P≠O):PY w q r L n P O 0 W:=
 ⟨h1,h2.congr (fun i _=>by rw[if_neg (Nat.not_lt_zero _),Int.add_zero]),h3,h4,h5⟩
theorem PY.place (hL:Ord r L)(hr:r.length=n)(hj:j<n):L[j]? =some (ati L j)∧ati L j<n∧rk r (ati L j)=j:=by
 have h1:L[j]? =some (ati L j):=afX (by rw[ajH hL,hr];exact hj);exact⟨h1,by rw[←hr];exact(ad7 hL).1 (alk h1),rk_at hL h1⟩
theorem PY.at (h:PY w q r L n P O j W)(hL:Ord r L)(hr:r.length=n)(hj:j<n):W.cell? ⟨P,ati L j,none⟩=some (.string (ag (at0 q (ati L j)))):=by
 obtain⟨_,h2,h3⟩:=PY.place hL hr hj;have:=h.pr.cell h2;rwa[h3,if_neg (by omega),Int.add_zero]at this
theorem PY.step (h:PY w q r L n P O j W)(hL:Ord r L)(hr:r.length=n)(hj:j<n){v:ByteArray}(hv:ag (at0 q (ati L j)+1)=v):PY w q r L n P O (j+1) (W.setCell ⟨P,ati L j,none⟩ (.string v)):=by
 obtain⟨_,h2,h3⟩:=PY.place hL hr hj;refine⟨h.st.set h.lo _ _,h.pr.upd ?_ ?_,h.oo.other (fun e=>h.ne e.symm) _ _,h.lo,h.ne⟩
 ·show Value.string (ag (_+if rk r (ati L j)<j+1 then 1 else 0))=_
  rw[h3,if_pos (by omega),hv]
 ·intro k hk hki
  have hne:rk r k≠j:=fun h'=>hki (rk_inj (r:=r) (by rw[hr];exact hk) (by rw[hr];exact h2) (by rw[h',h3]))
  show Value.string (ag (_+if rk r k<j+1 then 1 else 0))=Value.string (ag (_+if rk r k<j then 1 else 0));by_cases hlt:rk r k<j
  ·rw[if_pos (by omega),if_pos hlt]
  ·rw[if_neg (by omega),if_neg hlt]
end
def POut (w:World)(v:Value)(n:Nat)(l:List Int)(W:World):Prop:=∃P,v= .slice (some ⟨P,0,none⟩) n n∧w.heap.size≤P∧l.length=n∧Fil W P 24 n n (fun i=>.string (ag (at0 l i)))
theorem PY.done {w W:World}{T:Int}{l:List Int}{L:List Nat}{n P O j:Nat}(h:PY w (qL T l) (rL T l) L n P O j W)(hl:l.length=n)(hj:(j:Int)=mis T l):POut w (.slice (some ⟨P,0,none⟩) n n) n (wI T l) W:=by
 refine⟨P,rfl,h.lo,by rw[ag6,hl],h.pr.congr fun i hi=>?_⟩;rw[adV (by omega),agZ (by omega)];unfold bon;by_cases hc:rk (rL T l) i<j
 ·rw[if_pos hc,if_pos (by omega)]
 ·rw[if_neg hc,if_neg (by omega)]
theorem r_fit {T:Int}{ws:List Int}{K:Nat}(h:WOk ws)(hs:Fit K ws.sum):∀x∈rL T ws,Fit K x:=by
 intro x hx;have h1:=pX T h x hx;unfold Fit at*
 omega
theorem ajy {T:Int}{ws:List Int}{k0:Nat}(hT:Fit k0 T)(hw:∀x∈ws,Fit k0 x):∀x∈wI T ws,Fit (k0+k0+2) x:=by
 intro x hx;unfold wI at hx;obtain⟨i,hi,rfl⟩:=alq.1 hx;rw[List.mem_range]at hi;rw[agZ hi];have h1:Fit (k0+k0+1) ((T*at0 ws i).fdiv ws.sum):=(hT.mul (hw _ (alk (iK hi)))).fdiv;have h2:(10:Nat)^(k0+k0+2)=10^(k0+k0+1)*10:=by rw[←Nat.pow_succ]
 have h3:0<(10:Nat)^(k0+k0+1):=Nat.pow_pos (by omega);unfold Fit at*
 generalize 10^(k0+k0+1)=p at*
 rcases yG T ws i with e|e<;>rw[e,h2]<;>omega
end Go.Proofs.YtjknklinhegdoaaGreatDoor
