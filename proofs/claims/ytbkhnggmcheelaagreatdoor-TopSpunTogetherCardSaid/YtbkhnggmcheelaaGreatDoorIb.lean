/- TopSpunTogether: Integer. Conditions: bounded sizes; variables as laid. -/
import Derived.Test.YtbkhnggmcheelaaGreatDoorProg
import Derived.WalkLawsBesides
import Derived.Deep.LoopGhost
import Derived.BigQuiet
import Derived.Deep.AppendLies
import Derived.StillTailTactics
import Derived.Laws.CopyOwn
import Derived.WalkSpells
import Derived.Test.YtbkhnggmcheelaaGreatDoorGaa
set_option maxHeartbeats 2000000
set_option maxRecDepth 1000000
namespace Go.Proofs.YtbkhnggmcheelaaGreatDoor
open Tryz
section
open Go.RowKit Dec
def Mg (K:IntKind)(w:World)(B:Nat)(A:Option Addr)(l:List Nat):Prop:=
 ∀(i:Nat) (g:Nat),l[i]? =some g->∃b o,A=some ⟨b,o,none⟩/\b<B/\w.cell? ⟨b,o+i,none⟩=some (.int K g)
section
variable {K:IntKind} {w w':World} {B B':Nat} {A:Option Addr} {l:List Nat}
theorem Mg.below (h:Mg K w B A l)(hb:Below B w w'):Mg K w' B A l:=by
 intro i g hg;obtain⟨b,o,hA,hB,h1⟩:=h i g hg;exact⟨b,o,hA,hB,(hb.cell (p:=⟨b,o+i,none⟩) hB).trans h1⟩
theorem Mg.mono (h:Mg K w B A l)(hb:B<=B'):Mg K w B' A l:=by
 intro i g hg;obtain⟨b,o,hA,hB,h1⟩:=h i g hg;exact⟨b,o,hA,by omega,h1⟩
theorem Mg.up (h:Mg K w w.heap.size A l)(hb:Below w.heap.size w w'):Mg K w' w'.heap.size A l:=(h.below hb).mono hb.size
theorem Mg.take (h:Mg K w B A l)(k:Nat):Mg K w B A (l.take k):=by
 intro i g hg;rw[amZ]at hg;by_cases hi:i<k
 ·rw[if_pos hi]at hg;exact h i g hg
 ·rw[if_neg hi]at hg;cases hg
theorem Mg.nil (K:IntKind)(w:World)(B:Nat)(A:Option Addr):Mg K w B A []:=fun i g h=>by simp at h
end
theorem below_drewN (B:Nat)(w:World)(n:Nat):Below B w (w.drewN n):=⟨rfl,rfl,rfl,am4 _,fun _ _=>rfl⟩
theorem lw {v v' u u':Value}(h:v=v')(h2:u=u'):Ending.returned (.tuple #[v,u])= .returned (.tuple #[v',u']):=by rw[h,h2]
theorem jQ {A:Option Addr}{n m c:Nat}(h:n=m):Value.slice A n c= .slice A m c:=by rw[h]
theorem akA {k:IntKind}{a b:Int}(h:a=b):Ending.returned (.int k a)= .returned (.int k b):=by rw[h]
theorem iT {A:Option Addr}{n m c:Nat}(h:n=m):Ending.returned (.slice A n c)= .returned (.slice A m c):=by rw[h]
theorem lV (A:Option Addr)(c:Nat)(l:List Nat)(w:World)(hl:Small l)(hc:Mg .u64 w w.heap.size A l)(hcap:l.length<=c)(hcm:c<=9223372036854775807):
 Calls prog 101 #[.slice A l.length c] w fun e w'=>e= .returned (.slice A (aae l).length c)/\w=w':=by
 have HL:=amy hl;have Hc:=amy hc;clear hl hc
 go_enter func101,ntmps101
 go_wp2
 go_loop [0] (fun s=>∃k:Nat,k<=l.length/\s= .slice A k c/\Hid (∀i,k<=i->i<l.length->l[i]? =some 0)) (fun s=>match s with| .slice _ n _=>n|_=>0)
 case atStart=>exact⟨l.length,by omega,rfl,fun i h1 h2=>by omega⟩
 case round=>
  obtain⟨k,hk,rfl,H⟩:=hrel;by_cases hk0:k=0
  ·subst hk0
   go_wp2
   go_ret
   refine⟨iT ?_,rfl⟩;rw[<-acl l HL.o 0 (by omega) H.o (.inl rfl)];rfl
  ·obtain⟨k,rfl⟩:∃j,k=j+1:=⟨k-1,by omega⟩
   obtain⟨g,hg⟩:∃g,l[k]? =some g:=⟨l[k]'(by omega),by simp⟩;obtain⟨b,o,hA,hB,h1⟩:=Hc.o k g hg;subst hA;have HGg:=amy hg;clear hg hk0;by_cases hz:g=0
   ·subst hz
    go_wp2
    go_round
    case rel=>
     refine⟨k,by omega,rfl,?_⟩;intro i h1 h2;by_cases e:i=k
     ·subst e;exact HGg.o
     ·exact H.o i (by omega) h2
    case measure=>simp
   ·have hz':((g:Int)==0)=false:=by simp;omega
    go_wp2
    go_ret
    refine⟨iT ?_,rfl⟩;rw[<-acl l HL.o (k+1) (by omega) H.o (.inr (by rw[Nat.add_sub_cancel,HGg.o];intro e;cases e;exact hz rfl))];simp;omega
def akf (a b:Nat)(w:World)(e:Ending)(w':World):Prop:=∃r:Int,e= .returned (.int .i64 r)/\amu r a b/\ -4611686018427387904<=r/\r<=4611686018427387904/\∃n,w'=w.drewN n
theorem jE (A A':Option Addr)(c c':Nat)(a b:Nat)(w:World)(hc:Mg .u64 w w.heap.size A (mag a))(hc':Mg .u64 w w.heap.size A' (mag b))(hm:(mag a).length <=4611686018427387904)(hm':(mag b).length <=4611686018427387904):
 Calls prog 77 #[.slice A (mag a).length c,.slice A' (mag b).length c'] w (akf a b w):=by
 have Hc:=amy hc;have Hc':=amy hc';clear hc hc';obtain⟨l,hl⟩:=eX (mag a);obtain⟨m,hmm⟩:=eX (mag b);have HLS:Hid (Small l):=by show Small l;rw[<-hl];exact aX a
 have HMS:Hid (Small m):=by show Small m;rw[<-hmm];exact aX b
 have HVL:Hid (au l=a):=by show au l=a;rw[<-hl];exact bu a
 have HVM:Hid (au m=b):=by show au m=b;rw[<-hmm];exact bu b
 have HCL:Hid (l.length<m.length->a<b):=by show l.length<m.length->a<b;rw[<-hl, <-hmm];exact xR
 have HCM:Hid (m.length<l.length->b<a):=by show m.length<l.length->b<a;rw[<-hl, <-hmm];exact xR
 rw[hl]at Hc hm⊢
 rw[hmm]at Hc' hm'⊢
 clear hl hmm;by_cases hlen:l.length=m.length
 ·have hne:((l.length:Int) !=m.length)=false:=by simp;omega
  have HN:=amy hlen;have hle:l.length<=m.length:=by omega
  clear hlen
  go_enter func77,ntmps77
  go_wp2
  go_loopw [5] (fun s wr=>∃k nn:Nat,k<=l.length/\s= .int .i64 ((k:Int)-1)/\Hid (∀j,k<=j->l[j]? =m[j]?)/\wr=w.drewN nn) (fun s _=>(intOf s+1).toNat)
  case atStart=>exact⟨l.length,0,by omega,rfl,fun j hj=>by rw[amW hj,amW (by have:=HN.o;omega)],rfl⟩
  case round=>
   obtain⟨k,nn,hk,rfl,H,rfl⟩:=hrel;by_cases hk0:k=0
   ·subst hk0
    have HE:Hid (a=b):=by
     show a=b;have e:l=m:=anl (fun j=>H.o j (by omega));rw[<-HVL.o, <-HVM.o,e]
    go_wp2
    go_ret
    exact⟨0,rfl,⟨by simp[HE.o],by simp[HE.o]⟩,by omega,by omega,nn,rfl⟩
   ·obtain⟨k,rfl⟩:∃j,k=j+1:=⟨k-1,by omega⟩
    obtain⟨x,hx⟩:∃g,l[k]? =some g:=⟨l[k]'(by omega),by simp⟩;obtain⟨y,hy⟩:∃g,m[k]? =some g:=⟨m[k]'(by omega),by simp⟩;obtain⟨b1,o1,hA,hB,h1⟩:=Hc.o k x hx;obtain⟨b2,o2,hA',hB',h2⟩:=Hc'.o k y hy;subst hA hA';have HX:=amy hx;have HY:=amy hy;clear hx hy hk0;by_cases hlt:x<y
    ·have q:decide ((x:Int)<y)=true:=by simp;omega
     have HT:=amy (abV HLS.o HN.o k x y HX.o HY.o hlt (fun j hj=>H.o j (by omega)))
     go_wp2
     go_quiet (fail)
     go_wp2
     go_ret
     have hab:a<b:=by rw[<-HVL.o, <-HVM.o];exact HT.o
     exact⟨-1,rfl,⟨by simp[hab],by simp;omega⟩,by omega,by omega,_,World.drewN_drewN _ _ _⟩
    ·have q:decide ((x:Int)<y)=false:=by simp;omega
     by_cases hgt:y<x
     ·have q2:decide ((y:Int)<x)=true:=by simp;omega
      have HT:=amy (abV HMS.o HN.o.symm k y x HY.o HX.o hgt (fun j hj=>(H.o j (by omega)).symm))
      go_wp2
      go_quiet (fail)
      go_wp2
      go_quiet (fail)
      go_wp2
      go_ret
      have hab:b<a:=by rw[<-HVL.o, <-HVM.o];exact HT.o
      exact⟨1,rfl,⟨by simp;omega,by simp;omega⟩,by omega,by omega,_,by rw[World.drewN_drewN,World.drewN_drewN]⟩
     ·have q2:decide ((y:Int)<x)=false:=by simp;omega
      have HXY:=amy (show x=y by omega)
      go_wp2
      go_quiet (fail)
      go_wp2
      go_quiet (fail)
      go_wp2
      go_roundw
      case rel=>
       refine⟨k,_,by omega,by go_num,?_,rfl⟩;intro j hj;by_cases e:j=k
       ·subst e;rw[HX.o,HY.o,HXY.o]
       ·exact H.o j (by omega)
      case measure=>simp[intOf]
 ·have hne:((l.length:Int) !=m.length)=true:=by simp;omega
  go_enter func77,ntmps77
  go_wp2
  go_ret
  refine⟨(l.length:Int)-m.length,rfl,?_,by omega,by omega,0,rfl⟩;have h1:=HCL.o;have h2:=HCM.o;unfold amu;omega
end
section
open Go.RowKit
theorem zW (a:Addr)(n:Nat):(a.add n).block =a.block:=by unfold Addr.add;split<;>rfl
def Reads (w:World)(B size:Nat)(A:Option Addr)(n:Nat)(xs:List Value):Prop:=
 xs.length=n*size/\(0<n->∃ad,A=some ad/\ad.block<B/\∀j u,xs[j]? =some u->w.cell? (ad.add j)=some u)
section
variable {w w':World} {B B' size n:Nat} {A:Option Addr} {xs:List Value}
theorem Reads.keep (h:Reads w B size A n xs)(hk:∀p:Addr,p.block<B->w'.cell? p=w.cell? p):Reads w' B size A n xs:=
 ⟨h.1,fun hn=>by
  obtain⟨ad,e,hb,hc⟩:=h.2 hn;exact⟨ad,e,hb,fun j u hu=>(hk _ (by rw[zW];exact hb)).trans (hc j u hu)⟩⟩
theorem Reads.alloc (h:Reads w B size A n xs)(hB:B<=w.heap.size)(o:Obj):Reads (w.alloc o) B size A n xs:=h.keep fun p hp=>World.cell?_alloc_lt w o p (by omega)
end
section
variable {P:Program} (w:World)
theorem nR (base:Nat)(t ty e:TypeId)(i:TypeInfo)(size:Nat)(ht:P.underlying t=some (.slice e))(hi:P.info? e=some i)
 (v:Value) (n:Nat) (xs:List Value) (hown:w.ownsRow base e size v n xs) (c:Nat):(Builtin.append_ #[t,t] ty #[v,.slice none 0 c]).run P w= .ok v w:=by
 rcases hown.2 with ⟨rfl,rfl⟩|⟨g,cap,cur,rfl,_,_,hnc,_⟩
 ·simp[Builtin.append_,run_underlying ht,sizeOf,typeInfo,hi,Builtin.lenOf,Builtin.firstCells]
 ·simp[Builtin.append_,run_underlying ht,sizeOf,typeInfo,hi,Builtin.lenOf,Builtin.firstCells,hnc,storeCells]
theorem kT (base:Nat)(t ty e:TypeId)(i:TypeInfo)(z:Value)(size bytes:Nat)(ht:P.underlying t=some (.slice e))(hi:P.info? e=some i)(hz:i.zero=some z)
 (hsize:i.size=size) (hby:i.bytes=bytes) (hzs:z.cells.size=size) (hsz:0<size)
 (v:Value) (n:Nat) (xs:List Value) (hown:w.ownsRow base e size v n xs)
 (B:Nat) (A:Option Addr) (m c:Nat) (news:List Value) (hr:Reads w B size A m news) (h1:∀u∈news,u.oneCell'=true)
 (h63:n+m<=maxLen) (hbytes:(n+m)*bytes<=140737488355328) (hbase:base<=w.heap.size):
 ∃v' w',(Builtin.append_ #[t,t] ty #[v,.slice A m c]).run P w= .ok v' w'/\w'.ownsRow base e size v' (n+m) (xs++news)/\w.grownBy w' v.ownBlock/\
  (v'.ownBlock=v.ownBlock\/v'.ownBlock=some w.heap.size):=by
 rcases A with _|ad
 ·have hm:m=0:=by
   rcases Nat.eq_zero_or_pos m with h0|h0
   ·exact h0
   ·obtain⟨ad,h,_⟩:=hr.2 h0
    cases h
  subst hm;have hn:news=[]:=amX (by simpa using hr.1);subst hn;exact⟨v,w,nR w base t ty e i size ht hi v n xs hown c,by simpa using hown,World.grownBy.refl w _,.inl rfl⟩
 ·have hcells:∀j u,news[j]? =some u->w.cell? (ad.add j)=some u:=by
   intro j u hu;rcases Nat.eq_zero_or_pos m with h0|h0
   ·subst h0
    have hn:news=[]:=amX (by simpa using hr.1);subst hn;simp at hu
   ·obtain⟨ad',h,_,hc⟩:=hr.2 h0
    injection h with h
    subst h;exact hc j u hu
  obtain⟨v',w',hrun,h2,h3,_,h5⟩:=run_append_own_at (P:=P) w base t ty e i z size bytes ht hi hz hsize hby hzs hsz v n xs hown ad m c news hr.1 hcells h1 h63 hbytes hbase;exact⟨v',w',hrun,h2,h3,h5⟩
theorem mh {o:Oper}{a:Act}{K:Act->World->Prop}{Q:Exit->Act->World->Prop}(s x:Operand)(t:TypeId)
 (ho:o.op= .call {callee:=.builtin .append,args:= #[s,x],argTypes:= #[t,t]})
 (base:Nat) (e:TypeId) (i:TypeInfo) (z:Value) (size bytes:Nat) (ht:P.underlying t=some (.slice e)) (hi:P.info? e=some i) (hz:i.zero=some z)
 (hsize:i.size=size) (hby:i.bytes=bytes) (hzs:z.cells.size=size) (hsz:0<size)
 (v:Value) (n:Nat) (xs:List Value) (hs:a.eval s=v) (hown:w.ownsRow base e size v n xs)
 (B:Nat) (A:Option Addr) (m c:Nat) (news:List Value) (hx:a.eval x= .slice A m c) (hr:Reads w B size A m news) (h1:∀u∈news,u.oneCell'=true)
 (h63:n+m<=maxLen) (hbytes:(n+m)*bytes<=140737488355328) (hbase:base<=w.heap.size)
 (h:∀v' w',w'.ownsRow base e size v' (n+m) (xs++news)->w.grownBy w' v.ownBlock->(v'.ownBlock=v.ownBlock\/v'.ownBlock=some w.heap.size)->K (a.put o.dst v') w'):o.wp P a w K Q:=by
 obtain⟨v',w',hrun,h2,h3,h4⟩:=kT (P:=P) w base t o.type e i z size bytes ht hi hz hsize hby hzs hsz v n xs hown B A m c news hr h1 h63 hbytes hbase;unfold Oper.wp execOp;simp only[ho,resolve,invoke,builtin,amF,amM,amz,List.map_toArray,ann,List.map_nil,hs,hx,hrun];exact h v' w' h2 h3 h4
theorem aB {ops:Array Oper}{rest:List Oper}{o:Oper}{a:Act}{Q:Exit->Act->World->Prop}(hgd:o.guard=none)(s x:Operand)(t:TypeId)
 (ho:o.op= .call {callee:=.builtin .append,args:= #[s,x],argTypes:= #[t,t]})
 (base:Nat) (e:TypeId) (i:TypeInfo) (z:Value) (size bytes:Nat) (ht:P.underlying t=some (.slice e)) (hi:P.info? e=some i) (hz:i.zero=some z)
 (hsize:i.size=size) (hby:i.bytes=bytes) (hzs:z.cells.size=size) (hsz:0<size)
 (v:Value) (n:Nat) (xs:List Value) (hs:a.eval s=v) (hown:w.ownsRow base e size v n xs)
 (B:Nat) (A:Option Addr) (m c:Nat) (news:List Value) (hx:a.eval x= .slice A m c) (hr:Reads w B size A m news) (h1:∀u∈news,u.oneCell'=true)
 (h63:n+m<=maxLen) (hbytes:(n+m)*bytes<=140737488355328) (hbase:base<=w.heap.size)
 (h:∀v' w',w'.ownsRow base e size v' (n+m) (xs++news)->w.grownBy w' v.ownBlock->(v'.ownBlock=v.ownBlock\/v'.ownBlock=some w.heap.size)->wpList P ops Q rest (a.put o.dst v') w'):wpList P ops Q (o::rest) a w:=
 wpList_plain hgd fun _ hK=>mh w s x t ho base e i z size bytes ht hi hz hsize hby hzs hsz v n xs hs hown B A m c news hx hr h1 h63 hbytes hbase fun v' w' h2 h3 h4=>hK _ _ (h v' w' h2 h3 h4)
theorem aR {ops:Array Oper}{o:Oper}{a:Act}{K:Act->World->Prop}{Q:Exit->Act->World->Prop}{E:Prop}(hgd:o.guard=none)(s x:Operand)(t:TypeId)
 (ho:o.op= .call {callee:=.builtin .append,args:= #[s,x],argTypes:= #[t,t]})
 (base:Nat) (e:TypeId) (i:TypeInfo) (z:Value) (size bytes:Nat) (ht:P.underlying t=some (.slice e)) (hi:P.info? e=some i) (hz:i.zero=some z)
 (hsize:i.size=size) (hby:i.bytes=bytes) (hzs:z.cells.size=size) (hsz:0<size)
 (v:Value) (n:Nat) (xs:List Value) (hs:a.eval s=v) (hown:w.ownsRow base e size v n xs)
 (B:Nat) (A:Option Addr) (m c:Nat) (news:List Value) (hx:a.eval x= .slice A m c) (hr:Reads w B size A m news) (h1:∀u∈news,u.oneCell'=true)
 (h63:n+m<=maxLen) (hbytes:(n+m)*bytes<=140737488355328) (hbase:base<=w.heap.size)
 (h:∀v' w',w'.ownsRow base e size v' (n+m) (xs++news)->w.grownBy w' v.ownBlock->(v'.ownBlock=v.ownBlock\/v'.ownBlock=some w.heap.size)->K (a.put o.dst v') w'):
 if Region.wanted o (yielded ops a.tmps)=true then Oper.wp P o a w K Q else E:=by
 have hw:Region.wanted o (yielded ops a.tmps)=true:=by simp[Region.wanted,hgd]
 rw[if_pos hw];exact mh w s x t ho base e i z size bytes ht hi hz hsize hby hzs hsz v n xs hs hown B A m c news hx hr h1 h63 hbytes hbase h
end
end
section
open Go.RowKit Dec
theorem addr_add (b o j:Nat):(⟨b,o,none⟩:Addr).add j=⟨b,o+j,none⟩:=by
 unfold Addr.add;split
 ·rename_i h;subst h;rfl
 ·rfl
theorem bJ (w:World)(o:Obj):(w.alloc o).heap[w.heap.size]? =some o:=by show (w.heap.push o)[w.heap.size]? =some o;exact Array.getElem?_push_size
def gvK (K:IntKind)(n:Nat):Value:=.int K (n:Int)
def Bk (K:IntKind)(T:TypeId)(w:World)(g:Nat)(l:List Nat):Prop:=w.heap[g]? =some (.cells (l.map (gvK K)).toArray T (0,0))
section
variable {K:IntKind} {T:TypeId} {w w':World} {g:Nat} {l:List Nat}
theorem Bk.lt (h:Bk K T w g l):g<w.heap.size:=(amA.1 h).1
theorem Bk.cell (h:Bk K T w g l){i n:Nat}(hi:l[i]? =some n):w.cell? ⟨g,i,none⟩=some (.int K n):=by
 unfold Bk at h;simp[World.cell?,h,hi,gvK]
theorem Bk.frozen (h:Bk K T w g l)(i:Nat):w.frozen? ⟨g,i,none⟩=false:=by unfold Bk at h;simp[World.frozen?,h]
theorem Bk.set (h:Bk K T w g l)(i n:Nat):Bk K T (w.setCell ⟨g,i,none⟩ (.int K n)) g (l.set i n):=by
 unfold Bk at h⊢
 simp[World.setCell,Array.getElem?_modify,h,gvK,List.map_set]
theorem Bk.mg (h:Bk K T w g l)(k:Nat):Mg K w w.heap.size (some ⟨g,0,none⟩) (l.take k):=by
 intro i n hn;rw[amZ]at hn;by_cases hi:i<k
 ·rw[if_pos hi]at hn;exact⟨g,0,rfl,h.lt,by rw[am5];exact h.cell hn⟩
 ·rw[if_neg hi]at hn;cases hn
theorem Bk.own {r:List Nat}{base:Nat}(h:Bk K T w g (l++r))(hb:base<=g)(hm:(l++r).length <=maxLen):w.ownsRow base T 1 (.slice (some ⟨g,0,none⟩) l.length (l++r).length) l.length (l.map (gvK K)):=
 ⟨by simp,.inr ⟨g,_,_,rfl,hb,h,by simp,hm,by simp,by simp⟩⟩
theorem aeW {base:Nat}{v:Value}(h:w.ownsRow base T 1 v l.length (l.map (gvK K))):∃A c,v= .slice A l.length c/\Mg K w w.heap.size A l/\l.length<=c/\c<=9223372036854775807:=by
 rcases h.2 with ⟨rfl,h0⟩|⟨g,cap,cur,rfl,hb,hg,hn,hc,hs,htake⟩
 ·rw[h0,amX h0]
  exact⟨none,0,rfl,Mg.nil _ _ _ _,am4 _,by omega⟩
 ·refine⟨_,cap,rfl,?_,hn,hc⟩
  intro i n hi;refine⟨g,0,rfl,(amA.1 hg).1,?_⟩;rw[am5];have hl:i<l.length:=(amH.1 hi).1;have:cur.toList[i]? =some (gvK K n):=by
   have e:(cur.toList.take (l.length*1))[i]? =some (gvK K n):=by rw[htake,amP,hi];rfl
   rwa[amZ,if_pos (by omega)]at e
  rw[amV]at this;simp[World.cell?,hg,this,gvK]
theorem rA (w:World)(T:TypeId)(v:Value):Reads (w.alloc (.cells #[v] T)) (w.heap.size+1) 1 (some ⟨w.heap.size,0,none⟩) 1 [v]:=by
 refine⟨rfl,fun _=>⟨_,rfl,by simp,?_⟩⟩;intro j u hu;cases j with
 |zero=>
  simp at hu;subst hu;have h:=bJ w (.cells #[v] T);show World.cell? _ ⟨w.heap.size,0,none⟩=_;unfold World.cell?;rw[h];rfl
 |succ j=>simp at hu
theorem abO {base n:Nat}{v:Value}{xs:List Value}(h:w.ownsRow base T 1 v n xs):∀k,v.ownBlock=some k->base<=k:=by
 intro k hk;rcases h.2 with ⟨rfl,_⟩|⟨g,cap,cur,rfl,hb,_⟩
 ·simp[Value.ownBlock]at hk
 ·simp[Value.ownBlock]at hk;omega
theorem sw (l:List Nat):∀v∈l.map (gvK K),v.oneCell'=true:=by
 intro v hv;obtain⟨x, -,rfl⟩:=amN.1 hv;rfl
end
theorem Mg.reads {K:IntKind}{w:World}{B:Nat}{A:Option Addr}{l:List Nat}(h:Mg K w B A l):Reads w B 1 A l.length (l.map (gvK K)):=by
 refine⟨by simp,fun h0=>?_⟩;obtain⟨x,hx⟩:∃x,l[0]? =some x:=⟨l[0],by simp⟩;obtain⟨b,o,hA,hB,_⟩:=h 0 x hx;refine⟨_,hA,hB,fun j u hu=>?_⟩;rw[amP,Option.map_eq_some_iff]at hu;obtain⟨y,hy,rfl⟩:=hu;obtain⟨b',o',hA',_,h1⟩:=h j y hy;rw[hA]at hA';injection hA' with e
 injection e with e1 e2
 subst e1 e2;rw[addr_add];exact h1
def Ow (K:IntKind)(T:TypeId)(w:World)(base:Nat)(A:Option Addr)(c:Nat)(l:List Nat):Prop:=w.ownsRow base T 1 (.slice A l.length c) l.length (l.map (gvK K))
section
variable {K:IntKind} {T:TypeId} {w w':World} {base g c:Nat} {A:Option Addr} {l:List Nat}
theorem abN {v:Value}(h:w.ownsRow base T 1 v l.length (l.map (gvK K))):∃A c,v= .slice A l.length c/\Ow K T w base A c l:=by
 obtain⟨A,c,rfl,_⟩:=aeW h;exact⟨A,c,rfl,h⟩
theorem Ow.mg (h:Ow K T w base A c l):Mg K w w.heap.size A l/\l.length<=c/\c<=9223372036854775807:=by
 obtain⟨A',c',e,h1⟩:=aeW h;injection e with e1 e2 e3
 subst e1 e3;exact h1
theorem Ow.at (h:Ow K T w base A c l){i n:Nat}(hi:l[i]? =some n):∃g,A=some ⟨g,0,none⟩/\base<=g/\g<w.heap.size/\w.cell? ⟨g,i,none⟩=some (.int K n)/\w.frozen? ⟨g,i,none⟩=false:=by
 obtain⟨b,o,hA,hB,hcell⟩:=h.mg.1 i n hi;have hl:i<l.length:=(amH.1 hi).1;rcases h.2 with ⟨_,h0⟩|⟨g,cap,cur,hv,hb,hg,_⟩
 ·omega
 ·injection hv with e1 e2 e3
  rw[hA]at e1;injection e1 with e1
  injection e1 with e1 e4
  subst e1 e4;refine⟨b,hA,hb,hB,by rwa[am5]at hcell,by simp[World.frozen?,hg]⟩
theorem Ow.set (h:Ow K T w base (some ⟨g,0,none⟩) c l)(i n:Nat):Ow K T (w.setCell ⟨g,i,none⟩ (.int K n)) base (some ⟨g,0,none⟩) c (l.set i n):=by
 have:=(World.ownsRow.stored h i (.int K n)).1;unfold Ow;rw[List.length_set,List.map_set];exact this
theorem Ow.drewN (h:Ow K T w base A c l)(n:Nat):Ow K T (w.drewN n) base A c l:=h
theorem Ow.alloc (h:Ow K T w base A c l)(o:Obj):Ow K T (w.alloc o) base A c l:=World.ownsRow.alloc h o
theorem Ow.below (h:Ow K T w base A c l)(hb:Below w.heap.size w w'):Ow K T w' base A c l:=by
 refine⟨h.1,?_⟩;rcases h.2 with h0|⟨g,cap,cur,hv,hg,hh,r⟩
 ·exact .inl h0
 ·exact .inr ⟨g,cap,cur,hv,hg,(hb.block g (amA.1 hh).1).trans hh,r⟩
theorem Ow.low {base':Nat}(h:Ow K T w base A c l)(hb:base'<=base):Ow K T w base' A c l:=by
 refine⟨h.1,?_⟩;rcases h.2 with h0|⟨g,cap,cur,hv,hg,r⟩
 ·exact .inl h0
 ·exact .inr ⟨g,cap,cur,hv,by omega,r⟩
theorem Ow.new (w:World)(K:IntKind)(T:TypeId)(l:List Nat)(hm:l.length<=maxLen):Ow K T (w.alloc (.cells (l.map (gvK K)).toArray T)) w.heap.size (some ⟨w.heap.size,0,none⟩) l.length l:=by
 have h:Bk K T (w.alloc (.cells (l.map (gvK K)).toArray T)) w.heap.size (l++ []):=by rw[List.append_nil];exact bJ w _
 have:=h.own (base:=w.heap.size) ano (by simpa using hm);rw[List.append_nil]at this;exact this
end
theorem adk:(prog.info? 179).map (fun i=>(i.zero,i.size,i.bytes))=some (some (.int .u64 0),1,8):=by kernel_rfl
theorem sizeU:(prog.info? 179).map (·.size)=some 1:=by kernel_rfl
theorem aa6 (m:List Nat)(h:Small m):∃k,k<=m.length/\aae m=m.take k:=by
 induction hn:m.length generalizing m with
 |zero=>exact⟨0,am4 _,by rw[amX hn];rfl⟩
 |succ n ih=>
  have hne:m≠ []:=by intro e;subst e;simp at hn
  obtain⟨s,d,rfl⟩:∃s d,m=s++ [d]:=⟨m.dropLast,m.getLast hne,(List.dropLast_concat_getLast hne).symm⟩;have hs:Small s:=fun x hx=>h x (by simp[hx])
  have hl:s.length=n:=by simpa using hn
  by_cases hd:d=0
  ·subst hd
   obtain⟨k,hk,e⟩:=ih s hs hl;refine⟨k,by omega,?_⟩;have hv:au (s++ [0])=au s:=by rw[dB];simp[au]
   unfold aae at e⊢
   rw[hv,e,List.take_append_of_le_length (by omega)]
  ·refine⟨n+1,am4 _,?_⟩
   rw[amK (by omega)];exact qo _ h (by simp;exact hd)
theorem om {wr:World}{n c base:Nat}{A:Option Addr}{o:List Nat}(ho:Ow .u64 179 wr base A c o)(hs:Small o)(hn:au o=n):
 aae o=mag n/\Mg .u64 wr wr.heap.size A (mag n)/\(mag n).length <=c/\c<=9223372036854775807:=by
 obtain⟨k,hk,e⟩:=aa6 o hs;have e2:aae o=mag n:=by unfold aae;rw[hn]
 obtain⟨h1,h2,h3⟩:=ho.mg;rw[e2]at e;refine⟨e2,?_,?_,h3⟩
 ·rw[e];exact h1.take k
 ·rw[e,amO];omega
def um (l:List Nat)(w:World)(e:Ending)(w':World):Prop:=
 ∃A c,e= .returned (.slice A l.length c)/\Ow .u64 179 w' w.heap.size A c l/\Below w.heap.size w w'
theorem Ow.take {K:IntKind}{T:TypeId}{w:World}{base c:Nat}{A:Option Addr}{l:List Nat}(h:Ow K T w base A c l){k:Nat}(hk:k<=l.length):Ow K T w base A c (l.take k):=by
 have hl:(l.take k).length =k:=by rw[amO];omega
 unfold Ow;rw[hl];refine⟨by simp;omega,?_⟩;rcases h.2 with ⟨hv,h0⟩|⟨g,cap,cur,hv,hg,hh,hn,hm,hs,htake⟩
 ·left
  injection hv with e1 e2 e3
  subst e1 e3;obtain rfl:k=0:=by omega
  exact⟨rfl,rfl⟩
 ·right
  injection hv with e1 e2 e3
  subst e1 e3;refine⟨g,_,cur,rfl,hg,hh,by omega,hm,hs,?_⟩;have:(cur.toList.take (l.length*1)).take (k*1)=(l.map (gvK K)).take (k*1):=by rw[htake]
  rw[List.take_take,Nat.min_eq_left (by omega)]at this;rw[this,Nat.mul_one,List.map_take]
theorem Ow.other {K:IntKind}{T:TypeId}{w:World}{base c g h i:Nat}{v:Value}{l:List Nat}(ho:Ow K T w base (some ⟨g,0,none⟩) c l)(hg:g≠h):Ow K T (w.setCell ⟨h,i,none⟩ v) base (some ⟨g,0,none⟩) c l:=by
 refine⟨ho.1,?_⟩;rcases ho.2 with h0|⟨g',cap,cur,hv,hb,hh,r⟩
 ·exact .inl h0
 ·injection hv with e1 e2 e3
  injection e1 with e1
  injection e1 with e1
  subst e1;exact .inr ⟨g,cap,cur,by rw[e3],hb,(amR w _ v g hg).trans hh,r⟩
theorem ajS {w wr:World}{n c:Nat}{A:Option Addr}{o:List Nat}(ho:Ow .u64 179 wr w.heap.size A c o)(hs:Small o)(hn:au o=n)(hb:Below w.heap.size w wr):
 um (mag n) w (.returned (.slice A (aae o).length c)) wr:=by
 obtain⟨k,hk,e⟩:=aa6 o hs;have e2:mag n=o.take k:=by rw[<-e];unfold aae;rw[hn]
 exact⟨A,c,by unfold aae;rw[hn],by rw[e2];exact ho.take hk,hb⟩
theorem alc (K:IntKind)(n:Nat):madeCells #[Value.int K 0] n=((List.replicate n 0).map (gvK K)).toArray :=by
 apply Array.ext';simp only[madeCells,Array.toList_map,Array.toList_range,List.map_replicate,gvK];apply List.ext_getElem
 ·simp
 ·intro i h1 h2
  simp[Nat.mod_one]
theorem aey {P:Program}{K:IntKind}{t T:TypeId}(ht:P.underlying t=some (.slice T))(hT:(P.info? T).map (fun i=>(i.zero,i.size,i.bytes))=some (some (.int K 0),1,8))(n c:Nat)(hnc:n<=c)(hc:c<=1099511627777)(u:World):
 (Instr.makeSlice t (.int .i64 (n:Int)) (.int .i64 (c:Int))).run P u= .ok (.slice (some ⟨u.heap.size,0,none⟩) n c) (u.alloc (.cells ((List.replicate c 0).map (gvK K)).toArray T)):=by
 obtain⟨i,hi,hzz⟩:=Option.map_eq_some_iff.1 hT;simp only[Prod.mk.injEq]at hzz;obtain⟨hz,hs,hb⟩:=hzz;have hr:=run_make (P:=P) u t T i (.int K 0) ht hi hz .i64 .i64 n c (by omega) (by omega) (by rw[hb];omega) (by omega);simp only[anm,hs,Nat.mul_one]at hr;rw[show (Value.int K 0).cells = #[Value.int K 0]from rfl,alc]at hr;exact hr
theorem jR (n c:Nat)(hnc:n<=c)(hc:c<=1099511627777)(u:World):
 (Instr.makeSlice 114 (.int .i64 (n:Int)) (.int .i64 (c:Int))).run prog u= .ok (.slice (some ⟨u.heap.size,0,none⟩) n c) (u.alloc (.cells ((List.replicate c 0).map (gvK .u64)).toArray 179)):=
 aey (by kernel_rfl) adk n c hnc hc u
end
section
open Go.RowKit Dec
def vK (w:World)(l m:List Nat)(k cy:Nat)(o:List Nat)(wr:World):Prop:=
 o.length=l.length/\Small o/\au o+cy*BB^k=au l+au (m.take k)/\(∀t,k<=t->o[t]? =l[t]?)/\Bk .u64 179 wr w.heap.size (o++ [0])/\Below w.heap.size w wr
theorem qd {w wr W:World}{l m o:List Nat}{k cy x y:Nat}(h:vK w l m k cy o wr)(hx:o[k]? =some x)(hy:m[k]?.getD 0=y)(hk:k<l.length)
 (hB:Bk .u64 179 W w.heap.size ((o++ [0]).set k ((x+cy+y)%BB))) (hb:Below w.heap.size w W):vK w l m (k+1) ((x+cy+y)/BB) (o.set k ((x+cy+y)%BB)) W:=by
 obtain⟨h1,h2,h3,h4,h5,h6⟩:=h;refine⟨by rw[List.length_set];exact h1,h2.set _ (Nat.mod_lt _ dx),aeP hx hy h3,?_,?_,hb⟩
 ·intro t ht
  rw[List.getElem?_set_ne (by omega)];exact h4 t (by omega)
 ·rw[List.set_append_left _ _ (by omega)]at hB
  exact hB
theorem aia {a b:Nat}{l:List Nat}(hl:mag a=l):l=[]\/BB^(l.length-1)<=a+b:=by
 by_cases h:l=[]
 ·exact .inl h
 ·right
  have hp:0<l.length:=List.length_pos_iff.2 h;have:¬a<BB^(l.length-1):=fun hh=>by have:=aH.2 hh;rw[hl]at this;omega
  omega
theorem yP {w wr:World}{a b:Nat}{l m o:List Nat}(hl:mag a=l)(hm:mag b=m)(hle:m.length<=l.length)(h:vK w l m l.length 0 o wr):o=mag (a+b):=by
 obtain⟨h1,h2,h3,h4,h5,h6⟩:=h;have e:au o=a+b:=by
  rw[amK hle, <-hl, <-hm,bu,bu]at h3;omega
 rw[<-e];refine(uS o h2 ?_).symm;rcases aia (b:=b) hl with h|h
 ·left;rw[h]at h1;exact amX h1
 ·right;rw[h1,e];exact h
theorem yO {w wr:World}{a b:Nat}{l m o:List Nat}(hl:mag a=l)(hm:mag b=m)(hle:m.length<=l.length)(h:vK w l m l.length 1 o wr):o++ [1]=mag (a+b):=by
 obtain⟨h1,h2,h3,h4,h5,h6⟩:=h;have e:au (o++ [1])=a+b:=by
  rw[amK hle, <-hl, <-hm,bu,bu]at h3;rw[dB,h1, <-hl];simp only[au];omega
 rw[<-e];refine(qo _ ?_ (by simp)).symm;intro g hg;rcases ane.1 hg with hg|hg
 ·exact h2 g hg
 ·simp at hg;subst hg;decide
theorem akK (A A':Option Addr)(c c':Nat)(a b:Nat)(w:World)(hc:Mg .u64 w w.heap.size A (mag a))(hc':Mg .u64 w w.heap.size A' (mag b))(hm:(mag a).length <=1099511627776)(hle:(mag b).length <=(mag a).length):
 Calls prog 97 #[.slice A (mag a).length c,.slice A' (mag b).length c'] w (um (mag (a+b)) w):=by
 obtain⟨l,hl⟩:=eX (mag a);obtain⟨m,hmm⟩:=eX (mag b);rw[hl]at hc hm hle⊢
 rw[hmm]at hc' hle⊢
 have Hc:=amy hc;have Hc':=amy hc';clear hc hc';have k0:decide ((l.length:Int)<m.length)=false:=by simp;omega
 have hmk:∀u:World,(Instr.makeSlice 114 (.int .i64 (l.length:Int)) (.int .i64 ((l.length:Int)+1))).run prog u= .ok (.slice (some ⟨u.heap.size,0,none⟩) l.length (l.length+1)) (u.alloc (.cells ((List.replicate (l.length+1) 0).map (gvK .u64)).toArray 179)):=fun u=>jR l.length (l.length+1) (by omega) (by omega) u
 obtain⟨cs,hcs⟩:∃cs,cs=l.map (gvK .u64):=⟨_,rfl⟩;obtain⟨z,hz⟩:∃z,z=(List.replicate (l.length+1) 0).map (gvK .u64):=⟨_,rfl⟩;rw[<-hz]at hmk;have Hcs:=amy hcs;have Hz:=amy hz;clear hcs hz;have Hl:=amy hl;have Hmm:=amy hmm;clear hl hmm;have F1:Hid ((w.alloc (.cells z.toArray 179)).heap[w.heap.size]? =some (.cells z.toArray 179 (0,0))):=by
  exact bJ w _
 have F2:Hid (cs.length=Nat.min l.length l.length):=by show _=_;rw[Hcs.o];simp
 have F3:Hid (0<cs.length->some (⟨w.heap.size,0,none⟩:Addr)=some ⟨w.heap.size,0,none⟩/\∃ad,A=some ad/\∀j v,cs[j]? =some v->(w.alloc (.cells z.toArray 179)).cell? (ad.add j)=some v):=by
  intro h0;rw[Hcs.o]at h0⊢
  simp only[am6]at h0;obtain⟨x,hx⟩:∃x,l[0]? =some x:=⟨l[0],by simp⟩;obtain⟨b0,o0,hA, -, -⟩:=Hc.o 0 x hx;refine⟨rfl,⟨b0,o0,none⟩,hA,fun j v hv=>?_⟩;rw[amP,Option.map_eq_some_iff]at hv;obtain⟨y,hy,rfl⟩:=hv;obtain⟨b1,o1,hA1, -,h1⟩:=(Hc.o.below ((am3 w.heap.size w).alloc ano (.cells z.toArray 179))) j y hy;rw[hA]at hA1;injection hA1 with hA1
  injection hA1 with e1 e2
  subst e1 e2;rw[show (⟨b0,o0,none⟩:Addr).add j=⟨b0,o0+j,none⟩from addr_add b0 o0 j];exact h1
 have F4:Hid (0+cs.length<=z.length):=by show _<=_;rw[Hcs.o,Hz.o];simp
 have F5:Hid (∀v∈cs,v.oneCell'=true):=by
  intro v hv;rw[Hcs.o]at hv;obtain⟨x, -,rfl⟩:=amN.1 hv;rfl
 have F6:Hid (Below w.heap.size w (w.alloc (.cells z.toArray 179))):=(am3 w.heap.size w).alloc ano _;have F7:Hid (splice z 0 cs=(l++ [0]).map (gvK .u64)):=by
  show _=_;rw[Hcs.o,Hz.o];simp[splice]
 go_enter func97,ntmps97
 go_wp2_with (show wpList _ _ _ (⟨some 23,_,_,_,_,_⟩::_) _ _;go_loud (refine wpList_copy_splice rfl (.tmp 21) (.tmp 22) 114 114 rfl 179 (by kernel_rfl) sizeU (some ⟨w.heap.size,0,none⟩) A l.length (l.length+1) l.length c (by go_simp) (by go_simp) w.heap.size 0 z 179 F1.o cs F2.o F3.o F4.o F5.o w.heap.size w F6.o ano ?_);intro w2 hg2 hb2)
 have HB:Hid (Bk .u64 179 w2 w.heap.size (l++ [0])):=by
  show Bk .u64 179 _ _ _;unfold Bk;rw[hg2.o,F7.o]
 have HBW:=amy hb2;clear hg2 hb2 F1 F2 F3 F4 F5 F6 F7 hmk Hcs Hz;have HV:Hid (au l=a):=by show au l=a;rw[<-Hl.o];exact bu a
 have HVM:Hid (au m=b):=by show au m=b;rw[<-Hmm.o];exact bu b
 have HLS:Hid (Small l):=by show Small l;rw[<-Hl.o];exact aX a
 have HMS:Hid (Small m):=by show Small m;rw[<-Hmm.o];exact aX b
 go_loopw [26,6] (fun s t wr=>∃(k cy:Nat) (o:List Nat),k<=l.length/\s= .int .i64 (k:Int)/\t= .int .u64 (cy:Int)/\cy<=1/\Hid (vK w l m k cy o wr)) (fun s _ _=>(l.length-intOf s).toNat)
 case atStart=>exact⟨0,0,l,by omega,rfl,rfl,by omega,rfl,HLS.o,by simp[au],fun _ _=>rfl,HB.o,HBW.o⟩
 case round=>
  obtain⟨k,cy,o,hk,rfl,rfl,hcy,H⟩:=hrel;by_cases hkl:k=l.length
  ·subst hkl
   by_cases hc0:cy=0
   ·subst hc0
    go_wp2_with fail
    go_ret
    have e:=yP Hl.o Hmm.o hle H.o;refine⟨some ⟨w.heap.size,0,none⟩,l.length+1,iT ?_,?_,H.o.2.2.2.2.2⟩
    ·rw[<-e,H.o.1]
    ·rw[<-e]
     have:=H.o.2.2.2.2.1.own (base:=w.heap.size) ano (by rw[am0,H.o.1];unfold maxLen;simp;omega);rw[am0,H.o.1]at this;unfold Ow;rw[H.o.1];exact this
   ·obtain rfl:cy=1:=by omega
    clear hc0;have HOW:Hid (wr.ownsRow w.heap.size 179 1 (.slice (some ⟨w.heap.size,0,none⟩) l.length (l.length+1)) l.length (o.map (gvK .u64))):=by
     have:=H.o.2.2.2.2.1.own (base:=w.heap.size) ano (by rw[am0,H.o.1];unfold maxLen;simp;omega);rw[am0,H.o.1]at this;exact this
    have hsz:w.heap.size<wr.heap.size:=H.o.2.2.2.2.1.lt;obtain⟨i0,hi,hz0,hz1,hz2⟩:=info_parts adk;have Hi:=amy hi;have Hz0:=amy hz0;have Hz1:=amy hz1;have Hz2:=amy hz2;clear hi hz0 hz1 hz2
    go_wp2_with (at_builtin;refine aB _ rfl (.tmp 64) (.tmp 66) 114 rfl w.heap.size 179 i0 (.int .u64 0) 1 8 (by kernel_rfl) Hi.o Hz0.o Hz1.o Hz2.o rfl (by omega) _ l.length (o.map (gvK .u64)) rfl (HOW.o.alloc _) (wr.heap.size+1) (some ⟨wr.heap.size,0,none⟩) 1 1 [.int .u64 1] rfl (rA wr _ _) (sw [1]) (by unfold maxLen;omega) (by omega) (by simp;omega) ?_;intro v3 w3 hown3 hg3 _;have HO3:=amy hown3;have HG3:=amy hg3;clear hown3 hg3)
    go_ret
    have e:=yO Hl.o Hmm.o hle H.o;have hb3:Below w.heap.size w w3:=(H.o.2.2.2.2.2.alloc (by omega) _).grown HG3.o (by simp;omega) (abO HOW.o);have ho:w3.ownsRow w.heap.size 179 1 v3 (o++ [1]).length ((o++ [1]).map (gvK .u64)):=by
     have:=HO3.o;rw[am0,H.o.1,List.map_append];exact this
    obtain⟨A3,c3,rfl,ho3⟩:=abN ho;rw[e]at ho3;exact⟨A3,c3,iT (by rw[e]),ho3,hb3⟩
  ·have hkl':k<l.length:=by omega
   clear hkl;obtain⟨x,hx⟩:∃x,l[k]? =some x:=bM l k hkl';have hxb:x<1000000000:=HLS.o.at hx;have HX:Hid (o[k]? =some x):=by show _=_;rw[H.o.2.2.2.1 k ano];exact hx
   clear hx;have hcell:wr.cell? ⟨w.heap.size,k,none⟩=some (.int .u64 x):=H.o.2.2.2.2.1.cell (by rw[List.getElem?_append_left (by rw[H.o.1];exact hkl')];exact HX.o);have hfz:wr.frozen? ⟨w.heap.size,k,none⟩=false:=H.o.2.2.2.2.1.frozen k;have g1:Hid (Bk .u64 179 (wr.setCell ⟨w.heap.size,k,none⟩ (.int .u64 ((x:Int)+cy))) w.heap.size ((o++ [0]).set k (x+cy))):=H.o.2.2.2.2.1.set k (x+cy);have g2:Hid (Below w.heap.size w (wr.setCell ⟨w.heap.size,k,none⟩ (.int .u64 ((x:Int)+cy)))):=H.o.2.2.2.2.2.setCell ano _;by_cases hkm:k<m.length
   ·have q:decide ((k:Int)<m.length)=true:=by simp;omega
    obtain⟨y,hy⟩:=bM m k hkm;have hyb:y<1000000000:=HMS.o.at hy;obtain⟨b1,o1,hA,hB,h1⟩:=Hc'.o k y hy;subst hA;have HY:=amy hy;clear hy
    go_wp2_with fail
    generalize wr.setCell ⟨w.heap.size,k,none⟩ (.int .u64 ((x:Int)+cy))=W1 at*
    have hc1:W1.cell? ⟨w.heap.size,k,none⟩=some (.int .u64 ((x:Int)+cy)):=g1.o.cell (n:=x+cy) (by rw[List.getElem?_set_self (by simp[H.o.1];omega)]);have hf1:W1.frozen? ⟨w.heap.size,k,none⟩=false:=g1.o.frozen k;have hd1:W1.cell? ⟨b1,o1+k,none⟩=some (.int .u64 y):=(g2.o.cell (p:=⟨b1,o1+k,none⟩) hB).trans h1;clear h1 hcell hfz
    go_still_tail 10,(by kernel_rfl)
    go_wp2_with fail
    go_roundw
    case rel=>
     refine⟨k+1,(x+cy+y)/BB,o.set k ((x+cy+y)%BB),by omega,by go_num,rfl,by unfold BB;omega,qd H.o HX.o (by rw[HY.o];rfl) hkl' ?_ ?_⟩
     ·have:=(g1.o.set k (x+cy+y)).set k ((x+cy+y)%BB)
      rw[List.set_set,List.set_set]at this;exact this
     ·exact((g2.o.setCell ano _).setCell ano _).drew
    case measure=>simp[intOf];omega
   ·have q:decide ((k:Int)<m.length)=false:=by simp;omega
    go_wp2_with fail
    go_roundw
    case rel=>
     refine⟨k+1,(x+cy+0)/BB,o.set k ((x+cy+0)%BB),by omega,by go_num,rfl,by unfold BB;omega,qd H.o HX.o (by rw[amW (by omega)];rfl) hkl' ?_ ?_⟩
     ·have:=g1.o.set k ((x+cy+0)%BB)
      rw[List.set_set]at this;exact this
     ·exact g2.o.setCell ano _
    case measure=>simp[intOf];omega
theorem akJ (A A':Option Addr)(c c':Nat)(a b:Nat)(w:World)(hc:Mg .u64 w w.heap.size A (mag a))(hc':Mg .u64 w w.heap.size A' (mag b))(hm:(mag a).length <=1099511627776)(hlt:(mag b).length <(mag a).length):
 Calls prog 97 #[.slice A' (mag b).length c',.slice A (mag a).length c] w (um (mag (a+b)) w):=by
 obtain⟨l,hl⟩:=eX (mag a);obtain⟨m,hmm⟩:=eX (mag b);have hle:(mag b).length <=(mag a).length :=by omega
 rw[hl]at hc hm hle hlt⊢
 rw[hmm]at hc' hle hlt⊢
 have Hc:=amy hc;have Hc':=amy hc';clear hc hc';have k0:decide ((m.length:Int)<l.length)=true:=by simp;omega
 have hmk:∀u:World,(Instr.makeSlice 114 (.int .i64 (l.length:Int)) (.int .i64 ((l.length:Int)+1))).run prog u= .ok (.slice (some ⟨u.heap.size,0,none⟩) l.length (l.length+1)) (u.alloc (.cells ((List.replicate (l.length+1) 0).map (gvK .u64)).toArray 179)):=fun u=>jR l.length (l.length+1) (by omega) (by omega) u
 obtain⟨cs,hcs⟩:∃cs,cs=l.map (gvK .u64):=⟨_,rfl⟩;obtain⟨z,hz⟩:∃z,z=(List.replicate (l.length+1) 0).map (gvK .u64):=⟨_,rfl⟩;rw[<-hz]at hmk;have Hcs:=amy hcs;have Hz:=amy hz;clear hcs hz;have Hl:=amy hl;have Hmm:=amy hmm;clear hl hmm;have F1:Hid ((w.alloc (.cells z.toArray 179)).heap[w.heap.size]? =some (.cells z.toArray 179 (0,0))):=by
  exact bJ w _
 have F2:Hid (cs.length=Nat.min l.length l.length):=by show _=_;rw[Hcs.o];simp
 have F3:Hid (0<cs.length->some (⟨w.heap.size,0,none⟩:Addr)=some ⟨w.heap.size,0,none⟩/\∃ad,A=some ad/\∀j v,cs[j]? =some v->(w.alloc (.cells z.toArray 179)).cell? (ad.add j)=some v):=by
  intro h0;rw[Hcs.o]at h0⊢
  simp only[am6]at h0;obtain⟨x,hx⟩:∃x,l[0]? =some x:=⟨l[0],by simp⟩;obtain⟨b0,o0,hA, -, -⟩:=Hc.o 0 x hx;refine⟨rfl,⟨b0,o0,none⟩,hA,fun j v hv=>?_⟩;rw[amP,Option.map_eq_some_iff]at hv;obtain⟨y,hy,rfl⟩:=hv;obtain⟨b1,o1,hA1, -,h1⟩:=(Hc.o.below ((am3 w.heap.size w).alloc ano (.cells z.toArray 179))) j y hy;rw[hA]at hA1;injection hA1 with hA1
  injection hA1 with e1 e2
  subst e1 e2;rw[show (⟨b0,o0,none⟩:Addr).add j=⟨b0,o0+j,none⟩from addr_add b0 o0 j];exact h1
 have F4:Hid (0+cs.length<=z.length):=by show _<=_;rw[Hcs.o,Hz.o];simp
 have F5:Hid (∀v∈cs,v.oneCell'=true):=by
  intro v hv;rw[Hcs.o]at hv;obtain⟨x, -,rfl⟩:=amN.1 hv;rfl
 have F6:Hid (Below w.heap.size w (w.alloc (.cells z.toArray 179))):=(am3 w.heap.size w).alloc ano _;have F7:Hid (splice z 0 cs=(l++ [0]).map (gvK .u64)):=by
  show _=_;rw[Hcs.o,Hz.o];simp[splice]
 go_enter func97,ntmps97
 go_wp2_with (show wpList _ _ _ (⟨some 23,_,_,_,_,_⟩::_) _ _;go_loud (refine wpList_copy_splice rfl (.tmp 21) (.tmp 22) 114 114 rfl 179 (by kernel_rfl) sizeU (some ⟨w.heap.size,0,none⟩) A l.length (l.length+1) l.length c (by go_simp) (by go_simp) w.heap.size 0 z 179 F1.o cs F2.o F3.o F4.o F5.o w.heap.size w F6.o ano ?_);intro w2 hg2 hb2)
 have HB:Hid (Bk .u64 179 w2 w.heap.size (l++ [0])):=by
  show Bk .u64 179 _ _ _;unfold Bk;rw[hg2.o,F7.o]
 have HBW:=amy hb2;clear hg2 hb2 F1 F2 F3 F4 F5 F6 F7 hmk Hcs Hz;have HV:Hid (au l=a):=by show au l=a;rw[<-Hl.o];exact bu a
 have HVM:Hid (au m=b):=by show au m=b;rw[<-Hmm.o];exact bu b
 have HLS:Hid (Small l):=by show Small l;rw[<-Hl.o];exact aX a
 have HMS:Hid (Small m):=by show Small m;rw[<-Hmm.o];exact aX b
 go_loopw [26,6] (fun s t wr=>∃(k cy:Nat) (o:List Nat),k<=l.length/\s= .int .i64 (k:Int)/\t= .int .u64 (cy:Int)/\cy<=1/\Hid (vK w l m k cy o wr)) (fun s _ _=>(l.length-intOf s).toNat)
 case atStart=>exact⟨0,0,l,by omega,rfl,rfl,by omega,rfl,HLS.o,by simp[au],fun _ _=>rfl,HB.o,HBW.o⟩
 case round=>
  obtain⟨k,cy,o,hk,rfl,rfl,hcy,H⟩:=hrel;by_cases hkl:k=l.length
  ·subst hkl
   by_cases hc0:cy=0
   ·subst hc0
    go_wp2_with fail
    go_ret
    have e:=yP Hl.o Hmm.o hle H.o;refine⟨some ⟨w.heap.size,0,none⟩,l.length+1,iT ?_,?_,H.o.2.2.2.2.2⟩
    ·rw[<-e,H.o.1]
    ·rw[<-e]
     have:=H.o.2.2.2.2.1.own (base:=w.heap.size) ano (by rw[am0,H.o.1];unfold maxLen;simp;omega);rw[am0,H.o.1]at this;unfold Ow;rw[H.o.1];exact this
   ·obtain rfl:cy=1:=by omega
    clear hc0;have HOW:Hid (wr.ownsRow w.heap.size 179 1 (.slice (some ⟨w.heap.size,0,none⟩) l.length (l.length+1)) l.length (o.map (gvK .u64))):=by
     have:=H.o.2.2.2.2.1.own (base:=w.heap.size) ano (by rw[am0,H.o.1];unfold maxLen;simp;omega);rw[am0,H.o.1]at this;exact this
    have hsz:w.heap.size<wr.heap.size:=H.o.2.2.2.2.1.lt;obtain⟨i0,hi,hz0,hz1,hz2⟩:=info_parts adk;have Hi:=amy hi;have Hz0:=amy hz0;have Hz1:=amy hz1;have Hz2:=amy hz2;clear hi hz0 hz1 hz2
    go_wp2_with (at_builtin;refine aB _ rfl (.tmp 64) (.tmp 66) 114 rfl w.heap.size 179 i0 (.int .u64 0) 1 8 (by kernel_rfl) Hi.o Hz0.o Hz1.o Hz2.o rfl (by omega) _ l.length (o.map (gvK .u64)) rfl (HOW.o.alloc _) (wr.heap.size+1) (some ⟨wr.heap.size,0,none⟩) 1 1 [.int .u64 1] rfl (rA wr _ _) (sw [1]) (by unfold maxLen;omega) (by omega) (by simp;omega) ?_;intro v3 w3 hown3 hg3 _;have HO3:=amy hown3;have HG3:=amy hg3;clear hown3 hg3)
    go_ret
    have e:=yO Hl.o Hmm.o hle H.o;have hb3:Below w.heap.size w w3:=(H.o.2.2.2.2.2.alloc (by omega) _).grown HG3.o (by simp;omega) (abO HOW.o);have ho:w3.ownsRow w.heap.size 179 1 v3 (o++ [1]).length ((o++ [1]).map (gvK .u64)):=by
     have:=HO3.o;rw[am0,H.o.1,List.map_append];exact this
    obtain⟨A3,c3,rfl,ho3⟩:=abN ho;rw[e]at ho3;exact⟨A3,c3,iT (by rw[e]),ho3,hb3⟩
  ·have hkl':k<l.length:=by omega
   clear hkl;obtain⟨x,hx⟩:∃x,l[k]? =some x:=bM l k hkl';have hxb:x<1000000000:=HLS.o.at hx;have HX:Hid (o[k]? =some x):=by show _=_;rw[H.o.2.2.2.1 k ano];exact hx
   clear hx;have hcell:wr.cell? ⟨w.heap.size,k,none⟩=some (.int .u64 x):=H.o.2.2.2.2.1.cell (by rw[List.getElem?_append_left (by rw[H.o.1];exact hkl')];exact HX.o);have hfz:wr.frozen? ⟨w.heap.size,k,none⟩=false:=H.o.2.2.2.2.1.frozen k;have g1:Hid (Bk .u64 179 (wr.setCell ⟨w.heap.size,k,none⟩ (.int .u64 ((x:Int)+cy))) w.heap.size ((o++ [0]).set k (x+cy))):=H.o.2.2.2.2.1.set k (x+cy);have g2:Hid (Below w.heap.size w (wr.setCell ⟨w.heap.size,k,none⟩ (.int .u64 ((x:Int)+cy)))):=H.o.2.2.2.2.2.setCell ano _;by_cases hkm:k<m.length
   ·have q:decide ((k:Int)<m.length)=true:=by simp;omega
    obtain⟨y,hy⟩:=bM m k hkm;have hyb:y<1000000000:=HMS.o.at hy;obtain⟨b1,o1,hA,hB,h1⟩:=Hc'.o k y hy;subst hA;have HY:=amy hy;clear hy
    go_wp2_with fail
    generalize wr.setCell ⟨w.heap.size,k,none⟩ (.int .u64 ((x:Int)+cy))=W1 at*
    have hc1:W1.cell? ⟨w.heap.size,k,none⟩=some (.int .u64 ((x:Int)+cy)):=g1.o.cell (n:=x+cy) (by rw[List.getElem?_set_self (by simp[H.o.1];omega)]);have hf1:W1.frozen? ⟨w.heap.size,k,none⟩=false:=g1.o.frozen k;have hd1:W1.cell? ⟨b1,o1+k,none⟩=some (.int .u64 y):=(g2.o.cell (p:=⟨b1,o1+k,none⟩) hB).trans h1;clear h1 hcell hfz
    go_still_tail 10,(by kernel_rfl)
    go_wp2_with fail
    go_roundw
    case rel=>
     refine⟨k+1,(x+cy+y)/BB,o.set k ((x+cy+y)%BB),by omega,by go_num,rfl,by unfold BB;omega,qd H.o HX.o (by rw[HY.o];rfl) hkl' ?_ ?_⟩
     ·have:=(g1.o.set k (x+cy+y)).set k ((x+cy+y)%BB)
      rw[List.set_set,List.set_set]at this;exact this
     ·exact((g2.o.setCell ano _).setCell ano _).drew
    case measure=>simp[intOf];omega
   ·have q:decide ((k:Int)<m.length)=false:=by simp;omega
    go_wp2_with fail
    go_roundw
    case rel=>
     refine⟨k+1,(x+cy+0)/BB,o.set k ((x+cy+0)%BB),by omega,by go_num,rfl,by unfold BB;omega,qd H.o HX.o (by rw[amW (by omega)];rfl) hkl' ?_ ?_⟩
     ·have:=g1.o.set k ((x+cy+0)%BB)
      rw[List.set_set]at this;exact this
     ·exact g2.o.setCell ano _
    case measure=>simp[intOf];omega
theorem aib (A A':Option Addr)(c c':Nat)(a b:Nat)(w:World)(hc:Mg .u64 w w.heap.size A (mag a))(hc':Mg .u64 w w.heap.size A' (mag b))(hm:(mag a).length <=1099511627776)(hm':(mag b).length <=1099511627776):
 Calls prog 97 #[.slice A (mag a).length c,.slice A' (mag b).length c'] w (um (mag (a+b)) w):=by
 by_cases h:(mag b).length <=(mag a).length
 ·exact akK A A' c c' a b w hc hc' hm h
 ·rw[Nat.add_comm a b]
  exact akJ A' A c' c b a w hc' hc hm' (by omega)
theorem agJ (A:Option Addr)(c:Nat)(l:List Nat)(w:World)(hc:Mg .u64 w w.heap.size A l)(hm:l.length<=1099511627776):
 Calls prog 159 #[.slice A l.length c] w (um l w):=by
 have Hc:=amy hc;clear hc;cases A with
 |none=>
  have hl:l=[]:=by
   cases l with
   |nil=>rfl
   |cons g l=>obtain⟨b,o,h,_⟩:=Hc.o 0 g rfl;cases h
  subst hl;have k:∀u:World,(binOp .eql 114 (.slice none 0 c) (.slice none 0 0)).run prog u= .ok (.bool true) u:=fun u=>Lib.run_eql_slice_nil u _ 179 none _ _ _ _ (by kernel_rfl)
  go_enter func159,ntmps159
  go_wp2_with fail
  go_ret
  exact⟨none,0,rfl,⟨rfl,.inl ⟨rfl,rfl⟩⟩,am3 _ _⟩
 |some ad=>
  have k:∀u:World,(binOp .eql 114 (.slice (some ad) l.length c) (.slice none 0 0)).run prog u= .ok (.bool false) u:=fun u=>Lib.run_eql_slice_nil u _ 179 (some ad) _ _ _ _ (by kernel_rfl)
  obtain⟨i0,hi,hz0,hz1,hz2⟩:=info_parts adk;have Hi:=amy hi;have Hz0:=amy hz0;have Hz1:=amy hz1;have Hz2:=amy hz2;clear hi hz0 hz1 hz2;have HR:=amy (Hc.o.reads.alloc ano (.cells #[] 179));have HO:=amy (Ow.new w .u64 179 [] (by simp))
  go_enter func159,ntmps159
  go_wp2_with (at_builtin;refine aB _ rfl (.tmp 5) (.tmp 6) 114 rfl w.heap.size 179 i0 (.int .u64 0) 1 8 (by kernel_rfl) Hi.o Hz0.o Hz1.o Hz2.o rfl (by omega) (.slice (some ⟨w.heap.size,0,none⟩) 0 0) 0 [] rfl HO.o w.heap.size (some ad) l.length c (l.map (gvK .u64)) rfl HR.o (sw l) (by unfold maxLen;omega) (by omega) (by simp) ?_;intro v3 w3 hown3 hg3 _;have HO3:=amy hown3;have HG3:=amy hg3;clear hown3 hg3)
  go_ret
  have hb3:Below w.heap.size w w3:=anp.grown HG3.o (by simp) (fun k hk=>by simp[Value.ownBlock]at hk;omega);have ho:=HO3.o;rw[am5,List.nil_append]at ho;obtain⟨A3,c3,rfl,h3⟩:=abN ho;exact⟨A3,c3,rfl,h3,hb3⟩
def abn (w:World)(l m:List Nat)(k cy:Nat)(o:List Nat)(A:Option Addr)(c:Nat)(wr:World):Prop:=
 o.length=l.length/\Small o/\au o+au (m.take k)=au l+cy*BB^k/\(∀t,k<=t->o[t]? =l[t]?)/\Ow .u64 179 wr w.heap.size A c o/\Below w.heap.size w wr
theorem ni {w wr W:World}{l m o:List Nat}{k cy cy' v:Nat}{A:Option Addr}{c:Nat}(h:abn w l m k cy o A c wr)(hv:v<BB)
 (hk:au (o.set k v)+au (m.take (k+1))=au l+cy'*BB^(k+1)) (hB:Ow .u64 179 W w.heap.size A c (o.set k v)) (hb:Below w.heap.size w W):abn w l m (k+1) cy' (o.set k v) A c W:=by
 obtain⟨h1,h2,h3,h4,h5,h6⟩:=h;refine⟨by rw[List.length_set];exact h1,h2.set _ hv,hk,?_,hB,hb⟩;intro t ht;rw[List.getElem?_set_ne (by omega)];exact h4 t (by omega)
theorem afo (A A':Option Addr)(c c':Nat)(a b:Nat)(w:World)(hc:Mg .u64 w w.heap.size A (mag a))(hc':Mg .u64 w w.heap.size A' (mag b))(hm:(mag a).length <=1099511627776)(hle:b<=a):
 Calls prog 98 #[.slice A (mag a).length c,.slice A' (mag b).length c'] w (um (mag (a-b)) w):=by
 have hlen:(mag b).length <=(mag a).length :=by
  rcases Nat.lt_or_ge (mag a).length (mag b).length with h|h
  ·have:=xR h;omega
  ·exact h
 obtain⟨l,hl⟩:=eX (mag a);obtain⟨m,hmm⟩:=eX (mag b);rw[hl]at hc hm hlen⊢
 rw[hmm]at hc' hlen⊢
 have Hc:=amy hc;have Hc':=amy hc';clear hc hc';have Hl:=amy hl;have Hmm:=amy hmm;have Hle:=amy hle;clear hl hmm hle;have HV:Hid (au l=a):=by show au l=a;rw[<-Hl.o];exact bu a
 have HVM:Hid (au m=b):=by show au m=b;rw[<-Hmm.o];exact bu b
 have HLS:Hid (Small l):=by show Small l;rw[<-Hl.o];exact aX a
 have HMS:Hid (Small m):=by show Small m;rw[<-Hmm.o];exact aX b
 go_enter func98,ntmps98
 go_wp2_with fail
 refine(agJ A c l w Hc.o hm).mono ?_;rintro e w2 ⟨A2,c2,rfl,ho2,hb2⟩;have HO2:=amy ho2;have HB2:=amy hb2;clear ho2 hb2
 go_wp2_with fail
 go_loopw [13,6] (fun s t wr=>∃(k cy:Nat) (o:List Nat),k<=l.length/\s= .int .i64 (k:Int)/\t= .int .u64 (cy:Int)/\cy<=1/\Hid (abn w l m k cy o A2 c2 wr)) (fun s _ _=>(l.length-intOf s).toNat)
 case atStart=>exact⟨0,0,l,by omega,rfl,rfl,by omega,rfl,HLS.o,by simp[au],fun _ _=>rfl,HO2.o,HB2.o⟩
 case round=>
  obtain⟨k,cy,o,hk,rfl,rfl,hcy,H⟩:=hrel;by_cases hkl:k=l.length
  ·subst hkl
   have HE:Hid (au o=a-b):=afn H.o.2.1 H.o.1 (by have:=H.o.2.2.1;rw[amK hlen,HV.o,HVM.o]at this;exact this) Hle.o hcy;have Hlo:=amy H.o.1
   go_wp2_with fail
   rw[<-Hlo.o];refine(lV A2 c2 o wr H.o.2.1 H.o.2.2.2.2.1.mg.1 H.o.2.2.2.2.1.mg.2.1 H.o.2.2.2.2.1.mg.2.2).mono ?_;rintro e w3 ⟨rfl,rfl⟩
   go_wp2_with fail
   go_ret
   exact ajS H.o.2.2.2.2.1 H.o.2.1 HE.o H.o.2.2.2.2.2
  ·have hkl':k<l.length:=by omega
   clear hkl;obtain⟨x,hx⟩:∃x,l[k]? =some x:=bM l k hkl';have hxb:x<1000000000:=HLS.o.at hx;have HX:Hid (o[k]? =some x):=by show _=_;rw[H.o.2.2.2.1 k ano];exact hx
   clear hx;obtain⟨g,hA,hg,hg2,hcell,hfz⟩:=H.o.2.2.2.2.1.at HX.o;subst hA;by_cases hkm:k<m.length
   ·have q:decide ((k:Int)<m.length)=true:=by simp;omega
    obtain⟨y,hy⟩:=bM m k hkm;have hyb:y<1000000000:=HMS.o.at hy;obtain⟨b1,o1,hA,hB,h1⟩:=Hc'.o k y hy;subst hA;have HY:=amy hy;clear hy;have hd1:wr.cell? ⟨b1,o1+k,none⟩=some (.int .u64 y):=(H.o.2.2.2.2.2.cell (p:=⟨b1,o1+k,none⟩) hB).trans h1;clear h1;by_cases hlt:x<cy+y
    ·go_wp2_with fail
     go_roundw
     case rel=>
      have e:((x+BB-(cy+y):Nat):Int)=(x:Int)+1000000000-(cy+y):=by unfold BB;omega
      refine⟨k+1,1,o.set k (x+BB-(cy+y)),by omega,by go_num,rfl,by omega,ni H.o (by unfold BB;omega) (rU HX.o (by rw[HY.o];rfl) H.o.2.2.1 (by unfold BB;omega)) ?_ ((H.o.2.2.2.2.2.setCell hg _).setCell hg _)⟩;have:=(H.o.2.2.2.2.1.set k (x+BB)).set k (x+BB-(cy+y));rw[List.set_set,e]at this;exact this
     case measure=>simp[intOf];omega
    ·go_wp2_with fail
     go_roundw
     case rel=>
      have e:((x-(cy+y):Nat):Int)=(x:Int)-(cy+y):=by omega
      refine⟨k+1,0,o.set k (x-(cy+y)),by omega,by go_num,rfl,by omega,ni H.o (by unfold BB;omega) (rV HX.o (by rw[HY.o];rfl) H.o.2.2.1 (by omega)) ?_ (H.o.2.2.2.2.2.setCell hg _)⟩;have:=H.o.2.2.2.2.1.set k (x-(cy+y));rw[e]at this;exact this
     case measure=>simp[intOf];omega
   ·have q:decide ((k:Int)<m.length)=false:=by simp;omega
    by_cases hlt:x<cy
    ·go_wp2_with fail
     go_roundw
     case rel=>
      have e:((x+BB-(cy+0):Nat):Int)=(x:Int)+1000000000-cy:=by unfold BB;omega
      refine⟨k+1,1,o.set k (x+BB-(cy+0)),by omega,by go_num,rfl,by omega,ni H.o (by unfold BB;omega) (rU HX.o (by rw[amW (by omega)];rfl) H.o.2.2.1 (by unfold BB;omega)) ?_ ((H.o.2.2.2.2.2.setCell hg _).setCell hg _)⟩;have:=(H.o.2.2.2.2.1.set k (x+BB)).set k (x+BB-(cy+0));rw[List.set_set,e]at this;exact this
     case measure=>simp[intOf];omega
    ·go_wp2_with fail
     go_roundw
     case rel=>
      have e:((x-(cy+0):Nat):Int)=(x:Int)-cy:=by omega
      refine⟨k+1,0,o.set k (x-(cy+0)),by omega,by go_num,rfl,by omega,ni H.o (by unfold BB;omega) (rV HX.o (by rw[amW (by omega)];rfl) H.o.2.2.1 (by omega)) ?_ (H.o.2.2.2.2.2.setCell hg _)⟩;have:=H.o.2.2.2.2.1.set k (x-(cy+0));rw[e]at this;exact this
     case measure=>simp[intOf];omega
def lZ (w:World)(l m:List Nat)(i:Nat)(o:List Nat)(wr:World):Prop:=
 o.length=l.length+m.length/\Small o/\au o=au (l.take i)*au m/\(∀t,i+m.length<=t->t<o.length->o[t]? =some 0)/\Ow .u64 179 wr w.heap.size (some ⟨w.heap.size,0,none⟩) (l.length+m.length) o/\Below w.heap.size w wr
def ahh (w:World)(m O:List Nat)(n i x k cy:Nat)(o:List Nat)(wr:World):Prop:=
 o.length=n/\Small o/\au o+cy*BB^(i+k)=au O+x*au (m.take k)*BB^i/\(∀t,i+k<=t->o[t]? =O[t]?)/\Ow .u64 179 wr w.heap.size (some ⟨w.heap.size,0,none⟩) n o/\Below w.heap.size w wr
theorem aky {w wr W:World}{m O o:List Nat}{n i x k cy y z:Nat}(h:ahh w m O n i x k cy o wr)(hz:o[i+k]? =some z)(hy:m[k]? =some y)
 (hB:Ow .u64 179 W w.heap.size (some ⟨w.heap.size,0,none⟩) n (o.set (i+k) ((cy+(z+x*y))%BB))) (hb:Below w.heap.size w W):
 ahh w m O n i x (k+1) ((cy+(z+x*y))/BB) (o.set (i+k) ((cy+(z+x*y))%BB)) W:=by
 obtain⟨h1,h2,h3,h4,h5,h6⟩:=h;refine⟨by rw[List.length_set];exact h1,h2.set _ (Nat.mod_lt _ dx),acM hz (by rw[hy];rfl) h3,?_,hB,hb⟩;intro t ht;rw[List.getElem?_set_ne (by omega)];exact h4 t (by omega)
theorem aag {w W:World}{l m:List Nat}(hO:Ow .u64 179 W w.heap.size (some ⟨w.heap.size,0,none⟩) (l.length+m.length) (List.replicate (l.length+m.length) 0))(hb:Below w.heap.size w W):
 lZ w l m 0 (List.replicate (l.length+m.length) 0) W:=by
 refine⟨by simp,?_,by simp[kE,au],?_,hO,hb⟩
 ·intro g hg;rw[List.eq_of_mem_replicate hg];exact dx
 ·intro t _ ht;rw[List.getElem?_replicate,if_pos (by simpa using ht)]
theorem acL {w wr W:World}{l m O o:List Nat}{i x cy:Nat}(hT:∃wo,lZ w l m i O wo)(hx:l[i]? =some x)(h:ahh w m O (l.length+m.length) i x m.length cy o wr)(hcy:cy<BB)
 (hz:o[i+m.length]? =some 0) (hB:Ow .u64 179 W w.heap.size (some ⟨w.heap.size,0,none⟩) (l.length+m.length) (o.set (i+m.length) (0+cy))) (hb:Below w.heap.size w W):
 lZ w l m (i+1) (o.set (i+m.length) (0+cy)) W:=by
 obtain⟨wo,t1,t2,t3,t4,t5,t6⟩:=hT;obtain⟨h1,h2,h3,h4,h5,h6⟩:=h;rw[amK ano]at h3;refine⟨by rw[List.length_set];exact h1,h2.set _ (by omega),ad5 hz hx h3 t3,?_,hB,hb⟩;intro t ht htl;rw[List.length_set]at htl;rw[List.getElem?_set_ne (by omega),h4 t (by omega)];exact t4 t (by omega) (by omega)
theorem acK {w wr:World}{l m O o:List Nat}{i x cy:Nat}(hT:∃wo,lZ w l m i O wo)(hm:m=[])(h:ahh w m O (l.length+m.length) i x m.length cy o wr)(hcy:cy=0):lZ w l m (i+1) o wr:=by
 obtain⟨wo,t1,t2,t3,t4,t5,t6⟩:=hT;obtain⟨h1,h2,h3,h4,h5,h6⟩:=h;subst hm hcy;simp[au]at h3 t3;refine⟨h1,h2,by simp[au];omega,?_,h5,h6⟩;intro t ht htl;rw[h4 t (by simp at ht⊢;omega)];exact t4 t (by omega) (by omega)
theorem ad6 (A A':Option Addr)(c c':Nat)(a b:Nat)(w:World)(hc:Mg .u64 w w.heap.size A (mag a))(hc':Mg .u64 w w.heap.size A' (mag b))(hm:(mag a).length <=549755813888)(hm':(mag b).length <=549755813888):
 Calls prog 147 #[.slice A (mag a).length c,.slice A' (mag b).length c'] w (um (mag (a*b)) w):=by
 obtain⟨l,hl⟩:=eX (mag a);obtain⟨m,hmm⟩:=eX (mag b);rw[hl]at hc hm⊢
 rw[hmm]at hc' hm'⊢
 have Hc:=amy hc;have Hc':=amy hc';clear hc hc';have Hl:=amy hl;have Hmm:=amy hmm;clear hl hmm;have HV:Hid (au l=a):=by show au l=a;rw[<-Hl.o];exact bu a
 have HVM:Hid (au m=b):=by show au m=b;rw[<-Hmm.o];exact bu b
 have HLS:Hid (Small l):=by show Small l;rw[<-Hl.o];exact aX a
 have HMS:Hid (Small m):=by show Small m;rw[<-Hmm.o];exact aX b
 have hmk:∀u:World,(Instr.makeSlice 114 (.int .i64 ((l.length:Int)+m.length)) (.int .i64 ((l.length:Int)+m.length))).run prog u= .ok (.slice (some ⟨u.heap.size,0,none⟩) (l.length+m.length) (l.length+m.length)) (u.alloc (.cells ((List.replicate (l.length+m.length) 0).map (gvK .u64)).toArray 179)):=fun u=>by
  have:=jR (l.length+m.length) (l.length+m.length) ano (by omega) u;rwa[Int.natCast_add]at this
 obtain⟨z,hz⟩:∃z,z=(List.replicate (l.length+m.length) 0).map (gvK .u64):=⟨_,rfl⟩;rw[<-hz]at hmk;have HS:Hid (lZ w l m 0 (List.replicate (l.length+m.length) 0) (w.alloc (.cells z.toArray 179))):=by
  refine aag ?_ anp;have:=Ow.new w .u64 179 (List.replicate (l.length+m.length) 0) (by unfold maxLen;simp;omega);rw[<-hz,List.length_replicate]at this;exact this
 clear hz
 go_enter func147,ntmps147
 go_wp2_with fail
 clear hmk
 go_loopw [19] (fun s wr=>∃(i:Nat) (o:List Nat),i<=l.length/\s= .int .i64 (i:Int)/\Hid (lZ w l m i o wr)) (fun s _=>(l.length-intOf s).toNat)
 case atStart=>exact⟨0,_,by omega,rfl,HS.o⟩
 case round=>
  obtain⟨i,O,hi,rfl,H⟩:=hrel;clear HS;by_cases hil:i=l.length
  ·subst hil
   have HE:Hid (au O=a*b):=by show _=_;rw[H.o.2.2.1,amK ano,HV.o,HVM.o]
   have Hlo:=amy H.o.1
   go_wp2_with fail
   rw[<-Hlo.o];refine(lV _ _ O wr H.o.2.1 H.o.2.2.2.2.1.mg.1 (by rw[Hlo.o];exact am4 _) (by rw[Hlo.o];omega)).mono ?_;rintro e w3 ⟨rfl,rfl⟩
   go_wp2_with fail
   go_ret
   exact ajS (by rw[Hlo.o];exact H.o.2.2.2.2.1) H.o.2.1 HE.o H.o.2.2.2.2.2
  ·have hil':i<l.length:=by omega
   clear hil;obtain⟨x,hx⟩:∃x,l[i]? =some x:=bM l i hil';have hxb:x<1000000000:=HLS.o.at hx;obtain⟨b1,o1,hA,hB,h1⟩:=Hc.o i x hx;subst hA;have HX:=amy hx;clear hx;have hd1:wr.cell? ⟨b1,o1+i,none⟩=some (.int .u64 x):=(H.o.2.2.2.2.2.cell (p:=⟨b1,o1+i,none⟩) hB).trans h1;clear h1
   go_wp2_with fail
   obtain⟨wo,rfl⟩:∃wo:World,wo=wr:=⟨_,rfl⟩
   go_loopw [26,8] (fun s t wr=>∃(k cy:Nat) (o:List Nat),k<=m.length/\s= .int .i64 (k:Int)/\t= .int .u64 (cy:Int)/\cy<1000000000/\(m.length=0->cy=0)/\Hid (ahh w m O (l.length+m.length) i x k cy o wr)) (fun s _ _=>(m.length-intOf s).toNat)
   case atStart=>exact⟨0,0,O,by omega,rfl,rfl,by omega,fun _=>rfl,H.o.1,H.o.2.1,by simp[au],fun _ _=>rfl,H.o.2.2.2.2.1,H.o.2.2.2.2.2⟩
   case round=>
    obtain⟨k,cy,o,hk,rfl,rfl,hcy,hcz,R⟩:=hrel;have Hcz:=amy hcz;clear hcz;by_cases hkm:k=m.length
    ·subst hkm
     by_cases hm0:m.length=0
     ·have q:decide ((0:Int)<m.length)=false:=am1 (by omega)
      go_wp2_with fail
      go_roundw
      case rel=>exact⟨i+1,o,by omega,by go_num,acK ⟨_,H.o⟩ (amX hm0) R.o (Hcz.o hm0)⟩
      case measure=>simp[intOf];omega
     ·have q:decide ((0:Int)<m.length)=true:=am2 (by omega)
      have hz:o[i+m.length]? =some 0:=by rw[R.o.2.2.2.1 _ ano];exact H.o.2.2.2.1 _ ano (by rw[H.o.1];omega)
      obtain⟨g,hA3,hg,hg2,hcell,hfz⟩:=R.o.2.2.2.2.1.at hz;obtain rfl:g=w.heap.size:=by injection hA3 with e;injection e with e;exact e.symm
      have HZ:=amy hz;clear hz hA3
      go_wp2_with fail
      go_roundw
      case rel=>
       refine⟨i+1,o.set (i+m.length) (0+cy),by omega,by go_num,acL ⟨_,H.o⟩ HX.o R.o hcy HZ.o ?_ (R.o.2.2.2.2.2.setCell ano _)⟩;have:=R.o.2.2.2.2.1.set (i+m.length) (0+cy);rwa[show ((0+cy:Nat):Int)=cy by omega]at this
      case measure=>simp[intOf];omega
    ·have hkm':k<m.length:=by omega
     clear hkm;obtain⟨y,hy⟩:=bM m k hkm';have hyb:y<1000000000:=HMS.o.at hy;obtain⟨b2,o2,hA2,hB2,h2⟩:=Hc'.o k y hy;subst hA2;have HY:=amy hy;clear hy;have hd2:wr.cell? ⟨b2,o2+k,none⟩=some (.int .u64 y):=(R.o.2.2.2.2.2.cell (p:=⟨b2,o2+k,none⟩) hB2).trans h2;clear h2;obtain⟨z,hz⟩:=bM o (i+k) (by rw[R.o.1];omega);have hzb:z<1000000000:=R.o.2.1.at hz;obtain⟨g,hA3,hg,hg2,hcell,hfz⟩:=R.o.2.2.2.2.1.at hz;obtain rfl:g=w.heap.size:=by injection hA3 with e;injection e with e;exact e.symm
     have HZ:=amy hz;clear hz hA3;have hp:=(kZ hcy hzb hxb hyb).1;have hp1:(x:Int)*y<=999999998000000001:=by have:=Int.ofNat_le.2 hp;rwa[Int.natCast_mul]at this
     have hp0:(0:Int)<=(x:Int)*y:=Int.mul_nonneg (by omega) (by omega);clear hp
     go_wp2_with fail
     go_roundw
     case rel=>
      refine⟨k+1,(cy+(z+x*y))/BB,o.set (i+k) ((cy+(z+x*y))%BB),by omega,by go_num,rfl,(kZ hcy hzb hxb hyb).2,fun h=>by omega,aky R.o HZ.o HY.o ?_ (R.o.2.2.2.2.2.setCell ano _)⟩;have:=R.o.2.2.2.2.1.set (i+k) ((cy+(z+x*y))%BB);exact this
     case measure=>simp[intOf];omega
def acA (w:World)(l:List Nat)(d i r:Nat)(o:List Nat)(wr:World):Prop:=
 o.length=l.length/\Small o/\au o*d+r*BB^i+au (l.take i)=au l/\(∀t,t<i->o[t]? =some 0)/\Ow .u64 179 wr w.heap.size (some ⟨w.heap.size,0,none⟩) l.length o/\Below w.heap.size w wr
def ahg (a d:Nat)(w:World)(e:Ending)(w':World):Prop:=
 ∃A c,e= .returned (.tuple #[.slice A (mag (a/d)).length c,.int .u64 ((a%d:Nat):Int)])/\Mg .u64 w' w'.heap.size A (mag (a/d))/\(mag (a/d)).length <=c/\c<=9223372036854775807/\Below w.heap.size w w'
theorem uy (A:Option Addr)(c:Nat)(a d:Nat)(w:World)(hc:Mg .u64 w w.heap.size A (mag a))(hm:(mag a).length <=549755813888)(hd0:0<d)(hd:d<=1000000000):
 Calls prog 239 #[.slice A (mag a).length c,.int .u64 (d:Int)] w (ahg a d w):=by
 obtain⟨l,hl⟩:=eX (mag a);rw[hl]at hc hm⊢
 have Hc:=amy hc;clear hc;have Hl:=amy hl;clear hl;have HV:Hid (au l=a):=by show au l=a;rw[<-Hl.o];exact bu a
 have HLS:Hid (Small l):=by show Small l;rw[<-Hl.o];exact aX a
 have hmk:∀u:World,(Instr.makeSlice 114 (.int .i64 (l.length:Int)) (.int .i64 (l.length:Int))).run prog u= .ok (.slice (some ⟨u.heap.size,0,none⟩) l.length l.length) (u.alloc (.cells ((List.replicate l.length 0).map (gvK .u64)).toArray 179)):=fun u=>jR l.length l.length ano (by omega) u
 obtain⟨z,hz⟩:∃z,z=(List.replicate l.length 0).map (gvK .u64):=⟨_,rfl⟩;rw[<-hz]at hmk;have HS:Hid (acA w l d l.length 0 (List.replicate l.length 0) (w.alloc (.cells z.toArray 179))):=by
  refine⟨by simp,fun g hg=>by rw[List.eq_of_mem_replicate hg];exact dx,by simp[kE],fun t ht=>by rw[List.getElem?_replicate,if_pos ht],?_,anp⟩;have:=Ow.new w .u64 179 (List.replicate l.length 0) (by unfold maxLen;simp;omega);rw[<-hz,List.length_replicate]at this;exact this
 clear hz
 go_enter func239,ntmps239
 go_wp2_with fail
 clear hmk
 go_loopw [8,7] (fun s t wr=>∃(i r:Nat) (o:List Nat),i<=l.length/\s= .int .i64 ((i:Int)-1)/\t= .int .u64 (r:Int)/\r<d/\Hid (acA w l d i r o wr)) (fun s _ _=>(intOf s+1).toNat)
 case atStart=>exact⟨l.length,0,_,by omega,rfl,rfl,by omega,HS.o⟩
 case round=>
  obtain⟨i,r,o,hi,rfl,rfl,hr,H⟩:=hrel;clear HS;by_cases hi0:i=0
  ·subst hi0
   have HE:Hid (au o=a/d/\r=a%d):=by
    have:=H.o.2.2.1;rw[HV.o]at this;exact acS hr (by simpa[au]using this)
   have Hlo:=amy H.o.1
   go_wp2_with fail
   rw[<-Hlo.o];refine(lV _ _ o wr H.o.2.1 H.o.2.2.2.2.1.mg.1 ano (by rw[Hlo.o];omega)).mono ?_;rintro e w3 ⟨rfl,rfl⟩
   go_wp2_with fail
   go_ret2
   obtain⟨h1,h2,h3,h4⟩:=om H.o.2.2.2.2.1 H.o.2.1 HE.o.1;refine⟨_,_,lw (jQ (by rw[h1])) (by rw[HE.o.2];rfl),h2,?_,?_,H.o.2.2.2.2.2⟩
   ·rw[Hlo.o];exact h3
   ·rw[Hlo.o];exact h4
  ·obtain⟨i,rfl⟩:∃j,i=j+1:=⟨i-1,by omega⟩
   clear hi0;obtain⟨x,hx⟩:∃x,l[i]? =some x:=bM l i (by omega);have hxb:x<1000000000:=HLS.o.at hx;obtain⟨b1,o1,hA,hB,h1⟩:=Hc.o i x hx;subst hA;have HX:=amy hx;clear hx;have hd1:wr.cell? ⟨b1,o1+i,none⟩=some (.int .u64 x):=(H.o.2.2.2.2.2.cell (p:=⟨b1,o1+i,none⟩) hB).trans h1;clear h1;have hz:o[i]? =some 0:=H.o.2.2.2.1 i (by omega);obtain⟨g,hA3,hg,hg2,hcell,hfz⟩:=H.o.2.2.2.2.1.at hz;obtain rfl:g=w.heap.size:=by injection hA3 with e;injection e with e;exact e.symm
   have HZ:=amy hz;clear hz hA3
   go_wp2_with fail
   go_roundw
   case rel=>
    refine⟨i,(r*BB+x)%d,o.set i ((r*BB+x)/d),by omega,rfl,rfl,Nat.mod_lt _ hd0,by rw[List.length_set];exact H.o.1,H.o.2.1.set _ (yo hd hr hxb).1,aao HX.o HZ.o H.o.2.2.1,?_,?_,H.o.2.2.2.2.2.setCell ano _⟩
    ·intro t ht;rw[List.getElem?_set_ne (by omega)];exact H.o.2.2.2.1 t (by omega)
    ·have:=H.o.2.2.2.2.1.set i ((r*BB+x)/d)
     exact this
   case measure=>simp[intOf]
def fV (w:World)(A:Option Addr)(c n:Nat):Prop:=Mg .u64 w w.heap.size A (mag n)/\(mag n).length <=c/\c<=9223372036854775807
theorem fV.up {w w':World}{A:Option Addr}{c n:Nat}(h:fV w A c n)(hb:Below w.heap.size w w'):fV w' A c n:=⟨h.1.up hb,h.2⟩
def acC (a b:Nat)(w:World)(e:Ending)(w':World):Prop:=
 ∃A c A' c',e= .returned (.tuple #[.slice A (mag (a/b)).length c,.slice A' (mag (a%b)).length c'])/\fV w' A c (a/b)/\fV w' A' c' (a%b)/\Below w.heap.size w w'
theorem aa4 (A A':Option Addr)(c c':Nat)(a b:Nat)(w:World)(hc:fV w A c a)(hc':fV w A' c' b)(hm:(mag a).length <=274877906944)(hm':(mag b).length <=274877906944)(hlt:a<b):
 Calls prog 196 #[.slice A (mag a).length c,.slice A' (mag b).length c'] w (acC a b w):=by
 have Hc:=amy hc;have Hc':=amy hc';clear hc hc';have HD:Hid (a/b=0/\a%b=a):=⟨Nat.div_eq_of_lt hlt,Nat.mod_eq_of_lt hlt⟩;have Hlt:=amy hlt;clear hlt
 go_enter func196,ntmps196
 go_wp2_with fail
 refine(jE A A' c c' a b w Hc.o.1 Hc'.o.1 (by omega) (by omega)).mono ?_;rintro e w1 ⟨r,rfl,hr,hr1,hr2,nn,rfl⟩;have q:decide (r<0)=true:=am2 (hr.1.2 Hlt.o);clear hr
 go_wp2_with fail
 go_ret2
 refine⟨none,0,A,c,lw (jQ (by rw[HD.o.1];rfl)) (jQ (by rw[HD.o.2])),?_,?_,?_⟩
 ·rw[HD.o.1];exact⟨Mg.nil _ _ _ _,am4 _,by omega⟩
 ·rw[HD.o.2];exact Hc.o
 ·exact below_drewN _ _ _
theorem aaP {n:Nat}(h0:n≠0)(h:n<BB):mag n=[n]:=by rw[lK h0,Nat.mod_eq_of_lt h,Nat.div_eq_of_lt h,jr]
theorem aaQ {n:Nat}(h:(mag n).length =1):mag n=[n]/\n≠0/\n<BB:=by
 have h1:n<BB^1:=aH.1 (by omega);have h0:n≠0:=by rintro rfl;simp[jr]at h
 rw[Nat.pow_one]at h1;exact⟨aaP h0 h1,h0,h1⟩
theorem uQ (w:World)(l:List Nat):Mg .u64 (w.alloc (.cells (l.map (gvK .u64)).toArray 179)) (w.heap.size+1) (some ⟨w.heap.size,0,none⟩) l:=by
 have h:Bk .u64 179 (w.alloc (.cells (l.map (gvK .u64)).toArray 179)) w.heap.size l:=bJ w _;have:=h.mg l.length;rw[amK ano]at this;rwa[amD]at this
theorem adu (A A':Option Addr)(c c':Nat)(a b:Nat)(w:World)(hc:fV w A c a)(hc':fV w A' c' b)(hm:(mag a).length <=274877906944)(hm':(mag b).length =1)(hle:b<=a):
 Calls prog 196 #[.slice A (mag a).length c,.slice A' (mag b).length c'] w (acC a b w):=by
 obtain⟨e1,hb0,hbB⟩:=aaQ hm';have Hc:=amy hc;have Hc':=amy hc';clear hc hc';have Hle:=amy hle;have H1:=amy hm';have HE:=amy e1;clear hle hm' e1;obtain⟨b1,o1,hA,hB,h1⟩:=Hc'.o.1 0 b (by rw[HE.o];rfl);subst hA;rw[Nat.add_zero]at h1
 go_enter func196,ntmps196
 go_wp2_with fail
 refine(jE A _ c c' a b w Hc.o.1 Hc'.o.1 (by omega) (by rw[H1.o];omega)).mono ?_;rintro e w1 ⟨r,rfl,hr,hr1,hr2,nn,rfl⟩;have q:decide (r<0)=false:=am1 (fun h=>by have:=hr.1.1 h;have:=Hle.o;omega);clear hr;have q2:(((mag b).length :Int)==1)=true:=by rw[H1.o];rfl
 have q3:(0:Int)<(mag b).length :=by rw[H1.o];decide
 have q4:0<(mag b).length :=by rw[H1.o];decide
 go_wp2_with fail
 refine(uy A c a b (w.drewN nn) Hc.o.1 (by omega) (by omega) (by unfold BB at hbB;omega)).mono ?_;rintro e w2 ⟨A2,c2,rfl,hm2,hl2,hc2,hb2⟩;have HM2:=amy hm2;have HB2:Hid (Below w.heap.size w w2):=(below_drewN _ _ nn).trans hb2;clear hm2 hb2;have hr:a%b<b:=Nat.mod_lt _ (by omega)
 go_wp2_with fail
 refine(lV (some ⟨w2.heap.size,0,none⟩) 1 [a%b] _ ?_ ?_ ano (by omega)).mono ?_
 ·intro g hg;simp at hg;subst hg;exact Nat.lt_trans hr hbB
 ·have:=uQ w2 [a%b]
  rw[amD];exact this
 rintro e w3 ⟨rfl,rfl⟩
 go_wp2_with fail
 go_ret2
 have hcut:aae [a%b]=mag (a%b):=by unfold aae;simp[au]
 have hs:Small [a%b]:=by intro g hg;simp at hg;subst hg;exact Nat.lt_trans hr hbB
 have hb3:Below w2.heap.size w2 (w2.alloc (.cells #[.int .u64 ((a:Int)%b)] 179)):=anp;obtain⟨k,hk,e⟩:=aa6 _ hs;refine⟨A2,c2,_,1,lw rfl (jQ (by rw[hcut])),⟨HM2.o.up hb3,hl2,hc2⟩,⟨?_,?_,by omega⟩,HB2.o.trans (hb3.mono HB2.o.size)⟩
 ·rw[<-hcut,e]
  have:=(uQ w2 [a%b]).take k;rw[amD];exact this
 ·rw[<-hcut,e,amO];simp;omega
theorem nP (A A':Option Addr)(c c' n n':Nat)(a b:Nat)(w:World)(hn:(mag a).length =n)(hn':(mag b).length =n')(hc:Mg .u64 w w.heap.size A (mag a))(hc':Mg .u64 w w.heap.size A' (mag b))(hm:n<=549755813888)(hm':n'<=549755813888):
 Calls prog 147 #[.slice A n c,.slice A' n' c'] w (um (mag (a*b)) w):=by
 subst hn hn';exact ad6 A A' c c' a b w hc hc' hm hm'
theorem aeV {K:IntKind}{T:TypeId}{w:World}{base n:Nat}{l:List Nat}{v:Value}(h:w.ownsRow base T 1 v n (l.map (gvK K)))(hn:l.length=n):∃A c,v= .slice A n c/\Ow K T w base A c l:=by
 subst hn;exact abN h
theorem ahP {v:Nat}(hv:0<v)(hvb:v<1000000000):∃s:Nat,s=BB/(v+1)/\((1000000000:Int)/((v:Int)+1))=(s:Int)/\0<s/\s<1000000000/\mag s=[s]:=by
 have h1:=yx (v:=v) hvb;have h2:BB/(v+1)<BB:=Nat.div_lt_self dx (by omega);exact⟨_,rfl,rfl,h1,h2,aaP (by omega) h2⟩
structure DivIs (w:World) (lb:List Nat) (N k T D ga gb gq c3 c4 j:Nat) (al ql:List Nat) (wr:World):Prop where
 len:al.length=N+2
 small:Small al
 sum:au al+au ql*D=T
 low:au (al.drop j)<D
 qlen:ql.length=N-k
 qsmall:Small ql
 qz:∀t,t<j->ql[t]? =some 0
 oa:Ow .u64 179 wr w.heap.size (some ⟨ga,0,none⟩) c3 al
 ob:Ow .u64 179 wr w.heap.size (some ⟨gb,0,none⟩) c4 lb
 oq:Ow .u64 179 wr w.heap.size (some ⟨gq,0,none⟩) (N-k) ql
 below:Below w.heap.size w wr
theorem af7 {w W:World}{la lb:List Nat}{N k T D ga gb gq c3 c4:Nat}(hla:mag T=la)(hN:la.length=N)(hk:k+2<=N)(hD:BB^(k+1)<=D)
 (oa:Ow .u64 179 W w.heap.size (some ⟨ga,0,none⟩) c3 (la++ [0,0])) (ob:Ow .u64 179 W w.heap.size (some ⟨gb,0,none⟩) c4 lb)
 (oq:Ow .u64 179 W w.heap.size (some ⟨gq,0,none⟩) (N-k) (List.replicate (N-k) 0)) (hb:Below w.heap.size w W):
 DivIs w lb N k T D ga gb gq c3 c4 (N-k) (la++ [0,0]) (List.replicate (N-k) 0) W:=by
 subst hla hN;have hs:=aX T;refine⟨by simp,?_,?_,?_,by simp,?_,fun t ht=>by rw[List.getElem?_replicate,if_pos ht],oa,ob,oq,hb⟩
 ·intro g hg
  rcases ane.1 hg with hg|hg
  ·exact hs g hg
  ·simp at hg;subst hg;exact dx
 ·rw[dB,bu,kE];simp[au]
 ·rw[List.drop_append_of_le_length (by omega),dB]
  have h1:=jW _ (hs.drop ((mag T).length -k));rw[am8,show (mag T).length -((mag T).length -k)=k by omega]at h1;have h2:BB^k<=BB^(k+1):=Nat.pow_le_pow_right dx (by omega);simp only[au,Nat.mul_zero,Nat.add_zero];omega
 ·intro g hg;rw[List.eq_of_mem_replicate hg];exact dx
theorem DivIs.drewN {w wr:World}{lb al ql:List Nat}{N k T D ga gb gq c3 c4 j:Nat}(h:DivIs w lb N k T D ga gb gq c3 c4 j al ql wr)(n:Nat):DivIs w lb N k T D ga gb gq c3 c4 j al ql (wr.drewN n):=
 ⟨h.len,h.small,h.sum,h.low,h.qlen,h.qsmall,h.qz,h.oa.drewN n,h.ob.drewN n,h.oq.drewN n,h.below.trans (below_drewN _ _ n)⟩
structure SubIs (w:World) (lb al ql:List Nat) (N k ga gb gq c3 c4 i g j cy:Nat) (o:List Nat) (wr:World):Prop where
 small:Small o
 sum:au o+g*au (lb.take j)*BB^i=au al+cy*BB^(i+j)
 alike:Dec.Alike i al o
 same:∀t,i+j<=t->o[t]? =al[t]?
 oa:Ow .u64 179 wr w.heap.size (some ⟨ga,0,none⟩) c3 o
 ob:Ow .u64 179 wr w.heap.size (some ⟨gb,0,none⟩) c4 lb
 oq:Ow .u64 179 wr w.heap.size (some ⟨gq,0,none⟩) (N-k) ql
 below:Below w.heap.size w wr
theorem DivIs.sub {w wr:World}{lb al ql:List Nat}{N k T D ga gb gq c3 c4 j:Nat}(h:DivIs w lb N k T D ga gb gq c3 c4 j al ql wr)(i g:Nat):SubIs w lb al ql N k ga gb gq c3 c4 i g 0 0 al wr:=
 ⟨h.small,by simp[au],Dec.Alike.refl _ _,fun _ _=>rfl,h.oa,h.ob,h.oq,h.below⟩
theorem SubIs.next {w wr W:World}{lb al ql o:List Nat}{N k ga gb gq c3 c4 i g j cy cy' v:Nat}(h:SubIs w lb al ql N k ga gb gq c3 c4 i g j cy o wr)(hv:v<BB)
 (hs:au (o.set (i+j) v)+g*au (lb.take (j+1))*BB^i=au al+cy'*BB^(i+(j+1)))
 (oa:Ow .u64 179 W w.heap.size (some ⟨ga,0,none⟩) c3 (o.set (i+j) v)) (ob:Ow .u64 179 W w.heap.size (some ⟨gb,0,none⟩) c4 lb)
 (oq:Ow .u64 179 W w.heap.size (some ⟨gq,0,none⟩) (N-k) ql) (hb:Below w.heap.size w W):SubIs w lb al ql N k ga gb gq c3 c4 i g (j+1) cy' (o.set (i+j) v) W:=
 ⟨h.small.set _ hv,hs,h.alike.set (Nat.le_add_right _ _),fun t ht=>by rw[List.getElem?_set_ne (by omega)];exact h.same t (by omega),oa,ob,oq,hb⟩
structure AddIs (w:World) (lb o0 ql:List Nat) (N k ga gb gq c3 c4 i j cy:Nat) (o:List Nat) (wr:World):Prop where
 small:Small o
 sum:au o+cy*BB^(i+j)=au o0+au (lb.take j)*BB^i
 alike:Dec.Alike i o0 o
 same:∀t,i+j<=t->o[t]? =o0[t]?
 oa:Ow .u64 179 wr w.heap.size (some ⟨ga,0,none⟩) c3 o
 ob:Ow .u64 179 wr w.heap.size (some ⟨gb,0,none⟩) c4 lb
 oq:Ow .u64 179 wr w.heap.size (some ⟨gq,0,none⟩) (N-k) ql
 below:Below w.heap.size w wr
theorem SubIs.add {w wr:World}{lb al ql o:List Nat}{N k ga gb gq c3 c4 i g j cy:Nat}(h:SubIs w lb al ql N k ga gb gq c3 c4 i g j cy o wr):AddIs w lb o ql N k ga gb gq c3 c4 i 0 0 o wr:=
 ⟨h.small,by simp[au],Dec.Alike.refl _ _,fun _ _=>rfl,h.oa,h.ob,h.oq,h.below⟩
theorem AddIs.next {w wr W:World}{lb o0 ql o:List Nat}{N k ga gb gq c3 c4 i j cy cy' v:Nat}(h:AddIs w lb o0 ql N k ga gb gq c3 c4 i j cy o wr)(hv:v<BB)
 (hs:au (o.set (i+j) v)+cy'*BB^(i+(j+1))=au o0+au (lb.take (j+1))*BB^i)
 (oa:Ow .u64 179 W w.heap.size (some ⟨ga,0,none⟩) c3 (o.set (i+j) v)) (ob:Ow .u64 179 W w.heap.size (some ⟨gb,0,none⟩) c4 lb)
 (oq:Ow .u64 179 W w.heap.size (some ⟨gq,0,none⟩) (N-k) ql) (hb:Below w.heap.size w W):AddIs w lb o0 ql N k ga gb gq c3 c4 i (j+1) cy' (o.set (i+j) v) W:=
 ⟨h.small.set _ hv,hs,h.alike.set (Nat.le_add_right _ _),fun t ht=>by rw[List.getElem?_set_ne (by omega)];exact h.same t (by omega),oa,ob,oq,hb⟩
theorem DivIs.next {w wr W:World}{lb al ql o:List Nat}{N k T D ga gb gq c3 c4 i g:Nat}(h:DivIs w lb N k T D ga gb gq c3 c4 (i+1) al ql wr)(hi:i<N-k)(hD:0<D)(hgB:g<BB)(ho:Small o)(hal:Dec.Alike i al o)
 (hg:g=au (al.drop i)/D) (hr:au (o.drop i)=au (al.drop i)%D)
 (oa:Ow .u64 179 W w.heap.size (some ⟨ga,0,none⟩) c3 o) (ob:Ow .u64 179 W w.heap.size (some ⟨gb,0,none⟩) c4 lb)
 (oq:Ow .u64 179 W w.heap.size (some ⟨gq,0,none⟩) (N-k) (ql.set i g)) (hb:Below w.heap.size w W):DivIs w lb N k T D ga gb gq c3 c4 i o (ql.set i g) W:=
 ⟨hal.1.trans h.len,ho,aeK hal (by rw[h.len];omega) (h.qz i (by omega)) h.sum hg hr,by rw[hr];exact Nat.mod_lt _ hD,by rw[List.length_set];exact h.qlen,h.qsmall.set _ hgB,
  fun t ht=>by rw[List.getElem?_set_ne (by omega)];exact h.qz t (by omega),oa,ob,oq,hb⟩
theorem gz {w:World}{base g c:Nat}{l:List Nat}(h:Ow .u64 179 w base (some ⟨g,0,none⟩) c l){i n:Nat}(hi:l[i]? =some n):w.cell? ⟨g,i,none⟩=some (.int .u64 n)/\w.frozen? ⟨g,i,none⟩=false/\base<=g:=by
 obtain⟨g',e,h1,_,h2,h3⟩:=h.at hi;injection e with e
 injection e with e
 subst e;exact⟨h2,h3,h1⟩
end
end Go.Proofs.YtbkhnggmcheelaaGreatDoor
