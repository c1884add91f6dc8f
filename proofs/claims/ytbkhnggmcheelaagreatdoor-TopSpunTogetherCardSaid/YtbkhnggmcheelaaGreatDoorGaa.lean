/- TopSpunTogether: Short names for facts of the library. Conditions: bounded sizes; variables as laid. -/
import Derived.Lib.Hide
open Go Go.RowKit
theorem ano{n:Nat}:n<=n:=Nat.le_refl _
theorem anp{w:World}{o:Obj}:Below w.heap.size w (w.alloc o):=(Below.refl _ _).alloc (Nat.le_refl _) _
abbrev BA:=ByteArray
theorem eX{α:Sort _}(a:α):∃x,a=x:=⟨a,rfl⟩
theorem Go.RowKit.Hid.o{p:Prop}(h:Go.RowKit.Hid p):p:=h
abbrev amy:=@Lib.hid
abbrev amz:=@Result.andThen_ok
abbrev amA:=@Array.getElem?_eq_some_iff
abbrev amB:=@List.getElem?_eq_getElem
abbrev amC:=@Bool.and_eq_true
abbrev amD:=@World.size_alloc
abbrev amE:=@Nat.eq_of_beq_eq_true
abbrev amF:=@Sem.run_bind
abbrev amG:=@Nat.le_trans
abbrev amH:=@List.getElem?_eq_some_iff
abbrev amI:=@List.mem_of_getElem?
abbrev amJ:=@List.mem_cons_self
abbrev amK:=@List.take_of_length_le
abbrev amL:=@List.mem_cons_of_mem
abbrev amM:=@Sem.run_pure
abbrev amN:=@List.mem_map
abbrev amO:=@List.length_take
abbrev amP:=@List.getElem?_map
abbrev amQ:=@Bool.false_eq_true
abbrev amR:=@Below.heap_setCell
abbrev amS:=@Nat.lt_of_lt_of_le
abbrev amT:=@List.length_cons
abbrev amU:=@List.all_eq_true
abbrev amV:=@Array.getElem?_toList
abbrev amW:=@List.getElem?_eq_none
abbrev amX:=@List.eq_nil_of_length_eq_zero
abbrev amY:=@World.cell?_setCell_other
abbrev amZ:=@List.getElem?_take
abbrev am0:=@List.length_append
abbrev am1:=@decide_eq_false
abbrev am2:=@decide_eq_true
abbrev am3:=@Below.refl
abbrev am4:=@Nat.le_refl
abbrev am5:=@Nat.zero_add
abbrev am6:=@List.length_map
abbrev am7:=@List.mem_of_mem_take
abbrev am8:=@List.length_drop
abbrev am9:=@Nat.lt_succ_self
abbrev ana:=@Nat.mul_le_mul_left
abbrev anb:=@Nat.pow_succ
abbrev anc:=@Rat.intCast_mul
abbrev ane:=@List.mem_append
abbrev anf:=@List.mem_cons
abbrev ang:=@decide_eq_decide
abbrev anh:=@Nat.blt_eq
abbrev ani:=@List.take_add_one
abbrev anj:=@Option.some.inj
abbrev ank:=@Nat.mul_comm
abbrev anl:=@List.ext_getElem?
abbrev anm:=@Int.toNat_natCast
abbrev ann:=@List.map_cons
namespace Go.Proofs.YtbkhnggmcheelaaGreatDoor
section
namespace Dec
abbrev Bytes:=List UInt8
def dF (b:UInt8):Bool:=decide (48<=b.toNat/\b.toNat<=57)
def bB (ds:Bytes):Nat:=ds.foldl (fun n d=>10*n+(d.toNat-48)) 0
def aje (n:Nat):UInt8:=UInt8.ofNat (48+n%10)
theorem kL (n:Nat):(aje n).toNat =48+n%10:=by
 unfold aje;rw[UInt8.toNat_ofNat'];omega
theorem adi (n:Nat):dF (aje n)=true:=by
 unfold dF;rw[kL];simp;omega
theorem aaX (ds:Bytes):∀a:Nat,ds.foldl (fun n d=>10*n+(d.toNat-48)) a=a*10^ds.length+bB ds:=by
 induction ds with
 |nil=>intro a;simp[bB]
 |cons d ds ih=>
  intro a;have h1:=ih (10*a+(d.toNat-48));have h2:=ih (10*0+(d.toNat-48));simp only[bB,List.foldl_cons,amT]at*
  rw[h1,h2,anb]
  grind
theorem eX (a b:Bytes):bB (a++b)=bB a*10^b.length+bB b:=by
 unfold bB;rw[List.foldl_append,aaX b];rfl
theorem afj:bB []=0:=rfl
theorem rR (d:UInt8):bB [d]=d.toNat-48:=by simp[bB]
theorem iX (d:UInt8)(ds:Bytes):bB (d::ds)=(d.toNat-48)*10^ds.length+bB ds:=by
 have:=eX [d] ds;simpa[rR]using this
theorem mU (ds:Bytes)(h:∀d∈ds,dF d=true):bB ds<10^ds.length:=by
 induction ds with
 |nil=>simp[bB]
 |cons d ds ih=>
  have h1:=ih (fun x hx=>h x (amL _ hx));have h2:=h d amJ;unfold dF at h2;simp at h2;rw[iX,amT,anb];have:(d.toNat-48)*10^ds.length<=9*10^ds.length:=Nat.mul_le_mul_right _ (by omega);omega
def agc:Nat->Nat->Bytes
 |0,_=>[]
 |f+1,n=>if n=0 then []else agc f (n/10)++ [aje n]
def dec (n:Nat):Bytes:=agc n n
theorem agb:∀(f g n:Nat),n<=f->n<=g->agc f n=agc g n:=by
 intro f
 induction f with
 |zero=>
  intro g n h1 h2;obtain rfl:n=0:=by omega
  cases g<;>simp[agc]
 |succ f ih=>
  intro g n h1 h2;cases g with
  |zero=>obtain rfl:n=0:=by omega
         simp[agc]
  |succ g=>
   unfold agc;by_cases h0:n=0
   ·simp[h0]
   ·rw[if_neg h0,if_neg h0,ih g (n/10) (by omega) (by omega)]
theorem gJ:dec 0=[]:=rfl
theorem jB {n:Nat}(h:n≠0):dec n=dec (n/10)++ [aje n]:=by
 unfold dec;cases n with
 |zero=>exact absurd rfl h
 |succ n=>
  show agc (n+1) (n+1)=_;rw[show agc (n+1) (n+1)=agc n ((n+1)/10)++ [aje (n+1)]by simp[agc]];rw[agb n ((n+1)/10) ((n+1)/10) (by omega) ano]
theorem sO {P:Nat->Prop}(h0:P 0)(hs:∀n,n≠0->P (n/10)->P n)(n:Nat):P n:=by
 induction n using Nat.strongRecOn with
 |_ n ih=>
  by_cases h:n=0
  ·subst h;exact h0
  ·exact hs n h (ih (n/10) (by omega))
theorem iW (n:Nat):bB (dec n)=n:=by
 induction n using sO with
 |h0=>rfl
 |hs n h ih=>rw[jB h,eX,ih,rR,kL];simp;omega
theorem lU (n:Nat):∀d∈dec n,dF d=true:=by
 induction n using sO with
 |h0=>intro d hd;simp[gJ]at hd
 |hs n h ih=>
  intro d hd;rw[jB h,ane]at hd;rcases hd with hd|hd
  ·exact ih d hd
  ·simp at hd;subst hd;exact adi n
theorem oP {n:Nat}:dec n=[]↔n=0:=by
 constructor
 ·intro h
  have:=iW n;rw[h]at this;exact this.symm
 ·rintro rfl;rfl
theorem xy {a b:Bytes}(h:a≠ []):(a++b).head? =a.head?:=by cases a with|nil=>exact absurd rfl h|cons x a=>rfl
theorem ack (n:Nat):∀d,(dec n).head? =some d->d≠48:=by
 induction n using sO with
 |h0=>intro d hd;simp[gJ]at hd
 |hs n h ih=>
  intro d hd;rw[jB h]at hd;by_cases h10:n/10=0
  ·rw[h10,gJ]at hd
   simp at hd;subst hd;intro e;have:=kL n;rw[e]at this;simp at this;omega
  ·have hne:dec (n/10)≠ []:=fun e=>h10 (oP.1 e)
   rw[xy hne]at hd;exact ih d hd
theorem aga {d:UInt8}(h:dF d=true)(n:Nat)(hn:n%10=d.toNat-48):aje n=d:=by
 unfold dF at h;simp at h;apply UInt8.toNat_inj.1;rw[kL];omega
theorem zP (t:Bytes)(h:∀d∈t,dF d=true)(h0:∀d,t.head? =some d->d≠48):dec (bB t)=t:=by
 induction hn:t.length generalizing t with
 |zero=>have:t=[]:=amX hn
        subst this;rfl
 |succ n ih=>
  have hne:t≠ []:=by intro e;subst e;simp at hn
  obtain⟨s,d,rfl⟩:∃s d,t=s++ [d]:=⟨t.dropLast,t.getLast hne,(List.dropLast_concat_getLast hne).symm⟩;have hs:s.length=n:=by simpa using hn
  have hd:dF d=true:=h d (by simp);have hsd:∀x∈s,dF x=true:=fun x hx=>h x (by simp[hx])
  have hd':=hd;unfold dF at hd';simp at hd';have hval:bB (s++ [d])=bB s*10+(d.toNat-48):=by rw[eX,rR];simp
  by_cases hse:s=[]
  ·subst hse
   have h1:d≠48:=h0 d rfl;have h2:d.toNat≠48:=fun e=>h1 (UInt8.toNat_inj.1 e)
   rw[hval];simp only[afj,Nat.zero_mul,am5,List.nil_append];rw[jB (by omega),show (d.toNat-48)/10=0 by omega,gJ,aga hd _ (by omega)];rfl
  ·have hh:∀x,s.head? =some x->x≠48:=fun x hx=>h0 x (by rw[xy hse];exact hx)
   have e:=ih s hsd hh hs;have hpos:bB s≠0:=by
    intro e0;rw[e0,gJ]at e;exact hse e.symm
   rw[hval,jB (by omega),show (bB s*10+(d.toNat-48))/10=bB s by omega,e,aga hd _ (by omega)]
theorem aa5 {n k:Nat}:(dec n).length <=k↔n<10^k:=by
 induction n using sO generalizing k with
 |h0=>simp[gJ,Nat.pow_pos]
 |hs n h ih=>
  rw[jB h];cases k with
  |zero=>simp;omega
  |succ k=>
   rw[am0,List.length_singleton,Nat.add_le_add_iff_right,ih,anb];omega
def bare (s:Bytes):Bytes:=if s.head? =some 45 then s.drop 1 else s
def iN (s:Bytes):Bytes:=if (bare s).all dF then(bare s).dropWhile (· ==48)else []
def wV (s:Bytes):Bool:=decide (s.head? =some 45)&& !(iN s).isEmpty
def val (s:Bytes):Int:=if wV s then-(bB (iN s):Int)else bB (iN s)
def canon (z:Int):Bytes:=if z<0 then 45::dec z.natAbs else dec z.natAbs
theorem qC (s:Bytes):∀d∈iN s,dF d=true:=by
 unfold iN;by_cases h:(bare s).all dF=true
 ·rw[if_pos h]
  intro d hd;exact amU.1 h d ((List.dropWhile_sublist _).subset hd)
 ·rw[if_neg h];intro d hd;simp at hd
theorem kY (p:UInt8->Bool):∀(l:Bytes) d,(l.dropWhile p).head? =some d->p d=false:=by
 intro l
 induction l with
 |nil=>intro d h;simp at h
 |cons a l ih=>
  intro d h;rw[List.dropWhile_cons]at h;by_cases ha:p a=true
  ·rw[if_pos ha]at h;exact ih d h
  ·rw[if_neg ha]at h;simp at h;subst h;simpa using ha
theorem zO (s:Bytes):∀d,(iN s).head? =some d->d≠48:=by
 intro d h;unfold iN at h;by_cases hb:(bare s).all dF=true
 ·rw[if_pos hb]at h
  have:=kY _ _ _ h;simpa using this
 ·rw[if_neg hb]at h;simp at h
theorem acj (s:Bytes):dec (bB (iN s))=iN s:=zP _ (qC s) (zO s)
theorem ac7 {s:Bytes}:bB (iN s)=0↔iN s=[]:=by
 constructor
 ·intro h;have:=acj s;rw[h,gJ]at this;exact this.symm
 ·intro h;rw[h];rfl
theorem vT (s:Bytes):val s<0↔wV s=true:=by
 unfold val;by_cases h:wV s=true
 ·rw[if_pos h]
  have:bB (iN s)≠0:=by
   intro e;rw[ac7]at e;unfold wV at h;rw[e]at h;simp at h
  simp[h];omega
 ·rw[if_neg h];simp[h]
theorem vU (s:Bytes):(val s).natAbs =bB (iN s):=by
 unfold val;split<;>simp
theorem zU (s:Bytes):canon (val s)=if wV s then 45::iN s else iN s:=by
 unfold canon;rw[vU,acj];by_cases h:wV s=true
 ·rw[if_pos ((vT s).2 h),if_pos h]
 ·rw[if_neg (fun hh=>h ((vT s).1 hh)),if_neg h]
theorem al7 (n:Nat):(dec n).all dF=true:=amU.2 (lU n)
theorem xL (n:Nat):(dec n).dropWhile (· ==48)=dec n:=by
 cases h:dec n with
 |nil=>rfl
 |cons a l=>
  have:=ack n a (by rw[h];rfl);rw[List.dropWhile_cons,if_neg (by simpa using this)]
theorem pJ (n:Nat):(dec n).head? ≠some 45:=by
 intro h;have:=lU n 45 (List.mem_of_mem_head? (by rw[h];rfl));revert this;decide
theorem adM (z:Int):bare (canon z)=dec z.natAbs:=by
 unfold canon bare;by_cases h:z<0
 ·rw[if_pos h];simp
 ·rw[if_neg h,if_neg (pJ _)]
theorem vD (z:Int):iN (canon z)=dec z.natAbs:=by
 unfold iN;rw[adM,if_pos (al7 _),xL]
theorem ac5 (z:Int):wV (canon z)=decide (z<0):=by
 unfold wV;rw[vD];by_cases h:z<0
 ·have:dec z.natAbs≠ []:=fun e=>by rw[oP]at e;omega
  simp[canon,h,this]
 ·have:=pJ z.natAbs
  simp[canon,h,this]
theorem mr (z:Int):val (canon z)=z:=by
 unfold val;rw[ac5,vD,iW];by_cases h:z<0
 ·simp[h];omega
 ·simp[h];omega
theorem agO {y z:Int}(h:canon y=canon z):y=z:=by rw[<-mr y,h,mr]
theorem adK:canon 0=[]:=rfl
theorem agN {z:Int}:canon z=[]↔z=0:=⟨fun h=>agO (h.trans adK.symm),fun h=>by rw[h];rfl⟩
end Dec
end
section
namespace Dec
def BB:Nat:=1000000000
theorem dx:0<BB:=by decide
def au:List Nat->Nat
 | []=>0
 |g::m=>g+BB*au m
def ahq:Nat->Nat->List Nat
 |0,_=>[]
 |f+1,n=>if n=0 then []else n%BB::ahq f (n/BB)
def mag (n:Nat):List Nat:=ahq n n
def Small (m:List Nat):Prop:=∀g∈m,g<BB
theorem afq:∀(f g n:Nat),n<=f->n<=g->ahq f n=ahq g n:=by
 intro f
 induction f with
 |zero=>
  intro g n h1 h2;obtain rfl:n=0:=by omega
  cases g<;>simp[ahq]
 |succ f ih=>
  intro g n h1 h2;cases g with
  |zero=>obtain rfl:n=0:=by omega
         simp[ahq]
  |succ g=>
   unfold ahq;by_cases h0:n=0
   ·simp[h0]
   ·have:n/BB<n:=Nat.div_lt_self (by omega) (by decide)
    rw[if_neg h0,if_neg h0,ih g (n/BB) (by omega) (by omega)]
theorem jr:mag 0=[]:=rfl
theorem lK {n:Nat}(h:n≠0):mag n=n%BB::mag (n/BB):=by
 unfold mag;cases n with
 |zero=>exact absurd rfl h
 |succ n=>
  have:(n+1)/BB<n+1:=Nat.div_lt_self (by omega) (by decide);rw[show ahq (n+1) (n+1)=(n+1)%BB::ahq n ((n+1)/BB)by simp[ahq]];rw[afq n ((n+1)/BB) ((n+1)/BB) (by omega) ano]
theorem wZ {P:Nat->Prop}(h0:P 0)(hs:∀n,n≠0->P (n/BB)->P n)(n:Nat):P n:=by
 induction n using Nat.strongRecOn with
 |_ n ih=>
  by_cases h:n=0
  ·subst h;exact h0
  ·exact hs n h (ih (n/BB) (Nat.div_lt_self (by omega) (by decide)))
theorem bu (n:Nat):au (mag n)=n:=by
 induction n using wZ with
 |h0=>rfl
 |hs n h ih=>rw[lK h];unfold au;rw[ih];exact Nat.mod_add_div n BB
theorem aX (n:Nat):Small (mag n):=by
 induction n using wZ with
 |h0=>intro g hg;simp[jr]at hg
 |hs n h ih=>
  intro g hg;rw[lK h]at hg;rcases anf.1 hg with rfl|hg
  ·exact Nat.mod_lt _ dx
  ·exact ih g hg
theorem dB (a b:List Nat):au (a++b)=au a+BB^a.length*au b:=by
 induction a with
 |nil=>simp[au]
 |cons g a ih=>simp only[List.cons_append,au,ih,amT,anb];grind
theorem jW (m:List Nat)(h:Small m):au m<BB^m.length:=by
 induction m with
 |nil=>simp[au]
 |cons g m ih=>
  have h1:=ih (fun x hx=>h x (amL _ hx));have h2:=h g amJ;simp only[au,amT,anb];have:BB*(au m+1)<=BB*BB^m.length:=ana _ h1;rw[Nat.mul_add,Nat.mul_one]at this;rw[ank (BB^m.length) BB];omega
theorem oC {n:Nat}:mag n=[]↔n=0:=by
 constructor
 ·intro h;have:=bu n;rw[h]at this;exact this.symm
 ·rintro rfl;rfl
theorem Small.cons {g:Nat}{m:List Nat}(h:Small (g::m)):g<BB/\Small m:=⟨h g amJ,fun x hx=>h x (amL _ hx)⟩
theorem qo (m:List Nat)(h:Small m)(h0:m.getLast?≠some 0):mag (au m)=m:=by
 induction m with
 |nil=>rfl
 |cons g m ih=>
  obtain⟨hg,hm⟩:=h.cons;cases m with
  |nil=>
   have:g≠0:=by simpa using h0
   simp only[au,Nat.mul_zero,Nat.add_zero];rw[lK this,Nat.mod_eq_of_lt hg,Nat.div_eq_of_lt hg,jr]
  |cons g' m'=>
   have e:=ih hm (by simpa using h0);have hv:au (g'::m')≠0:=fun hz=>by rw[hz,jr]at e;cases e
   have hn:au (g::g'::m')=g+BB*au (g'::m'):=rfl;have hpos:BB*au (g'::m')≠0:=Nat.mul_ne_zero (by decide) hv;rw[lK (by rw[hn];omega),hn,Nat.add_mul_mod_self_left,Nat.mod_eq_of_lt hg,Nat.add_mul_div_left _ _ dx,Nat.div_eq_of_lt hg,am5,e]
theorem abY (n:Nat):(mag n).getLast? ≠some 0:=by
 induction n using wZ with
 |h0=>simp[jr]
 |hs n h ih=>
  rw[lK h];cases hm:mag (n/BB)with
  |nil=>
   have:n/BB=0:=oC.1 hm;have hlt:n<BB:=by
    rcases Nat.lt_or_ge n BB with hh|hh
    ·exact hh
    ·have:=Nat.div_pos hh dx;omega
   simp[Nat.mod_eq_of_lt hlt,h]
  |cons g m=>rw[hm]at ih;simpa using ih
theorem aH {n k:Nat}:(mag n).length <=k↔n<BB^k:=by
 induction n using wZ generalizing k with
 |h0=>simp[jr,Nat.pow_pos dx]
 |hs n h ih=>
  rw[lK h];cases k with
  |zero=>simp;omega
  |succ k=>
   rw[amT,Nat.add_le_add_iff_right,ih,anb,Nat.div_lt_iff_lt_mul dx]
theorem uS (m:List Nat)(h:Small m)(hl:m=[]\/BB^(m.length-1)<=au m):mag (au m)=m:=by
 refine qo m h ?_;rcases hl with rfl|hl
 ·simp
 ·intro hlast
  have hne:m≠ []:=by intro e;subst e;simp at hlast
  obtain⟨s,d,rfl⟩:∃s d,m=s++ [d]:=⟨m.dropLast,m.getLast hne,(List.dropLast_concat_getLast hne).symm⟩;have:d=0:=by simpa using hlast
  subst this;have hs:Small s:=fun x hx=>h x (by simp[hx])
  have h1:=jW s hs;rw[dB]at hl;simp[au]at hl;omega
def aae (m:List Nat):List Nat:=mag (au m)
theorem kE (k:Nat):au (List.replicate k 0)=0:=by
 induction k with
 |zero=>rfl
 |succ k ih=>simp[List.replicate_succ,au,ih]
theorem acl (m:List Nat)(h:Small m)(k:Nat)(hk:k<=m.length)(hz:∀i,k<=i->i<m.length->m[i]? =some 0)(hp:k=0\/m[k-1]?≠some 0):m.take k=aae m:=by
 have hs:Small (m.take k):=fun x hx=>h x (am7 hx)
 have hd:m.drop k=List.replicate (m.length-k) 0:=by
  apply anl;intro i;rw[List.getElem?_drop,List.getElem?_replicate];by_cases hi:i<m.length-k
  ·rw[if_pos hi];exact hz (k+i) (by omega) (by omega)
  ·rw[if_neg hi,amW (by omega)]
 have hv:au m=au (m.take k):=by
  conv=>lhs;rw[<-List.take_append_drop k m]
  rw[dB,hd,kE,Nat.mul_zero,Nat.add_zero]
 unfold aae;rw[hv];refine(qo _ hs ?_).symm;rcases hp with rfl|hp
 ·simp
 ·intro hl
  by_cases hk0:k=0
  ·subst hk0;simp at hl
  ·apply hp
   rw[List.getLast?_eq_getElem?,amO,Nat.min_eq_left hk,amZ,if_pos (by omega)]at hl;exact hl
end Dec
end
section
namespace Dec
def fmt (n:Nat):Bytes:=if n=0 then [48]else dec n
def aho (g:Nat):Bytes:=List.replicate (9-(fmt g).length) 48++fmt g
theorem alF (n:Nat):∀d∈fmt n,dF d=true:=by
 unfold fmt;split
 ·intro d hd;simp at hd;subst hd;decide
 ·exact lU n
theorem afk (n:Nat):bB (fmt n)=n:=by
 unfold fmt;split
 ·rename_i h;subst h;decide
 ·exact iW n
theorem aaY {n:Nat}(h:n<BB):1<=(fmt n).length /\(fmt n).length <=9:=by
 unfold fmt;split
 ·simp
 ·rename_i h0
  constructor
  ·have:dec n≠ []:=fun e=>h0 (oP.1 e)
   exact List.length_pos_iff.2 this
  ·exact aa5.2 h
theorem aaK (k:Nat):bB (List.replicate k 48)=0:=by
 induction k with
 |zero=>rfl
 |succ k ih=>rw[List.replicate_succ,iX,ih];simp
theorem abM {g:Nat}(h:g<BB):(aho g).length =9:=by
 have:=aaY h;unfold aho;rw[am0,List.length_replicate];omega
theorem ac6 (g:Nat):bB (aho g)=g:=by
 unfold aho;rw[eX,aaK,afk];omega
theorem aie (g:Nat):∀d∈aho g,dF d=true:=by
 intro d hd;unfold aho at hd;rcases ane.1 hd with hd|hd
 ·have:=List.eq_of_mem_replicate hd;subst this;decide
 ·exact alF g d hd
theorem ajf {v g:Nat}(hv:v≠0)(hg:g<BB):dec (g+BB*v)=dec v++aho g:=by
 have e:bB (dec v++aho g)=g+BB*v:=by
  rw[eX,iW,ac6,abM hg,ank];unfold BB;omega
 rw[<-e];refine zP _ (fun d hd=>?_) (fun d hd=>?_)
 ·rcases ane.1 hd with hd|hd
  ·exact lU v d hd
  ·exact aie g d hd
 ·have hne:dec v≠ []:=fun e=>hv (oP.1 e)
  rw[xy hne]at hd;exact ack v d hd
theorem acE (k:Nat):BB^k=10^(9*k):=by rw[Nat.pow_mul];rfl
theorem adt (s:Bytes)(a b:Nat)(h:a<=b)(hb:b<=s.length):s.drop a=(s.take b).drop a++s.drop b:=by
 conv=>lhs;rw[<-List.take_append_drop b s]
 rw[List.drop_append_of_le_length (by rw[amO];omega)]
def rdG (s:Bytes):Nat->List Nat
 |0=>[]
 |k+1=>rdG s k++ [bB ((s.take (s.length-9*k)).drop (s.length-9*(k+1)))]
theorem rD (s:Bytes)(k:Nat):(rdG s k).length =k:=by induction k with
 |zero=>rfl
 |succ k ih=>simp[rdG,ih]
theorem aaN {s:Bytes}{a b:Nat}{d:UInt8}(h:d∈(s.take a).drop b):d∈s:=am7 (List.mem_of_mem_drop h)
theorem aeF (s:Bytes)(h:∀d∈s,dF d=true)(k:Nat):Small (rdG s k):=by
 induction k with
 |zero=>intro g hg;simp[rdG]at hg
 |succ k ih=>
  intro g hg;rcases ane.1 hg with hg|hg
  ·exact ih g hg
  ·simp at hg
   subst hg;have h1:=mU _ (fun d (hd:d∈(s.take (s.length-9*k)).drop (s.length-9*(k+1)))=>h d (aaN hd));refine amS h1 ?_;show 10^_<=10^9;refine Nat.pow_le_pow_right (by omega) ?_;rw[am8,amO];omega
theorem ait (s:Bytes)(k:Nat)(hk:9*k<=s.length+8):au (rdG s k)=bB (s.drop (s.length-9*k)):=by
 induction k with
 |zero=>simp[rdG,au,bB]
 |succ k ih=>
  rw[rdG,dB,ih (by omega),rD];have e:=adt s (s.length-9*(k+1)) (s.length-9*k) (by omega) (by omega);rw[e,eX,am8,show s.length-(s.length-9*k)=9*k by omega, <-acE];simp[au]
  grind
theorem akC (s:Bytes)(h:∀d∈s,dF d=true)(h0:∀d,s.head? =some d->d≠48)(k:Nat)(hk:s.length<=9*k)(hk':9*k<=s.length+8):rdG s k=mag (bB s):=by
 have e:au (rdG s k)=bB s:=by rw[ait s k hk',show s.length-9*k=0 by omega,List.drop_zero]
 rw[<-e];refine(uS _ (aeF s h k) ?_).symm;by_cases hk0:k=0
 ·subst hk0;exact .inl rfl
 ·right
  rw[rD,e,acE];cases s with
  |nil=>simp at hk';omega
  |cons a t=>
   have ha:=h a amJ;have ha0:a≠48:=h0 a rfl;unfold dF at ha;simp at ha;have ha1:a.toNat≠48:=fun e=>ha0 (UInt8.toNat_inj.1 e)
   rw[iX];have h1:10^(9*(k-1))<=10^t.length:=Nat.pow_le_pow_right (by omega) (by simp at hk';omega);have h2:1*10^t.length<=(a.toNat-48)*10^t.length:=Nat.mul_le_mul_right _ (by omega);omega
def amu (r:Int)(a b:Nat):Prop:=(r<0↔a<b)/\(r=0↔a=b)
theorem abV {l m:List Nat}(hl:Small l)(hlen:l.length=m.length):∀(i x y:Nat),l[i]? =some x->m[i]? =some y->x<y->(∀j,i<j->l[j]? =m[j]?)->au l<au m:=by
 induction l generalizing m with
 |nil=>intro i x y h;simp at h
 |cons g l ih=>
  intro i x y hx hy hlt hab;cases m with
  |nil=>simp at hlen
  |cons g' m=>
   obtain⟨hg,hls⟩:=hl.cons;cases i with
   |zero=>
    simp at hx hy;subst hx hy;have:l=m:=by
     apply anl;intro j;have:=hab (j+1) (by omega);simpa using this
    subst this;simp only[au];omega
   |succ i=>
    have:=ih hls (by simpa using hlen) i x y (by simpa using hx) (by simpa using hy) hlt (fun j hj=>by have:=hab (j+1) (by omega);simpa using this);simp only[au];have h2:BB*(au l+1)<=BB*au m:=ana _ this;rw[Nat.mul_add,Nat.mul_one]at h2;omega
theorem xR {a b:Nat}(h:(mag a).length <(mag b).length):a<b:=by
 have h1:a<BB^(mag a).length :=aH.1 ano;have h2:¬b<BB^(mag a).length :=fun hh=>by have:=aH.2 hh;omega
 omega
end Dec
end
section
namespace Dec
theorem eB:∀(l:List Nat) (j x v:Nat),l[j]? =some x->au (l.set j v)+BB^j*x=au l+BB^j*v:=by
 intro l
 induction l with
 |nil=>intro j x v h;simp at h
 |cons g l ih=>
  intro j x v h;cases j with
  |zero=>
   simp at h;subst h;simp only[List.set_cons_zero,au,Nat.pow_zero,Nat.one_mul];omega
  |succ j=>
   have:=ih j x v (by simpa using h);simp only[List.set_cons_succ,au,anb];have e:BB*(au (l.set j v)+BB^j*x)=BB*(au l+BB^j*v):=by rw[this]
   rw[Nat.mul_add,Nat.mul_add]at e;rw[ank (BB^j) BB,Nat.mul_assoc,Nat.mul_assoc];omega
theorem Small.set {l:List Nat}(h:Small l)(j:Nat){v:Nat}(hv:v<BB):Small (l.set j v):=by
 intro g hg;rcases List.mem_or_eq_of_mem_set hg with hg|rfl
 ·exact h g hg
 ·exact hv
theorem Small.at {l:List Nat}(h:Small l){j x:Nat}(hj:l[j]? =some x):x<BB:=h x (amI hj)
theorem bC (l:List Nat)(k:Nat):au (l.take (k+1))=au (l.take k)+BB^k*(l[k]?.getD 0):=by
 by_cases hk:k<=l.length
 ·rw[ani,dB]
  have:(l.take k).length =k:=by simp;omega
  rw[this];cases h:l[k]?<;>simp[au]
 ·rw[amK (show l.length<=k by omega),amK (show l.length<=k+1 by omega),amW (by omega)];simp
theorem aW (l:List Nat)(k:Nat)(hk:k<=l.length):au l=au (l.take k)+BB^k*au (l.drop k):=by
 conv=>lhs;rw[<-List.take_append_drop k l]
 rw[dB,amO,Nat.min_eq_left hk]
theorem aeP {l m o:List Nat}{k cy x y:Nat}(hx:o[k]? =some x)(hy:m[k]?.getD 0=y)(h:au o+cy*BB^k=au l+au (m.take k)):
 au (o.set k ((x+cy+y)%BB))+((x+cy+y)/BB)*BB^(k+1)=au l+au (m.take (k+1)):=by
 have h1:=eB o k x ((x+cy+y)%BB) hx;rw[bC,hy];have h2:=Nat.mod_add_div (x+cy+y) BB;generalize (x+cy+y)%BB=r at*
 generalize (x+cy+y)/BB=q at*
 rw[anb];generalize BB^k=P at*
 have h3:P*(r+BB*q)=P*(x+cy+y):=by rw[h2]
 grind
theorem rV {l m o:List Nat}{k cy x y:Nat}(hx:o[k]? =some x)(hy:m[k]?.getD 0=y)(h:au o+au (m.take k)=au l+cy*BB^k)(hle:cy+y<=x):
 au (o.set k (x-(cy+y)))+au (m.take (k+1))=au l+0*BB^(k+1):=by
 have h1:=eB o k x (x-(cy+y)) hx;rw[bC,hy];obtain⟨d,rfl⟩:∃d,x=d+(cy+y):=⟨x-(cy+y),by omega⟩;rw[Nat.add_sub_cancel]at h1⊢
 generalize BB^k=P at*
 grind
theorem rU {l m o:List Nat}{k cy x y:Nat}(hx:o[k]? =some x)(hy:m[k]?.getD 0=y)(h:au o+au (m.take k)=au l+cy*BB^k)(hle:cy+y<=x+BB):
 au (o.set k (x+BB-(cy+y)))+au (m.take (k+1))=au l+1*BB^(k+1):=by
 have h1:=eB o k x (x+BB-(cy+y)) hx;rw[bC,hy,anb];obtain⟨d,hd⟩:∃d,x+BB=d+(cy+y):=⟨x+BB-(cy+y),by omega⟩;rw[hd,Nat.add_sub_cancel]at h1⊢
 generalize BB^k=P at*
 have h3:P*(x+BB)=P*(d+(cy+y)):=by rw[hd]
 grind
theorem afn {a b:Nat}{l o:List Nat}{cy:Nat}(ho:Small o)(hlen:o.length=l.length)(h:au o+b=a+cy*BB^l.length)(hba:b<=a)(hcy:cy<=1):au o=a-b:=by
 have h1:=jW o ho;rw[hlen]at h1;rcases Nat.eq_zero_or_pos cy with h0|h0
 ·subst h0;omega
 ·obtain rfl:cy=1:=by omega
  omega
theorem acM {m O o:List Nat}{i k cy x y z:Nat}(hz:o[i+k]? =some z)(hy:m[k]?.getD 0=y)(h:au o+cy*BB^(i+k)=au O+x*au (m.take k)*BB^i):
 au (o.set (i+k) ((cy+(z+x*y))%BB))+((cy+(z+x*y))/BB)*BB^(i+(k+1))=au O+x*au (m.take (k+1))*BB^i:=by
 have h1:=eB o (i+k) z ((cy+(z+x*y))%BB) hz;rw[bC,hy];have h2:=Nat.mod_add_div (cy+(z+x*y)) BB;generalize (cy+(z+x*y))%BB=r at*
 generalize (cy+(z+x*y))/BB=q at*
 rw[Nat.pow_add,Nat.pow_add,anb]at*
 generalize BB^k=P at*
 generalize BB^i=Q at*
 generalize au (m.take k)=M at*
 generalize au O=U at*
 generalize au o=V at*
 generalize au (o.set (i+k) r)=V' at*
 have h3:Q*P*(r+BB*q)=Q*P*(cy+(z+x*y)):=by rw[h2]
 grind
theorem kZ {cy z x y:Nat}(h1:cy<BB)(h2:z<BB)(h3:x<BB)(h4:y<BB):x*y<=999999998000000001/\(cy+(z+x*y))/BB<BB:=by
 have:x*y<=(BB-1)*(BB-1):=Nat.mul_le_mul (by omega) (by omega);have h5:x*y<=999999998000000001:=this;refine⟨h5,?_⟩;rw[Nat.div_lt_iff_lt_mul dx];unfold BB at*
 omega
theorem ad5 {l m O o:List Nat}{i cy x:Nat}(hz:o[i+m.length]? =some 0)(hx:l[i]? =some x)(h:au o+cy*BB^(i+m.length)=au O+x*au m*BB^i)(hO:au O=au (l.take i)*au m):
 au (o.set (i+m.length) (0+cy))=au (l.take (i+1))*au m:=by
 have h1:=eB o (i+m.length) 0 (0+cy) hz;rw[bC,hx,Option.getD_some];rw[am5]at h1⊢
 generalize BB^(i+m.length)=P at*
 generalize BB^i=Q at*
 generalize au m=M at*
 generalize au (l.take i)=L at*
 generalize au (o.set (i+m.length) cy)=V' at*
 grind
theorem aao {l o:List Nat}{i d r x:Nat}(hx:l[i]? =some x)(ho:o[i]? =some 0)(h:au o*d+r*BB^(i+1)+au (l.take (i+1))=au l):
 au (o.set i ((r*BB+x)/d))*d+((r*BB+x)%d)*BB^i+au (l.take i)=au l:=by
 have h1:=eB o i 0 ((r*BB+x)/d) ho;rw[bC,hx,Option.getD_some,anb]at h;have h2:=Nat.mod_add_div (r*BB+x) d;generalize (r*BB+x)%d=s at*
 generalize (r*BB+x)/d=q at*
 generalize BB^i=P at*
 generalize au (l.take i)=M at*
 generalize au l=U at*
 generalize au o=V at*
 generalize au (o.set i q)=V' at*
 have h3:P*(s+d*q)=P*(r*BB+x):=by rw[h2]
 grind
theorem yo {d r x:Nat}(hd:d<=BB)(hr:r<d)(hx:x<BB):(r*BB+x)/d<BB/\r*BB+x<=1000000000000000000:=by
 have h1:(r+1)*BB<=d*BB:=Nat.mul_le_mul_right _ hr;rw[Nat.add_mul,Nat.one_mul]at h1;have h2:d*BB<=BB*BB:=Nat.mul_le_mul_right _ hd;refine⟨?_,?_⟩
 ·rw[Nat.div_lt_iff_lt_mul (by omega),ank BB d];omega
 ·have h3:BB*BB=1000000000000000000:=rfl
  omega
theorem acS {a d r:Nat}{o:List Nat}(hr:r<d)(h:au o*d+r=a):au o=a/d/\r=a%d:=by
 have e:a=r+d*au o:=by rw[<-h,ank];omega
 subst e;rw[Nat.add_mul_div_left _ _ (by omega),Nat.div_eq_of_lt hr,Nat.add_mul_mod_self_left,Nat.mod_eq_of_lt hr];simp
end Dec
end
section
namespace Dec
theorem aM {l:List Nat}{j x:Nat}(h:l[j]? =some x):au (l.drop j)=x+BB*au (l.drop (j+1)):=by
 obtain⟨hj,rfl⟩:=amH.1 h;rw[List.drop_eq_getElem_cons hj];rfl
theorem Small.drop {l:List Nat}(h:Small l)(k:Nat):Small (l.drop k):=fun x hx=>h x (List.mem_of_mem_drop hx)
theorem Small.take {l:List Nat}(h:Small l)(k:Nat):Small (l.take k):=fun x hx=>h x (am7 hx)
theorem bM (l:List Nat)(j:Nat)(h:j<l.length):∃x,l[j]? =some x:=⟨l[j],amB h⟩
theorem zN {D k:Nat}(hk:(mag D).length =k+2):∃b0 b1 ld,(mag D)[k]? =some b0/\(mag D)[k+1]? =some b1/\0<b1/\b0<BB/\b1<BB/\ld<BB^k/\D=ld+BB^k*(b0+BB*b1):=by
 obtain⟨b0,h0⟩:=bM (mag D) k (by omega);obtain⟨b1,h1⟩:=bM (mag D) (k+1) (by omega);have hs:=aX D;refine⟨b0,b1,au ((mag D).take k),h0,h1,?_,hs.at h0,hs.at h1,?_,?_⟩
 ·have:=abY D
  rw[List.getLast?_eq_getElem?,hk,show k+2-1=k+1 by omega,h1]at this;rcases Nat.eq_zero_or_pos b1 with rfl|h
  ·exact absurd rfl this
  ·exact h
 ·have:=jW _ (hs.take k)
  rwa[amO,hk,Nat.min_eq_left (by omega)]at this
 ·have e:=aW (mag D) k (by omega)
  rw[bu,aM h0,aM h1,show (mag D).drop (k+1+1)=[]from List.drop_eq_nil_of_le (by omega)]at e;simpa[au]using e
theorem aeB {a:List Nat}{i k D:Nat}(ha:Small a)(hlen:i+k+2<a.length)(hlt:au (a.drop (i+1))<D)(hD:D<BB^(k+2)):
 ∃a0 a1 a2 lo,a[i+k]? =some a0/\a[i+k+1]? =some a1/\a[i+k+2]? =some a2/\a0<BB/\a1<BB/\a2<BB/\lo<BB^k/\au (a.drop i)=lo+BB^k*(a0+BB*(a1+BB*a2))/\au (a.drop i)<BB*D/\au (a.drop (i+k+3))=0:=by
 obtain⟨a0,h0⟩:=bM a (i+k) (by omega);obtain⟨a1,h1⟩:=bM a (i+k+1) (by omega);obtain⟨a2,h2⟩:=bM a (i+k+2) (by omega);obtain⟨ai,hi⟩:=bM a i (by omega);have hz:au (a.drop (i+k+3))=0:=by
  have e:=aW (a.drop (i+1)) (k+2) (by rw[am8];omega);rw[List.drop_drop,show i+1+(k+2)=i+k+3 by omega]at e;rcases Nat.eq_zero_or_pos (au (a.drop (i+k+3)))with h|h
  ·exact h
  ·have:BB^(k+2)*1<=BB^(k+2)*au (a.drop (i+k+3)):=ana _ h
   omega
 refine⟨a0,a1,a2,au ((a.drop i).take k),h0,h1,h2,ha.at h0,ha.at h1,ha.at h2,?_,?_,?_,hz⟩
 ·have:=jW _ ((ha.drop i).take k)
  rwa[amO,am8,Nat.min_eq_left (by omega)]at this
 ·have e:=aW (a.drop i) k (by rw[am8];omega)
  rw[List.drop_drop,aM h0,aM h1,aM h2,hz]at e;simpa using e
 ·rw[aM hi]
  have h3:BB*(au (a.drop (i+1))+1)<=BB*D:=ana _ hlt;rw[Nat.mul_add]at h3;have:=ha.at hi;omega
section
variable {P lo a0 a1 a2 ld b0 b1 R D:Nat}
theorem aiM (hD:0<D)(hR:R<BB*D):R/D<BB:=by
 rw[Nat.div_lt_iff_lt_mul hD];exact hR
theorem zB (hR:R=lo+P*(a0+BB*(a1+BB*a2)))(hlo:lo<P)(hD:D=ld+P*(b0+BB*b1)):R/D*(b0+BB*b1)<=a0+BB*(a1+BB*a2):=by
 have h1:D*(R/D)<=R:=Nat.mul_div_le R D;generalize R/D=q at*
 generalize a0+BB*(a1+BB*a2)=T at*
 generalize b0+BB*b1=V at*
 have h2:P*(q*V)<=P*T+lo:=by
  have:P*(q*V)+q*ld=D*q:=by rw[hD,Nat.add_mul,ank q V,Nat.mul_assoc,ank ld q];omega
  omega
 have h3:P*(q*V)<P*(T+1):=by rw[Nat.mul_add];omega
 have:=Nat.lt_of_mul_lt_mul_left h3;omega
theorem aiO (hR:R=lo+P*(a0+BB*(a1+BB*a2)))(hlo:lo<P)(hD:D=ld+P*(b0+BB*b1))(ha0:a0<BB):R/D*b1<=a2*BB+a1:=by
 have h:=zB hR hlo hD;generalize R/D=q at*
 rw[Nat.mul_add]at h;have h1:BB*(q*b1)<BB*(a2*BB+a1+1):=by
  have:q*(BB*b1)=BB*(q*b1):=Nat.mul_left_comm _ _ _;have e:BB*(a2*BB+a1+1)=BB*(a1+BB*a2)+BB:=by rw[ank a2 BB];rw[Nat.mul_add];rw[Nat.add_comm (BB*a2) a1];omega
  omega
 have:=Nat.lt_of_mul_lt_mul_left h1;omega
theorem adn (hR:R=lo+P*(a0+BB*(a1+BB*a2)))(hlo:lo<P)(hD:D=ld+P*(b0+BB*b1))(ha0:a0<BB)(hb1:0<b1)(hRD:R<BB*D)(hD0:0<D):
 R/D<=min ((a2*BB+a1)/b1) (BB-1):=by
 have h1:=aiM hD0 hRD;have h2:=aiO hR hlo hD ha0;have h3:R/D<=(a2*BB+a1)/b1:=(Nat.le_div_iff_mul_le hb1).2 h2;exact Nat.le_min.2 ⟨h3,Nat.le_sub_one_of_lt h1⟩
theorem adm {g:Nat}(hR:R=lo+P*(a0+BB*(a1+BB*a2)))(hD:D=ld+P*(b0+BB*b1))(hld:ld<P)(hb1:0<b1)(hb0:b0<BB)(hg:g<BB)(htop:g*b1<=a2*BB+a1)
 (h:BB<=a2*BB+a1-g*b1\/g*b0<=(a2*BB+a1-g*b1)*BB+a0):g<=R/D+1:=by
 have hD0:0<D:=by
  have:0<P*(b0+BB*b1):=Nat.mul_pos (by omega) (by have:=Nat.mul_pos dx hb1;omega);omega
 have h3:g*(b0+BB*b1)<=a0+BB*(a1+BB*a2):=by
  obtain⟨left,hleft⟩:∃left,a2*BB+a1=g*b1+left:=⟨a2*BB+a1-g*b1,by omega⟩;rw[hleft,Nat.add_sub_cancel_left]at h;have e:BB*(a1+BB*a2)=BB*(g*b1)+BB*left:=by rw[<-Nat.mul_add, <-hleft,ank a2 BB,Nat.add_comm]
  rw[e,Nat.mul_add,Nat.mul_left_comm g BB b1];rcases h with h|h
  ·have h4:g*b0<=BB*BB:=Nat.mul_le_mul (by omega) (by omega)
   have h5:BB*BB<=BB*left:=ana _ h;omega
  ·rw[ank left BB]at h
   omega
 rcases Nat.eq_zero_or_pos g with rfl|hg0
 ·exact Nat.zero_le _
 ·obtain⟨f,rfl⟩:∃f,g=f+1:=⟨g-1,by omega⟩
  suffices f<=R/D by omega
  rw[Nat.le_div_iff_mul_le hD0];have h6:P*((f+1)*(b0+BB*b1))<=P*(a0+BB*(a1+BB*a2)):=ana _ h3;have h7:f*ld<=BB*P:=Nat.mul_le_mul (by omega) (by omega);have h8:BB*P<=P*(b0+BB*b1):=by
   rw[ank BB P];refine ana _ ?_;have:BB*1<=BB*b1:=ana _ hb1;omega
  have e:f*D=f*ld+P*(f*(b0+BB*b1)):=by rw[hD,Nat.mul_add,Nat.mul_left_comm]
  have e2:P*((f+1)*(b0+BB*b1))=P*(f*(b0+BB*b1))+P*(b0+BB*b1):=by rw[Nat.add_mul,Nat.one_mul,Nat.mul_add]
  omega
theorem aiN {g:Nat}(hR:R=lo+P*(a0+BB*(a1+BB*a2)))(hlo:lo<P)(hD:D=ld+P*(b0+BB*b1))(htop:g*b1<=a2*BB+a1)
 (h:¬g*b0<=(a2*BB+a1-g*b1)*BB+a0):R/D<g:=by
 have h1:=zB hR hlo hD;rcases Nat.lt_or_ge (R/D) g with hh|hh
 ·exact hh
 ·exfalso
  have h2:g*(b0+BB*b1)<=R/D*(b0+BB*b1):=Nat.mul_le_mul_right _ hh;obtain⟨left,hleft⟩:∃left,a2*BB+a1=g*b1+left:=⟨a2*BB+a1-g*b1,by omega⟩;rw[hleft,Nat.add_sub_cancel_left]at h;have e:BB*(a1+BB*a2)=BB*(g*b1)+BB*left:=by rw[<-Nat.mul_add, <-hleft,ank a2 BB,Nat.add_comm]
  rw[e]at h1;have e2:g*(b0+BB*b1)=g*b0+BB*(g*b1):=by rw[Nat.mul_add,Nat.mul_left_comm]
  rw[ank left BB]at h;omega
end
theorem aec {a b o:List Nat}{i j g cy x y:Nat}(hx:o[i+j]? =some x)(hy:b[j]? =some y)(h:au o+g*au (b.take j)*BB^i=au a+cy*BB^(i+j))(hle:(g*y+cy)%BB<=x):
 au (o.set (i+j) (x-(g*y+cy)%BB))+g*au (b.take (j+1))*BB^i=au a+((g*y+cy)/BB)*BB^(i+(j+1)):=by
 have h1:=eB o (i+j) x (x-(g*y+cy)%BB) hx;rw[bC,hy,Option.getD_some];have h2:=Nat.mod_add_div (g*y+cy) BB;generalize (g*y+cy)%BB=r at*
 generalize (g*y+cy)/BB=q at*
 obtain⟨d,rfl⟩:∃d,x=d+r:=⟨x-r,by omega⟩;rw[Nat.add_sub_cancel]at h1⊢
 rw[Nat.pow_add,Nat.pow_add,anb]at*
 generalize BB^j=P at*
 generalize BB^i=Q at*
 generalize au (b.take j)=M at*
 generalize au (o.set (i+j) d)=V' at*
 have h3:Q*P*(r+BB*q)=Q*P*(g*y+cy):=by rw[h2]
 grind
theorem aeb {a b o:List Nat}{i j g cy x y:Nat}(hx:o[i+j]? =some x)(hy:b[j]? =some y)(h:au o+g*au (b.take j)*BB^i=au a+cy*BB^(i+j)):
 au (o.set (i+j) (x+BB-(g*y+cy)%BB))+g*au (b.take (j+1))*BB^i=au a+((g*y+cy)/BB+1)*BB^(i+(j+1)):=by
 have h1:=eB o (i+j) x (x+BB-(g*y+cy)%BB) hx;rw[bC,hy,Option.getD_some];have h2:=Nat.mod_add_div (g*y+cy) BB;have h0:=Nat.mod_lt (g*y+cy) dx;generalize (g*y+cy)%BB=r at*
 generalize (g*y+cy)/BB=q at*
 obtain⟨d,hd⟩:∃d,x+BB=d+r:=⟨x+BB-r,by omega⟩;rw[hd,Nat.add_sub_cancel]at h1⊢
 rw[Nat.pow_add,Nat.pow_add,anb]at*
 generalize BB^j=P at*
 generalize BB^i=Q at*
 generalize au (b.take j)=M at*
 generalize au (o.set (i+j) d)=V' at*
 have h3:Q*P*(r+BB*q)=Q*P*(g*y+cy):=by rw[h2]
 have h4:Q*P*(x+BB)=Q*P*(d+r):=by rw[hd]
 grind
theorem aed {g cy y x:Nat}(hg:g<BB)(hcy:cy<BB)(hy:y<BB):g*y<=999999998000000001/\(g*y+cy)/BB<BB/\(x<(g*y+cy)%BB->(g*y+cy)/BB+1<BB):=by
 have h0:g*y<=999999998000000001:=Nat.mul_le_mul (show g<=999999999 by unfold BB at hg;omega) (show y<=999999999 by unfold BB at hy;omega);generalize g*y=p at*
 unfold BB at*
 refine⟨h0,?_,?_⟩<;>omega
theorem ajK {o0 b o:List Nat}{i j cy x y:Nat}(hx:o[i+j]? =some x)(hy:b[j]? =some y)(h:au o+cy*BB^(i+j)=au o0+au (b.take j)*BB^i):
 au (o.set (i+j) ((x+(y+cy))%BB))+((x+(y+cy))/BB)*BB^(i+(j+1))=au o0+au (b.take (j+1))*BB^i:=by
 have h1:=eB o (i+j) x ((x+(y+cy))%BB) hx;rw[bC,hy,Option.getD_some];have h2:=Nat.mod_add_div (x+(y+cy)) BB;generalize (x+(y+cy))%BB=r at*
 generalize (x+(y+cy))/BB=q at*
 rw[Nat.pow_add,Nat.pow_add,anb]at*
 generalize BB^j=P at*
 generalize BB^i=Q at*
 generalize au (b.take j)=M at*
 generalize au (o.set (i+j) r)=V' at*
 generalize au o=V at*
 generalize au o0=U at*
 have h3:Q*P*(r+BB*q)=Q*P*(x+(y+cy)):=by rw[h2]
 grind
def Alike (i:Nat)(a o:List Nat):Prop:=o.length=a.length/\∀t,t<i->o[t]? =a[t]?
theorem Alike.refl (i:Nat)(a:List Nat):Alike i a a:=⟨rfl,fun _ _=>rfl⟩
theorem Alike.set {i j v:Nat}{a o:List Nat}(h:Alike i a o)(hj:i<=j):Alike i a (o.set j v):=
 ⟨by rw[List.length_set];exact h.1,fun t ht=>by rw[List.getElem?_set_ne (by omega)];exact h.2 t ht⟩
theorem Alike.trans {i:Nat}{a o p:List Nat}(h:Alike i a o)(h2:Alike i o p):Alike i a p:=⟨h2.1.trans h.1,fun t ht=>(h2.2 t ht).trans (h.2 t ht)⟩
theorem Alike.take {i:Nat}{a o:List Nat}(h:Alike i a o):o.take i=a.take i:=by
 apply anl;intro t;rw[amZ,amZ];by_cases ht:t<i
 ·rw[if_pos ht,if_pos ht];exact h.2 t ht
 ·rw[if_neg ht,if_neg ht]
theorem Alike.drop {i:Nat}{a o:List Nat}(h:Alike i a o)(hi:i<=a.length){u v:Nat}(e:au o+u*BB^i=au a+v*BB^i):au (o.drop i)+u=au (a.drop i)+v:=by
 have h1:=aW o i (by rw[h.1];exact hi);have h2:=aW a i hi;rw[h.take]at h1;rw[h1,h2]at e;generalize au (a.take i)=T at*
 have h3:BB^i*(au (o.drop i)+u)=BB^i*(au (a.drop i)+v):=by
  rw[Nat.mul_add,Nat.mul_add,ank _ u,ank _ v];omega
 exact Nat.eq_of_mul_eq_mul_left (Nat.pow_pos dx) h3
theorem ach {a o:List Nat}{i k a2:Nat}(ho:Small o)(hl:o.length=a.length)(h2:a[i+k]? =some a2)(hz:au (a.drop (i+k+1))=0)(hs:∀t,i+k<=t->o[t]? =a[t]?):
 ∃lo,lo<BB^k/\au (o.drop i)=lo+BB^k*a2:=by
 have hlen:i+k<a.length:=by
  rcases Nat.lt_or_ge (i+k) a.length with h|h
  ·exact h
  ·rw[amW h]at h2;cases h2
 have e:=aW (o.drop i) k (by rw[am8];omega);have ho2:o[i+k]? =some a2:=(hs (i+k) ano).trans h2;have hd:o.drop (i+k+1)=a.drop (i+k+1):=by
  apply anl;intro t;rw[List.getElem?_drop,List.getElem?_drop];exact hs _ (by omega)
 rw[List.drop_drop,aM ho2,hd,hz,Nat.mul_zero,Nat.add_zero]at e;refine⟨_,?_,e⟩;have:=jW _ ((ho.drop i).take k);rwa[amO,am8,Nat.min_eq_left (by omega)]at this
theorem adw {R D g r:Nat}(h:r+g*D=R)(hr:r<D):g=R/D/\r=R%D:=by
 subst h;rw[Nat.add_mul_div_right _ _ (by omega),Nat.div_eq_of_lt hr,Nat.add_mul_mod_self_right,Nat.mod_eq_of_lt hr];simp
theorem ahB {a o:List Nat}{i k g cy a2 D:Nat}(hal:Alike i a o)(hlen:i+k<a.length)(ho2:o[i+k]? =some a2)(h:au o+g*D*BB^i=au a+cy*BB^(i+k))(hle:cy<=a2)
 (hq:au (a.drop i)/D<=g) (hD:0<D):g=au (a.drop i)/D/\au ((o.set (i+k) (a2-cy)).drop i)=au (a.drop i)%D:=by
 have h1:=eB o (i+k) a2 (a2-cy) ho2;have hal':Alike i a (o.set (i+k) (a2-cy)):=hal.set (by omega);have e:au (o.set (i+k) (a2-cy))+(g*D)*BB^i=au a+0*BB^i:=by
  obtain⟨d,rfl⟩:∃d,a2=d+cy:=⟨a2-cy,by omega⟩;rw[Nat.add_sub_cancel]at h1⊢
  rw[Nat.mul_add,ank _ cy]at h1;omega
 have e2:=hal'.drop (by omega) e;rw[Nat.add_zero]at e2;have hg:g<=au (a.drop i)/D:=by rw[Nat.le_div_iff_mul_le hD];omega
 obtain rfl:g=au (a.drop i)/D:=by omega
 refine⟨rfl,?_⟩;have:=Nat.mod_add_div (au (a.drop i)) D;rw[ank]at this;omega
theorem ahA {a o:List Nat}{i k g cy a2 D:Nat}(ho:Small o)(hal:Alike i a o)(h2:a[i+k]? =some a2)(hz:au (a.drop (i+k+1))=0)(hs:∀t,i+k<=t->o[t]? =a[t]?)
 (h:au o+g*D*BB^i=au a+cy*BB^(i+k)) (hlt:a2<cy) (hq:g<=au (a.drop i)/D+1) (hD:0<D):g=au (a.drop i)/D+1:=by
 have hlen:i+k<a.length:=by
  rcases Nat.lt_or_ge (i+k) a.length with h|h
  ·exact h
  ·rw[amW h]at h2;cases h2
 obtain⟨lo,hlo,e⟩:=ach ho hal.1 h2 hz hs;have e2:au o+(g*D)*BB^i=au a+(cy*BB^k)*BB^i:=by rw[h,Nat.pow_add,Nat.mul_assoc cy,ank (BB^i)]
 have e3:=hal.drop (by omega) e2;have h3:BB^k*(a2+1)<=BB^k*cy:=ana _ hlt;rw[Nat.mul_add,ank _ cy]at h3;have h4:au (a.drop i)<g*D:=by omega
 have h5:au (a.drop i)/D<g:=by rw[Nat.div_lt_iff_lt_mul hD];exact h4
 omega
theorem amh {a o p:List Nat}{i k g cy c a2 D:Nat}(hp:Small p)(hal:Alike i a o)(hap:Alike i o p)(h2:a[i+k]? =some a2)(hz:au (a.drop (i+k+1))=0)(hs:∀t,i+k<=t->o[t]? =a[t]?)(hsp:∀t,i+k<=t->p[t]? =o[t]?)
 (h:au o+g*D*BB^i=au a+cy*BB^(i+k)) (hg:g=au (a.drop i)/D+1) (hD:0<D) (hDk:D<BB^k) (h3:au p+c*BB^(i+k)=au o+D*BB^i):
 a2+c=cy/\au ((p.set (i+k) 0).drop i)=au (a.drop i)%D:=by
 have hlen:i+k<a.length:=by
  rcases Nat.lt_or_ge (i+k) a.length with h|h
  ·exact h
  ·rw[amW h]at h2;cases h2
 have hsp':∀t,i+k<=t->p[t]? =a[t]?:=fun t ht=>(hsp t ht).trans (hs t ht)
 have hap':=hal.trans hap;obtain⟨lo,hlo,e⟩:=ach hp hap'.1 h2 hz hsp';have e2:au p+(c*BB^k+au (a.drop i)/D*D)*BB^i=au a+(cy*BB^k)*BB^i:=by
  rw[Nat.pow_add]at h h3;subst hg;generalize au (a.drop i)/D=q at*
  generalize BB^i=Q at*
  generalize BB^k=P at*
  grind
 have e3:=hap'.drop (by omega) e2;have h5:=Nat.mod_add_div (au (a.drop i)) D;have h6:=Nat.mod_lt (au (a.drop i)) hD;rw[ank D]at h5;have e4:lo+BB^k*(a2+c)=au (a.drop i)%D+BB^k*cy:=by rw[Nat.mul_add,ank _ c,ank _ cy];omega
 have hc:a2+c=cy:=by
  have d1:(lo+BB^k*(a2+c))/BB^k=a2+c:=by rw[Nat.add_mul_div_left _ _ (Nat.pow_pos dx),Nat.div_eq_of_lt hlo,am5]
  rw[e4,Nat.add_mul_div_left _ _ (Nat.pow_pos dx),Nat.div_eq_of_lt (by omega),am5]at d1;exact d1.symm
 subst hc;refine⟨rfl,?_⟩;have hp2:p[i+k]? =some a2:=(hsp' (i+k) ano).trans h2;have h7:=eB p (i+k) a2 0 hp2;have e5:au (p.set (i+k) 0)+(BB^k*a2)*BB^i=au p+0*BB^i:=by
  rw[Nat.pow_add]at h7;generalize BB^i=Q at*
  generalize BB^k=P at*
  grind
 have e6:=(Alike.refl i p).set (v:=0) (show i<=i+k by omega);have e7:=e6.drop (by rw[hap'.1];omega) e5;omega
theorem yx {v:Nat}(hv:v<BB):0<BB/(v+1):=Nat.div_pos (by omega) (by omega)
theorem aes {n k v:Nat}(hk:(mag n).length =k+1)(hv:(mag n)[k]? =some v):(mag (n*(BB/(v+1)))).length =k+1:=by
 have hvb:=(aX n).at hv;have hs:=yx hvb;have hv2:=Nat.mul_div_le BB (v+1);generalize BB/(v+1)=s at*
 have h1:n<BB^k*(v+1):=by
  have e:=aW (mag n) k (by omega);rw[bu,aM hv,show (mag n).drop (k+1)=[]from List.drop_eq_nil_of_le (by omega)]at e;have:=jW _ ((aX n).take k);rw[amO,hk,Nat.min_eq_left (by omega)]at this;simp only[au,Nat.mul_zero,Nat.add_zero]at e;rw[Nat.mul_add];omega
 have h2:(mag (n*s)).length <=k+1:=by
  rw[aH,anb];have h3:n*s<BB^k*(v+1)*s:=Nat.mul_lt_mul_of_pos_right h1 hs;have h4:BB^k*((v+1)*s)<=BB^k*BB:=ana _ hv2;rw[<-Nat.mul_assoc]at h4;omega
 have h5:¬(mag (n*s)).length <=k:=by
  intro h;rw[aH]at h;have h6:n*1<=n*s:=ana _ hs;have h7:(mag n).length <=k:=aH.2 (by omega);omega
 omega
theorem aet {m n s r Q:Nat}(hs:0<s)(h:r+Q*(n*s)=m*s)(hr:r<n*s):Q=m/n/\r/s=m%n:=by
 obtain⟨h1,h2⟩:=adw h hr;rw[Nat.mul_div_mul_right _ _ hs]at h1;rw[Nat.mul_mod_mul_right]at h2;exact⟨h1,by rw[h2,Nat.mul_div_cancel _ hs]⟩
theorem aeK {a o q:List Nat}{i D A g:Nat}(hal:Alike i a o)(hi:i<=a.length)(hq:q[i]? =some 0)(h:au a+au q*D=A)(hg:g=au (a.drop i)/D)(ho:au (o.drop i)=au (a.drop i)%D):
 au o+au (q.set i g)*D=A:=by
 have h1:=aW o i (by rw[hal.1];exact hi);have h2:=aW a i hi;rw[hal.take,ho]at h1;have h3:=eB q i 0 g hq;have h4:=Nat.mod_add_div (au (a.drop i)) D;rw[<-hg]at h4;generalize au (a.drop i)%D=r at*
 generalize au (a.drop i)=R at*
 generalize au (a.take i)=T at*
 generalize au (q.set i g)=q' at*
 generalize au a=U at*
 generalize au o=V at*
 generalize au q=W at*
 generalize BB^i=P at*
 subst h4
 grind
end Dec
end
end Go.Proofs.YtbkhnggmcheelaaGreatDoor
