/- Integer, plain: decimal texts, their values, the canonical text of an integer; magnitudes in groups of nine digits. No program here, no condition. Integer, plain: magnitudes: numbers in groups of nine digits, the lowest one first. No program here, no condition. Integer, plain: from texts to groups and back; comparing. No program here, no condition. Integer, plain: one group of a magnitude is set; what the loops of plus, minus, times and single keep. No program here, no condition. Integer, plain: long division: the guess, what is subtracted, what is added back. No program here, no condition. -/
import Derived.Test.YtjknklinhegdoaaGreatDoorAa
import Derived.Below
namespace Go.Proofs.YtjknklinhegdoaaGreatDoor
namespace Dec
abbrev Bytes:=List UInt8
def di (b:UInt8):Bool:=decide (48≤b.toNat∧b.toNat≤57)
def aX (ds:Bytes):Nat:=ds.foldl (fun n d=>10*n+(d.toNat-48)) 0
def ah6 (n:Nat):UInt8:=UInt8.ofNat (48+n%10)
theorem jQ (n:Nat):(ah6 n).toNat =48+n%10:=by
 unfold ah6;rw[UInt8.toNat_ofNat'];omega
theorem acp (n:Nat):di (ah6 n)=true:=by
 unfold di;rw[jQ];simp;omega
theorem zV (ds:Bytes):∀a:Nat,ds.foldl (fun n d=>10*n+(d.toNat-48)) a=a*10^ds.length+aX ds:=by
 induction ds with
 |nil=>intro a;simp[aX]
 |cons d ds ih=>
  intro a;have h1:=ih (10*a+(d.toNat-48));have h2:=ih (10*0+(d.toNat-48));simp only[aX,List.foldl_cons,aly]at*
  rw[h1,h2,Nat.pow_succ]
  grind
theorem dW (a b:Bytes):aX (a++b)=aX a*10^b.length+aX b:=by
 unfold aX;rw[List.foldl_append,zV b];rfl
theorem aer:aX []=0:=rfl
theorem qo (d:UInt8):aX [d]=d.toNat-48:=by simp[aX]
theorem iD (d:UInt8)(ds:Bytes):aX (d::ds)=(d.toNat-48)*10^ds.length+aX ds:=by
 have:=dW [d] ds;simpa[qo]using this
theorem lH (ds:Bytes)(h:∀d∈ds,di d=true):aX ds<10^ds.length:=by
 induction ds with
 |nil=>simp[aX]
 |cons d ds ih=>
  have h1:=ih (fun x hx=>h x (alo _ hx));have h2:=h d alm;unfold di at h2;simp at h2;rw[iD,aly,Nat.pow_succ];have:(d.toNat-48)*10^ds.length≤9*10^ds.length:=Nat.mul_le_mul_right _ (by omega);omega
def afc:Nat→Nat→Bytes
 |0,_=>[]
 |f+1,n=>if n=0 then []else afc f (n/10)++ [ah6 n]
def dec (n:Nat):Bytes:=afc n n
theorem afb:∀(f g n:Nat),n≤f→n≤g→afc f n=afc g n:=by
 intro f
 induction f with
 |zero=>
  intro g n h1 h2;obtain rfl:n=0:=by omega
  cases g<;>simp[afc]
 |succ f ih=>
  intro g n h1 h2;cases g with
  |zero=>obtain rfl:n=0:=by omega
         simp[afc]
  |succ g=>
   unfold afc;by_cases h0:n=0
   ·simp[h0]
   ·rw[if_neg h0,if_neg h0,ih g (n/10) (by omega) (by omega)]
theorem fZ:dec 0=[]:=rfl
theorem iW {n:Nat}(h:n≠0):dec n=dec (n/10)++ [ah6 n]:=by
 unfold dec;cases n with
 |zero=>exact absurd rfl h
 |succ n=>
  show afc (n+1) (n+1)=_;rw[show afc (n+1) (n+1)=afc n ((n+1)/10)++ [ah6 (n+1)]by simp[afc]];rw[afb n ((n+1)/10) ((n+1)/10) (by omega) alK]
theorem qP {P:Nat→Prop}(h0:P 0)(hs:∀n,n≠0→P (n/10)→P n)(n:Nat):P n:=by
 induction n using Nat.strongRecOn with
 |_ n ih=>
  by_cases h:n=0
  ·subst h;exact h0
  ·exact hs n h (ih (n/10) (by omega))
theorem iC (n:Nat):aX (dec n)=n:=by
 induction n using qP with
 |h0=>rfl
 |hs n h ih=>rw[iW h,dW,ih,qo,jQ];simp;omega
theorem kS (n:Nat):∀d∈dec n,di d=true:=by
 induction n using qP with
 |h0=>intro d hd;simp[fZ]at hd
 |hs n h ih=>
  intro d hd;rw[iW h,List.mem_append]at hd;rcases hd with hd|hd
  ·exact ih d hd
  ·simp at hd;subst hd;exact acp n
theorem nK {n:Nat}:dec n=[]↔n=0:=by
 constructor
 ·intro h
  have:=iC n;rw[h]at this;exact this.symm
 ·rintro rfl;rfl
theorem vI {a b:Bytes}(h:a≠ []):(a++b).head? =a.head?:=by cases a with|nil=>exact absurd rfl h|cons x a=>rfl
theorem abv (n:Nat):∀d,(dec n).head? =some d→d≠48:=by
 induction n using qP with
 |h0=>intro d hd;simp[fZ]at hd
 |hs n h ih=>
  intro d hd;rw[iW h]at hd;by_cases h10:n/10=0
  ·rw[h10,fZ]at hd
   simp at hd;subst hd;intro e;have:=jQ n;rw[e]at this;simp at this;omega
  ·have hne:dec (n/10)≠ []:=fun e=>h10 (nK.1 e)
   rw[vI hne]at hd;exact ih d hd
theorem afa {d:UInt8}(h:di d=true)(n:Nat)(hn:n%10=d.toNat-48):ah6 n=d:=by
 unfold di at h;simp at h;apply UInt8.toNat_inj.1;rw[jQ];omega
theorem yx (t:Bytes)(h:∀d∈t,di d=true)(h0:∀d,t.head? =some d→d≠48):dec (aX t)=t:=by
 induction hn:t.length generalizing t with
 |zero=>have:t=[]:=alC hn
        subst this;rfl
 |succ n ih=>
  have hne:t≠ []:=by intro e;subst e;simp at hn
  obtain⟨s,d,rfl⟩:∃s d,t=s++ [d]:=⟨t.dropLast,t.getLast hne,(List.dropLast_concat_getLast hne).symm⟩;have hs:s.length=n:=by simpa using hn
  have hd:di d=true:=h d (by simp);have hsd:∀x∈s,di x=true:=fun x hx=>h x (by simp[hx])
  have hd':=hd;unfold di at hd';simp at hd';have hval:aX (s++ [d])=aX s*10+(d.toNat-48):=by rw[dW,qo];simp
  by_cases hse:s=[]
  ·subst hse
   have h1:d≠48:=h0 d rfl;have h2:d.toNat≠48:=fun e=>h1 (UInt8.toNat_inj.1 e)
   rw[hval];simp only[aer,Nat.zero_mul,Nat.zero_add,List.nil_append];rw[iW (by omega),show (d.toNat-48)/10=0 by omega,fZ,afa hd _ (by omega)];rfl
  ·have hh:∀x,s.head? =some x→x≠48:=fun x hx=>h0 x (by rw[vI hse];exact hx)
   have e:=ih s hsd hh hs;have hpos:aX s≠0:=by
    intro e0;rw[e0,fZ]at e;exact hse e.symm
   rw[hval,iW (by omega),show (aX s*10+(d.toNat-48))/10=aX s by omega,e,afa hd _ (by omega)]
theorem aad {n k:Nat}:(dec n).length ≤k↔n<10^k:=by
 induction n using qP generalizing k with
 |h0=>simp[fZ,Nat.pow_pos]
 |hs n h ih=>
  rw[iW h];cases k with
  |zero=>simp;omega
  |succ k=>
   rw[alG,List.length_singleton,Nat.add_le_add_iff_right,ih,Nat.pow_succ];omega
def bare (s:Bytes):Bytes:=if s.head? =some 45 then s.drop 1 else s
def ic (s:Bytes):Bytes:=if (bare s).all di then(bare s).dropWhile (· ==48)else []
def uY (s:Bytes):Bool:=decide (s.head? =some 45)&& !(ic s).isEmpty
def val (s:Bytes):Int:=if uY s then-(aX (ic s):Int)else aX (ic s)
def canon (z:Int):Bytes:=if z<0 then 45::dec z.natAbs else dec z.natAbs
theorem oV (s:Bytes):∀d∈ic s,di d=true:=by
 unfold ic;by_cases h:(bare s).all di=true
 ·rw[if_pos h]
  intro d hd;exact alz.1 h d ((List.dropWhile_sublist _).subset hd)
 ·rw[if_neg h];intro d hd;simp at hd
theorem jZ (p:UInt8→Bool):∀(l:Bytes) d,(l.dropWhile p).head? =some d→p d=false:=by
 intro l
 induction l with
 |nil=>intro d h;simp at h
 |cons a l ih=>
  intro d h;rw[List.dropWhile_cons]at h;by_cases ha:p a=true
  ·rw[if_pos ha]at h;exact ih d h
  ·rw[if_neg ha]at h;simp at h;subst h;simpa using ha
theorem yw (s:Bytes):∀d,(ic s).head? =some d→d≠48:=by
 intro d h;unfold ic at h;by_cases hb:(bare s).all di=true
 ·rw[if_pos hb]at h
  have:=jZ _ _ _ h;simpa using this
 ·rw[if_neg hb]at h;simp at h
theorem abu (s:Bytes):dec (aX (ic s))=ic s:=yx _ (oV s) (yw s)
theorem acf {s:Bytes}:aX (ic s)=0↔ic s=[]:=by
 constructor
 ·intro h;have:=abu s;rw[h,fZ]at this;exact this.symm
 ·intro h;rw[h];rfl
theorem uy (s:Bytes):val s<0↔uY s=true:=by
 unfold val;by_cases h:uY s=true
 ·rw[if_pos h]
  have:aX (ic s)≠0:=by
   intro e;rw[acf]at e;unfold uY at h;rw[e]at h;simp at h
  simp[h];omega
 ·rw[if_neg h];simp[h]
theorem uz (s:Bytes):(val s).natAbs =aX (ic s):=by
 unfold val;split<;>simp
theorem yE (s:Bytes):canon (val s)=if uY s then 45::ic s else ic s:=by
 unfold canon;rw[uz,abu];by_cases h:uY s=true
 ·rw[if_pos ((uy s).2 h),if_pos h]
 ·rw[if_neg (fun hh=>h ((uy s).1 hh)),if_neg h]
theorem akK (n:Nat):(dec n).all di=true:=alz.2 (kS n)
theorem vV (n:Nat):(dec n).dropWhile (· ==48)=dec n:=by
 cases h:dec n with
 |nil=>rfl
 |cons a l=>
  have:=abv n a (by rw[h];rfl);rw[List.dropWhile_cons,if_neg (by simpa using this)]
theorem nW (n:Nat):(dec n).head? ≠some 45:=by
 intro h;have:=kS n 45 (List.mem_of_mem_head? (by rw[h];rfl));revert this;decide
theorem acU (z:Int):bare (canon z)=dec z.natAbs:=by
 unfold canon bare;by_cases h:z<0
 ·rw[if_pos h];simp
 ·rw[if_neg h,if_neg (nW _)]
theorem uk (z:Int):ic (canon z)=dec z.natAbs:=by
 unfold ic;rw[acU,if_pos (akK _),vV]
theorem acd (z:Int):uY (canon z)=decide (z<0):=by
 unfold uY;rw[uk];by_cases h:z<0
 ·have:dec z.natAbs≠ []:=fun e=>by rw[nK]at e;omega
  simp[canon,h,this]
 ·have:=nW z.natAbs
  simp[canon,h,this]
theorem kZ (z:Int):val (canon z)=z:=by
 unfold val;rw[acd,uk,iC];by_cases h:z<0
 ·simp[h];omega
 ·simp[h];omega
theorem afO {y z:Int}(h:canon y=canon z):y=z:=by rw[←kZ y,h,kZ]
theorem acS:canon 0=[]:=rfl
theorem afN {z:Int}:canon z=[]↔z=0:=⟨fun h=>afO (h.trans acS.symm),fun h=>by rw[h];rfl⟩
end Dec
end Go.Proofs.YtjknklinhegdoaaGreatDoor
namespace Go.Proofs.YtjknklinhegdoaaGreatDoor
namespace Dec
def BB:Nat:=1000000000
theorem bV:0<BB:=by decide
def ak:List Nat→Nat
 | []=>0
 |g::m=>g+BB*ak m
def agp:Nat→Nat→List Nat
 |0,_=>[]
 |f+1,n=>if n=0 then []else n%BB::agp f (n/BB)
def mag (n:Nat):List Nat:=agp n n
def Small (m:List Nat):Prop:=∀g∈m,g<BB
theorem aex:∀(f g n:Nat),n≤f→n≤g→agp f n=agp g n:=by
 intro f
 induction f with
 |zero=>
  intro g n h1 h2;obtain rfl:n=0:=by omega
  cases g<;>simp[agp]
 |succ f ih=>
  intro g n h1 h2;cases g with
  |zero=>obtain rfl:n=0:=by omega
         simp[agp]
  |succ g=>
   unfold agp;by_cases h0:n=0
   ·simp[h0]
   ·have:n/BB<n:=Nat.div_lt_self (by omega) (by decide)
    rw[if_neg h0,if_neg h0,ih g (n/BB) (by omega) (by omega)]
theorem iQ:mag 0=[]:=rfl
theorem kK {n:Nat}(h:n≠0):mag n=n%BB::mag (n/BB):=by
 unfold mag;cases n with
 |zero=>exact absurd rfl h
 |succ n=>
  have:(n+1)/BB<n+1:=Nat.div_lt_self (by omega) (by decide);rw[show agp (n+1) (n+1)=(n+1)%BB::agp n ((n+1)/BB)by simp[agp]];rw[aex n ((n+1)/BB) ((n+1)/BB) (by omega) alK]
theorem vw {P:Nat→Prop}(h0:P 0)(hs:∀n,n≠0→P (n/BB)→P n)(n:Nat):P n:=by
 induction n using Nat.strongRecOn with
 |_ n ih=>
  by_cases h:n=0
  ·subst h;exact h0
  ·exact hs n h (ih (n/BB) (Nat.div_lt_self (by omega) (by decide)))
theorem aV (n:Nat):ak (mag n)=n:=by
 induction n using vw with
 |h0=>rfl
 |hs n h ih=>rw[kK h];unfold ak;rw[ih];exact Nat.mod_add_div n BB
theorem aS (n:Nat):Small (mag n):=by
 induction n using vw with
 |h0=>intro g hg;simp[iQ]at hg
 |hs n h ih=>
  intro g hg;rw[kK h]at hg;rcases List.mem_cons.1 hg with rfl|hg
  ·exact Nat.mod_lt _ bV
  ·exact ih g hg
theorem bY (a b:List Nat):ak (a++b)=ak a+BB^a.length*ak b:=by
 induction a with
 |nil=>simp[ak]
 |cons g a ih=>simp only[List.cons_append,ak,ih,aly,Nat.pow_succ];grind
theorem jy (m:List Nat)(h:Small m):ak m<BB^m.length:=by
 induction m with
 |nil=>simp[ak]
 |cons g m ih=>
  have h1:=ih (fun x hx=>h x (alo _ hx));have h2:=h g alm;simp only[ak,aly,Nat.pow_succ];have:BB*(ak m+1)≤BB*BB^m.length:=Nat.mul_le_mul_left _ h1;rw[Nat.mul_add,Nat.mul_one]at this;rw[Nat.mul_comm (BB^m.length) BB];omega
theorem nu {n:Nat}:mag n=[]↔n=0:=by
 constructor
 ·intro h;have:=aV n;rw[h]at this;exact this.symm
 ·rintro rfl;rfl
theorem Small.cons {g:Nat}{m:List Nat}(h:Small (g::m)):g<BB∧Small m:=⟨h g alm,fun x hx=>h x (alo _ hx)⟩
theorem oK (m:List Nat)(h:Small m)(h0:m.getLast?≠some 0):mag (ak m)=m:=by
 induction m with
 |nil=>rfl
 |cons g m ih=>
  obtain⟨hg,hm⟩:=h.cons;cases m with
  |nil=>
   have:g≠0:=by simpa using h0
   simp only[ak,Nat.mul_zero,Nat.add_zero];rw[kK this,Nat.mod_eq_of_lt hg,Nat.div_eq_of_lt hg,iQ]
  |cons g' m'=>
   have e:=ih hm (by simpa using h0);have hv:ak (g'::m')≠0:=fun hz=>by rw[hz,iQ]at e;cases e
   have hn:ak (g::g'::m')=g+BB*ak (g'::m'):=rfl;have hpos:BB*ak (g'::m')≠0:=Nat.mul_ne_zero (by decide) hv;rw[kK (by rw[hn];omega),hn,Nat.add_mul_mod_self_left,Nat.mod_eq_of_lt hg,Nat.add_mul_div_left _ _ bV,Nat.div_eq_of_lt hg,Nat.zero_add,e]
theorem aa2 (n:Nat):(mag n).getLast? ≠some 0:=by
 induction n using vw with
 |h0=>simp[iQ]
 |hs n h ih=>
  rw[kK h];cases hm:mag (n/BB)with
  |nil=>
   have:n/BB=0:=nu.1 hm;have hlt:n<BB:=by
    rcases Nat.lt_or_ge n BB with hh|hh
    ·exact hh
    ·have:=Nat.div_pos hh bV;omega
   simp[Nat.mod_eq_of_lt hlt,h]
  |cons g m=>rw[hm]at ih;simpa using ih
theorem aC {n k:Nat}:(mag n).length ≤k↔n<BB^k:=by
 induction n using vw generalizing k with
 |h0=>simp[iQ,Nat.pow_pos bV]
 |hs n h ih=>
  rw[kK h];cases k with
  |zero=>simp;omega
  |succ k=>
   rw[aly,Nat.add_le_add_iff_right,ih,Nat.pow_succ,Nat.div_lt_iff_lt_mul bV]
theorem tO (m:List Nat)(h:Small m)(hl:m=[]∨BB^(m.length-1)≤ak m):mag (ak m)=m:=by
 refine oK m h ?_;rcases hl with rfl|hl
 ·simp
 ·intro hlast
  have hne:m≠ []:=by intro e;subst e;simp at hlast
  obtain⟨s,d,rfl⟩:∃s d,m=s++ [d]:=⟨m.dropLast,m.getLast hne,(List.dropLast_concat_getLast hne).symm⟩;have:d=0:=by simpa using hlast
  subst this;have hs:Small s:=fun x hx=>h x (by simp[hx])
  have h1:=jy s hs;rw[bY]at hl;simp[ak]at hl;omega
def yR (m:List Nat):List Nat:=mag (ak m)
theorem jJ (k:Nat):ak (List.replicate k 0)=0:=by
 induction k with
 |zero=>rfl
 |succ k ih=>simp[List.replicate_succ,ak,ih]
theorem abw (m:List Nat)(h:Small m)(k:Nat)(hk:k≤m.length)(hz:∀i,k≤i→i<m.length→m[i]? =some 0)(hp:k=0∨m[k-1]?≠some 0):m.take k=yR m:=by
 have hs:Small (m.take k):=fun x hx=>h x (List.mem_of_mem_take hx)
 have hd:m.drop k=List.replicate (m.length-k) 0:=by
  apply List.ext_getElem?;intro i;rw[List.getElem?_drop,List.getElem?_replicate];by_cases hi:i<m.length-k
  ·rw[if_pos hi];exact hz (k+i) (by omega) (by omega)
  ·rw[if_neg hi,alB (by omega)]
 have hv:ak m=ak (m.take k):=by
  conv=>lhs;rw[←List.take_append_drop k m]
  rw[bY,hd,jJ,Nat.mul_zero,Nat.add_zero]
 unfold yR;rw[hv];refine(oK _ hs ?_).symm;rcases hp with rfl|hp
 ·simp
 ·intro hl
  by_cases hk0:k=0
  ·subst hk0;simp at hl
  ·apply hp
   rw[List.getLast?_eq_getElem?,alr,Nat.min_eq_left hk,alF,if_pos (by omega)]at hl;exact hl
end Dec
end Go.Proofs.YtjknklinhegdoaaGreatDoor
namespace Go.Proofs.YtjknklinhegdoaaGreatDoor
namespace Dec
def fmt (n:Nat):Bytes:=if n=0 then [48]else dec n
def agm (g:Nat):Bytes:=List.replicate (9-(fmt g).length) 48++fmt g
theorem akn (n:Nat):∀d∈fmt n,di d=true:=by
 unfold fmt;split
 ·intro d hd;simp at hd;subst hd;decide
 ·exact kS n
theorem aes (n:Nat):aX (fmt n)=n:=by
 unfold fmt;split
 ·rename_i h;subst h;decide
 ·exact iC n
theorem zW {n:Nat}(h:n<BB):1≤(fmt n).length ∧(fmt n).length ≤9:=by
 unfold fmt;split
 ·simp
 ·rename_i h0
  constructor
  ·have:dec n≠ []:=fun e=>h0 (nK.1 e)
   exact List.length_pos_iff.2 this
  ·exact aad.2 h
theorem zJ (k:Nat):aX (List.replicate k 48)=0:=by
 induction k with
 |zero=>rfl
 |succ k ih=>rw[List.replicate_succ,iD,ih];simp
theorem aaR {g:Nat}(h:g<BB):(agm g).length =9:=by
 have:=zW h;unfold agm;rw[alG,List.length_replicate];omega
theorem ace (g:Nat):aX (agm g)=g:=by
 unfold agm;rw[dW,zJ,aes];omega
theorem ahb (g:Nat):∀d∈agm g,di d=true:=by
 intro d hd;unfold agm at hd;rcases List.mem_append.1 hd with hd|hd
 ·have:=List.eq_of_mem_replicate hd;subst this;decide
 ·exact akn g d hd
theorem ah7 {v g:Nat}(hv:v≠0)(hg:g<BB):dec (g+BB*v)=dec v++agm g:=by
 have e:aX (dec v++agm g)=g+BB*v:=by
  rw[dW,iC,ace,aaR hg,Nat.mul_comm];unfold BB;omega
 rw[←e];refine yx _ (fun d hd=>?_) (fun d hd=>?_)
 ·rcases List.mem_append.1 hd with hd|hd
  ·exact kS v d hd
  ·exact ahb g d hd
 ·have hne:dec v≠ []:=fun e=>hv (nK.1 e)
  rw[vI hne]at hd;exact abv v d hd
theorem abM (k:Nat):BB^k=10^(9*k):=by rw[Nat.pow_mul];rfl
theorem acB (s:Bytes)(a b:Nat)(h:a≤b)(hb:b≤s.length):s.drop a=(s.take b).drop a++s.drop b:=by
 conv=>lhs;rw[←List.take_append_drop b s]
 rw[List.drop_append_of_le_length (by rw[alr];omega)]
def rdG (s:Bytes):Nat→List Nat
 |0=>[]
 |k+1=>rdG s k++ [aX ((s.take (s.length-9*k)).drop (s.length-9*(k+1)))]
theorem qc (s:Bytes)(k:Nat):(rdG s k).length =k:=by induction k with
 |zero=>rfl
 |succ k ih=>simp[rdG,ih]
theorem zL {s:Bytes}{a b:Nat}{d:UInt8}(h:d∈(s.take a).drop b):d∈s:=List.mem_of_mem_take (List.mem_of_mem_drop h)
theorem adM (s:Bytes)(h:∀d∈s,di d=true)(k:Nat):Small (rdG s k):=by
 induction k with
 |zero=>intro g hg;simp[rdG]at hg
 |succ k ih=>
  intro g hg;rcases List.mem_append.1 hg with hg|hg
  ·exact ih g hg
  ·simp at hg
   subst hg;have h1:=lH _ (fun d (hd:d∈(s.take (s.length-9*k)).drop (s.length-9*(k+1)))=>h d (zL hd));refine alx h1 ?_;show 10^_≤10^9;refine Nat.pow_le_pow_right (by omega) ?_;rw[List.length_drop,alr];omega
theorem ahp (s:Bytes)(k:Nat)(hk:9*k≤s.length+8):ak (rdG s k)=aX (s.drop (s.length-9*k)):=by
 induction k with
 |zero=>simp[rdG,ak,aX]
 |succ k ih=>
  rw[rdG,bY,ih (by omega),qc];have e:=acB s (s.length-9*(k+1)) (s.length-9*k) (by omega) (by omega);rw[e,dW,List.length_drop,show s.length-(s.length-9*k)=9*k by omega, ←abM];simp[ak]
  grind
theorem ajs (s:Bytes)(h:∀d∈s,di d=true)(h0:∀d,s.head? =some d→d≠48)(k:Nat)(hk:s.length≤9*k)(hk':9*k≤s.length+8):rdG s k=mag (aX s):=by
 have e:ak (rdG s k)=aX s:=by rw[ahp s k hk',show s.length-9*k=0 by omega,List.drop_zero]
 rw[←e];refine(tO _ (adM s h k) ?_).symm;by_cases hk0:k=0
 ·subst hk0;exact .inl rfl
 ·right
  rw[qc,e,abM];cases s with
  |nil=>simp at hk';omega
  |cons a t=>
   have ha:=h a alm;have ha0:a≠48:=h0 a rfl;unfold di at ha;simp at ha;have ha1:a.toNat≠48:=fun e=>ha0 (UInt8.toNat_inj.1 e)
   rw[iD];have h1:10^(9*(k-1))≤10^t.length:=Nat.pow_le_pow_right (by omega) (by simp at hk';omega);have h2:1*10^t.length≤(a.toNat-48)*10^t.length:=Nat.mul_le_mul_right _ (by omega);omega
def ak7 (r:Int)(a b:Nat):Prop:=(r<0↔a<b)∧(r=0↔a=b)
theorem aa0 {l m:List Nat}(hl:Small l)(hlen:l.length=m.length):∀(i x y:Nat),l[i]? =some x→m[i]? =some y→x<y→(∀j,i<j→l[j]? =m[j]?)→ak l<ak m:=by
 induction l generalizing m with
 |nil=>intro i x y h;simp at h
 |cons g l ih=>
  intro i x y hx hy hlt hab;cases m with
  |nil=>simp at hlen
  |cons g' m=>
   obtain⟨hg,hls⟩:=hl.cons;cases i with
   |zero=>
    simp at hx hy;subst hx hy;have:l=m:=by
     apply List.ext_getElem?;intro j;have:=hab (j+1) (by omega);simpa using this
    subst this;simp only[ak];omega
   |succ i=>
    have:=ih hls (by simpa using hlen) i x y (by simpa using hx) (by simpa using hy) hlt (fun j hj=>by have:=hab (j+1) (by omega);simpa using this);simp only[ak];have h2:BB*(ak l+1)≤BB*ak m:=Nat.mul_le_mul_left _ this;rw[Nat.mul_add,Nat.mul_one]at h2;omega
theorem wu {a b:Nat}(h:(mag a).length <(mag b).length):a<b:=by
 have h1:a<BB^(mag a).length :=aC.1 alK;have h2:¬b<BB^(mag a).length :=fun hh=>by have:=aC.2 hh;omega
 omega
end Dec
end Go.Proofs.YtjknklinhegdoaaGreatDoor
namespace Go.Proofs.YtjknklinhegdoaaGreatDoor
namespace Dec
theorem dP:∀(l:List Nat) (j x v:Nat),l[j]? =some x→ak (l.set j v)+BB^j*x=ak l+BB^j*v:=by
 intro l
 induction l with
 |nil=>intro j x v h;simp at h
 |cons g l ih=>
  intro j x v h;cases j with
  |zero=>
   simp at h;subst h;simp only[List.set_cons_zero,ak,Nat.pow_zero,Nat.one_mul];omega
  |succ j=>
   have:=ih j x v (by simpa using h);simp only[List.set_cons_succ,ak,Nat.pow_succ];have e:BB*(ak (l.set j v)+BB^j*x)=BB*(ak l+BB^j*v):=by rw[this]
   rw[Nat.mul_add,Nat.mul_add]at e;rw[Nat.mul_comm (BB^j) BB,Nat.mul_assoc,Nat.mul_assoc];omega
theorem Small.set {l:List Nat}(h:Small l)(j:Nat){v:Nat}(hv:v<BB):Small (l.set j v):=by
 intro g hg;rcases List.mem_or_eq_of_mem_set hg with hg|rfl
 ·exact h g hg
 ·exact hv
theorem Small.at {l:List Nat}(h:Small l){j x:Nat}(hj:l[j]? =some x):x<BB:=h x (alk hj)
theorem aY (l:List Nat)(k:Nat):ak (l.take (k+1))=ak (l.take k)+BB^k*(l[k]?.getD 0):=by
 by_cases hk:k≤l.length
 ·rw[List.take_add_one,bY]
  have:(l.take k).length =k:=by simp;omega
  rw[this];cases h:l[k]?<;>simp[ak]
 ·rw[aln (show l.length≤k by omega),aln (show l.length≤k+1 by omega),alB (by omega)];simp
theorem aR (l:List Nat)(k:Nat)(hk:k≤l.length):ak l=ak (l.take k)+BB^k*ak (l.drop k):=by
 conv=>lhs;rw[←List.take_append_drop k l]
 rw[bY,alr,Nat.min_eq_left hk]
theorem adW {l m o:List Nat}{k cy x y:Nat}(hx:o[k]? =some x)(hy:m[k]?.getD 0=y)(h:ak o+cy*BB^k=ak l+ak (m.take k)):
 ak (o.set k ((x+cy+y)%BB))+((x+cy+y)/BB)*BB^(k+1)=ak l+ak (m.take (k+1)):=by
 have h1:=dP o k x ((x+cy+y)%BB) hx;rw[aY,hy];have h2:=Nat.mod_add_div (x+cy+y) BB;generalize (x+cy+y)%BB=r at*
 generalize (x+cy+y)/BB=q at*
 rw[Nat.pow_succ];generalize BB^k=P at*
 have h3:P*(r+BB*q)=P*(x+cy+y):=by rw[h2]
 grind
theorem qx {l m o:List Nat}{k cy x y:Nat}(hx:o[k]? =some x)(hy:m[k]?.getD 0=y)(h:ak o+ak (m.take k)=ak l+cy*BB^k)(hle:cy+y≤x):
 ak (o.set k (x-(cy+y)))+ak (m.take (k+1))=ak l+0*BB^(k+1):=by
 have h1:=dP o k x (x-(cy+y)) hx;rw[aY,hy];obtain⟨d,rfl⟩:∃d,x=d+(cy+y):=⟨x-(cy+y),by omega⟩;rw[Nat.add_sub_cancel]at h1⊢
 generalize BB^k=P at*
 grind
theorem qw {l m o:List Nat}{k cy x y:Nat}(hx:o[k]? =some x)(hy:m[k]?.getD 0=y)(h:ak o+ak (m.take k)=ak l+cy*BB^k)(hle:cy+y≤x+BB):
 ak (o.set k (x+BB-(cy+y)))+ak (m.take (k+1))=ak l+1*BB^(k+1):=by
 have h1:=dP o k x (x+BB-(cy+y)) hx;rw[aY,hy,Nat.pow_succ];obtain⟨d,hd⟩:∃d,x+BB=d+(cy+y):=⟨x+BB-(cy+y),by omega⟩;rw[hd,Nat.add_sub_cancel]at h1⊢
 generalize BB^k=P at*
 have h3:P*(x+BB)=P*(d+(cy+y)):=by rw[hd]
 grind
theorem aeu {a b:Nat}{l o:List Nat}{cy:Nat}(ho:Small o)(hlen:o.length=l.length)(h:ak o+b=a+cy*BB^l.length)(hba:b≤a)(hcy:cy≤1):ak o=a-b:=by
 have h1:=jy o ho;rw[hlen]at h1;rcases Nat.eq_zero_or_pos cy with h0|h0
 ·subst h0;omega
 ·obtain rfl:cy=1:=by omega
  omega
theorem abU {m O o:List Nat}{i k cy x y z:Nat}(hz:o[i+k]? =some z)(hy:m[k]?.getD 0=y)(h:ak o+cy*BB^(i+k)=ak O+x*ak (m.take k)*BB^i):
 ak (o.set (i+k) ((cy+(z+x*y))%BB))+((cy+(z+x*y))/BB)*BB^(i+(k+1))=ak O+x*ak (m.take (k+1))*BB^i:=by
 have h1:=dP o (i+k) z ((cy+(z+x*y))%BB) hz;rw[aY,hy];have h2:=Nat.mod_add_div (cy+(z+x*y)) BB;generalize (cy+(z+x*y))%BB=r at*
 generalize (cy+(z+x*y))/BB=q at*
 rw[Nat.pow_add,Nat.pow_add,Nat.pow_succ]at*
 generalize BB^k=P at*
 generalize BB^i=Q at*
 generalize ak (m.take k)=M at*
 generalize ak O=U at*
 generalize ak o=V at*
 generalize ak (o.set (i+k) r)=V' at*
 have h3:Q*P*(r+BB*q)=Q*P*(cy+(z+x*y)):=by rw[h2]
 grind
theorem kg {cy z x y:Nat}(h1:cy<BB)(h2:z<BB)(h3:x<BB)(h4:y<BB):x*y≤999999998000000001∧(cy+(z+x*y))/BB<BB:=by
 have:x*y≤(BB-1)*(BB-1):=Nat.mul_le_mul (by omega) (by omega);have h5:x*y≤999999998000000001:=this;refine⟨h5,?_⟩;rw[Nat.div_lt_iff_lt_mul bV];unfold BB at*
 omega
theorem adc {l m O o:List Nat}{i cy x:Nat}(hz:o[i+m.length]? =some 0)(hx:l[i]? =some x)(h:ak o+cy*BB^(i+m.length)=ak O+x*ak m*BB^i)(hO:ak O=ak (l.take i)*ak m):
 ak (o.set (i+m.length) (0+cy))=ak (l.take (i+1))*ak m:=by
 have h1:=dP o (i+m.length) 0 (0+cy) hz;rw[aY,hx,Option.getD_some];rw[Nat.zero_add]at h1⊢
 generalize BB^(i+m.length)=P at*
 generalize BB^i=Q at*
 generalize ak m=M at*
 generalize ak (l.take i)=L at*
 generalize ak (o.set (i+m.length) cy)=V' at*
 grind
theorem ze {l o:List Nat}{i d r x:Nat}(hx:l[i]? =some x)(ho:o[i]? =some 0)(h:ak o*d+r*BB^(i+1)+ak (l.take (i+1))=ak l):
 ak (o.set i ((r*BB+x)/d))*d+((r*BB+x)%d)*BB^i+ak (l.take i)=ak l:=by
 have h1:=dP o i 0 ((r*BB+x)/d) ho;rw[aY,hx,Option.getD_some,Nat.pow_succ]at h;have h2:=Nat.mod_add_div (r*BB+x) d;generalize (r*BB+x)%d=s at*
 generalize (r*BB+x)/d=q at*
 generalize BB^i=P at*
 generalize ak (l.take i)=M at*
 generalize ak l=U at*
 generalize ak o=V at*
 generalize ak (o.set i q)=V' at*
 have h3:P*(s+d*q)=P*(r*BB+x):=by rw[h2]
 grind
theorem wR {d r x:Nat}(hd:d≤BB)(hr:r<d)(hx:x<BB):(r*BB+x)/d<BB∧r*BB+x≤1000000000000000000:=by
 have h1:(r+1)*BB≤d*BB:=Nat.mul_le_mul_right _ hr;rw[Nat.add_mul,Nat.one_mul]at h1;have h2:d*BB≤BB*BB:=Nat.mul_le_mul_right _ hd;refine⟨?_,?_⟩
 ·rw[Nat.div_lt_iff_lt_mul (by omega),Nat.mul_comm BB d];omega
 ·have h3:BB*BB=1000000000000000000:=rfl
  omega
theorem ab1 {a d r:Nat}{o:List Nat}(hr:r<d)(h:ak o*d+r=a):ak o=a/d∧r=a%d:=by
 have e:a=r+d*ak o:=by rw[←h,Nat.mul_comm];omega
 subst e;rw[Nat.add_mul_div_left _ _ (by omega),Nat.div_eq_of_lt hr,Nat.add_mul_mod_self_left,Nat.mod_eq_of_lt hr];simp
end Dec
end Go.Proofs.YtjknklinhegdoaaGreatDoor
namespace Go.Proofs.YtjknklinhegdoaaGreatDoor
namespace Dec
theorem aK {l:List Nat}{j x:Nat}(h:l[j]? =some x):ak (l.drop j)=x+BB*ak (l.drop (j+1)):=by
 obtain⟨hj,rfl⟩:=alj.1 h;rw[List.drop_eq_getElem_cons hj];rfl
theorem Small.drop {l:List Nat}(h:Small l)(k:Nat):Small (l.drop k):=fun x hx=>h x (List.mem_of_mem_drop hx)
theorem Small.take {l:List Nat}(h:Small l)(k:Nat):Small (l.take k):=fun x hx=>h x (List.mem_of_mem_take hx)
theorem bC (l:List Nat)(j:Nat)(h:j<l.length):∃x,l[j]? =some x:=⟨l[j],ald h⟩
theorem yo {D k:Nat}(hk:(mag D).length =k+2):∃b0 b1 ld,(mag D)[k]? =some b0∧(mag D)[k+1]? =some b1∧0<b1∧b0<BB∧b1<BB∧ld<BB^k∧D=ld+BB^k*(b0+BB*b1):=by
 obtain⟨b0,h0⟩:=bC (mag D) k (by omega);obtain⟨b1,h1⟩:=bC (mag D) (k+1) (by omega);have hs:=aS D;refine⟨b0,b1,ak ((mag D).take k),h0,h1,?_,hs.at h0,hs.at h1,?_,?_⟩
 ·have:=aa2 D
  rw[List.getLast?_eq_getElem?,hk,show k+2-1=k+1 by omega,h1]at this;rcases Nat.eq_zero_or_pos b1 with rfl|h
  ·exact absurd rfl this
  ·exact h
 ·have:=jy _ (hs.take k)
  rwa[alr,hk,Nat.min_eq_left (by omega)]at this
 ·have e:=aR (mag D) k (by omega)
  rw[aV,aK h0,aK h1,show (mag D).drop (k+1+1)=[]from List.drop_eq_nil_of_le (by omega)]at e;simpa[ak]using e
theorem adI {a:List Nat}{i k D:Nat}(ha:Small a)(hlen:i+k+2<a.length)(hlt:ak (a.drop (i+1))<D)(hD:D<BB^(k+2)):
 ∃a0 a1 a2 lo,a[i+k]? =some a0∧a[i+k+1]? =some a1∧a[i+k+2]? =some a2∧a0<BB∧a1<BB∧a2<BB∧lo<BB^k∧ak (a.drop i)=lo+BB^k*(a0+BB*(a1+BB*a2))∧ak (a.drop i)<BB*D∧ak (a.drop (i+k+3))=0:=by
 obtain⟨a0,h0⟩:=bC a (i+k) (by omega);obtain⟨a1,h1⟩:=bC a (i+k+1) (by omega);obtain⟨a2,h2⟩:=bC a (i+k+2) (by omega);obtain⟨ai,hi⟩:=bC a i (by omega);have hz:ak (a.drop (i+k+3))=0:=by
  have e:=aR (a.drop (i+1)) (k+2) (by rw[List.length_drop];omega);rw[List.drop_drop,show i+1+(k+2)=i+k+3 by omega]at e;rcases Nat.eq_zero_or_pos (ak (a.drop (i+k+3)))with h|h
  ·exact h
  ·have:BB^(k+2)*1≤BB^(k+2)*ak (a.drop (i+k+3)):=Nat.mul_le_mul_left _ h
   omega
 refine⟨a0,a1,a2,ak ((a.drop i).take k),h0,h1,h2,ha.at h0,ha.at h1,ha.at h2,?_,?_,?_,hz⟩
 ·have:=jy _ ((ha.drop i).take k)
  rwa[alr,List.length_drop,Nat.min_eq_left (by omega)]at this
 ·have e:=aR (a.drop i) k (by rw[List.length_drop];omega)
  rw[List.drop_drop,aK h0,aK h1,aK h2,hz]at e;simpa using e
 ·rw[aK hi]
  have h3:BB*(ak (a.drop (i+1))+1)≤BB*D:=Nat.mul_le_mul_left _ hlt;rw[Nat.mul_add]at h3;have:=ha.at hi;omega
section
variable {P lo a0 a1 a2 ld b0 b1 R D:Nat}
theorem ahH (hD:0<D)(hR:R<BB*D):R/D<BB:=by
 rw[Nat.div_lt_iff_lt_mul hD];exact hR
theorem xW (hR:R=lo+P*(a0+BB*(a1+BB*a2)))(hlo:lo<P)(hD:D=ld+P*(b0+BB*b1)):R/D*(b0+BB*b1)≤a0+BB*(a1+BB*a2):=by
 have h1:D*(R/D)≤R:=Nat.mul_div_le R D;generalize R/D=q at*
 generalize a0+BB*(a1+BB*a2)=T at*
 generalize b0+BB*b1=V at*
 have h2:P*(q*V)≤P*T+lo:=by
  have:P*(q*V)+q*ld=D*q:=by rw[hD,Nat.add_mul,Nat.mul_comm q V,Nat.mul_assoc,Nat.mul_comm ld q];omega
  omega
 have h3:P*(q*V)<P*(T+1):=by rw[Nat.mul_add];omega
 have:=Nat.lt_of_mul_lt_mul_left h3;omega
theorem ahJ (hR:R=lo+P*(a0+BB*(a1+BB*a2)))(hlo:lo<P)(hD:D=ld+P*(b0+BB*b1))(ha0:a0<BB):R/D*b1≤a2*BB+a1:=by
 have h:=xW hR hlo hD;generalize R/D=q at*
 rw[Nat.mul_add]at h;have h1:BB*(q*b1)<BB*(a2*BB+a1+1):=by
  have:q*(BB*b1)=BB*(q*b1):=Nat.mul_left_comm _ _ _;have e:BB*(a2*BB+a1+1)=BB*(a1+BB*a2)+BB:=by rw[Nat.mul_comm a2 BB];rw[Nat.mul_add];rw[Nat.add_comm (BB*a2) a1];omega
  omega
 have:=Nat.lt_of_mul_lt_mul_left h1;omega
theorem acv (hR:R=lo+P*(a0+BB*(a1+BB*a2)))(hlo:lo<P)(hD:D=ld+P*(b0+BB*b1))(ha0:a0<BB)(hb1:0<b1)(hRD:R<BB*D)(hD0:0<D):
 R/D≤min ((a2*BB+a1)/b1) (BB-1):=by
 have h1:=ahH hD0 hRD;have h2:=ahJ hR hlo hD ha0;have h3:R/D≤(a2*BB+a1)/b1:=(Nat.le_div_iff_mul_le hb1).2 h2;exact Nat.le_min.2 ⟨h3,Nat.le_sub_one_of_lt h1⟩
theorem acu {g:Nat}(hR:R=lo+P*(a0+BB*(a1+BB*a2)))(hD:D=ld+P*(b0+BB*b1))(hld:ld<P)(hb1:0<b1)(hb0:b0<BB)(hg:g<BB)(htop:g*b1≤a2*BB+a1)
 (h:BB≤a2*BB+a1-g*b1∨g*b0≤(a2*BB+a1-g*b1)*BB+a0):g≤R/D+1:=by
 have hD0:0<D:=by
  have:0<P*(b0+BB*b1):=Nat.mul_pos (by omega) (by have:=Nat.mul_pos bV hb1;omega);omega
 have h3:g*(b0+BB*b1)≤a0+BB*(a1+BB*a2):=by
  obtain⟨left,hleft⟩:∃left,a2*BB+a1=g*b1+left:=⟨a2*BB+a1-g*b1,by omega⟩;rw[hleft,Nat.add_sub_cancel_left]at h;have e:BB*(a1+BB*a2)=BB*(g*b1)+BB*left:=by rw[←Nat.mul_add, ←hleft,Nat.mul_comm a2 BB,Nat.add_comm]
  rw[e,Nat.mul_add,Nat.mul_left_comm g BB b1];rcases h with h|h
  ·have h4:g*b0≤BB*BB:=Nat.mul_le_mul (by omega) (by omega)
   have h5:BB*BB≤BB*left:=Nat.mul_le_mul_left _ h;omega
  ·rw[Nat.mul_comm left BB]at h
   omega
 rcases Nat.eq_zero_or_pos g with rfl|hg0
 ·exact Nat.zero_le _
 ·obtain⟨f,rfl⟩:∃f,g=f+1:=⟨g-1,by omega⟩
  suffices f≤R/D by omega
  rw[Nat.le_div_iff_mul_le hD0];have h6:P*((f+1)*(b0+BB*b1))≤P*(a0+BB*(a1+BB*a2)):=Nat.mul_le_mul_left _ h3;have h7:f*ld≤BB*P:=Nat.mul_le_mul (by omega) (by omega);have h8:BB*P≤P*(b0+BB*b1):=by
   rw[Nat.mul_comm BB P];refine Nat.mul_le_mul_left _ ?_;have:BB*1≤BB*b1:=Nat.mul_le_mul_left _ hb1;omega
  have e:f*D=f*ld+P*(f*(b0+BB*b1)):=by rw[hD,Nat.mul_add,Nat.mul_left_comm]
  have e2:P*((f+1)*(b0+BB*b1))=P*(f*(b0+BB*b1))+P*(b0+BB*b1):=by rw[Nat.add_mul,Nat.one_mul,Nat.mul_add]
  omega
theorem ahI {g:Nat}(hR:R=lo+P*(a0+BB*(a1+BB*a2)))(hlo:lo<P)(hD:D=ld+P*(b0+BB*b1))(htop:g*b1≤a2*BB+a1)
 (h:¬g*b0≤(a2*BB+a1-g*b1)*BB+a0):R/D<g:=by
 have h1:=xW hR hlo hD;rcases Nat.lt_or_ge (R/D) g with hh|hh
 ·exact hh
 ·exfalso
  have h2:g*(b0+BB*b1)≤R/D*(b0+BB*b1):=Nat.mul_le_mul_right _ hh;obtain⟨left,hleft⟩:∃left,a2*BB+a1=g*b1+left:=⟨a2*BB+a1-g*b1,by omega⟩;rw[hleft,Nat.add_sub_cancel_left]at h;have e:BB*(a1+BB*a2)=BB*(g*b1)+BB*left:=by rw[←Nat.mul_add, ←hleft,Nat.mul_comm a2 BB,Nat.add_comm]
  rw[e]at h1;have e2:g*(b0+BB*b1)=g*b0+BB*(g*b1):=by rw[Nat.mul_add,Nat.mul_left_comm]
  rw[Nat.mul_comm left BB]at h;omega
end
theorem adl {a b o:List Nat}{i j g cy x y:Nat}(hx:o[i+j]? =some x)(hy:b[j]? =some y)(h:ak o+g*ak (b.take j)*BB^i=ak a+cy*BB^(i+j))(hle:(g*y+cy)%BB≤x):
 ak (o.set (i+j) (x-(g*y+cy)%BB))+g*ak (b.take (j+1))*BB^i=ak a+((g*y+cy)/BB)*BB^(i+(j+1)):=by
 have h1:=dP o (i+j) x (x-(g*y+cy)%BB) hx;rw[aY,hy,Option.getD_some];have h2:=Nat.mod_add_div (g*y+cy) BB;generalize (g*y+cy)%BB=r at*
 generalize (g*y+cy)/BB=q at*
 obtain⟨d,rfl⟩:∃d,x=d+r:=⟨x-r,by omega⟩;rw[Nat.add_sub_cancel]at h1⊢
 rw[Nat.pow_add,Nat.pow_add,Nat.pow_succ]at*
 generalize BB^j=P at*
 generalize BB^i=Q at*
 generalize ak (b.take j)=M at*
 generalize ak (o.set (i+j) d)=V' at*
 have h3:Q*P*(r+BB*q)=Q*P*(g*y+cy):=by rw[h2]
 grind
theorem adk {a b o:List Nat}{i j g cy x y:Nat}(hx:o[i+j]? =some x)(hy:b[j]? =some y)(h:ak o+g*ak (b.take j)*BB^i=ak a+cy*BB^(i+j)):
 ak (o.set (i+j) (x+BB-(g*y+cy)%BB))+g*ak (b.take (j+1))*BB^i=ak a+((g*y+cy)/BB+1)*BB^(i+(j+1)):=by
 have h1:=dP o (i+j) x (x+BB-(g*y+cy)%BB) hx;rw[aY,hy,Option.getD_some];have h2:=Nat.mod_add_div (g*y+cy) BB;have h0:=Nat.mod_lt (g*y+cy) bV;generalize (g*y+cy)%BB=r at*
 generalize (g*y+cy)/BB=q at*
 obtain⟨d,hd⟩:∃d,x+BB=d+r:=⟨x+BB-r,by omega⟩;rw[hd,Nat.add_sub_cancel]at h1⊢
 rw[Nat.pow_add,Nat.pow_add,Nat.pow_succ]at*
 generalize BB^j=P at*
 generalize BB^i=Q at*
 generalize ak (b.take j)=M at*
 generalize ak (o.set (i+j) d)=V' at*
 have h3:Q*P*(r+BB*q)=Q*P*(g*y+cy):=by rw[h2]
 have h4:Q*P*(x+BB)=Q*P*(d+r):=by rw[hd]
 grind
theorem adm {g cy y x:Nat}(hg:g<BB)(hcy:cy<BB)(hy:y<BB):g*y≤999999998000000001∧(g*y+cy)/BB<BB∧(x<(g*y+cy)%BB→(g*y+cy)/BB+1<BB):=by
 have h0:g*y≤999999998000000001:=Nat.mul_le_mul (show g≤999999999 by unfold BB at hg;omega) (show y≤999999999 by unfold BB at hy;omega);generalize g*y=p at*
 unfold BB at*
 refine⟨h0,?_,?_⟩<;>omega
theorem aiC {o0 b o:List Nat}{i j cy x y:Nat}(hx:o[i+j]? =some x)(hy:b[j]? =some y)(h:ak o+cy*BB^(i+j)=ak o0+ak (b.take j)*BB^i):
 ak (o.set (i+j) ((x+(y+cy))%BB))+((x+(y+cy))/BB)*BB^(i+(j+1))=ak o0+ak (b.take (j+1))*BB^i:=by
 have h1:=dP o (i+j) x ((x+(y+cy))%BB) hx;rw[aY,hy,Option.getD_some];have h2:=Nat.mod_add_div (x+(y+cy)) BB;generalize (x+(y+cy))%BB=r at*
 generalize (x+(y+cy))/BB=q at*
 rw[Nat.pow_add,Nat.pow_add,Nat.pow_succ]at*
 generalize BB^j=P at*
 generalize BB^i=Q at*
 generalize ak (b.take j)=M at*
 generalize ak (o.set (i+j) r)=V' at*
 generalize ak o=V at*
 generalize ak o0=U at*
 have h3:Q*P*(r+BB*q)=Q*P*(x+(y+cy)):=by rw[h2]
 grind
def Alike (i:Nat)(a o:List Nat):Prop:=o.length=a.length∧∀t,t<i→o[t]? =a[t]?
theorem Alike.refl (i:Nat)(a:List Nat):Alike i a a:=⟨rfl,fun _ _=>rfl⟩
theorem Alike.set {i j v:Nat}{a o:List Nat}(h:Alike i a o)(hj:i≤j):Alike i a (o.set j v):=
 ⟨by rw[List.length_set];exact h.1,fun t ht=>by rw[List.getElem?_set_ne (by omega)];exact h.2 t ht⟩
theorem Alike.trans {i:Nat}{a o p:List Nat}(h:Alike i a o)(h2:Alike i o p):Alike i a p:=⟨h2.1.trans h.1,fun t ht=>(h2.2 t ht).trans (h.2 t ht)⟩
theorem Alike.take {i:Nat}{a o:List Nat}(h:Alike i a o):o.take i=a.take i:=by
 apply List.ext_getElem?;intro t;rw[alF,alF];by_cases ht:t<i
 ·rw[if_pos ht,if_pos ht];exact h.2 t ht
 ·rw[if_neg ht,if_neg ht]
theorem Alike.drop {i:Nat}{a o:List Nat}(h:Alike i a o)(hi:i≤a.length){u v:Nat}(e:ak o+u*BB^i=ak a+v*BB^i):ak (o.drop i)+u=ak (a.drop i)+v:=by
 have h1:=aR o i (by rw[h.1];exact hi);have h2:=aR a i hi;rw[h.take]at h1;rw[h1,h2]at e;generalize ak (a.take i)=T at*
 have h3:BB^i*(ak (o.drop i)+u)=BB^i*(ak (a.drop i)+v):=by
  rw[Nat.mul_add,Nat.mul_add,Nat.mul_comm _ u,Nat.mul_comm _ v];omega
 exact Nat.eq_of_mul_eq_mul_left (Nat.pow_pos bV) h3
theorem abq {a o:List Nat}{i k a2:Nat}(ho:Small o)(hl:o.length=a.length)(h2:a[i+k]? =some a2)(hz:ak (a.drop (i+k+1))=0)(hs:∀t,i+k≤t→o[t]? =a[t]?):
 ∃lo,lo<BB^k∧ak (o.drop i)=lo+BB^k*a2:=by
 have hlen:i+k<a.length:=by
  rcases Nat.lt_or_ge (i+k) a.length with h|h
  ·exact h
  ·rw[alB h]at h2;cases h2
 have e:=aR (o.drop i) k (by rw[List.length_drop];omega);have ho2:o[i+k]? =some a2:=(hs (i+k) alK).trans h2;have hd:o.drop (i+k+1)=a.drop (i+k+1):=by
  apply List.ext_getElem?;intro t;rw[List.getElem?_drop,List.getElem?_drop];exact hs _ (by omega)
 rw[List.drop_drop,aK ho2,hd,hz,Nat.mul_zero,Nat.add_zero]at e;refine⟨_,?_,e⟩;have:=jy _ ((ho.drop i).take k);rwa[alr,List.length_drop,Nat.min_eq_left (by omega)]at this
theorem acE {R D g r:Nat}(h:r+g*D=R)(hr:r<D):g=R/D∧r=R%D:=by
 subst h;rw[Nat.add_mul_div_right _ _ (by omega),Nat.div_eq_of_lt hr,Nat.add_mul_mod_self_right,Nat.mod_eq_of_lt hr];simp
theorem agA {a o:List Nat}{i k g cy a2 D:Nat}(hal:Alike i a o)(hlen:i+k<a.length)(ho2:o[i+k]? =some a2)(h:ak o+g*D*BB^i=ak a+cy*BB^(i+k))(hle:cy≤a2)
 (hq:ak (a.drop i)/D≤g) (hD:0<D):g=ak (a.drop i)/D∧ak ((o.set (i+k) (a2-cy)).drop i)=ak (a.drop i)%D:=by
 have h1:=dP o (i+k) a2 (a2-cy) ho2;have hal':Alike i a (o.set (i+k) (a2-cy)):=hal.set (by omega);have e:ak (o.set (i+k) (a2-cy))+(g*D)*BB^i=ak a+0*BB^i:=by
  obtain⟨d,rfl⟩:∃d,a2=d+cy:=⟨a2-cy,by omega⟩;rw[Nat.add_sub_cancel]at h1⊢
  rw[Nat.mul_add,Nat.mul_comm _ cy]at h1;omega
 have e2:=hal'.drop (by omega) e;rw[Nat.add_zero]at e2;have hg:g≤ak (a.drop i)/D:=by rw[Nat.le_div_iff_mul_le hD];omega
 obtain rfl:g=ak (a.drop i)/D:=by omega
 refine⟨rfl,?_⟩;have:=Nat.mod_add_div (ak (a.drop i)) D;rw[Nat.mul_comm]at this;omega
theorem agz {a o:List Nat}{i k g cy a2 D:Nat}(ho:Small o)(hal:Alike i a o)(h2:a[i+k]? =some a2)(hz:ak (a.drop (i+k+1))=0)(hs:∀t,i+k≤t→o[t]? =a[t]?)
 (h:ak o+g*D*BB^i=ak a+cy*BB^(i+k)) (hlt:a2<cy) (hq:g≤ak (a.drop i)/D+1) (hD:0<D):g=ak (a.drop i)/D+1:=by
 have hlen:i+k<a.length:=by
  rcases Nat.lt_or_ge (i+k) a.length with h|h
  ·exact h
  ·rw[alB h]at h2;cases h2
 obtain⟨lo,hlo,e⟩:=abq ho hal.1 h2 hz hs;have e2:ak o+(g*D)*BB^i=ak a+(cy*BB^k)*BB^i:=by rw[h,Nat.pow_add,Nat.mul_assoc cy,Nat.mul_comm (BB^i)]
 have e3:=hal.drop (by omega) e2;have h3:BB^k*(a2+1)≤BB^k*cy:=Nat.mul_le_mul_left _ hlt;rw[Nat.mul_add,Nat.mul_comm _ cy]at h3;have h4:ak (a.drop i)<g*D:=by omega
 have h5:ak (a.drop i)/D<g:=by rw[Nat.div_lt_iff_lt_mul hD];exact h4
 omega
theorem akW {a o p:List Nat}{i k g cy c a2 D:Nat}(hp:Small p)(hal:Alike i a o)(hap:Alike i o p)(h2:a[i+k]? =some a2)(hz:ak (a.drop (i+k+1))=0)(hs:∀t,i+k≤t→o[t]? =a[t]?)(hsp:∀t,i+k≤t→p[t]? =o[t]?)
 (h:ak o+g*D*BB^i=ak a+cy*BB^(i+k)) (hg:g=ak (a.drop i)/D+1) (hD:0<D) (hDk:D<BB^k) (h3:ak p+c*BB^(i+k)=ak o+D*BB^i):
 a2+c=cy∧ak ((p.set (i+k) 0).drop i)=ak (a.drop i)%D:=by
 have hlen:i+k<a.length:=by
  rcases Nat.lt_or_ge (i+k) a.length with h|h
  ·exact h
  ·rw[alB h]at h2;cases h2
 have hsp':∀t,i+k≤t→p[t]? =a[t]?:=fun t ht=>(hsp t ht).trans (hs t ht)
 have hap':=hal.trans hap;obtain⟨lo,hlo,e⟩:=abq hp hap'.1 h2 hz hsp';have e2:ak p+(c*BB^k+ak (a.drop i)/D*D)*BB^i=ak a+(cy*BB^k)*BB^i:=by
  rw[Nat.pow_add]at h h3;subst hg;generalize ak (a.drop i)/D=q at*
  generalize BB^i=Q at*
  generalize BB^k=P at*
  grind
 have e3:=hap'.drop (by omega) e2;have h5:=Nat.mod_add_div (ak (a.drop i)) D;have h6:=Nat.mod_lt (ak (a.drop i)) hD;rw[Nat.mul_comm D]at h5;have e4:lo+BB^k*(a2+c)=ak (a.drop i)%D+BB^k*cy:=by rw[Nat.mul_add,Nat.mul_comm _ c,Nat.mul_comm _ cy];omega
 have hc:a2+c=cy:=by
  have d1:(lo+BB^k*(a2+c))/BB^k=a2+c:=by rw[Nat.add_mul_div_left _ _ (Nat.pow_pos bV),Nat.div_eq_of_lt hlo,Nat.zero_add]
  rw[e4,Nat.add_mul_div_left _ _ (Nat.pow_pos bV),Nat.div_eq_of_lt (by omega),Nat.zero_add]at d1;exact d1.symm
 subst hc;refine⟨rfl,?_⟩;have hp2:p[i+k]? =some a2:=(hsp' (i+k) alK).trans h2;have h7:=dP p (i+k) a2 0 hp2;have e5:ak (p.set (i+k) 0)+(BB^k*a2)*BB^i=ak p+0*BB^i:=by
  rw[Nat.pow_add]at h7;generalize BB^i=Q at*
  generalize BB^k=P at*
  grind
 have e6:=(Alike.refl i p).set (v:=0) (show i≤i+k by omega);have e7:=e6.drop (by rw[hap'.1];omega) e5;omega
theorem wT {v:Nat}(hv:v<BB):0<BB/(v+1):=Nat.div_pos (by omega) (by omega)
theorem adx {n k v:Nat}(hk:(mag n).length =k+1)(hv:(mag n)[k]? =some v):(mag (n*(BB/(v+1)))).length =k+1:=by
 have hvb:=(aS n).at hv;have hs:=wT hvb;have hv2:=Nat.mul_div_le BB (v+1);generalize BB/(v+1)=s at*
 have h1:n<BB^k*(v+1):=by
  have e:=aR (mag n) k (by omega);rw[aV,aK hv,show (mag n).drop (k+1)=[]from List.drop_eq_nil_of_le (by omega)]at e;have:=jy _ ((aS n).take k);rw[alr,hk,Nat.min_eq_left (by omega)]at this;simp only[ak,Nat.mul_zero,Nat.add_zero]at e;rw[Nat.mul_add];omega
 have h2:(mag (n*s)).length ≤k+1:=by
  rw[aC,Nat.pow_succ];have h3:n*s<BB^k*(v+1)*s:=Nat.mul_lt_mul_of_pos_right h1 hs;have h4:BB^k*((v+1)*s)≤BB^k*BB:=Nat.mul_le_mul_left _ hv2;rw[←Nat.mul_assoc]at h4;omega
 have h5:¬(mag (n*s)).length ≤k:=by
  intro h;rw[aC]at h;have h6:n*1≤n*s:=Nat.mul_le_mul_left _ hs;have h7:(mag n).length ≤k:=aC.2 (by omega);omega
 omega
theorem ady {m n s r Q:Nat}(hs:0<s)(h:r+Q*(n*s)=m*s)(hr:r<n*s):Q=m/n∧r/s=m%n:=by
 obtain⟨h1,h2⟩:=acE h hr;rw[Nat.mul_div_mul_right _ _ hs]at h1;rw[Nat.mul_mod_mul_right]at h2;exact⟨h1,by rw[h2,Nat.mul_div_cancel _ hs]⟩
theorem adR {a o q:List Nat}{i D A g:Nat}(hal:Alike i a o)(hi:i≤a.length)(hq:q[i]? =some 0)(h:ak a+ak q*D=A)(hg:g=ak (a.drop i)/D)(ho:ak (o.drop i)=ak (a.drop i)%D):
 ak o+ak (q.set i g)*D=A:=by
 have h1:=aR o i (by rw[hal.1];exact hi);have h2:=aR a i hi;rw[hal.take,ho]at h1;have h3:=dP q i 0 g hq;have h4:=Nat.mod_add_div (ak (a.drop i)) D;rw[←hg]at h4;generalize ak (a.drop i)%D=r at*
 generalize ak (a.drop i)=R at*
 generalize ak (a.take i)=T at*
 generalize ak (q.set i g)=q' at*
 generalize ak a=U at*
 generalize ak o=V at*
 generalize ak q=W at*
 generalize BB^i=P at*
 subst h4
 grind
end Dec
end Go.Proofs.YtjknklinhegdoaaGreatDoor
