/- A reckoner of closed runs: what lies where after some of a region's operations. Plain facts; no condition. A reckoner of closed runs: regions that leave their order open, the reckoning. Plain facts; no condition. A reckoner of closed runs: regions that leave their order open come to what their text's order comes to. Plain facts; condition: the tables are the program's. A reckoner of closed runs: the frame of an operation. Plain facts; condition: the tables are the program's. A reckoner of closed runs: a region that leaves its order open. Plain facts; condition: the tables are the program's. A reckoner of closed runs: a region that leaves its order open comes to what its text's order comes to. Plain facts; condition: the tables are the program's. A reckoner of closed runs: regions. Plain facts; condition: the tables are the program's. -/
import Derived.Test.YtjknklinhegdoaaGreatDoorEva
set_option linter.unusedSectionVars false
set_option linter.unusedSimpArgs false
set_option linter.unusedVariables false
namespace Go.Proofs.Q.Ev
open Go Go.RowKit
variable [Sym]
section
variable {α β:Type} (W:Nat→α→Option β) (init:α→β)
def dU (S:Nat→Bool):Nat→α→β
 |0,x=>init x
 |k+1,x=>if S k then(W k x).getD (dU S k x)else dU S k x
def abG:Nat→Bool:=fun _=>true
theorem dh (S:Nat→Bool)(k:Nat)(x:α):dU W init S (k+1) x=if S k then(W k x).getD (dU W init S k x)else dU W init S k x:=rfl
theorem qR (k:Nat)(x:α):dU W init abG (k+1) x=(W k x).getD (dU W init abG k x):=rfl
theorem acJ {S:Nat→Bool}{j n:Nat}{x:α}(hj:j<n)(hS:S j=false)(h:∀i,i<n→(W i x).isSome =true→i≠j→(i<j→S i=true)∧(j<i→S i=false)):dU W init S n x=dU W init abG j x:=by
 have h1:∀k,k≤j→dU W init S k x=dU W init abG k x:=by
  intro k
  induction k with
  |zero=>intro _;rfl
  |succ k ih=>
   intro hk;rw[qR];rw[dh,ih (by omega)];cases hw:W k x with
   |none=>simp
   |some b=>rw[(h k (by omega) (by rw[hw];rfl) (by omega)).1 (by omega)];rfl
 have h2:∀d,j+d≤n→dU W init S (j+d) x=dU W init S j x:=by
  intro d
  induction d with
  |zero=>intro _;rfl
  |succ d ih=>
   intro hd;rw[←Nat.add_assoc];rw[dh,ih (by omega)];by_cases e:d=0
   ·subst e;rw[Nat.add_zero,hS];rfl
   ·cases hw:W (j+d) x with
    |none=>simp
    |some b=>rw[(h (j+d) (by omega) (by rw[hw];rfl) (by omega)).2 (by omega)];rfl
 have:=h2 (n-j) (by omega);rw[show j+(n-j)=n by omega]at this;rw[this,h1 j alK]
def jf (S:Nat→Bool)(j:Nat):Nat→Bool:=fun i=>if i=j then true else S i
theorem afg {S:Nat→Bool}{j n:Nat}{x:α}(hj:j<n)(hS:S j=false)(h:∀i,i<n→(W i x).isSome =true→(W j x).isSome =true→j<i→S i=false):dU W init (jf S j) n x=(W j x).getD (dU W init S n x):=by
 have h1:∀k,k≤j→dU W init (jf S j) k x=dU W init S k x:=by
  intro k
  induction k with
  |zero=>intro _;rfl
  |succ k ih=>
   intro hk;rw[dh,dh,ih (by omega),show jf S j k=S k by simp[jf];omega]
 have h2:∀d,j+1+d≤n→dU W init (jf S j) (j+1+d) x=(W j x).getD (dU W init S (j+1+d) x):=by
  intro d
  induction d with
  |zero=>
   intro _;rw[show j+1+0=j+1 from rfl,dh,dh,h1 j alK,show jf S j j=true by simp[jf],hS];rfl
  |succ d ih=>
   intro hd;rw[←Nat.add_assoc];rw[dh,dh,ih (by omega),show jf S j (j+1+d)=S (j+1+d)by simp[jf];omega];cases hw:W (j+1+d) x with
   |none=>simp
   |some b=>
    cases hwj:W j x with
    |none=>rfl
    |some c=>rw[h (j+1+d) (by omega) (by rw[hw];rfl) (by rw[hwj];rfl) (by omega)];rfl
 have:=h2 (n-(j+1)) (by omega);rw[show j+1+(n-(j+1))=n by omega]at this;exact this
theorem nL {S:Nat→Bool}(h:∀i,S i=false):∀(k:Nat) (x:α),dU W init S k x=init x
 |0,_=>rfl
 |k+1,x=>by rw[dh,h k,nL h k x];rfl
theorem ul {S:Nat→Bool}{n:Nat}(h:∀i,i<n→S i=true):∀(k:Nat) (x:α),k≤n→dU W init S k x=dU W init abG k x
 |0,_,_=>rfl
 |k+1,x,hk=>by rw[qR,dh,h k hk,ul h k x (by omega)];rfl
end
def rY:Option (Value×AV)→Option AObj→Option AObj
 |some p,some (.map es)=>some (.map (es++ [p]))
 |_,o=>o
theorem bT (o:Option AObj):rY none o=o:=by cases o<;>rfl
theorem af6 {p:Option (Value×AV)}{o:Option AObj}{b:AObj}(h:rY p o=some b):∃b',o=some b':=by
 cases o with
 |none=>cases p<;>cases h
 |some o=>exact⟨o,rfl⟩
def Sim (a b:Option AObj):Prop:=a=b∨∃es fs,a=some (.map es)∧b=some (.map fs)∧es.Perm fs
theorem Sim.refl (a:Option AObj):Sim a a:=.inl rfl
theorem Sim.trans {a b c:Option AObj}(h1:Sim a b)(h2:Sim b c):Sim a c:=by
 rcases h1 with e1|⟨es,fs,rfl,rfl,p⟩
 ·subst e1;exact h2
 ·rcases h2 with e2|⟨es',fs',e2,rfl,p'⟩
  ·subst e2;exact .inr ⟨es,fs,rfl,rfl,p⟩
  ·cases e2;exact .inr ⟨es,fs',rfl,rfl,p.trans p'⟩
theorem Sim.add {a b:Option AObj}(h:Sim a b)(p:Option (Value×AV)):Sim (rY p a) (rY p b):=by
 rcases h with e|⟨es,fs,rfl,rfl,q⟩
 ·subst e;exact Sim.refl _
 ·cases p with
  |none=>exact .inr ⟨es,fs,rfl,rfl,q⟩
  |some p=>exact .inr ⟨_,_,rfl,rfl,q.append_right _⟩
theorem af5 (p q:Option (Value×AV))(o:Option AObj):Sim (rY p (rY q o)) (rY q (rY p o)):=by
 cases p with
 |none=>rw[bT,bT];exact Sim.refl _
 |some p=>
  cases q with
  |none=>rw[bT,bT];exact Sim.refl _
  |some q=>
   cases o with
   |none=>exact Sim.refl _
   |some o=>
    cases o with
    |map es=>
     refine .inr ⟨_,_,rfl,rfl,?_⟩;show (es++ [q]++ [p]).Perm (es++ [p]++ [q]);rw[List.append_assoc,List.append_assoc];exact List.Perm.append_left es (List.Perm.swap p q [])
    |_=>exact Sim.refl _
section
variable (W:Nat→Nat→Option (Option AObj)) (A:Nat→Nat→Option (Value×AV)) (init:Nat→Option AObj)
def bU (S:Nat→Bool):Nat→Nat→Option AObj
 |0,x=>init x
 |k+1,x=>if S k then rY (A k x) ((W k x).getD (bU S k x))else bU S k x
theorem bR (S:Nat→Bool)(k x:Nat):bU W A init S (k+1) x=if S k then rY (A k x) ((W k x).getD (bU W A init S k x))else bU W A init S k x:=rfl
theorem jE (k x:Nat):bU W A init abG (k+1) x=rY (A k x) ((W k x).getD (bU W A init abG k x)):=rfl
theorem yX {k x:Nat}(h1:W k x=none)(h2:A k x=none)(o:Option AObj):rY (A k x) ((W k x).getD o)=o:=by rw[h1,h2,bT];rfl
theorem acK {S:Nat→Bool}{j n:Nat}{x:Nat}(hj:j<n)(hS:S j=false)(h:∀i,i<n→((W i x).isSome =true∨(A i x).isSome =true)→i≠j→(i<j→S i=true)∧(j<i→S i=false)):bU W A init S n x=bU W A init abG j x:=by
 have quiet:∀i,¬((W i x).isSome =true∨(A i x).isSome =true)→W i x=none∧A i x=none:=fun i hn=>by
  constructor
  ·cases hw:W i x with
   |none=>rfl
   |some b=>exact absurd (.inl (by rw[hw];rfl)) hn
  ·cases hw:A i x with
   |none=>rfl
   |some b=>exact absurd (.inr (by rw[hw];rfl)) hn
 have h1:∀k,k≤j→bU W A init S k x=bU W A init abG k x:=by
  intro k
  induction k with
  |zero=>intro _;rfl
  |succ k ih=>
   intro hk;rw[jE,bR,ih (by omega)];by_cases hq:(W k x).isSome =true∨(A k x).isSome =true
   ·rw[(h k (by omega) hq (by omega)).1 (by omega)];rfl
   ·obtain⟨q1,q2⟩:=quiet k hq
    rw[yX W A q1 q2];split<;>rfl
 have h2:∀d,j+d≤n→bU W A init S (j+d) x=bU W A init S j x:=by
  intro d
  induction d with
  |zero=>intro _;rfl
  |succ d ih=>
   intro hd;rw[←Nat.add_assoc,bR,ih (by omega)];by_cases e:d=0
   ·subst e;rw[Nat.add_zero,hS];rfl
   ·by_cases hq:(W (j+d) x).isSome =true∨(A (j+d) x).isSome =true
    ·rw[(h (j+d) (by omega) hq (by omega)).2 (by omega)];rfl
    ·obtain⟨q1,q2⟩:=quiet _ hq
     rw[yX W A q1 q2];split<;>rfl
 have:=h2 (n-j) (by omega);rw[show j+(n-j)=n by omega]at this;rw[this,h1 j alK]
theorem afh {S:Nat→Bool}{j n:Nat}{x:Nat}(hj:j<n)(hS:S j=false)(h:∀i,i<n→j<i→S i=true→((W i x).isSome =true→W j x=none∧A j x=none)∧((A i x).isSome =true→W j x=none)):
 Sim (bU W A init (jf S j) n x) (rY (A j x) ((W j x).getD (bU W A init S n x))):=by
 have h1:∀k,k≤j→bU W A init (jf S j) k x=bU W A init S k x:=by
  intro k
  induction k with
  |zero=>intro _;rfl
  |succ k ih=>
   intro hk;rw[bR,bR,ih (by omega),show jf S j k=S k by simp[jf];omega]
 have h2:∀d,j+1+d≤n→Sim (bU W A init (jf S j) (j+1+d) x) (rY (A j x) ((W j x).getD (bU W A init S (j+1+d) x))):=by
  intro d
  induction d with
  |zero=>
   intro _;rw[show j+1+0=j+1 from rfl,bR,bR,h1 j alK,show jf S j j=true by simp[jf],hS];exact Sim.refl _
  |succ d ih=>
   intro hd;rw[←Nat.add_assoc,bR,bR,show jf S j (j+1+d)=S (j+1+d)by simp[jf];omega];have ih':=ih (by omega);cases hs:S (j+1+d)with
   |false=>simpa[hs]using ih'
   |true=>
    simp only[if_true];obtain⟨q1,q2⟩:=h (j+1+d) (by omega) (by omega) hs;cases hw:W (j+1+d) x with
    |some c=>
     obtain⟨e1,e2⟩:=q1 (by rw[hw];rfl);rw[yX W A e1 e2];exact Sim.refl _
    |none=>
     simp only[Option.getD_none];cases ha:A (j+1+d) x with
     |none=>rw[bT,bT];exact ih'
     |some p=>
      have e1:=q2 (by rw[ha];rfl);rw[e1]at ih'⊢
      simp only[Option.getD_none]at ih'⊢
      exact(ih'.add _).trans (af5 _ _ _)
 have:=h2 (n-(j+1)) (by omega);rw[show j+1+(n-(j+1))=n by omega]at this;exact this
theorem um {S:Nat→Bool}(h:∀i,S i=false):∀(k x:Nat),bU W A init S k x=init x
 |0,_=>rfl
 |k+1,x=>by rw[bR,h k,um h k x];rfl
theorem uo {S:Nat→Bool}{n:Nat}(h:∀i,i<n→S i=true):∀(k x:Nat),k≤n→bU W A init S k x=bU W A init abG k x
 |0,_,_=>rfl
 |k+1,x,hk=>by rw[jE,bR,h k hk,uo h k x (by omega)];rfl
def Sub (a b:Option AObj):Prop:=a=b∨∃es fs,a=some (.map es)∧b=some (.map fs)∧∀e∈es,e∈fs
theorem Sub.add {a b:Option AObj}(h:Sub a b)(p:Option (Value×AV)):Sub (rY p a) (rY p b):=by
 rcases h with e|⟨es,fs,rfl,rfl,q⟩
 ·subst e;exact .inl rfl
 ·cases p with
  |none=>exact .inr ⟨es,fs,rfl,rfl,q⟩
  |some p=>exact .inr ⟨_,_,rfl,rfl,fun e he=>by
   rcases List.mem_append.1 he with h1|h1
   ·exact List.mem_append_left _ (q e h1)
   ·exact List.mem_append_right _ h1⟩
theorem Sub.more {a b:Option AObj}(h:Sub a b)(p:Option (Value×AV)):Sub a (rY p b):=by
 cases p with
 |none=>rw[bT];exact h
 |some p=>
  rcases h with e|⟨es,fs,rfl,rfl,q⟩
  ·subst e
   cases a with
   |none=>exact .inl rfl
   |some o=>
    cases o with
    |map es=>exact .inr ⟨es,_,rfl,rfl,fun e he=>List.mem_append_left _ he⟩
    |_=>exact .inl rfl
  ·exact .inr ⟨es,_,rfl,rfl,fun e he=>List.mem_append_left _ (q e he)⟩
theorem acL {S:Nat→Bool}{j n x:Nat}(F:Value×AV→Prop)(hj:j<n)(hS:S j=false)(h:∀i,i<n→(W i x).isSome =true→i≠j→(i<j→S i=true)∧(j<i→S i=false))(hA:∀i p,i<n→j<i→S i=true→A i x=some p→F p){es:List (Value×AV)}(he:bU W A init abG j x=some (.map es))(hF:∀e∈es,F e):
 ∃es2,bU W A init S n x=some (.map es2)∧∀e∈es2,F e:=by
 have h1:∀k,k≤j→Sub (bU W A init S k x) (bU W A init abG k x):=by
  intro k
  induction k with
  |zero=>intro _;exact .inl rfl
  |succ k ih=>
   intro hk;rw[jE,bR];have ih':=ih (by omega);cases hw:W k x with
   |some c=>rw[(h k (by omega) (by rw[hw];rfl) (by omega)).1 (by omega)];exact .inl rfl
   |none=>
    simp only[Option.getD_none];cases hs:S k with
    |true=>exact ih'.add _
    |false=>exact ih'.more _
 have h2:∀d,j+d≤n→∃es2,bU W A init S (j+d) x=some (.map es2)∧∀e∈es2,F e:=by
  intro d
  induction d with
  |zero=>
   intro _;rcases h1 j alK with e|⟨es1,fs,e1,e2,q⟩
   ·exact⟨es,e.trans he,hF⟩
   ·rw[he]at e2
    cases e2;exact⟨es1,e1,fun e hm=>hF e (q e hm)⟩
  |succ d ih=>
   intro hd;obtain⟨es2,e1,e2⟩:=ih (by omega);rw[←Nat.add_assoc,bR];by_cases e:d=0
   ·subst e;rw[Nat.add_zero,hS];exact⟨es2,by simpa using e1,e2⟩
   ·cases hs:S (j+d)with
    |false=>exact⟨es2,by simpa using e1,e2⟩
    |true=>
     simp only[if_true];cases hw:W (j+d) x with
     |some c=>
      have:=(h (j+d) (by omega) (by rw[hw];rfl) (by omega)).2 (by omega);rw[hs]at this;cases this
     |none=>
      simp only[Option.getD_none];rw[e1];cases ha:A (j+d) x with
      |none=>exact⟨es2,bT _,e2⟩
      |some p=>exact⟨es2++ [p],rfl,fun e he=>by
       rcases List.mem_append.1 he with q|q
       ·exact e2 e q
       ·rw[List.mem_singleton]at q;subst q;exact hA _ _ (by omega) (by omega) hs ha⟩
 have:=h2 (n-j) (by omega);rwa[show j+(n-j)=n by omega]at this
end
def maskOf (ms:Nat→Nat)(es:List Nat):Nat:=es.foldl (fun s e=>s|||2^e|||ms e) 0
theorem qy (ms:Nat→Nat)(i:Nat):∀(es:List Nat) (s:Nat),(es.foldl (fun s e=>s|||2^e|||ms e) s).testBit i=true→s.testBit i=true∨∃e∈es,i=e∨(ms e).testBit i=true
 | [],s,h=>.inl h
 |e::es,s,h=>by
  rcases qy ms i es _ h with h1|⟨e',he',h1⟩
  ·simp only[Nat.testBit_or,Bool.or_eq_true]at h1
   rcases h1 with (h1|h1)|h1
   ·exact .inl h1
   ·rw[Nat.testBit_two_pow]at h1
    exact .inr ⟨e,alm,.inl (by have:=of_decide_eq_true h1;exact this.symm)⟩
   ·exact .inr ⟨e,alm,.inr h1⟩
  ·exact .inr ⟨e',alo _ he',h1⟩
def mM (o:Oper):List Nat:=(o.after.toList.filter fun e=>Region.binds .any e).map (·.on)
def masks (ms:List Nat):List Oper→List Nat
 | []=>ms
 |o::l=>masks (ms++ [maskOf (fun e=>ms.getD e 0) (mM o)]) l
end Go.Proofs.Q.Ev
namespace Go.Proofs.Q.Ev
open Go Go.RowKit
variable [Sym]
def bK {α:Type}(n:Nat):List (Nat×α)→Option α
 | []=>none
 |p::l=>bif Nat.beq p.1 n then some p.2 else bK n l
theorem yI {α:Type}{n:Nat}{a:α}:∀ {l:List (Nat×α)},bK n l=some a→(n,a)∈l
 |p::l,h=>by
  unfold bK at h;cases hb:Nat.beq p.1 n with
  |true=>
   rw[hb]at h;have h':some p.2=some a:=h;cases h';have:=alg hb;subst this;exact alm
  |false=>rw[hb]at h;exact alo _ (yI h)
theorem gF {α:Type}{n:Nat}:∀ {l:List (Nat×α)},(∀p∈l,p.1≠n)→bK n l=none
 | [],_=>rfl
 |p::l,h=>by
  unfold bK;cases hb:Nat.beq p.1 n with
  |true=>exact absurd (alg hb) (h p alm)
  |false=>exact gF fun q hq=>h q (alo _ hq)
theorem jF {α:Type}(n:Nat):∀(l m:List (Nat×α)),bK n (l++m)=(bK n l).or (bK n m)
 | [],m=>by simp[bK]
 |p::l,m=>by
  show (bif Nat.beq p.1 n then some p.2 else bK n (l++m))=(bif Nat.beq p.1 n then some p.2 else bK n l).or (bK n m);cases hb:Nat.beq p.1 n with
  |true=>rfl
  |false=>exact jF n l m
def evL (l:List (Nat×AV)):Operand→AV
 | .tmp t=>(bK t l).getD (.lit undef)
 | .const v=>.lit v
 | .global g=>.lit (.pointer (some ⟨g,0,none⟩))
 | .func f=>.func f []
def jW:List (Nat×AObj)→Heap
 | []=>.leaf
 |p::l=>bif Nat.blt p.1 lim then(jW l).set p.1 p.2 else jW l
theorem ny:∀ {l:List (Nat×AObj)} {n:Nat} {o:AObj},(jW l).get n=some o→(n,o)∈l
 |p::l,n,o,h=>by
  unfold jW at h;cases hb:Nat.blt p.1 lim with
  |true=>
   rw[hb]at h;have h':((jW l).set p.1 p.2).get n=some o:=h;rw[aU (by simpa[Nat.blt_eq]using hb)]at h';split at h'
   ·rename_i e;subst e;cases h';exact alm
   ·exact alo _ (ny h')
  |false=>rw[hb]at h;exact alo _ (ny h)
mutual
def AV.names:AV→List Nat
 | .lit _| .sym _=>[]
 | .ptr n _| .slice n _ _ _| .map n| .yield n| .rptr n _| .rsl n _=>[n]
 | .func _ l| .agg l| .tup l=>jV l
 | .iface _ v=>v.names
def jV:List AV→List Nat
 | []=>[]
 |v::l=>v.names++jV l
end
def ahe:AObj→List Nat
 | .cells l _ _=>jV l
 | .map es=>es.flatMap fun e=>e.2.names
 | .row l _=>jV l
 | .loop _ _ tm _ _ _ _ d=>d::namesT tm
 |_=>[]
where namesT:Tr AV→List Nat
 | .leaf =>[]
 | .node l v r=>namesT l++(match v with|some x=>x.names|none=>[])++namesT r
def acj (n:Nat):List Nat→Bool
 | []=>false
 |m::l=>Nat.beq m n||acj n l
theorem mZ {n:Nat}:∀ {l:List Nat},acj n l=true↔n∈l
 | []=>by simp[acj]
 |m::l=>by
  simp only[acj,Bool.or_eq_true,Nat.beq_eq,List.mem_cons,mZ (l:=l)];constructor<;>(rintro(h|h);exact .inl h.symm;exact .inr h)
def reach (H:Heap):Nat→List Nat→List Nat→List Nat
 |0,_,seen=>seen
 |_+1,[],seen=>seen
 |f+1,n::todo,seen=>bif acj n seen then reach H f todo seen else match H.get n with
  |some o=>reach H f (ahe o++todo) (n::seen)
  |none=>reach H f todo seen
def foot (H:Heap)(ρ:Operand→AV)(o:Op):List Nat:=
 match o with
 | .load _ x| .store _ x _| .slice _ x _ _ _=>match ρ x with
  | .ptr n _| .slice n _ _ _| .rptr n _=>[n]
  |_=>[]
 | .call {callee:=.value f,args, ..}=>reach H 100000 ((ρ f).names ++jV (args.toList.map ρ)) []
 | .call {args, ..}=>jV (args.toList.map ρ)
 | .lookup _ m _ _| .mapUpdate _ m _ _| .insert _ m _ _=>(ρ m).names
 |_=>[]
def agN:Value→Value→Bool
 | .bool a,.bool b=>a==b
 | .int j a,.int k b=>decide (j=k)&&decide (a=b)
 | .string a,.string b=>aiw a.data.toList b.data.toList
 | .pointer none,.pointer none=>true
 | .slice none a b,.slice none c d=>Nat.beq a c&&Nat.beq b d
 | .map none,.map none=>true
 | .nilFunc,.nilFunc =>true
 | .nilIface,.nilIface =>true
 |_,_=>false
theorem aaH {x y:Value}(h:agN x y=true):x=y:=by
 unfold agN at h;split at h<;>first|(cases h;done)|rfl|skip
 ·simp at h;subst h;rfl
 ·simp only[ale,decide_eq_true_eq]at h;rw[h.1,h.2]
 ·rename_i a b
  rw[nO,beq_iff_eq]at h;congr 1;apply ByteArray.ext;exact Array.ext' h
 ·simp only[ale,Nat.beq_eq]at h;rw[h.1,h.2]
def ajl:Cap→Cap→Bool
 | .ex a,.ex b=>Nat.beq a b
 | .rest a,.rest b=>Nat.beq a b
 |_,_=>false
theorem agO {x y:Cap}(h:ajl x y=true):x=y:=by
 unfold ajl at h;split at h
 ·rw[alg h]
 ·rw[alg h]
 ·cases h
mutual
def lh:AV→AV→Bool
 | .lit a,.lit b=>agN a b
 | .ptr n o,.ptr m p=>Nat.beq n m&&Nat.beq o p
 | .slice n o l c,.slice m p k d=>Nat.beq n m&&(Nat.beq o p&&(Nat.beq l k&&ajl c d))
 | .map n,.map m=>Nat.beq n m
 | .yield n,.yield m=>Nat.beq n m
 | .sym n,.sym m=>Nat.beq n m
 | .rptr n o,.rptr m p=>Nat.beq n m&&Nat.beq o p
 | .rsl n o,.rsl m p=>Nat.beq n m&&Nat.beq o p
 | .func f l,.func g m=>Nat.beq f g&&nU l m
 | .agg l,.agg m=>nU l m
 | .tup l,.tup m=>nU l m
 | .iface t v,.iface u w=>Nat.beq t u&&lh v w
 |_,_=>false
def nU:List AV→List AV→Bool
 | [],[]=>true
 |a::l,b::m=>lh a b&&nU l m
 |_,_=>false
end
mutual
theorem om:∀ {x y:AV},lh x y=true→x=y
 | .lit a,.lit b,h=>by rw[aaH h]
 | .ptr n o,.ptr m p,h=>by simp only[lh,ale,Nat.beq_eq]at h;rw[h.1,h.2]
 | .slice n o l c,.slice m p k d,h=>by simp only[lh,ale,Nat.beq_eq]at h;rw[h.1,h.2.1,h.2.2.1,agO h.2.2.2]
 | .map n,.map m,h=>by simp only[lh,Nat.beq_eq]at h;rw[h]
 | .yield n,.yield m,h=>by simp only[lh,Nat.beq_eq]at h;rw[h]
 | .sym n,.sym m,h=>by simp only[lh,Nat.beq_eq]at h;rw[h]
 | .rptr n o,.rptr m p,h=>by simp only[lh,ale,Nat.beq_eq]at h;rw[h.1,h.2]
 | .rsl n o,.rsl m p,h=>by simp only[lh,ale,Nat.beq_eq]at h;rw[h.1,h.2]
 | .func f l,.func g m,h=>by simp only[lh,ale,Nat.beq_eq]at h;rw[h.1,iq h.2]
 | .agg l,.agg m,h=>by rw[iq h]
 | .tup l,.tup m,h=>by rw[iq h]
 | .iface t v,.iface u w,h=>by simp only[lh,ale,Nat.beq_eq]at h;rw[h.1,om h.2]
theorem iq:∀ {l m:List AV},nU l m=true→l=m
 | [],[],_=>rfl
 |a::l,b::m,h=>by simp only[nU,ale]at h;rw[om h.1,iq h.2]
end
def zn:AObj→AObj→Bool
 | .cells l t ex,.cells m u ey=>Nat.beq t u&&((ex==ey)&&nU l m)
 | .row l j,.row m k=>Nat.beq j k&&nU l m
 |_,_=>false
theorem aaI {x y:AObj}(h:zn x y=true):x=y:=by
 unfold zn at h;split at h
 ·simp only[ale,Nat.beq_eq,beq_iff_eq]at h
  rw[h.1,h.2.1,iq h.2.2]
 ·simp only[ale,Nat.beq_eq]at h
  rw[h.1,iq h.2]
 ·cases h
structure Rec where
 tr:List Nat
 tw:Option Nat
 v:AV
 nr:List Nat
 nw:List (Nat×Option AObj)
 lo:Nat
 hi:Nat
 ad:Option (Nat×Value×AV)
def allF (k:Value)(es:List (Value×AV)):Bool:=es.all fun e=>match gY k e.1 with
 |some false=>true
 |_=>false
def adOf (cx:Cx)(ρ:Operand→AV)(H:Heap)(o:Op):Option (Nat×Value×AV):=
 match o with
 | .insert t m k x=>match cx.ti t with
  |some {desc:=.map kt _, ..}=>match cx.ti kt,ρ k,ρ m with
   |some ki,.lit kv,.map n=>match H.get n with
    |some (.map es)=>bif xP ki.desc kv&&(allF kv es&&Nat.blt n lim)then fAV (ρ x) fun v=>fVal kv fun kv=>rV n fun n=>some (n,kv,v)else none
    |_=>none
   |_,_,_=>none
  |_=>none
 |_=>none
def changed (Hr H':Heap):List Nat→List (Nat×Option AObj)
 | []=>[]
 |n::l=>match Hr.get n,H'.get n with
  |some a,some b=>bif zn a b then changed Hr H' l else(n,some b)::changed Hr H' l
  |some _,none=>(n,none)::changed Hr H' l
  |none,some b=>(n,some b)::changed Hr H' l
  |none,none=>changed Hr H' l
def fresh (H':Heap)(lo:Nat):Nat→List (Nat×Option AObj)
 |0=>[]
 |k+1=>match H'.get (lo+k)with
  |some o=>(lo+k,some o)::fresh H' lo k
  |none=>fresh H' lo k
def tH (H:Heap)(nr:List Nat):List (Nat×AObj):=nr.filterMap fun n=>(H.get n).map fun o=>(n,o)
def adK (cx:Cx)(cf:bO)(ops:Array Oper)(st:FSt)(o:Oper):Option Rec:=
 let tr:=eB ops o
 bif tr.all fun t=>(st.tm.get t).isSome then
 bif rG ops st.tm o.guard then
  let ρ:=evL (tr.map fun t=>(t,abR st.tm t))
  match adOf cx ρ st.H o.op with
  |some p=>some ⟨tr,o.dst,.lit undef,[],[],st.nx,st.nx,some p⟩
  |none=>
   let nr:=foot st.H ρ o.op
   let Hr:=jW (tH st.H nr)
   match opX cx cf ρ Hr st.nx o.op with
   |some (v,H',hi)=>some ⟨tr,o.dst,v,nr,changed Hr H' nr++fresh H' st.nx (hi-st.nx),st.nx,hi,none⟩
   |none=>none
 else some ⟨tr,o.dst,.lit undef,[],[],st.nx,st.nx,none⟩
 else none
def qZ (H:Heap):List (Nat×Option AObj)→Heap
 | []=>H
 |(n,some o)::l=>(qZ H l).set n o
 |(n,none)::l=>(qZ H l).del n
def fEs {β:Type}:List (Value×AV)→(List (Value×AV)→β)→β
 | [],k=>k []
 |e::l,k=>fEs l fun l=>k (e::l)
theorem aeY {β:Type}:∀(l:List (Value×AV)) (k:List (Value×AV)→β),fEs l k=k l
 | [],_=>rfl
 |e::l,k=>by rw[fEs,aeY l]
def aas (H:Heap):Option (Nat×Value×AV)→Heap
 |none=>H
 |some (n,k,v)=>match H.get n with
  |some (.map es)=>fEs (es++ [(k,v)]) fun es=>H.set n (.map es)
  |_=>H
def aiD:Option (Nat×Value×AV)→Bool
 |none=>true
 |some (n,_,_)=>Nat.blt n lim
def xH (nt:Nat)(st:FSt)(r:Rec):Option FSt:=
 bif Nat.ble st.nx r.hi&&(Nat.beq st.nx r.lo&&(aiD r.ad&&r.nw.all fun p=>Nat.blt p.1 lim))then
  match agl nt st.tm r.tw r.v with
  |some tm'=>some ⟨tm',aas (qZ st.H r.nw) r.ad,r.hi⟩
  |none=>none
 else none
def recs (cx:Cx)(cf:bO)(nt:Nat)(ops:Array Oper):List Oper→FSt→Option (List Rec×FSt)
 | [],st=>some ([],st)
 |o::l,st=>match adK cx cf ops st o with
  |some r=>match xH nt st r with
   |some st1=>match recs cx cf nt ops l st1 with
    |some (rs,st2)=>some (r::rs,st2)
    |none=>none
   |none=>none
  |none=>none
def nR (a b:Rec):Bool:=
 match a.ad with
 |none=>true
 |some (n,k,_)=> !acj n b.nr&&((b.nw.all fun q=> !Nat.beq q.1 n)&&(match b.ad with
  |some (m,l,_)=> !Nat.beq n m||(match gY k l with
   |some false=>true
   |_=>false)
  |none=>true))
def apart (a b:Rec):Bool:=
 (nR a b&&nR b a)&&((match a.tw with|some t=> !acj t b.tr|none=>true)&&((match b.tw with|some t=> !acj t a.tr|none=>true)&&((match a.tw,b.tw with|some t,some u=> !Nat.beq t u|_,_=>true)&&
 ((a.nw.all fun p=> !acj p.1 b.nr&&b.nw.all fun q=> !Nat.beq p.1 q.1)&&(b.nw.all fun q=> !acj q.1 a.nr)))))
def jS (m j:Nat)(b:Rec):List Rec→Nat→Bool
 | [],_=>true
 |a::l,i=>bif Nat.blt i j then(Nat.testBit m i||apart a b)&&jS m j b l (i+1)else true
def jb (rs:List Rec):List Rec→List Nat→Nat→Bool
 |r::l,m::ms,j=>jS m j r rs 0&&jb rs l ms (j+1)
 | [],_,_=>true
 |_::_,[],_=>false
def kG:List Oper→Nat→Bool
 | [],_=>true
 |o::l,j=>((mM o).all fun e=>Nat.blt e j)&&kG l (j+1)
def mJ (cx:Cx)(cf:bO)(nt:Nat)(ops:Array Oper)(st:FSt):Option FSt:=
 match recs cx cf nt ops ops.toList st with
 |some (rs,st')=>bif kG ops.toList 0&&jb rs rs (masks [] ops.toList) 0 then some st' else none
 |none=>none
end Go.Proofs.Q.Ev
namespace Go.Proofs.Q.Ev
open Go Go.RowKit
variable [Sym]
theorem nQ {H:Heap}(x:Nat):∀ {l:List (Nat×Option AObj)},(∀p∈l,p.1<lim)→(qZ H l).get x=(bK x l).getD (H.get x)
 | [],_=>rfl
 |(n,some o)::l,h=>by
  have hn:n<lim:=h _ alm;have ih:=nQ (H:=H) x (fun p hp=>h p (alo _ hp));show ((qZ H l).set n o).get x=(bif Nat.beq n x then some (some o)else bK x l).getD (H.get x);rw[aU hn];cases hb:Nat.beq n x with
  |true=>rw[if_pos (alg hb).symm];rfl
  |false=>rw[if_neg (fun e=>by subst e;rw[Nat.beq_refl]at hb;cases hb)];exact ih
 |(n,none)::l,h=>by
  have hn:n<lim:=h _ alm;have ih:=nQ (H:=H) x (fun p hp=>h p (alo _ hp));show ((qZ H l).del n).get x=(bif Nat.beq n x then some none else bK x l).getD (H.get x);rw[gZ hn];cases hb:Nat.beq n x with
  |true=>rw[if_pos (alg hb).symm];rfl
  |false=>rw[if_neg (fun e=>by subst e;rw[Nat.beq_refl]at hb;cases hb)];exact ih
structure Canon (cx:Cx) (cf:bO) (nt:Nat) (ops:Array Oper) (l:List Oper) (rs:List Rec) (sts:Nat→FSt):Prop where
 len:rs.length=l.length
 step:∀k,k<l.length→∃o r,l[k]? =some o∧rs[k]? =some r∧adK cx cf ops (sts k) o=some r∧xH nt (sts k) r=some (sts (k+1))
theorem mK {cx:Cx}{cf:bO}{nt:Nat}{ops:Array Oper}:∀(l:List Oper) (st st':FSt) (rs:List Rec),recs cx cf nt ops l st=some (rs,st')→∃sts,sts 0=st∧sts l.length=st'∧Canon cx cf nt ops l rs sts
 | [],st,st',rs,h=>by cases h;exact⟨fun _=>st,rfl,rfl,rfl,fun k hk=>absurd hk (Nat.not_lt_zero _)⟩
 |o::l,st,st',rs,h=>by
  unfold recs at h;split at h
  ·rename_i r hr
   split at h
   ·rename_i st1 h1
    split at h
    ·rename_i rs2 st2 h2
     cases h;obtain⟨sts,e0,e1,hc⟩:=mK l st1 st' rs2 h2;refine⟨fun k=>match k with|0=>st|k+1=>sts k,rfl,e1,by simp[hc.len],fun k hk=>?_⟩;cases k with
     |zero=>exact⟨o,r,rfl,rfl,hr,by show xH nt st r=some (sts 0);rw[e0];exact h1⟩
     |succ k=>obtain⟨o',r',a1,a2,a3,a4⟩:=hc.step k (by simpa using hk);exact⟨o',r',by simpa using a1,by simpa using a2,a3,a4⟩
    ·cases h
   ·cases h
  ·cases h
section
variable (rs:List Rec)
def Wt (k:Nat)(t:Nat):Option (Option AV):=match rs[k]? with|some r=>if r.tw=some t then some (some r.v)else none|none=>none
def Wn (k:Nat)(x:Nat):Option (Option AObj):=match rs[k]? with|some r=>bK x r.nw|none=>none
def af8 (x:Nat):Option (Nat×Value×AV)→Option (Value×AV)
 |some (n,p)=>if n=x then some p else none
 |none=>none
def Wa (k:Nat)(x:Nat):Option (Value×AV):=match rs[k]? with|some r=>af8 x r.ad|none=>none
end
section
variable {cx:Cx} {cf:bO} {nt:Nat} {ops:Array Oper} {l:List Oper} {rs:List Rec} {sts:Nat→FSt}
theorem iA {st st':FSt}{r:Rec}(h:xH nt st r=some st'):st.nx≤r.hi∧st.nx=r.lo∧(∀p∈r.nw,p.1<lim)∧st'.nx=r.hi∧agl nt st.tm r.tw r.v=some st'.tm∧st'.H=aas (qZ st.H r.nw) r.ad∧aiD r.ad=true:=by
 unfold xH at h;obtain⟨hb,h⟩:=ae h;simp only[ale,Nat.ble_eq,Nat.beq_eq,alz,Nat.blt_eq]at hb;split at h
 ·rename_i tm' hp
  cases h;exact⟨hb.1,hb.2.1,hb.2.2.2,rfl,hp,rfl,hb.2.2.1⟩
 ·cases h
theorem ahK {tm tm':Tr AV}{dst:Option Tmp}{v:AV}(h:agl nt tm dst v=some tm')(t:Nat):tm'.get t=(if dst=some t then some (some v)else none).getD (tm.get t):=by
 cases dst with
 |none=>cases h;simp
 |some d=>
  obtain⟨hb,h⟩:=ae h;cases h;simp only[ale,Nat.blt_eq]at hb;rw[aU hb.2];by_cases e:t=d
  ·subst e;simp
  ·have e':¬d=t:=fun x=>e x.symm
   simp[e,e']
theorem Canon.tm (h:Canon cx cf nt ops l rs sts):∀k,k≤l.length→∀t,(sts k).tm.get t=dU (Wt rs) (sts 0).tm.get abG k t
 |0,_,t=>rfl
 |k+1,hk,t=>by
  obtain⟨o,r,h1,h2,h3,h4⟩:=h.step k hk;rw[qR, ←h.tm k (by omega) t,ahK (iA h4).2.2.2.2.1];unfold Wt;rw[h2]
theorem aar {H:Heap}(x:Nat){p:Option (Nat×Value×AV)}(hl:aiD p=true):(aas H p).get x=rY (af8 x p) (H.get x):=by
 cases p with
 |none=>rw[show af8 x none=none from rfl,bT];rfl
 |some p=>
  obtain⟨n,k,v⟩:=p;have hn:n<lim:=by simpa[aiD,Nat.blt_eq]using hl
  show (match H.get n with|some (.map es)=>fEs (es++ [(k,v)]) fun es=>H.set n (.map es)|_=>H).get x=rY (if n=x then some (k,v)else none) (H.get x);by_cases e:n=x
  ·subst e
   rw[if_pos rfl];split
   ·rename_i es he
    rw[aeY,aU hn,if_pos rfl,he];rfl
   ·rename_i hne
    cases hg:H.get n with
    |none=>rfl
    |some o=>
     cases o with
     |map es=>exact absurd hg (hne es)
     |_=>rfl
  ·rw[if_neg e,bT]
   split
   ·rw[aeY,aU hn,if_neg (fun q=>e q.symm)]
   ·rfl
theorem Canon.heap (h:Canon cx cf nt ops l rs sts):∀k,k≤l.length→∀x,(sts k).H.get x=bU (Wn rs) (Wa rs) (sts 0).H.get abG k x
 |0,_,_=>rfl
 |k+1,hk,x=>by
  obtain⟨o,r,h1,h2,h3,h4⟩:=h.step k hk;rw[jE, ←h.heap k (by omega) x,(iA h4).2.2.2.2.2.1,aar x (iA h4).2.2.2.2.2.2,nQ x (iA h4).2.2.1];unfold Wn Wa;rw[h2]
theorem Canon.mono (h:Canon cx cf nt ops l rs sts):∀k j,j≤k→k≤l.length→(sts j).nx ≤(sts k).nx
 |0,j,hj,_=>by have:j=0:=by omega
               subst this;exact Nat.le_refl _
 |k+1,j,hj,hk=>by
  by_cases e:j=k+1
  ·subst e;exact Nat.le_refl _
  ·obtain⟨o,r,h1,h2,h3,h4⟩:=h.step k hk
   have:=iA h4;exact ali (h.mono k j (by omega) (by omega)) (by omega)
theorem tN:∀(l:List Oper) (ms:List Nat) (j m:Nat),(masks ms l)[j]? =some m→ms.length≤j→∀i,m.testBit i=true→∃o,l[j-ms.length]? =some o∧∃e∈mM o,i=e∨∃m',(masks ms l)[e]? =some m'∧m'.testBit i=true
 | [],ms,j,m,h,hj,i,hi=>by
  have:=(alj.1 h).1;simp only[masks]at this;omega
 |o::l,ms,j,m,h,hj,i,hi=>by
  unfold masks at h;have hpre:∀(l:List Oper) (ms:List Nat) (j:Nat),j<ms.length→(masks ms l)[j]? =ms[j]?:=by
   intro l
   induction l with
   |nil=>intro ms j _;rfl
   |cons o l ih=>
    intro ms j hj;unfold masks;rw[ih _ _ (by simp;omega),List.getElem?_append_left hj]
  by_cases e:j=ms.length
  ·subst e
   rw[hpre _ _ _ (by simp)]at h;rw[List.getElem?_append_right alK]at h;simp only[Nat.sub_self,List.getElem?_cons_zero,Option.some.injEq]at h;subst h;refine⟨o,by simp,?_⟩;rcases qy (fun e=>ms.getD e 0) i (mM o) 0 hi with h1|⟨e,he,h1⟩
   ·simp at h1
   ·refine⟨e,he,h1.imp id fun h2=>?_⟩
    by_cases hlt:e<ms.length
    ·refine⟨ms[e],?_,?_⟩
     ·unfold masks
      rw[hpre _ _ _ (by simp;omega),List.getElem?_append_left hlt];simp
     ·simpa[List.getD,hlt]using h2
    ·simp[List.getD,Nat.not_lt.1 hlt]at h2
  ·have hr:=tN l _ j m h (by simp;omega) i hi
   obtain⟨o',ho',e,he,h1⟩:=hr;refine⟨o',?_,e,he,h1⟩;rw[←ho',show j-ms.length=(j-(ms.length+1))+1 by omega,List.getElem?_cons_succ];simp
theorem jw:∀(l:List Oper) (j k:Nat) (o:Oper),kG l j=true→l[k]? =some o→∀e∈mM o,e<j+k
 | [],_,k,o,_,ho,_,_=>by simp at ho
 |o'::l,j,k,o,h,ho,e,he=>by
  unfold kG at h;simp only[ale,alz,Nat.blt_eq]at h;cases k with
  |zero=>simp at ho;subst ho;exact h.1 e he
  |succ k=>have:=jw l (j+1) k o h.2 (by simpa using ho) e he;omega
theorem xJ {S:Nat→Bool}(hp:kG l 0=true)(hS:∀j o,l[j]? =some o→S j=true→∀e∈mM o,S e=true):∀(j m:Nat) (o:Oper),l[j]? =some o→(∀e∈mM o,S e=true)→(masks [] l)[j]? =some m→∀i,m.testBit i=true→S i=true:=by
 intro j
 induction j using Nat.strongRecOn with
 |_ j ih=>
  intro m o ho hd hm i hi;obtain⟨o',ho',e,he,h1⟩:=tN l [] j m hm (Nat.zero_le _) i hi;have:o'=o:=by simpa[ho]using ho'.symm
  subst this;rcases h1 with h1|⟨m',hm',h1⟩
  ·subst h1;exact hd i he
  ·have hej:e<j:=by have:=jw l 0 j o' hp ho e he;omega
   have hlt:=(alj.1 ho).1;obtain⟨oe,hoe⟩:∃oe,l[e]? =some oe:=⟨l[e]'(by omega),by simp⟩;exact ih e hej m' oe hoe (hS e oe hoe (hd e he)) hm' i h1
theorem je (m j:Nat)(b:Rec):∀(l:List Rec) (i k:Nat) (a:Rec),jS m j b l i=true→l[k]? =some a→i+k<j→m.testBit (i+k)=true∨apart a b=true
 | [],_,k,a,_,ha,_=>by simp at ha
 |a'::l,i,k,a,h,ha,hk=>by
  unfold jS at h;have hij:Nat.blt i j=true:=by rw[Nat.blt_eq];omega
  rw[hij]at h;have h':((Nat.testBit m i||apart a' b)&&jS m j b l (i+1))=true:=h;simp only[ale,Bool.or_eq_true]at h';cases k with
  |zero=>simp at ha;subst ha;exact h'.1
  |succ k=>
   have:=je m j b l (i+1) k a h'.2 (by simpa using ha) (by omega);rwa[show i+1+k=i+(k+1)by omega]at this
theorem ja (rs:List Rec):∀(l:List Rec) (ms:List Nat) (j k:Nat) (r:Rec),jb rs l ms j=true→l[k]? =some r→∃m,ms[k]? =some m∧jS m (j+k) r rs 0=true
 | [],_,_,k,r,_,hr=>by simp at hr
 |r'::l,m::ms,j,k,r,h,hr=>by
  unfold jb at h;simp only[ale]at h;cases k with
  |zero=>simp at hr;subst hr;exact⟨m,rfl,h.1⟩
  |succ k=>
   obtain⟨m',h1,h2⟩:=ja rs l ms (j+1) k r h.2 (by simpa using hr);exact⟨m',by simpa using h1,by rwa[show j+1+k=j+(k+1)by omega]at h2⟩
 |r'::l,[],j,k,r,h,hr=>by unfold jb at h;cases h
end
end Go.Proofs.Q.Ev
namespace Go.Proofs.Q.Ev
open Go Go.RowKit
variable [Sym]
structure HF (S:Nat→Prop) (w0:World) (E:Env) (D:Nat→Prop) (G:Nat→Option AObj) (w:World):Prop where
 obj:∀n o,G n=some o→OR E w n o
 inj:∀n m o o',G n=some o→G m=some o'→n≠m→(E n).b ≠(E m).b
 own:∀n o,G n=some o→S (E n).b ∨w0.heap.size≤(E n).b
 names:∀n o,G n=some o→D n∧o.In D
 fr:Fr S w0 w
section
variable {S:Nat→Prop} {w0 w:World} {E:Env} {D:Nat→Prop} {H:Heap} {G:Nat→Option AObj}
theorem HW.toF (h:HW S w0 E D H w):HF S w0 E D H.get w:=⟨h.obj,h.inj,h.own,h.names,h.fr⟩
theorem HF.toW (h:HF S w0 E D G w)(he:∀x,H.get x=G x):HW S w0 E D H w:=
 ⟨fun n o hn=>h.obj n o (by rw[←he];exact hn),fun n m o o' hn hm hne=>h.inj n m o o' (by rw[←he];exact hn) (by rw[←he];exact hm) hne,fun n o hn=>h.own n o (by rw[←he];exact hn),fun n o hn=>h.names n o (by rw[←he];exact hn),h.fr⟩
theorem HF.congr {G':Nat→Option AObj}(h:HF S w0 E D G w)(he:∀x,G' x=G x):HF S w0 E D G' w:=by
 have:G'=G:=funext he;rw[this];exact h
theorem HF.sim {G':Nat→Option AObj}(h:HF S w0 E D G w)(he:∀x,Sim (G' x) (G x)):HF S w0 E D G' w:=by
 have key:∀n o,G' n=some o→∃o',G n=some o'∧(OR E w n o'→OR E w n o)∧(o'.In D→o.In D):=fun n o ho=>by
  rcases he n with e|⟨es,fs,e1,e2,p⟩
  ·exact⟨o,by rw[←e];exact ho,fun x=>x,fun x=>x⟩
  ·rw[ho]at e1
   cases e1;refine⟨.map fs,e2,fun hor=>?_,fun hin e hm=>hin e (p.subset hm)⟩;obtain⟨ents,clk,hb,h1,h2,h3,h4⟩:=hor;exact⟨ents,clk,hb,h1.trans (p.symm.map _),h2,h3,(p.map _).nodup_iff.2 h4⟩
 refine⟨fun n o hn=>?_,fun n m o o' hn hm hne=>?_,fun n o hn=>?_,fun n o hn=>?_,h.fr⟩
 ·obtain⟨o',h1,h2,_⟩:=key n o hn;exact h2 (h.obj n o' h1)
 ·obtain⟨a,h1,_⟩:=key n o hn
  obtain⟨b,h2,_⟩:=key m o' hm;exact h.inj n m a b h1 h2 hne
 ·obtain⟨o',h1,_⟩:=key n o hn;exact h.own n o' h1
 ·obtain⟨o',h1,_,h3⟩:=key n o hn;exact⟨(h.names n o' h1).1,h3 (h.names n o' h1).2⟩
def Sof (E:Env)(Hr:Heap):Nat→Prop:=fun b=>∃n o,Hr.get n=some o∧(E n).b =b
theorem HF.sub (h:HF S w0 E D G w){Hr:Heap}(hs:∀n o,Hr.get n=some o→G n=some o):HW (Sof E Hr) w E D Hr w:=
 ⟨fun n o hn=>h.obj n o (hs n o hn),fun n m o o' hn hm hne=>h.inj n m o o' (hs n o hn) (hs m o' hm) hne,fun n o hn=>.inl ⟨n,o,hn,rfl⟩,fun n o hn=>h.names n o (hs n o hn),Fr.refl _ _⟩
theorem HF.fr_sub (h:HF S w0 E D G w){Hr:Heap}(hs:∀n o,Hr.get n=some o→G n=some o){w':World}(hf:Fr (Sof E Hr) w w'):Fr S w0 w':=
 ⟨hf.os.trans h.fr.os,hf.tape.trans h.fr.tape,hf.output.trans h.fr.output,ali h.fr.size hf.size,fun k hk hS=>by
  refine(hf.block k (alx hk h.fr.size) ?_).trans (h.fr.block k hk hS);rintro⟨n,o,hn,rfl⟩;rcases h.own n o (hs n o hn)with h1|h1
  ·exact hS h1
  ·exact absurd hk (Nat.not_lt.2 h1)⟩
theorem HF.frame (h:HF S w0 E D G w){Hr Hr':Heap}(hs:∀n o,Hr.get n=some o→G n=some o){E':Env}{w':World}{lo hi:Nat}(hD:∀n,lo≤n→n<hi→¬D n)
 (he:∀n,D n→E' n=E n) (h':HW (Sof E Hr) w E' (DR D lo hi) Hr' w') (hdom:Dom Hr Hr' lo hi) {G':Nat→Option AObj}
 (hG:∀x,(((∃o,Hr.get x=some o)∨(lo≤x∧x<hi))∧G' x=Hr'.get x)∨(¬(∃o,Hr.get x=some o)∧¬(lo≤x∧x<hi)∧G' x=G x)):HF S w0 E' (DR D lo hi) G' w':=by
 have old:∀x o,G x=some o→¬(∃o,Hr.get x=some o)→w'.heap[(E x).b]? =w.heap[(E x).b]?:=fun x o hx hn=>
  h'.fr.block _ (h.obj x o hx).lt (by
   rintro⟨n,o',hn',e⟩;by_cases hne:n=x
   ·subst hne;exact hn ⟨o',hn'⟩
   ·exact h.inj n x o' o (hs n o' hn') hx hne e)
 have hE:∀x o,G x=some o→E' x=E x:=fun x o hx=>he x (h.names x o hx).1
 have mixed:∀x y o o',Hr'.get x=some o→G y=some o'→¬(∃o,Hr.get y=some o)→(E' x).b ≠(E' y).b :=fun x y o o' hx hy hn e=>by
  rw[hE y o' hy]at e;rcases h'.own x o hx with ⟨n,o1,hn1,e1⟩|h1
  ·have hne:n≠y:=fun q=>by subst q;exact hn ⟨o1,hn1⟩
   exact h.inj n y o1 o' (hs n o1 hn1) hy hne (by rw[e1,e])
  ·have:=(h.obj y o' hy).lt
   omega
 refine⟨fun x o hx=>?_,fun x y o o' hx hy hne=>?_,fun x o hx=>?_,fun x o hx=>?_,h.fr_sub hs h'.fr⟩
 ·rcases hG x with ⟨_,e⟩|⟨h1,h2,e⟩<;>rw[e]at hx
  ·exact h'.obj x o hx
  ·exact OR.congr he (h.names x o hx).1 (h.names x o hx).2 (old x o hx h1) (h.obj x o hx)
 ·rcases hG x with ⟨_,e⟩|⟨h1,h2,e⟩<;>rcases hG y with ⟨_,e'⟩|⟨h1',h2',e'⟩<;>rw[e]at hx<;>rw[e']at hy
  ·exact h'.inj x y o o' hx hy hne
  ·exact mixed x y o o' hx hy h1'
  ·exact fun q=>mixed y x o' o hy hx h1 q.symm
  ·rw[hE x o hx,hE y o' hy];exact h.inj x y o o' hx hy hne
 ·rcases hG x with ⟨_,e⟩|⟨h1,h2,e⟩<;>rw[e]at hx
  ·rcases h'.own x o hx with ⟨n,o1,hn1,e1⟩|h3
   ·rw[←e1];exact h.own n o1 (hs n o1 hn1)
   ·exact .inr (ali h.fr.size h3)
  ·rw[hE x o hx];exact h.own x o hx
 ·rcases hG x with ⟨_,e⟩|⟨h1,h2,e⟩<;>rw[e]at hx
  ·exact h'.names x o hx
  ·exact⟨.inl (h.names x o hx).1,(h.names x o hx).2.mono fun _ q=>.inl q⟩
end
theorem dE {Hr H':Heap}(x:Nat):∀(nr:List Nat),x∈nr→(bK x (changed Hr H' nr)).getD (Hr.get x)=H'.get x
 |n::l,hx=>by
  have ih:x∈l→(bK x (changed Hr H' l)).getD (Hr.get x)=H'.get x:=dE x l;have cons:∀c,(bK x ((n,c)::changed Hr H' l))=if n=x then some c else bK x (changed Hr H' l):=fun c=>by
   show (bif Nat.beq n x then some c else bK x (changed Hr H' l))=_;by_cases e:n=x
   ·subst e;rw[Nat.beq_refl,if_pos rfl];rfl
   ·rw[if_neg e]
    cases hb:Nat.beq n x with
    |true=>exact absurd (alg hb) e
    |false=>rfl
  have hx':x=n∨x∈l:=List.mem_cons.1 hx;have skip:n=x→H'.get x=Hr.get x→(bK x (changed Hr H' l)).getD (Hr.get x)=H'.get x:=fun e h1=>by
   by_cases hm:x∈l
   ·exact ih hm
   ·have:bK x (changed Hr H' l)=none:=gF (changed_names x l hm)
    rw[this,Option.getD_none,h1]
  unfold changed;cases h1:Hr.get n with
  |none=>
   cases h2:H'.get n with
   |none=>
    by_cases e:n=x
    ·subst e;exact skip rfl (by rw[h1,h2])
    ·exact ih (hx'.resolve_left (fun q=>e q.symm))
   |some b=>
    rw[cons];by_cases e:n=x
    ·subst e;rw[if_pos rfl,h2];rfl
    ·rw[if_neg e];exact ih (hx'.resolve_left (fun q=>e q.symm))
  |some a=>
   cases h2:H'.get n with
   |none=>
    rw[cons];by_cases e:n=x
    ·subst e;rw[if_pos rfl,h2];rfl
    ·rw[if_neg e];exact ih (hx'.resolve_left (fun q=>e q.symm))
   |some b=>
    dsimp only;cases hs:zn a b with
    |true=>
     have:=aaI hs;subst this;by_cases e:n=x
     ·subst e;exact skip rfl (by rw[h1,h2])
     ·exact ih (hx'.resolve_left (fun q=>e q.symm))
    |false=>
     show (bK x ((n,some b)::changed Hr H' l)).getD (Hr.get x)=_;rw[cons];by_cases e:n=x
     ·subst e;rw[if_pos rfl,h2];rfl
     ·rw[if_neg e];exact ih (hx'.resolve_left (fun q=>e q.symm))
where
 changed_names {Hr H':Heap} (x:Nat):∀(l:List Nat),x∉l→∀p∈changed Hr H' l,p.1≠x
  |n::l,hx,p,hp=>by
   have hx':¬(x=n∨x∈l):=fun h=>hx (List.mem_cons.2 h)
   have ih:=changed_names (Hr:=Hr) (H':=H') x l (fun h=>hx' (.inr h)) p;have hn:n≠x:=fun e=>hx' (.inl e.symm)
   unfold changed at hp;cases h1:Hr.get n<;>cases h2:H'.get n<;>rw[h1,h2]at hp<;>dsimp only at hp
   ·exact ih hp
   ·rcases List.mem_cons.1 hp with e|hp
    ·subst e;exact hn
    ·exact ih hp
   ·rcases List.mem_cons.1 hp with e|hp
    ·subst e;exact hn
    ·exact ih hp
   ·rename_i a b
    cases hs:zn a b<;>rw[hs]at hp
    ·rcases List.mem_cons.1 (show p∈(n,some b)::changed Hr H' l from hp)with e|hp
     ·subst e;exact hn
     ·exact ih hp
    ·exact ih hp
theorem nA {H':Heap}(lo x:Nat):∀k,(lo≤x∧x<lo+k→bK x (fresh H' lo k)=(H'.get x).map some)∧(¬(lo≤x∧x<lo+k)→bK x (fresh H' lo k)=none)
 |0=>⟨fun h=>by omega,fun _=>rfl⟩
 |k+1=>by
  obtain⟨h1,h2⟩:=nA (H':=H') lo x k;have cons:∀c,(bK x ((lo+k,c)::fresh H' lo k))=if lo+k=x then some c else bK x (fresh H' lo k):=fun c=>by
   show (bif Nat.beq (lo+k) x then some c else bK x (fresh H' lo k))=_;by_cases e:lo+k=x
   ·subst e;rw[Nat.beq_refl,if_pos rfl];rfl
   ·rw[if_neg e]
    cases hb:Nat.beq (lo+k) x with
    |true=>exact absurd (alg hb) e
    |false=>rfl
  unfold fresh;refine⟨fun h=>?_,fun h=>?_⟩
  ·cases hg:H'.get (lo+k)with
   |none=>
    by_cases e:lo+k=x
    ·subst e;rw[h2 (by omega),hg];rfl
    ·exact h1 (by omega)
   |some o=>
    dsimp only;rw[cons];by_cases e:lo+k=x
    ·subst e;rw[if_pos rfl,hg];rfl
    ·rw[if_neg e];exact h1 (by omega)
  ·cases hg:H'.get (lo+k)with
   |none=>exact h2 (by omega)
   |some o=>
    dsimp only;rw[cons,if_neg (by omega)];exact h2 (by omega)
end Go.Proofs.Q.Ev
namespace Go.Proofs.Q.Ev
open Go Go.RowKit
variable [Sym]
def cnt (S:Nat→Bool):Nat→Nat
 |0=>0
 |k+1=>cnt S k+(if S k then 0 else 1)
theorem oZ (S:Nat→Bool)(k:Nat):cnt S (k+1)=cnt S k+(if S k then 0 else 1):=rfl
theorem afi {S:Nat→Bool}{j:Nat}(hS:S j=false):∀n,cnt (jf S j) n+(if j<n then 1 else 0)=cnt S n
 |0=>by simp[cnt]
 |n+1=>by
  have ih:=afi hS n;rw[oZ,oZ];by_cases e:n=j
  ·subst e
   rw[if_neg (Nat.lt_irrefl _)]at ih;rw[show jf S n n=true by simp[jf],hS,if_pos rfl,if_pos (by omega),if_neg (by simp)];omega
  ·rw[show jf S j n=S n by simp[jf,e]]
   by_cases h1:j<n
   ·rw[if_pos h1]at ih;rw[if_pos (show j<n+1 by omega)];omega
   ·rw[if_neg h1]at ih;rw[if_neg (show¬j<n+1 by omega)];omega
theorem aby {S:Nat→Bool}:∀n,cnt S n=0→∀i,i<n→S i=true
 |n+1,h,i,hi=>by
  rw[oZ]at h;by_cases e:i=n
  ·subst e
   cases hs:S i with
   |true=>rfl
   |false=>rw[hs]at h;simp at h
  ·exact aby n (by omega) i (by omega)
theorem dX {Hr H':Heap}(x:Nat):∀(nr:List Nat),bK x (changed Hr H' nr)=some none→∃o,Hr.get x=some o
 | [],h=>by cases h
 |n::l,h=>by
  have cons:∀c,(bK x ((n,c)::changed Hr H' l))=if n=x then some c else bK x (changed Hr H' l):=fun c=>by
   show (bif Nat.beq n x then some c else bK x (changed Hr H' l))=_;by_cases e:n=x
   ·subst e;rw[Nat.beq_refl,if_pos rfl];rfl
   ·rw[if_neg e]
    cases hb:Nat.beq n x with
    |true=>exact absurd (alg hb) e
    |false=>rfl
  unfold changed at h;cases h1:Hr.get n<;>cases h2:H'.get n<;>rw[h1,h2]at h<;>dsimp only at h
  ·exact dX x l h
  ·rw[cons]at h
   split at h
   ·cases h
   ·exact dX x l h
  ·rw[cons]at h
   split at h
   ·rename_i e;subst e;exact⟨_,h1⟩
   ·exact dX x l h
  ·rename_i a b
   cases hs:zn a b<;>rw[hs]at h
   ·have h':bK x ((n,some b)::changed Hr H' l)=some none:=h
    rw[cons]at h';split at h'
    ·cases h'
    ·exact dX x l h'
   ·exact dX x l h
theorem apart_spec {a b:Rec}(h:apart a b=true):(∀t,a.tw=some t→t∉b.tr)∧(∀t,b.tw=some t→t∉a.tr)∧(∀t,a.tw=some t→b.tw≠some t)∧(∀p∈a.nw,p.1∉b.nr)∧(∀p∈a.nw,∀q∈b.nw,p.1≠q.1)∧(∀q∈b.nw,q.1∉a.nr):=by
 unfold apart at h;simp only[ale,alz,Bool.not_eq_true']at h;obtain⟨_,h1,h2,h3,h4,h5⟩:=h;refine⟨fun t ht hm=>?_,fun t ht hm=>?_,fun t ht hb=>?_,fun p hp hm=>?_,fun p hp q hq e=>?_,fun q hq hm=>?_⟩
 ·rw[ht]at h1
  have h1':(!acj t b.tr)=true:=h1;rw[mZ.2 hm]at h1';cases h1'
 ·rw[ht]at h2
  have h2':(!acj t a.tr)=true:=h2;rw[mZ.2 hm]at h2';cases h2'
 ·rw[ht,hb]at h3
  have:(!Nat.beq t t)=true:=h3;rw[Nat.beq_refl]at this;cases this
 ·have:=(h4 p hp).1
  rw[mZ.2 hm]at this;cases this
 ·have:=(h4 p hp).2 q hq
  rw[e,Nat.beq_refl]at this;cases this
 ·have:=h5 q hq
  rw[mZ.2 hm]at this;cases this
theorem dG {a b:Rec}(h:nR a b=true){n:Nat}{k:Value}{v:AV}(ha:a.ad=some (n,k,v)):n∉b.nr∧(∀q∈b.nw,q.1≠n)∧∀l u,b.ad=some (n,l,u)→gY k l=some false:=by
 unfold nR at h;rw[ha]at h;simp only[ale,alz,Bool.not_eq_true']at h;obtain⟨h1,h2,h3⟩:=h;refine⟨fun hm=>?_,fun q hq e=>?_,fun l u hb=>?_⟩
 ·rw[mZ.2 hm]at h1;cases h1
 ·have:=h2 q hq
  rw[e,Nat.beq_refl]at this;cases this
 ·rw[hb]at h3
  have h3':(!Nat.beq n n||(match gY k l with|some false=>true|_=>false))=true:=h3;rw[Nat.beq_refl]at h3';simp only[Bool.not_true,Bool.false_or]at h3';split at h3'
  ·assumption
  ·cases h3'
theorem jd {a b:Rec}(h:apart a b=true):nR a b=true∧nR b a=true:=by
 unfold apart at h;simp only[ale]at h;exact⟨h.1.1,h.1.2⟩
theorem aiz {k:Value}{es:List (Value×AV)}(h:allF k es=true):∀e∈es,gY k e.1=some false:=fun e he=>by
 have:=alz.1 h e he;split at this
 ·assumption
 ·cases this
theorem akV {k:Value}{es:List (Value×AV)}(h:∀e∈es,gY k e.1=some false):af2 k es=true:=alz.2 fun e he=>by rw[h e he];rfl
theorem abo {k:Value}:∀ {es:List (Value×AV)},(∀e∈es,gY k e.1=some false)→iG k es=none
 | [],_=>rfl
 |e::es,h=>by
  unfold iG;rw[h e alm];exact abo fun e' he'=>h e' (alo _ he')
theorem af7 {cx:Cx}{ρ:Operand→AV}{H:Heap}{o:Op}{n:Nat}{kv:Value}{v:AV}(h:adOf cx ρ H o=some (n,kv,v)):(∃es,H.get n=some (.map es)∧allF kv es=true)∧n<lim∧(∃m,ρ m= .map n)∧(∃x,ρ x=v)∧
 ∀(cf:bO) (H2:Heap) (es2:List (Value×AV)) (nx:Nat),H2.get n=some (.map es2)→(∀e∈es2,gY kv e.1=some false)→opX cx cf ρ H2 nx o=some (.lit undef,H2.set n (.map (es2++ [(kv,v)])),nx):=by
 unfold adOf at h;split at h
 ·rename_i t m k x
  split at h
  ·rename_i kt et sz by' z ht
   split at h
   ·rename_i ki kv' n' hk hkv hm
    split at h
    ·rename_i es hes
     obtain⟨hb,h⟩:=ae h;rw[yj,aeW,dm]at h;cases h;simp only[ale,Nat.blt_eq]at hb;obtain⟨hd,hf,hl⟩:=hb;refine⟨⟨es,hes,hf⟩,hl,⟨m,hm⟩,⟨x,rfl⟩,fun cf H2 es2 nx h2 h3=>?_⟩;unfold opX;rw[aeX];show iy cx ρ H2 nx t m k x=_;unfold iy;rw[ht];dsimp only;rw[hk,hkv,hm];dsimp only;rw[h2];dsimp only;have hcond:(xP ki.desc kv&&(af2 kv es2&&Nat.blt n lim))=true:=by
      simp only[ale,Nat.blt_eq];exact⟨hd,akV h3,hl⟩
     rw[hcond,abo h3];rfl
    ·cases h
   ·cases h
  ·cases h
 ·cases h
theorem mQ {H:Heap}{nr:List Nat}{n:Nat}{o:AObj}(h:(jW (tH H nr)).get n=some o):n∈nr∧H.get n=some o:=by
 have:=ny h;unfold tH at this;obtain⟨m,hm,h1⟩:=List.mem_filterMap.1 this;cases hg:H.get m with
 |none=>rw[hg]at h1;cases h1
 |some x=>rw[hg]at h1;simp at h1;obtain⟨rfl,rfl⟩:=h1;exact⟨hm,hg⟩
theorem lW (f:Nat→AV){t:Nat}:∀ {l:List Nat},t∈l→bK t (l.map fun t=>(t,f t))=some (f t)
 |m::l,h=>by
  show (bif Nat.beq m t then some (f m)else bK t (l.map fun t=>(t,f t)))=_;cases hb:Nat.beq m t with
  |true=>have:=alg hb;subst this;rfl
  |false=>
   have:t∈l:=by
    rcases List.mem_cons.1 h with e|e
    ·subst e;rw[Nat.beq_refl]at hb;cases hb
    ·exact e
   exact lW f this
theorem ahR (f:Nat→AV){t:Nat}{l:List Nat}(h:t∉l):bK t (l.map fun t=>(t,f t))=none:=
 gF fun p hp e=>by obtain⟨m,hm,rfl⟩:=alq.1 hp;exact h (e▸hm)
theorem aiY {D:Nat→Prop}{f:Nat→AV}{l:List Nat}(h:∀t∈l,(f t).In D)(x:Operand):(evL (l.map fun t=>(t,f t)) x).In D:=by
 cases x with
 |tmp t=>
  show ((bK t (l.map fun t=>(t,f t))).getD (.lit undef)).In D;by_cases hm:t∈l
  ·rw[lW f hm];exact h t hm
  ·rw[ahR f hm];trivial
 |const v=>trivial
 |global g=>trivial
 |func f=>trivial
end Go.Proofs.Q.Ev
namespace Go.Proofs.Q.Ev
open Go Go.RowKit
variable [Sym]
section
variable {cx:Cx} {cf:bO} {G:World→Prop} {S0:Nat→Prop} {w0:World} {nt:Nat} {ops:Array Oper} {rs:List Rec} {sts:Nat→FSt}
structure Inv (S0:Nat→Prop) (w0:World) (nt:Nat) (ops:Array Oper) (rs:List Rec) (sts:Nat→FSt) (Db:Nat→Prop) (E0:Env) (df:List Deferred) (S:Nat→Bool) (a:Act) (w:World) (E:Env) (D:Nat→Prop):Prop where
 dc:∀j o,ops.toList[j]? =some o→S j=true→∀e∈mM o,S e=true
 hf:HF S0 w0 E D (bU (Wn rs) (Wa rs) (sts 0).H.get S ops.toList.length) w
 sz:a.tmps.size=nt
 tm:∀t v,dU (Wt rs) (sts 0).tm.get S ops.toList.length t=some v→a.tmps.getD t undef=ah E v
 tin:∀t v,dU (Wt rs) (sts 0).tm.get S ops.toList.length t=some v→v.In D
 hD:∀n,D n→Db n∨∃i,S i=true∧i<ops.toList.length∧(sts i).nx ≤n∧n<(sts (i+1)).nx
 hD0:∀n,Db n→D n
 agree:∀n,Db n→E n=E0 n
 df:a.defers=df
 dom:∀i,i<ops.toList.length→S i=true→∀x o,Wn rs i x=some (some o)→(∃o',(sts i).H.get x=some o')∨((sts i).nx ≤x∧x<(sts (i+1)).nx)
theorem Inv.next (hc:CxOK cx)(hG:∀w,Fr S0 w0 w→G w)(hcf:bM cx G cf)(hcan:Canon cx cf nt ops ops.toList rs sts)(hp:kG ops.toList 0=true)(hch:jb rs rs (masks [] ops.toList) 0=true)
 {Db:Nat→Prop} (hfree:uu Db (sts 0).nx (sts ops.toList.length).nx) {E0:Env} {df:List Deferred} {S:Nat→Bool} {a:Act} {w:World} {E:Env} {D:Nat→Prop} (h:Inv S0 w0 nt ops rs sts Db E0 df S a w E D) {j:Nat} {o:Oper} (ho:ops.toList[j]? =some o) (hS:S j=false) (hpre:∀e∈mM o,S e=true)
 {ro:Option Nat} {K:Act→World→Prop} {Q:Exit→Act→World→Prop} (hK:∀E' D' a' w',Inv S0 w0 nt ops rs sts Db E0 df (jf S j) a' w' E' D'→K a' w'):wpOpIn (fence ro) 0 cx.P ops Q j K a w:=by
 have hjn:j<ops.toList.length:=(alj.1 ho).1;obtain⟨o',r,h1,h2,h3,h4⟩:=hcan.step j hjn;have:o'=o:=by rw[ho]at h1;exact(Option.some.inj h1).symm
 subst this;obtain⟨n1,n2,n3,n4,n5,n6⟩:=iA h4;have ho':ops[j]? =some o':=by rw[←alA];exact ho
 have order:∀i ri,i<ops.toList.length→rs[i]? =some ri→i≠j→¬(if i<j then apart ri r=true else apart r ri=true)→(i<j→S i=true)∧(j<i→S i=false):=by
  intro i ri hi hri hne hna;refine⟨fun hlt=>?_,fun hlt=>?_⟩
  ·rw[if_pos hlt]at hna
   obtain⟨m,hm1,hm2⟩:=ja rs rs _ 0 j r hch h2;rcases je m (0+j) r rs 0 i ri hm2 hri (by omega)with hb|hb
   ·rw[Nat.zero_add]at hb
    exact xJ hp h.dc j m o' ho hpre hm1 i hb
   ·exact absurd hb hna
  ·rw[if_neg (by omega)]at hna
   obtain⟨m,hm1,hm2⟩:=ja rs rs _ 0 i ri hch hri;rcases je m (0+i) ri rs 0 j r hm2 h2 (by omega)with hb|hb
   ·rw[Nat.zero_add]at hb
    cases hs:S i with
    |false=>rfl
    |true=>
     obtain⟨oi,hoi⟩:∃oi,ops.toList[i]? =some oi:=⟨ops.toList[i]'hi,by simp⟩;have:=xJ hp h.dc i m oi hoi (h.dc i oi hoi hs) hm1 j hb;rw[hS]at this;cases this
   ·exact absurd hb hna
 have wt:∀i t,(Wt rs i t).isSome =true→∃ri,rs[i]? =some ri∧ri.tw=some t:=fun i t hw=>by
  unfold Wt at hw;split at hw
  ·rename_i ri hri
   split at hw
   ·rename_i e;exact⟨ri,hri,e⟩
   ·cases hw
  ·cases hw
 have wn:∀i x,(Wn rs i x).isSome =true→∃ri,rs[i]? =some ri∧∃c,(x,c)∈ri.nw:=fun i x hw=>by
  unfold Wn at hw;split at hw
  ·rename_i ri hri
   obtain⟨c,hc⟩:=Option.isSome_iff_exists.1 hw;exact⟨ri,hri,c,yI hc⟩
  ·cases hw
 have wa:∀i x,(Wa rs i x).isSome =true→∃ri,rs[i]? =some ri∧∃k v,ri.ad=some (x,k,v):=fun i x hw=>by
  unfold Wa at hw;split at hw
  ·rename_i ri hri
   cases ha:ri.ad with
   |none=>rw[ha]at hw;cases hw
   |some p=>
    obtain⟨n,k,v⟩:=p;rw[ha]at hw;have hw':(if n=x then some (k,v)else none:Option (Value×AV)).isSome =true:=hw;split at hw'
    ·rename_i e;subst e;exact⟨ri,hri,k,v,ha⟩
    ·cases hw'
  ·cases hw
 have htr:r.tr=eB ops o'∧r.tw=o'.dst∧∀t∈eB ops o',((sts j).tm.get t).isSome =true:=by
  unfold adK at h3;dsimp only at h3;have hpr:=(ae h3).1;replace h3:=(ae h3).2;refine⟨?_,?_,alz.1 hpr⟩<;>
  ·cases hw:rG ops (sts j).tm o'.guard with
   |true=>
    rw[hw]at h3;simp only[cond_true]at h3;split at h3
    ·cases h3;rfl
    ·split at h3
     ·cases h3;rfl
     ·cases h3
   |false=>rw[hw]at h3;cases h3;rfl
 have readT:∀t∈r.tr,dU (Wt rs) (sts 0).tm.get S ops.toList.length t=(sts j).tm.get t:=fun t ht=>by
  rw[hcan.tm j (by omega) t];refine acJ _ _ hjn hS (fun i hi hw hne=>?_);obtain⟨ri,hri,e⟩:=wt i t hw;refine order i ri hi hri hne (fun hna=>?_);split at hna
  ·exact(apart_spec hna).1 t e ht
  ·exact(apart_spec hna).2.1 t e ht
 have readN:∀x∈r.nr,bU (Wn rs) (Wa rs) (sts 0).H.get S ops.toList.length x=(sts j).H.get x:=fun x hx=>by
  rw[hcan.heap j (by omega) x];refine acK _ _ _ hjn hS (fun i hi hw hne=>?_);rcases hw with hw|hw
  ·obtain⟨ri,hri,c,e⟩:=wn i x hw
   refine order i ri hi hri hne (fun hna=>?_);split at hna
   ·exact(apart_spec hna).2.2.2.1 _ e hx
   ·exact(apart_spec hna).2.2.2.2.2 _ e hx
  ·obtain⟨ri,hri,k,v,e⟩:=wa i x hw
   refine order i ri hi hri hne (fun hna=>?_);split at hna
   ·exact(dG (jd hna).1 e).1 hx
   ·exact(dG (jd hna).2 e).1 hx
 have wtj:∀t,Wt rs j t=if r.tw=some t then some (some r.v)else none:=fun t=>by unfold Wt;rw[h2]
 have wnj:∀x,Wn rs j x=bK x r.nw:=fun x=>by unfold Wn;rw[h2]
 have addT:∀t,dU (Wt rs) (sts 0).tm.get (jf S j) ops.toList.length t=(if o'.dst=some t then some (some r.v)else none).getD (dU (Wt rs) (sts 0).tm.get S ops.toList.length t):=fun t=>by
  rw[afg _ _ hjn hS (fun i hi hw hwj hlt=>?_)]
  ·rw[wtj t,htr.2.1]
  ·obtain⟨ri,hri,e⟩:=wt i t hw
   obtain⟨rj,hrj,e'⟩:=wt j t hwj;rw[h2]at hrj;cases hrj;refine(order i ri hi hri (by omega) (fun hna=>?_)).2 hlt;rw[if_neg (by omega)]at hna;exact(apart_spec hna).2.2.1 t e' e
 have waj:∀x,Wa rs j x=af8 x r.ad:=fun x=>by unfold Wa;rw[h2]
 have addN:∀x,Sim (bU (Wn rs) (Wa rs) (sts 0).H.get (jf S j) ops.toList.length x) (rY (af8 x r.ad) ((bK x r.nw).getD (bU (Wn rs) (Wa rs) (sts 0).H.get S ops.toList.length x))):=fun x=>by
  rw[←wnj x, ←waj x];refine afh _ _ _ hjn hS (fun i hi hlt hs=>⟨fun hw=>?_,fun hw=>?_⟩)
  ·obtain⟨ri,hri,c,e⟩:=wn i x hw
   have off:∀P:Prop,¬apart r ri=true→P:=fun P hna=>by
    have:=(order i ri hi hri (by omega) (by rw[if_neg (by omega)];exact hna)).2 hlt;rw[hs]at this;cases this
   constructor
   ·cases hwj:Wn rs j x with
    |none=>rfl
    |some c'=>
     obtain⟨rj,hrj,c',e'⟩:=wn j x (by rw[hwj];rfl);rw[h2]at hrj;cases hrj;exact off _ (fun hna=>(apart_spec hna).2.2.2.2.1 _ e' _ e rfl)
   ·cases hwj:Wa rs j x with
    |none=>rfl
    |some c'=>
     obtain⟨rj,hrj,k,v,e'⟩:=wa j x (by rw[hwj];rfl);rw[h2]at hrj;cases hrj;exact off _ (fun hna=>(dG (jd hna).1 e').2.1 _ e rfl)
  ·obtain⟨ri,hri,k,v,e⟩:=wa i x hw
   cases hwj:Wn rs j x with
   |none=>rfl
   |some c'=>
    obtain⟨rj,hrj,c',e'⟩:=wn j x (by rw[hwj];rfl);rw[h2]at hrj;cases hrj;have:=(order i ri hi hri (by omega) (by rw[if_neg (by omega)];exact fun hna=>(dG (jd hna).2 e).2.1 _ e' rfl)).2 hlt;rw[hs]at this;cases this
 have dcAdd:∀i oi,ops.toList[i]? =some oi→jf S j i=true→∀e∈mM oi,jf S j e=true:=fun i oi hoi hs e he=>by
  unfold jf at hs⊢
  split
  ·rfl
  ·split at hs
   ·rename_i e1;subst e1
    have:oi=o':=by rw[ho]at hoi;exact(Option.some.inj hoi).symm
    subst this;exact hpre e he
   ·exact h.dc i oi hoi hs e he
 have hwant:Region.wanted o' (yielded ops a.tmps)=rG ops (sts j).tm o'.guard:=pI (E:=E) (fun t ht=>⟨_,dx (htr.2.2 t ht),h.tm t _ (by rw[readT t (by rw[htr.1];exact ht)];exact dx (htr.2.2 t ht))⟩);have hDfree:∀n,(sts j).nx ≤n→n<(sts (j+1)).nx →¬D n:=fun n ha hb hd=>by
  rcases h.hD n hd with h5|⟨i,hi,hin,h5,h6⟩
  ·exact hfree n (by have:=hcan.mono j 0 (by omega) (by omega);omega) (by have:=hcan.mono ops.toList.length (j+1) (by omega) alK;omega) h5
  ·have hij:i≠j:=fun e=>by subst e;rw[hS]at hi;cases hi
   by_cases hlt:i<j
   ·have:=hcan.mono j (i+1) (by omega) (by omega);omega
   ·have:=hcan.mono i (j+1) (by omega) (by omega);omega
 unfold wpOpIn;simp only[ho'];rw[hwant];have tmPut:∀(E':Env) (v:AV),r.v=v→(∀n,D n→E' n=E n)→(a.put o'.dst (ah E' v)).tmps.size =nt∧∀t u,dU (Wt rs) (sts 0).tm.get (jf S j) ops.toList.length t=some u→(a.put o'.dst (ah E' v)).tmps.getD t undef=ah E' u:=by
  intro E' v hv he;rw[htr.2.1]at n5;refine⟨by cases hd:o'.dst<;>simp[Act.put,h.sz],fun t u hu=>?_⟩;rw[addT t]at hu;have hold:∀u,dU (Wt rs) (sts 0).tm.get S ops.toList.length t=some u→a.tmps.getD t undef=ah E' u:=fun u hu=>by rw[h.tm t u hu,bB he _ (h.tin t u hu)]
  cases hd:o'.dst with
  |none=>rw[hd]at hu;simp at hu;simpa[Act.put]using hold u hu
  |some d=>
   rw[hd]at n5 hu;obtain⟨hb,_⟩:=ae n5;simp only[ale,Nat.blt_eq]at hb;simp only[Act.put];by_cases e:d=t
   ·subst e
    rw[if_pos rfl]at hu;simp only[Option.getD_some,Option.some.injEq]at hu;subst hu;have:d<a.tmps.size:=by rw[h.sz];exact hb.1
    simp[Array.getD,this,hv]
   ·have e':¬(some d=some t):=fun q=>e (Option.some.inj q)
    rw[if_neg e']at hu;have:=hold u hu;simp only[Array.getD_eq_getD_getElem?,Array.getElem?_setIfInBounds_ne e]at this⊢
    exact this
 cases hw:rG ops (sts j).tm o'.guard with
 |false=>
  simp only[alu,if_false];have h3':=h3;unfold adK at h3';dsimp only at h3';replace h3':=(ae h3').2;rw[hw]at h3';cases h3';obtain⟨q1,q2⟩:=tmPut E (.lit undef) rfl (fun _ _=>rfl);refine⟨fun f _=>iU ro f,hK E D _ w ⟨dcAdd,h.hf.sim (fun x=>by have:=addN x;rw[show af8 x none=none from rfl,bT]at this;exact this),q1,q2,fun t u hu=>?_,fun n hn=>?_,h.hD0,h.agree,?_,fun i hi hs x ob hx=>?_⟩⟩
  ·rw[addT t]at hu
   by_cases e:o'.dst=some t
   ·rw[if_pos e]at hu
    cases hu
    trivial
   ·rw[if_neg e]at hu;exact h.tin t u hu
  ·rcases h.hD n hn with h5|⟨i,hi,h5⟩
   ·exact .inl h5
   ·exact .inr ⟨i,by unfold jf;split;rfl;exact hi,h5⟩
  ·rw[←h.df];cases o'.dst<;>rfl
  ·by_cases e:i=j
   ·subst e
    unfold Wn at hx;rw[h2]at hx;cases hx
   ·exact h.dom i hi (by simpa[jf,e]using hs) x ob hx
 |true=>
  simp only[if_true];have h3':=h3;unfold adK at h3';dsimp only at h3';replace h3':=(ae h3').2;rw[hw]at h3';simp only[cond_true]at h3';split at h3'
  ·rename_i p hadd
   cases h3';obtain⟨y,kv,vv⟩:=p;dsimp only at n1 n2 n3 n4 n5 n6 addN readN readT tmPut addT htr;obtain⟨⟨es,hes,hesF⟩,hyl,⟨m0,hm0⟩,⟨x0,hx0⟩,hop⟩:=af7 hadd;have hin:∀t∈eB ops o',(abR (sts j).tm t).In D:=fun t ht=>h.tin t _ (by rw[readT t (by rw[htr.1];exact ht)];exact dx (htr.2.2 t ht))
   obtain⟨es2,he2,hF2⟩:=acL (Wn rs) (Wa rs) (sts 0).H.get (S:=S) (j:=j) (n:=ops.toList.length) (x:=y) (fun e=>gY kv e.1=some false) hjn hS (fun i hi hw hne=>by
    obtain⟨ri,hri,c,e⟩:=wn i y hw;refine order i ri hi hri hne (fun hna=>?_);split at hna
    ·exact(dG (jd hna).2 rfl).2.1 _ e rfl
    ·exact(dG (jd hna).1 rfl).2.1 _ e rfl) (fun i p hi hlt hs hp'=>by
    obtain⟨ri,hri,k,v,e⟩:=wa i y (by rw[hp'];rfl);have hap:apart ⟨eB ops o',o'.dst,.lit undef,[],[],(sts j).nx,(sts j).nx,some (y,kv,vv)⟩ ri=true:=by
     cases hap:apart ⟨eB ops o',o'.dst,.lit undef,[],[],(sts j).nx,(sts j).nx,some (y,kv,vv)⟩ ri with
     |true=>rfl
     |false=>
      have:=(order i ri hi hri (by omega) (by rw[if_neg (by omega),hap];simp)).2 hlt;rw[hs]at this;cases this
    have hk:=(dG (jd hap).1 rfl).2.2 _ _ e;have hp2:Wa rs i y=some (k,v):=by unfold Wa;rw[hri];show af8 y ri.ad=_;rw[e];exact if_pos rfl
    rw[hp2]at hp';cases hp';exact hk) (es:=es) (by rw[←hcan.heap j (by omega) y];exact hes) (aiz hesF)
   have hget:∀(o2:AObj) n,((Tr.leaf:Heap).set y o2).get n=if n=y then some o2 else none:=fun o2 n=>by rw[aU hyl];rfl
   have hs:∀n ob,((Tr.leaf:Heap).set y (.map es2)).get n=some ob→bU (Wn rs) (Wa rs) (sts 0).H.get S ops.toList.length n=some ob:=fun n ob hn=>by
    rw[hget]at hn;split at hn
    ·rename_i e;subst e;cases hn;exact he2
    ·cases hn
   rw[n4]at hDfree;refine uR (S:=Sof E ((Tr.leaf:Heap).set y (.map es2))) (w0:=w) (E:=E) (D:=D) hc (hcf _ _ (fun w' hf=>hG w' (h.hf.fr_sub hs hf))) (h.hf.sub hs) (o:=o') (a:=a) (r:=fun x=>ah E (evL ((eB ops o').map fun t=>(t,abR (sts j).tm t)) x)) (execOp_congr o' (fun cs b e=>?_) (fun x hx=>?_)) (fun _=>rfl) (aiY hin) (hi:=(sts j).nx) (by rw[←n2]at hDfree;exact hDfree) (hop cf _ es2 (sts j).nx (by rw[hget,if_pos rfl]) hF2) (fun hle hdom E' w' e1 e2 e3=>?_)
   ·rw[e]at hadd;cases hadd
   ·cases x with
    |tmp t=>
     show a.tmps.getD t undef=ah E ((bK t _).getD _);rw[lW _ (dV hx)];exact h.tm t _ (by rw[readT t (dV hx)];exact dx (htr.2.2 t (dV hx)))
    |const c=>rfl
    |global g=>rfl
    |func f=>rfl
   ·obtain⟨q1,q2⟩:=tmPut E' (.lit undef) rfl e1
    have hfr:HF S0 w0 E' (DR D (sts j).nx (sts j).nx) (fun x=>rY (af8 x (some (y,kv,vv))) (bU (Wn rs) (Wa rs) (sts 0).H.get S ops.toList.length x)) w':=h.hf.frame hs hDfree e1 e2 hdom (fun x=>by
     by_cases e:x=y
     ·subst e
      refine .inl ⟨.inl ⟨_,by rw[hget,if_pos rfl]⟩,?_⟩;rw[he2,aU hyl,if_pos rfl,show af8 x (some (x,kv,vv))=some (kv,vv)from if_pos rfl];rfl
     ·refine .inr ⟨fun⟨ob,hob⟩=>(by rw[hget,if_neg e]at hob;cases hob),(by omega),?_⟩
      rw[show af8 x (some (y,kv,vv))=none from if_neg (fun q=>e q.symm),bT])
    refine hK E' (DR D (sts j).nx (sts j).nx) _ w' ⟨dcAdd,hfr.sim addN,q1,q2,fun t u hu=>?_,fun n hn=>?_,fun n hn=>.inl (h.hD0 n hn),fun n hn=>(e1 n (h.hD0 n hn)).trans (h.agree n hn),?_,fun i hi hsi x ob hx=>?_⟩
    ·rw[addT t]at hu
     by_cases e:o'.dst=some t
     ·rw[if_pos e]at hu
      cases hu;exact e3
     ·rw[if_neg e]at hu;exact Ev.In.mono DR.le _ (h.tin t u hu)
    ·rcases hn with hn|hn
     ·rcases h.hD n hn with h5|⟨i,hi,h5⟩
      ·exact .inl h5
      ·exact .inr ⟨i,by unfold jf;split;rfl;exact hi,h5⟩
     ·omega
    ·rw[←h.df];cases o'.dst<;>rfl
    ·by_cases e:i=j
     ·subst e
      unfold Wn at hx;rw[h2]at hx;cases hx
     ·exact h.dom i hi (by simpa[jf,e]using hsi) x ob hx
  split at h3'
  ·rename_i v H' hi' hop
   cases h3';dsimp only at n1 n2 n3 n4 n5 n6 addN readN readT tmPut addT htr;generalize hHr:jW (tH (sts j).H (foot (sts j).H (evL ((eB ops o').map fun t=>(t,abR (sts j).tm t))) o'.op))=Hr at*
   generalize hnr:foot (sts j).H (evL ((eB ops o').map fun t=>(t,abR (sts j).tm t))) o'.op=nr at*
   have hsub:∀n ob,Hr.get n=some ob→n∈nr∧(sts j).H.get n=some ob:=fun n ob hn=>mQ (by rw[hHr];exact hn)
   have hs:∀n ob,Hr.get n=some ob→bU (Wn rs) (Wa rs) (sts 0).H.get S ops.toList.length n=some ob:=fun n ob hn=>by
    rw[readN n (hsub n ob hn).1];exact(hsub n ob hn).2
   rw[n4]at hDfree;refine uR (S:=Sof E Hr) (w0:=w) (E:=E) (D:=D) hc (hcf _ _ (fun w' hf=>hG w' (h.hf.fr_sub hs hf))) (h.hf.sub hs) (o:=o') (a:=a) (r:=fun x=>ah E (evL ((eB ops o').map fun t=>(t,abR (sts j).tm t)) x)) (execOp_congr o' (fun cs b e=>?_) (fun x hx=>?_)) (fun _=>rfl) (aiY fun t ht=>?_) hDfree hop (fun hle hdom E' w' e1 e2 e3=>?_)
   ·rw[e]at hop;cases hop
   ·cases x with
    |tmp t=>
     show a.tmps.getD t undef=ah E ((bK t _).getD _);rw[lW _ (dV hx)];exact h.tm t _ (by rw[readT t (dV hx)];exact dx (htr.2.2 t (dV hx)))
    |const c=>rfl
    |global g=>rfl
    |func f=>rfl
   ·exact h.tin t _ (by rw[readT t ht];exact dx (htr.2.2 t ht))
   ·obtain⟨q1,q2⟩:=tmPut E' v rfl e1
    have hxD:∀x ob,bU (Wn rs) (Wa rs) (sts 0).H.get S ops.toList.length x=some ob→D x:=fun x ob hx=>(h.hf.names x ob hx).1
    have key:∀x,(((∃ob,Hr.get x=some ob)∨((sts j).nx ≤x∧x<hi'))∧(fun x=>(bK x (changed Hr H' nr++fresh H' (sts j).nx (hi'-(sts j).nx))).getD (bU (Wn rs) (Wa rs) (sts 0).H.get S ops.toList.length x)) x=H'.get x)∨(¬(∃ob,Hr.get x=some ob)∧¬((sts j).nx ≤x∧x<hi')∧(fun x=>(bK x (changed Hr H' nr++fresh H' (sts j).nx (hi'-(sts j).nx))).getD (bU (Wn rs) (Wa rs) (sts 0).H.get S ops.toList.length x)) x=bU (Wn rs) (Wa rs) (sts 0).H.get S ops.toList.length x):=by
     intro x;dsimp only;rw[jF];obtain⟨f1,f2⟩:=nA (H':=H') (sts j).nx x (hi'-(sts j).nx);have hsum:(sts j).nx +(hi'-(sts j).nx)=hi':=by omega
     rw[hsum]at f1 f2;by_cases hdm:∃ob,Hr.get x=some ob
     ·refine .inl ⟨.inl hdm,?_⟩
      obtain⟨ob,hob⟩:=hdm;have hxn:=(hsub x ob hob).1;have hG':=hs x ob hob;have hrng:¬((sts j).nx ≤x∧x<hi'):=fun hr'=>hDfree x hr'.1 hr'.2 (hxD x ob hG')
      have hcs:=dE (Hr:=Hr) (H':=H') x nr hxn;rw[f2 hrng,Option.or_none,hG', ←hob];exact hcs
     ·by_cases hrng:(sts j).nx ≤x∧x<hi'
      ·refine .inl ⟨.inr hrng,?_⟩
       have hGn:bU (Wn rs) (Wa rs) (sts 0).H.get S ops.toList.length x=none:=by
        cases hg:bU (Wn rs) (Wa rs) (sts 0).H.get S ops.toList.length x with
        |none=>rfl
        |some ob=>exact absurd (hxD x ob hg) (hDfree x hrng.1 hrng.2)
       have hHn:Hr.get x=none:=by
        cases hg:Hr.get x with
        |none=>rfl
        |some ob=>exact absurd ⟨ob,hg⟩ hdm
       rw[f1 hrng,hGn];by_cases hxn:x∈nr
       ·have hcs:=dE (Hr:=Hr) (H':=H') x nr hxn
        cases hac:bK x (changed Hr H' nr)with
        |some c=>rw[hac]at hcs;exact hcs
        |none=>
         rw[hac]at hcs;simp only[Option.getD_none]at hcs;rw[hHn]at hcs;rw[←hcs];rfl
       ·rw[gF (dE.changed_names x nr hxn),Option.none_or]
        cases H'.get x<;>rfl
      ·refine .inr ⟨hdm,hrng,?_⟩
       rw[f2 hrng,Option.or_none];have hHn:Hr.get x=none:=by
        cases hg:Hr.get x with
        |none=>rfl
        |some ob=>exact absurd ⟨ob,hg⟩ hdm
       cases hac:bK x (changed Hr H' nr)with
       |none=>rfl
       |some c=>
        cases c with
        |none=>exact absurd (dX x nr hac) hdm
        |some ob=>
         by_cases hxn:x∈nr
         ·have hcs:=dE (Hr:=Hr) (H':=H') x nr hxn
          rw[hac]at hcs;rcases hdom x ob hcs.symm with h5|h5
          ·exact absurd h5 hdm
          ·exact absurd h5 hrng
         ·rw[gF (dE.changed_names x nr hxn)]at hac
          cases hac
    refine hK E' (DR D (sts j).nx hi') _ w' ⟨dcAdd,(h.hf.frame hs hDfree e1 e2 hdom key).sim (fun x=>by have:=addN x;rw[show af8 x none=none from rfl,bT]at this;exact this),q1,q2,fun t u hu=>?_,fun n hn=>?_,fun n hn=>.inl (h.hD0 n hn),fun n hn=>(e1 n (h.hD0 n hn)).trans (h.agree n hn),?_,fun i hi hsi x ob hx=>?_⟩
    ·rw[addT t]at hu
     by_cases e:o'.dst=some t
     ·rw[if_pos e]at hu
      cases hu;exact e3
     ·rw[if_neg e]at hu;exact Ev.In.mono DR.le _ (h.tin t u hu)
    ·rcases hn with hn|hn
     ·rcases h.hD n hn with h5|⟨i,hi,h5⟩
      ·exact .inl h5
      ·exact .inr ⟨i,by unfold jf;split;rfl;exact hi,h5⟩
     ·exact .inr ⟨j,by simp[jf],hjn,hn.1,by rw[n4];exact hn.2⟩
    ·rw[←h.df];cases o'.dst<;>rfl
    ·by_cases e:i=j
     ·subst e
      unfold Wn at hx;rw[h2]at hx;dsimp only at hx;rw[n4];rcases key x with ⟨h5,h6⟩|⟨h5,h6,h7⟩
      ·rcases h5 with ⟨ob',h5⟩|h5
       ·exact .inl ⟨ob',(hsub x ob' h5).2⟩
       ·exact .inr h5
      ·dsimp only at h7
       rw[hx]at h7;have hg:bU (Wn rs) (Wa rs) (sts 0).H.get S ops.toList.length x=some ob:=h7.symm;rw[jF]at hx;obtain⟨f1,f2⟩:=nA (H':=H') (sts i).nx x (hi'-(sts i).nx);rw[f2 (by omega),Option.or_none]at hx;by_cases hxn:x∈nr
       ·exact .inl ⟨ob,by rw[←readN x hxn];exact hg⟩
       ·rw[gF (dE.changed_names x nr hxn)]at hx
        cases hx
     ·exact h.dom i hi (by simpa[jf,e]using hsi) x ob hx
  ·cases h3'
end
end Go.Proofs.Q.Ev
namespace Go.Proofs.Q.Ev
open Go Go.RowKit
variable [Sym]
section
variable {cx:Cx} {cf:bO} {G:World→Prop} {S0:Nat→Prop} {w0:World} {nt:Nat} {ops:Array Oper} {rs:List Rec} {sts:Nat→FSt}
def bS (listed:Array Bool):Nat→Bool:=fun i=>listed.getD i false
theorem ai3 {listed:Array Bool}{j:Nat}(h:j<listed.size):bS (listed.setIfInBounds j true)=jf (bS listed) j:=by
 funext i;unfold bS jf;by_cases e:i=j
 ·subst e;simp[Array.getD,h]
 ·rw[if_neg e]
  simp only[Array.getD_eq_getD_getElem?,Array.getElem?_setIfInBounds_ne (fun q:j=i=>e q.symm)]
theorem xI {o:Oper}{e:Nat}:e∈mM o↔∃x∈o.after,Region.binds .any x=true∧x.on=e:=by
 unfold mM;simp only[alq,List.mem_filter,Array.mem_toList_iff];exact⟨fun⟨x,⟨a,b⟩,c⟩=>⟨x,a,b,c⟩,fun⟨x,a,b,c⟩=>⟨x,⟨a,b⟩,c⟩⟩
theorem ah1 (hc:CxOK cx)(hG:∀w,Fr S0 w0 w→G w)(hcf:bM cx G cf)(hcan:Canon cx cf nt ops ops.toList rs sts)(hp:kG ops.toList 0=true)(hch:jb rs rs (masks [] ops.toList) 0=true)
 {Db:Nat→Prop} (hfree:uu Db (sts 0).nx (sts ops.toList.length).nx) {E0:Env} {df:List Deferred} {ro:Option Nat} {Q:Exit→Act→World→Prop} (hQ:∀S a w E D,(∀i,i<ops.toList.length→S i=true)→Inv S0 w0 nt ops rs sts Db E0 df S a w E D→Q .normal a w):
 ∀(fuel:Nat) (listed:Array Bool) (a:Act) (w:World) (E:Env) (D:Nat→Prop),listed.size=ops.toList.length→cnt (bS listed) ops.toList.length=fuel→Inv S0 w0 nt ops rs sts Db E0 df (bS listed) a w E D→wpAnyIn (fence ro) 0 cx.P .any ops Q fuel listed a w:=by
 have full:∀(listed:Array Bool) (a:Act) (w:World) (E:Env) (D:Nat→Prop),listed.size=ops.toList.length→Inv S0 w0 nt ops rs sts Db E0 df (bS listed) a w E D→Region.ready .any ops listed=[]→∀i,i<ops.toList.length→bS listed i=true:=by
  intro listed a w E D hsz hI hr i
  induction i using Nat.strongRecOn with
  |_ i ih=>
   intro hi;cases hb:bS listed i with
   |true=>rfl
   |false=>
    exfalso;have ho:ops.toList[i]? =some (ops.toList[i]'hi):=by simp
    have hm:i∈Region.ready .any ops listed:=by
     refine mem_ready.2 ⟨?_,ops.toList[i]'hi,by rw[←alA];exact ho,fun e he hbd=>?_⟩
     ·have hlt:i<listed.size:=by rw[hsz];exact hi
      unfold bS at hb;simp[Array.getD,hlt]at hb⊢
      exact hb
     ·have hpe:e.on∈mM (ops.toList[i]'hi):=xI.2 ⟨e,he,hbd,rfl⟩
      have:=jw ops.toList 0 i _ hp ho _ hpe;exact ih e.on (by omega) (by omega)
    rw[hr]at hm;cases hm
 intro fuel
 induction fuel with
 |zero=>
  intro listed a w E D hsz hcnt hI;have hall:=aby _ hcnt;refine⟨?_,hQ _ a w E D hall hI⟩;cases hr:Region.ready .any ops listed with
  |nil=>rfl
  |cons i l=>
   have hm:i∈Region.ready .any ops listed:=by rw[hr];exact alm
   obtain⟨h1,o,ho,_⟩:=mem_ready.1 hm;have hlt:i<ops.toList.length:=by simpa using(alc.1 ho).1
   have h2:=hall i hlt;have hlt':i<listed.size:=by rw[hsz];exact hlt
   unfold bS at h2;simp[Array.getD,hlt']at h1 h2;rw[h1]at h2;cases h2
 |succ fuel ih=>
  intro listed a w E D hsz hcnt hI;refine⟨fun hr=>hQ _ a w E D (full listed a w E D hsz hI hr) hI,fun j hj=>?_⟩;obtain⟨h1,o,ho,hpre⟩:=mem_ready.1 hj;have hlt:j<ops.toList.length:=by simpa using(alc.1 ho).1
  have hlt':j<listed.size:=by rw[hsz];exact hlt
  have hSj:bS listed j=false:=by
   unfold bS;simp[Array.getD,hlt']at h1⊢
   exact h1
  refine hI.next hc hG hcf hcan hp hch hfree (by rw[alA];exact ho) hSj (fun e he=>?_) (fun E' D' a' w' hI'=>?_)
  ·obtain⟨x,hx,hb,rfl⟩:=xI.1 he
   exact hpre x hx hb
  ·refine ih _ a' w' E' D' (by simp[hsz]) ?_ (by rw[ai3 hlt'];exact hI')
   rw[ai3 hlt'];have:=afi hSj ops.toList.length;rw[if_pos hlt]at this;omega
theorem afU (n:Nat):∀i,bS (Array.replicate n false) i=false:=fun i=>by
 unfold bS;simp only[Array.getD_eq_getD_getElem?,Array.getElem?_replicate];split<;>rfl
theorem nV {st st':FSt}(he:mJ cx cf nt ops st=some st'):st.nx≤st'.nx:=by
 unfold mJ at he;split at he
 ·rename_i rs st2 hrec
  obtain⟨hb,he⟩:=ae he;cases he;obtain⟨sts,e0,e1,hcan⟩:=mK ops.toList st st' rs hrec;rw[←e0, ←e1];exact hcan.mono _ 0 (Nat.zero_le _) alK
 ·cases he
theorem sU (hc:CxOK cx)(hG:∀w,Fr S0 w0 w→G w)(hcf:bM cx G cf){st st':FSt}{E:Env}{Db:Nat→Prop}{a:Act}{w:World}(h:Rel S0 w0 nt E Db st a.tmps w)(he:mJ cx cf nt ops st=some st')(hfr:uu Db st.nx st'.nx){ro:Option Nat}{Q:Exit→Act→World→Prop}
 (hQ:Dom st.H st'.H st.nx st'.nx→∀E' a' w',a'.defers=a.defers→(∀n,Db n→E' n=E n)→Rel S0 w0 nt E' (DR Db st.nx st'.nx) st' a'.tmps w'→Q .normal a' w'):wpAnyIn (fence ro) 0 cx.P .any ops Q ops.size (Array.replicate ops.size false) a w:=by
 unfold mJ at he;split at he
 ·rename_i rs st2 hrec
  obtain⟨hb,he⟩:=ae he;cases he;simp only[ale]at hb;obtain⟨sts,e0,e1,hcan⟩:=mK ops.toList st st' rs hrec;have hn:ops.toList.length=ops.size:=by simp
  have hle:st.nx≤st'.nx:=by rw[←e0, ←e1];exact hcan.mono _ 0 (Nat.zero_le _) alK
  refine ah1 hc hG hcf hcan hb.1 hb.2 (Db:=Db) (by rw[e0,e1];exact hfr) (E0:=E) (df:=a.defers) (fun S a' w' E' D hall hI=>?_) ops.size _ a w E Db (by simp) ?_ ?_
  ·have domK:∀k,k≤ops.toList.length→Dom st.H (sts k).H st.nx (sts k).nx :=by
    intro k
    induction k with
    |zero=>intro _;rw[e0];exact Dom.refl _ _ _
    |succ k ih=>
     intro hk x ob hx;have hm:st.nx≤(sts k).nx :=by have:=hcan.mono k 0 (Nat.zero_le _) (by omega);rwa[e0]at this
     have hm2:(sts k).nx ≤(sts (k+1)).nx :=hcan.mono (k+1) k (by omega) (by omega);have lift:(∃o',(sts k).H.get x=some o')→(∃o',st.H.get x=some o')∨(st.nx≤x∧x<(sts (k+1)).nx):=fun⟨o',ho'⟩=>
      (ih (by omega) x o' ho').imp id fun⟨a,b⟩=>⟨a,alx b hm2⟩
     rw[hcan.heap (k+1) hk x,jE, ←hcan.heap k (by omega) x]at hx;have hx2:=af6 hx;obtain⟨ob',hx⟩:=hx2;cases hw:Wn rs k x with
     |none=>rw[hw]at hx;exact lift ⟨ob',hx⟩
     |some c=>
      rw[hw]at hx;simp only[Option.getD_some]at hx;subst hx;rcases hI.dom k (by omega) (hall k (by omega)) x ob' hw with h5|h5
      ·exact lift h5
      ·exact .inr ⟨by omega,h5.2⟩
   have hdomF:Dom st.H st'.H st.nx st'.nx:=by have:=domK _ alK;rwa[e1]at this
   have hG':∀x,st'.H.get x=bU (Wn rs) (Wa rs) (sts 0).H.get S ops.toList.length x:=fun x=>by
    rw[←e1,hcan.heap _ alK x,uo _ _ _ hall _ _ alK]
   have hT':∀t,st'.tm.get t=dU (Wt rs) (sts 0).tm.get S ops.toList.length t:=fun t=>by
    rw[←e1,hcan.tm _ alK t,ul _ _ hall _ _ alK]
   have hDn:∀n,D n→DR Db st.nx st'.nx n:=fun n hd=>by
    rcases hI.hD n hd with h5|⟨i,_,hi,h6,h7⟩
    ·exact .inl h5
    ·have q1:=hcan.mono ops.toList.length (i+1) (by omega) alK
     have q2:=hcan.mono i 0 (Nat.zero_le _) (by omega);rw[e1]at q1;rw[e0]at q2;exact .inr ⟨by omega,by omega⟩
   refine hQ hdomF E' a' w' hI.df (fun n hn'=>hI.agree n hn') ⟨(hI.hf.toW hG').more hDn,⟨hI.sz,fun t u hu=>hI.tm t u (by rw[←hT' t];exact hu)⟩,fun t u hu=>Ev.In.mono hDn u (hI.tin t u (by rw[←hT' t];exact hu))⟩
  ·rw[hn]
   have:∀k,cnt (bS (Array.replicate ops.size false)) k=k:=by
    intro k
    induction k with
    |zero=>rfl
    |succ k ih=>rw[oZ,ih,afU];rfl
   exact this _
  ·have hz:=afU ops.size
   refine⟨fun j o _ hs=>?_,?_,h.tm.1,fun t u hu=>?_,fun t u hu=>?_,fun n hn'=>.inl hn',fun n hn'=>hn',fun _ _=>rfl,rfl,fun i _ hs=>?_⟩
   ·rw[hz j]at hs;cases hs
   ·exact h.hw.toF.congr (fun x=>by rw[um _ _ _ hz,e0])
   ·rw[nL _ _ hz,e0]at hu;exact h.tm.2 t u hu
   ·rw[nL _ _ hz,e0]at hu;exact h.tin t u hu
   ·rw[hz i]at hs;cases hs
 ·cases he
end
end Go.Proofs.Q.Ev
