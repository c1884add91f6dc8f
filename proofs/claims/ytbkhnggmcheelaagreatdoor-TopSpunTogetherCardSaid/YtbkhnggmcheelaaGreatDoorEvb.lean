/- TopSpunTogether: A reckoner of closed runs. Conditions: bounded sizes; variables as laid. -/
import Derived.Test.YtbkhnggmcheelaaGreatDoorEva
set_option linter.unusedSectionVars false
set_option linter.unusedSimpArgs false
set_option linter.unusedVariables false
namespace Go.Proofs.Q.Ev
section
open Go Go.RowKit
variable [Sym]
section
variable {α β:Type} (W:Nat->α->Option β) (init:α->β)
def eQ (S:Nat->Bool):Nat->α->β
 |0,x=>init x
 |k+1,x=>if S k then(W k x).getD (eQ S k x)else eQ S k x
def acy:Nat->Bool:=fun _=>true
theorem dE (S:Nat->Bool)(k:Nat)(x:α):eQ W init S (k+1) x=if S k then(W k x).getD (eQ W init S k x)else eQ W init S k x:=rfl
theorem sS (k:Nat)(x:α):eQ W init acy (k+1) x=(W k x).getD (eQ W init acy k x):=rfl
theorem adB {S:Nat->Bool}{j n:Nat}{x:α}(hj:j<n)(hS:S j=false)(h:∀i,i<n->(W i x).isSome =true->i≠j->(i<j->S i=true)/\(j<i->S i=false)):eQ W init S n x=eQ W init acy j x:=by
 have h1:∀k,k<=j->eQ W init S k x=eQ W init acy k x:=by
  intro k
  induction k with
  |zero=>intro _;rfl
  |succ k ih=>
   intro hk;rw[sS];rw[dE,ih (by omega)];cases hw:W k x with
   |none=>simp
   |some b=>rw[(h k (by omega) (by rw[hw];rfl) (by omega)).1 (by omega)];rfl
 have h2:∀d,j+d<=n->eQ W init S (j+d) x=eQ W init S j x:=by
  intro d
  induction d with
  |zero=>intro _;rfl
  |succ d ih=>
   intro hd;rw[<-Nat.add_assoc];rw[dE,ih (by omega)];by_cases e:d=0
   ·subst e;rw[Nat.add_zero,hS];rfl
   ·cases hw:W (j+d) x with
    |none=>simp
    |some b=>rw[(h (j+d) (by omega) (by rw[hw];rfl) (by omega)).2 (by omega)];rfl
 have:=h2 (n-j) (by omega);rw[show j+(n-j)=n by omega]at this;rw[this,h1 j ano]
def jK (S:Nat->Bool)(j:Nat):Nat->Bool:=fun i=>if i=j then true else S i
theorem agh {S:Nat->Bool}{j n:Nat}{x:α}(hj:j<n)(hS:S j=false)(h:∀i,i<n->(W i x).isSome =true->(W j x).isSome =true->j<i->S i=false):eQ W init (jK S j) n x=(W j x).getD (eQ W init S n x):=by
 have h1:∀k,k<=j->eQ W init (jK S j) k x=eQ W init S k x:=by
  intro k
  induction k with
  |zero=>intro _;rfl
  |succ k ih=>
   intro hk;rw[dE,dE,ih (by omega),show jK S j k=S k by simp[jK];omega]
 have h2:∀d,j+1+d<=n->eQ W init (jK S j) (j+1+d) x=(W j x).getD (eQ W init S (j+1+d) x):=by
  intro d
  induction d with
  |zero=>
   intro _;rw[show j+1+0=j+1 from rfl,dE,dE,h1 j ano,show jK S j j=true by simp[jK],hS];rfl
  |succ d ih=>
   intro hd;rw[<-Nat.add_assoc];rw[dE,dE,ih (by omega),show jK S j (j+1+d)=S (j+1+d)by simp[jK];omega];cases hw:W (j+1+d) x with
   |none=>simp
   |some b=>
    cases hwj:W j x with
    |none=>rfl
    |some c=>rw[h (j+1+d) (by omega) (by rw[hw];rfl) (by rw[hwj];rfl) (by omega)];rfl
 have:=h2 (n-(j+1)) (by omega);rw[show j+1+(n-(j+1))=n by omega]at this;exact this
theorem oU {S:Nat->Bool}(h:∀i,S i=false):∀(k:Nat) (x:α),eQ W init S k x=init x
 |0,_=>rfl
 |k+1,x=>by rw[dE,h k,oU h k x];rfl
theorem vF {S:Nat->Bool}{n:Nat}(h:∀i,i<n->S i=true):∀(k:Nat) (x:α),k<=n->eQ W init S k x=eQ W init acy k x
 |0,_,_=>rfl
 |k+1,x,hk=>by rw[sS,dE,h k hk,vF h k x (by omega)];rfl
end
def ul:Option (Value×AV)->Option AObj->Option AObj
 |some p,some (.map es)=>some (.map (es++ [p]))
 |_,o=>o
theorem cK (o:Option AObj):ul none o=o:=by cases o<;>rfl
theorem ahb {p:Option (Value×AV)}{o:Option AObj}{b:AObj}(h:ul p o=some b):∃b',o=some b':=by
 cases o with
 |none=>cases p<;>cases h
 |some o=>exact⟨o,rfl⟩
def Sim (a b:Option AObj):Prop:=a=b\/∃es fs,a=some (.map es)/\b=some (.map fs)/\es.Perm fs
theorem Sim.refl (a:Option AObj):Sim a a:=.inl rfl
theorem Sim.trans {a b c:Option AObj}(h1:Sim a b)(h2:Sim b c):Sim a c:=by
 rcases h1 with e1|⟨es,fs,rfl,rfl,p⟩
 ·subst e1;exact h2
 ·rcases h2 with e2|⟨es',fs',e2,rfl,p'⟩
  ·subst e2;exact .inr ⟨es,fs,rfl,rfl,p⟩
  ·cases e2;exact .inr ⟨es,fs',rfl,rfl,p.trans p'⟩
theorem Sim.add {a b:Option AObj}(h:Sim a b)(p:Option (Value×AV)):Sim (ul p a) (ul p b):=by
 rcases h with e|⟨es,fs,rfl,rfl,q⟩
 ·subst e;exact Sim.refl _
 ·cases p with
  |none=>exact .inr ⟨es,fs,rfl,rfl,q⟩
  |some p=>exact .inr ⟨_,_,rfl,rfl,q.append_right _⟩
theorem aha (p q:Option (Value×AV))(o:Option AObj):Sim (ul p (ul q o)) (ul q (ul p o)):=by
 cases p with
 |none=>rw[cK,cK];exact Sim.refl _
 |some p=>
  cases q with
  |none=>rw[cK,cK];exact Sim.refl _
  |some q=>
   cases o with
   |none=>exact Sim.refl _
   |some o=>
    cases o with
    |map es=>
     refine .inr ⟨_,_,rfl,rfl,?_⟩;show (es++ [q]++ [p]).Perm (es++ [p]++ [q]);rw[List.append_assoc,List.append_assoc];exact List.Perm.append_left es (List.Perm.swap p q [])
    |_=>exact Sim.refl _
section
variable (W:Nat->Nat->Option (Option AObj)) (A:Nat->Nat->Option (Value×AV)) (init:Nat->Option AObj)
def dm (S:Nat->Bool):Nat->Nat->Option AObj
 |0,x=>init x
 |k+1,x=>if S k then ul (A k x) ((W k x).getD (dm S k x))else dm S k x
theorem cu (S:Nat->Bool)(k x:Nat):dm W A init S (k+1) x=if S k then ul (A k x) ((W k x).getD (dm W A init S k x))else dm W A init S k x:=rfl
theorem kw (k x:Nat):dm W A init acy (k+1) x=ul (A k x) ((W k x).getD (dm W A init acy k x)):=rfl
theorem aai {k x:Nat}(h1:W k x=none)(h2:A k x=none)(o:Option AObj):ul (A k x) ((W k x).getD o)=o:=by rw[h1,h2,cK];rfl
theorem adC {S:Nat->Bool}{j n:Nat}{x:Nat}(hj:j<n)(hS:S j=false)(h:∀i,i<n->((W i x).isSome =true\/(A i x).isSome =true)->i≠j->(i<j->S i=true)/\(j<i->S i=false)):dm W A init S n x=dm W A init acy j x:=by
 have quiet:∀i,¬((W i x).isSome =true\/(A i x).isSome =true)->W i x=none/\A i x=none:=fun i hn=>by
  constructor
  ·cases hw:W i x with
   |none=>rfl
   |some b=>exact absurd (.inl (by rw[hw];rfl)) hn
  ·cases hw:A i x with
   |none=>rfl
   |some b=>exact absurd (.inr (by rw[hw];rfl)) hn
 have h1:∀k,k<=j->dm W A init S k x=dm W A init acy k x:=by
  intro k
  induction k with
  |zero=>intro _;rfl
  |succ k ih=>
   intro hk;rw[kw,cu,ih (by omega)];by_cases hq:(W k x).isSome =true\/(A k x).isSome =true
   ·rw[(h k (by omega) hq (by omega)).1 (by omega)];rfl
   ·obtain⟨q1,q2⟩:=quiet k hq
    rw[aai W A q1 q2];split<;>rfl
 have h2:∀d,j+d<=n->dm W A init S (j+d) x=dm W A init S j x:=by
  intro d
  induction d with
  |zero=>intro _;rfl
  |succ d ih=>
   intro hd;rw[<-Nat.add_assoc,cu,ih (by omega)];by_cases e:d=0
   ·subst e;rw[Nat.add_zero,hS];rfl
   ·by_cases hq:(W (j+d) x).isSome =true\/(A (j+d) x).isSome =true
    ·rw[(h (j+d) (by omega) hq (by omega)).2 (by omega)];rfl
    ·obtain⟨q1,q2⟩:=quiet _ hq
     rw[aai W A q1 q2];split<;>rfl
 have:=h2 (n-j) (by omega);rw[show j+(n-j)=n by omega]at this;rw[this,h1 j ano]
theorem agi {S:Nat->Bool}{j n:Nat}{x:Nat}(hj:j<n)(hS:S j=false)(h:∀i,i<n->j<i->S i=true->((W i x).isSome =true->W j x=none/\A j x=none)/\((A i x).isSome =true->W j x=none)):
 Sim (dm W A init (jK S j) n x) (ul (A j x) ((W j x).getD (dm W A init S n x))):=by
 have h1:∀k,k<=j->dm W A init (jK S j) k x=dm W A init S k x:=by
  intro k
  induction k with
  |zero=>intro _;rfl
  |succ k ih=>
   intro hk;rw[cu,cu,ih (by omega),show jK S j k=S k by simp[jK];omega]
 have h2:∀d,j+1+d<=n->Sim (dm W A init (jK S j) (j+1+d) x) (ul (A j x) ((W j x).getD (dm W A init S (j+1+d) x))):=by
  intro d
  induction d with
  |zero=>
   intro _;rw[show j+1+0=j+1 from rfl,cu,cu,h1 j ano,show jK S j j=true by simp[jK],hS];exact Sim.refl _
  |succ d ih=>
   intro hd;rw[<-Nat.add_assoc,cu,cu,show jK S j (j+1+d)=S (j+1+d)by simp[jK];omega];have ih':=ih (by omega);cases hs:S (j+1+d)with
   |false=>simpa[hs]using ih'
   |true=>
    simp only[if_true];obtain⟨q1,q2⟩:=h (j+1+d) (by omega) (by omega) hs;cases hw:W (j+1+d) x with
    |some c=>
     obtain⟨e1,e2⟩:=q1 (by rw[hw];rfl);rw[aai W A e1 e2];exact Sim.refl _
    |none=>
     simp only[Option.getD_none];cases ha:A (j+1+d) x with
     |none=>rw[cK,cK];exact ih'
     |some p=>
      have e1:=q2 (by rw[ha];rfl);rw[e1]at ih'⊢
      simp only[Option.getD_none]at ih'⊢
      exact(ih'.add _).trans (aha _ _ _)
 have:=h2 (n-(j+1)) (by omega);rw[show j+1+(n-(j+1))=n by omega]at this;exact this
theorem vG {S:Nat->Bool}(h:∀i,S i=false):∀(k x:Nat),dm W A init S k x=init x
 |0,_=>rfl
 |k+1,x=>by rw[cu,h k,vG h k x];rfl
theorem vH {S:Nat->Bool}{n:Nat}(h:∀i,i<n->S i=true):∀(k x:Nat),k<=n->dm W A init S k x=dm W A init acy k x
 |0,_,_=>rfl
 |k+1,x,hk=>by rw[kw,cu,h k hk,vH h k x (by omega)];rfl
def Sub (a b:Option AObj):Prop:=a=b\/∃es fs,a=some (.map es)/\b=some (.map fs)/\∀e∈es,e∈fs
theorem Sub.add {a b:Option AObj}(h:Sub a b)(p:Option (Value×AV)):Sub (ul p a) (ul p b):=by
 rcases h with e|⟨es,fs,rfl,rfl,q⟩
 ·subst e;exact .inl rfl
 ·cases p with
  |none=>exact .inr ⟨es,fs,rfl,rfl,q⟩
  |some p=>exact .inr ⟨_,_,rfl,rfl,fun e he=>by
   rcases ane.1 he with h1|h1
   ·exact List.mem_append_left _ (q e h1)
   ·exact List.mem_append_right _ h1⟩
theorem Sub.more {a b:Option AObj}(h:Sub a b)(p:Option (Value×AV)):Sub a (ul p b):=by
 cases p with
 |none=>rw[cK];exact h
 |some p=>
  rcases h with e|⟨es,fs,rfl,rfl,q⟩
  ·subst e
   cases a with
   |none=>exact .inl rfl
   |some o=>
    cases o with
    |map es=>exact .inr ⟨es,_,rfl,rfl,fun e he=>List.mem_append_left _ he⟩
    |_=>exact .inl rfl
  ·exact .inr ⟨es,_,rfl,rfl,fun e he=>List.mem_append_left _ (q e he)⟩
theorem adD {S:Nat->Bool}{j n x:Nat}(F:Value×AV->Prop)(hj:j<n)(hS:S j=false)(h:∀i,i<n->(W i x).isSome =true->i≠j->(i<j->S i=true)/\(j<i->S i=false))(hA:∀i p,i<n->j<i->S i=true->A i x=some p->F p){es:List (Value×AV)}(he:dm W A init acy j x=some (.map es))(hF:∀e∈es,F e):
 ∃es2,dm W A init S n x=some (.map es2)/\∀e∈es2,F e:=by
 have h1:∀k,k<=j->Sub (dm W A init S k x) (dm W A init acy k x):=by
  intro k
  induction k with
  |zero=>intro _;exact .inl rfl
  |succ k ih=>
   intro hk;rw[kw,cu];have ih':=ih (by omega);cases hw:W k x with
   |some c=>rw[(h k (by omega) (by rw[hw];rfl) (by omega)).1 (by omega)];exact .inl rfl
   |none=>
    simp only[Option.getD_none];cases hs:S k with
    |true=>exact ih'.add _
    |false=>exact ih'.more _
 have h2:∀d,j+d<=n->∃es2,dm W A init S (j+d) x=some (.map es2)/\∀e∈es2,F e:=by
  intro d
  induction d with
  |zero=>
   intro _;rcases h1 j ano with e|⟨es1,fs,e1,e2,q⟩
   ·exact⟨es,e.trans he,hF⟩
   ·rw[he]at e2
    cases e2;exact⟨es1,e1,fun e hm=>hF e (q e hm)⟩
  |succ d ih=>
   intro hd;obtain⟨es2,e1,e2⟩:=ih (by omega);rw[<-Nat.add_assoc,cu];by_cases e:d=0
   ·subst e;rw[Nat.add_zero,hS];exact⟨es2,by simpa using e1,e2⟩
   ·cases hs:S (j+d)with
    |false=>exact⟨es2,by simpa using e1,e2⟩
    |true=>
     simp only[if_true];cases hw:W (j+d) x with
     |some c=>
      have:=(h (j+d) (by omega) (by rw[hw];rfl) (by omega)).2 (by omega);rw[hs]at this;cases this
     |none=>
      simp only[Option.getD_none];rw[e1];cases ha:A (j+d) x with
      |none=>exact⟨es2,cK _,e2⟩
      |some p=>exact⟨es2++ [p],rfl,fun e he=>by
       rcases ane.1 he with q|q
       ·exact e2 e q
       ·rw[List.mem_singleton]at q;subst q;exact hA _ _ (by omega) (by omega) hs ha⟩
 have:=h2 (n-j) (by omega);rwa[show j+(n-j)=n by omega]at this
end
def maskOf (ms:Nat->Nat)(es:List Nat):Nat:=es.foldl (fun s e=>s|||2^e|||ms e) 0
theorem rX (ms:Nat->Nat)(i:Nat):∀(es:List Nat) (s:Nat),(es.foldl (fun s e=>s|||2^e|||ms e) s).testBit i=true->s.testBit i=true\/∃e∈es,i=e\/(ms e).testBit i=true
 | [],s,h=>.inl h
 |e::es,s,h=>by
  rcases rX ms i es _ h with h1|⟨e',he',h1⟩
  ·simp only[Nat.testBit_or,Bool.or_eq_true]at h1
   rcases h1 with (h1|h1)|h1
   ·exact .inl h1
   ·rw[Nat.testBit_two_pow]at h1
    exact .inr ⟨e,amJ,.inl (by have:=of_decide_eq_true h1;exact this.symm)⟩
   ·exact .inr ⟨e,amJ,.inr h1⟩
  ·exact .inr ⟨e',amL _ he',h1⟩
def nU (o:Oper):List Nat:=(o.after.toList.filter fun e=>Region.binds .any e).map (·.on)
def masks (ms:List Nat):List Oper->List Nat
 | []=>ms
 |o::l=>masks (ms++ [maskOf (fun e=>ms.getD e 0) (nU o)]) l
end
section
open Go Go.RowKit
variable [Sym]
def bT {α:Type}(n:Nat):List (Nat×α)->Option α
 | []=>none
 |p::l=>bif Nat.beq p.1 n then some p.2 else bT n l
theorem zX {α:Type}{n:Nat}{a:α}:∀ {l:List (Nat×α)},bT n l=some a->(n,a)∈l
 |p::l,h=>by
  unfold bT at h;cases hb:Nat.beq p.1 n with
  |true=>
   rw[hb]at h;have h':some p.2=some a:=h;cases h';have:=amE hb;subst this;exact amJ
  |false=>rw[hb]at h;exact amL _ (zX h)
theorem gX {α:Type}{n:Nat}:∀ {l:List (Nat×α)},(∀p∈l,p.1≠n)->bT n l=none
 | [],_=>rfl
 |p::l,h=>by
  unfold bT;cases hb:Nat.beq p.1 n with
  |true=>exact absurd (amE hb) (h p amJ)
  |false=>exact gX fun q hq=>h q (amL _ hq)
theorem ky {α:Type}(n:Nat):∀(l m:List (Nat×α)),bT n (l++m)=(bT n l).or (bT n m)
 | [],m=>by simp[bT]
 |p::l,m=>by
  show (bif Nat.beq p.1 n then some p.2 else bT n (l++m))=(bif Nat.beq p.1 n then some p.2 else bT n l).or (bT n m);cases hb:Nat.beq p.1 n with
  |true=>rfl
  |false=>exact ky n l m
def evL (l:List (Nat×AV)):Operand->AV
 | .tmp t=>(bT t l).getD (.lit undef)
 | .const v=>.lit v
 | .global g=>.lit (.pointer (some ⟨g,0,none⟩))
 | .func f=>.func f []
def kV:List (Nat×AObj)->Heap
 | []=>.leaf
 |p::l=>bif Nat.blt p.1 lim then(kV l).set p.1 p.2 else kV l
theorem oD:∀ {l:List (Nat×AObj)} {n:Nat} {o:AObj},(kV l).get n=some o->(n,o)∈l
 |p::l,n,o,h=>by
  unfold kV at h;cases hb:Nat.blt p.1 lim with
  |true=>
   rw[hb]at h;have h':((kV l).set p.1 p.2).get n=some o:=h;rw[aZ (by simpa[anh]using hb)]at h';split at h'
   ·rename_i e;subst e;cases h';exact amJ
   ·exact amL _ (oD h')
  |false=>rw[hb]at h;exact amL _ (oD h)
mutual
def AV.names:AV->List Nat
 | .lit _| .sym _=>[]
 | .ptr n _| .slice n _ _ _| .map n| .yield n| .rptr n _| .rsl n _=>[n]
 | .func _ l| .agg l| .tup l=>kU l
 | .iface _ v=>v.names
def kU:List AV->List Nat
 | []=>[]
 |v::l=>v.names++kU l
end
def aii:AObj->List Nat
 | .cells l _ _=>kU l
 | .map es=>es.flatMap fun e=>e.2.names
 | .row l _=>kU l
 | .loop _ _ tm _ _ _ _ d=>d::namesT tm
 |_=>[]
where namesT:Tr AV->List Nat
 | .leaf =>[]
 | .node l v r=>namesT l++(match v with|some x=>x.names|none=>[])++namesT r
def ade (n:Nat):List Nat->Bool
 | []=>false
 |m::l=>Nat.beq m n||ade n l
theorem ol {n:Nat}:∀ {l:List Nat},ade n l=true↔n∈l
 | []=>by simp[ade]
 |m::l=>by
  simp only[ade,Bool.or_eq_true,Nat.beq_eq,anf,ol (l:=l)];constructor<;>(rintro(h|h);exact .inl h.symm;exact .inr h)
def reach (H:Heap):Nat->List Nat->List Nat->List Nat
 |0,_,seen=>seen
 |_+1,[],seen=>seen
 |f+1,n::todo,seen=>bif ade n seen then reach H f todo seen else match H.get n with
  |some o=>reach H f (aii o++todo) (n::seen)
  |none=>reach H f todo seen
def foot (H:Heap)(ρ:Operand->AV)(o:Op):List Nat:=
 match o with
 | .load _ x| .store _ x _| .slice _ x _ _ _=>match ρ x with
  | .ptr n _| .slice n _ _ _| .rptr n _=>[n]
  |_=>[]
 | .call {callee:=.value f,args, ..}=>reach H 100000 ((ρ f).names ++kU (args.toList.map ρ)) []
 | .call {args, ..}=>kU (args.toList.map ρ)
 | .lookup _ m _ _| .mapUpdate _ m _ _| .insert _ m _ _=>(ρ m).names
 |_=>[]
def ahR:Value->Value->Bool
 | .bool a,.bool b=>a==b
 | .int j a,.int k b=>decide (j=k)&&decide (a=b)
 | .string a,.string b=>ajF a.data.toList b.data.toList
 | .pointer none,.pointer none=>true
 | .slice none a b,.slice none c d=>Nat.beq a c&&Nat.beq b d
 | .map none,.map none=>true
 | .nilFunc,.nilFunc =>true
 | .nilIface,.nilIface =>true
 |_,_=>false
theorem abA {x y:Value}(h:ahR x y=true):x=y:=by
 unfold ahR at h;split at h<;>first|(cases h;done)|rfl|skip
 ·simp at h;subst h;rfl
 ·simp only[amC,decide_eq_true_eq]at h;rw[h.1,h.2]
 ·rename_i a b
  rw[oZ,beq_iff_eq]at h;congr 1;apply ByteArray.ext;exact Array.ext' h
 ·simp only[amC,Nat.beq_eq]at h;rw[h.1,h.2]
def akv:Cap->Cap->Bool
 | .ex a,.ex b=>Nat.beq a b
 | .rest a,.rest b=>Nat.beq a b
 |_,_=>false
theorem ahS {x y:Cap}(h:akv x y=true):x=y:=by
 unfold akv at h;split at h
 ·rw[amE h]
 ·rw[amE h]
 ·cases h
mutual
def mH:AV->AV->Bool
 | .lit a,.lit b=>ahR a b
 | .ptr n o,.ptr m p=>Nat.beq n m&&Nat.beq o p
 | .slice n o l c,.slice m p k d=>Nat.beq n m&&(Nat.beq o p&&(Nat.beq l k&&akv c d))
 | .map n,.map m=>Nat.beq n m
 | .yield n,.yield m=>Nat.beq n m
 | .sym n,.sym m=>Nat.beq n m
 | .rptr n o,.rptr m p=>Nat.beq n m&&Nat.beq o p
 | .rsl n o,.rsl m p=>Nat.beq n m&&Nat.beq o p
 | .func f l,.func g m=>Nat.beq f g&&pG l m
 | .agg l,.agg m=>pG l m
 | .tup l,.tup m=>pG l m
 | .iface t v,.iface u w=>Nat.beq t u&&mH v w
 |_,_=>false
def pG:List AV->List AV->Bool
 | [],[]=>true
 |a::l,b::m=>mH a b&&pG l m
 |_,_=>false
end
mutual
theorem qa:∀ {x y:AV},mH x y=true->x=y
 | .lit a,.lit b,h=>by rw[abA h]
 | .ptr n o,.ptr m p,h=>by simp only[mH,amC,Nat.beq_eq]at h;rw[h.1,h.2]
 | .slice n o l c,.slice m p k d,h=>by simp only[mH,amC,Nat.beq_eq]at h;rw[h.1,h.2.1,h.2.2.1,ahS h.2.2.2]
 | .map n,.map m,h=>by simp only[mH,Nat.beq_eq]at h;rw[h]
 | .yield n,.yield m,h=>by simp only[mH,Nat.beq_eq]at h;rw[h]
 | .sym n,.sym m,h=>by simp only[mH,Nat.beq_eq]at h;rw[h]
 | .rptr n o,.rptr m p,h=>by simp only[mH,amC,Nat.beq_eq]at h;rw[h.1,h.2]
 | .rsl n o,.rsl m p,h=>by simp only[mH,amC,Nat.beq_eq]at h;rw[h.1,h.2]
 | .func f l,.func g m,h=>by simp only[mH,amC,Nat.beq_eq]at h;rw[h.1,iR h.2]
 | .agg l,.agg m,h=>by rw[iR h]
 | .tup l,.tup m,h=>by rw[iR h]
 | .iface t v,.iface u w,h=>by simp only[mH,amC,Nat.beq_eq]at h;rw[h.1,qa h.2]
theorem iR:∀ {l m:List AV},pG l m=true->l=m
 | [],[],_=>rfl
 |a::l,b::m,h=>by simp only[pG,amC]at h;rw[qa h.1,iR h.2]
end
def aar:AObj->AObj->Bool
 | .cells l t ex,.cells m u ey=>Nat.beq t u&&((ex==ey)&&pG l m)
 | .row l j,.row m k=>Nat.beq j k&&pG l m
 |_,_=>false
theorem abB {x y:AObj}(h:aar x y=true):x=y:=by
 unfold aar at h;split at h
 ·simp only[amC,Nat.beq_eq,beq_iff_eq]at h
  rw[h.1,h.2.1,iR h.2.2]
 ·simp only[amC,Nat.beq_eq]at h
  rw[h.1,iR h.2]
 ·cases h
structure Rec where
 tr:List Nat
 tw:Option Nat
 v:AV
 nr:List Nat
 nw:List (Nat×Option AObj)
 lo:Nat
 hi:Nat
 ad:Option (Nat×Value×AV)
def allF (k:Value)(es:List (Value×AV)):Bool:=es.all fun e=>match iK k e.1 with
 |some false=>true
 |_=>false
def adOf (cx:Cx)(ρ:Operand->AV)(H:Heap)(o:Op):Option (Nat×Value×AV):=
 match o with
 | .insert t m k x=>match cx.ti t with
  |some {desc:=.map kt _, ..}=>match cx.ti kt,ρ k,ρ m with
   |some ki,.lit kv,.map n=>match H.get n with
    |some (.map es)=>bif zw ki.desc kv&&(allF kv es&&Nat.blt n lim)then fAV (ρ x) fun v=>fVal kv fun kv=>ui n fun n=>some (n,kv,v)else none
    |_=>none
   |_,_,_=>none
  |_=>none
 |_=>none
def changed (Hr H':Heap):List Nat->List (Nat×Option AObj)
 | []=>[]
 |n::l=>match Hr.get n,H'.get n with
  |some a,some b=>bif aar a b then changed Hr H' l else(n,some b)::changed Hr H' l
  |some _,none=>(n,none)::changed Hr H' l
  |none,some b=>(n,some b)::changed Hr H' l
  |none,none=>changed Hr H' l
def fresh (H':Heap)(lo:Nat):Nat->List (Nat×Option AObj)
 |0=>[]
 |k+1=>match H'.get (lo+k)with
  |some o=>(lo+k,some o)::fresh H' lo k
  |none=>fresh H' lo k
def uN (H:Heap)(nr:List Nat):List (Nat×AObj):=nr.filterMap fun n=>(H.get n).map fun o=>(n,o)
def aeE (cx:Cx)(cf:bZ)(ops:Array Oper)(st:FSt)(o:Oper):Option Rec:=
 let tr:=fF ops o
 bif tr.all fun t=>(st.tm.get t).isSome then
 bif tQ ops st.tm o.guard then
  let ρ:=evL (tr.map fun t=>(t,acJ st.tm t))
  match adOf cx ρ st.H o.op with
  |some p=>some ⟨tr,o.dst,.lit undef,[],[],st.nx,st.nx,some p⟩
  |none=>
   let nr:=foot st.H ρ o.op
   let Hr:=kV (uN st.H nr)
   match opX cx cf ρ Hr st.nx o.op with
   |some (v,H',hi)=>some ⟨tr,o.dst,v,nr,changed Hr H' nr++fresh H' st.nx (hi-st.nx),st.nx,hi,none⟩
   |none=>none
 else some ⟨tr,o.dst,.lit undef,[],[],st.nx,st.nx,none⟩
 else none
def tF (H:Heap):List (Nat×Option AObj)->Heap
 | []=>H
 |(n,some o)::l=>(tF H l).set n o
 |(n,none)::l=>(tF H l).del n
def fEs {β:Type}:List (Value×AV)->(List (Value×AV)->β)->β
 | [],k=>k []
 |e::l,k=>fEs l fun l=>k (e::l)
theorem afX {β:Type}:∀(l:List (Value×AV)) (k:List (Value×AV)->β),fEs l k=k l
 | [],_=>rfl
 |e::l,k=>by rw[fEs,afX l]
def abl (H:Heap):Option (Nat×Value×AV)->Heap
 |none=>H
 |some (n,k,v)=>match H.get n with
  |some (.map es)=>fEs (es++ [(k,v)]) fun es=>H.set n (.map es)
  |_=>H
def ajL:Option (Nat×Value×AV)->Bool
 |none=>true
 |some (n,_,_)=>Nat.blt n lim
def yY (nt:Nat)(st:FSt)(r:Rec):Option FSt:=
 bif Nat.ble st.nx r.hi&&(Nat.beq st.nx r.lo&&(ajL r.ad&&r.nw.all fun p=>Nat.blt p.1 lim))then
  match ahn nt st.tm r.tw r.v with
  |some tm'=>some ⟨tm',abl (tF st.H r.nw) r.ad,r.hi⟩
  |none=>none
 else none
def recs (cx:Cx)(cf:bZ)(nt:Nat)(ops:Array Oper):List Oper->FSt->Option (List Rec×FSt)
 | [],st=>some ([],st)
 |o::l,st=>match aeE cx cf ops st o with
  |some r=>match yY nt st r with
   |some st1=>match recs cx cf nt ops l st1 with
    |some (rs,st2)=>some (r::rs,st2)
    |none=>none
   |none=>none
  |none=>none
def pz (a b:Rec):Bool:=
 match a.ad with
 |none=>true
 |some (n,k,_)=> !ade n b.nr&&((b.nw.all fun q=> !Nat.beq q.1 n)&&(match b.ad with
  |some (m,l,_)=> !Nat.beq n m||(match iK k l with
   |some false=>true
   |_=>false)
  |none=>true))
def apart (a b:Rec):Bool:=
 (pz a b&&pz b a)&&((match a.tw with|some t=> !ade t b.tr|none=>true)&&((match b.tw with|some t=> !ade t a.tr|none=>true)&&((match a.tw,b.tw with|some t,some u=> !Nat.beq t u|_,_=>true)&&
 ((a.nw.all fun p=> !ade p.1 b.nr&&b.nw.all fun q=> !Nat.beq p.1 q.1)&&(b.nw.all fun q=> !ade q.1 a.nr)))))
def kN (m j:Nat)(b:Rec):List Rec->Nat->Bool
 | [],_=>true
 |a::l,i=>bif Nat.blt i j then(Nat.testBit m i||apart a b)&&kN m j b l (i+1)else true
def jG (rs:List Rec):List Rec->List Nat->Nat->Bool
 |r::l,m::ms,j=>kN m j r rs 0&&jG rs l ms (j+1)
 | [],_,_=>true
 |_::_,[],_=>false
def lH:List Oper->Nat->Bool
 | [],_=>true
 |o::l,j=>((nU o).all fun e=>Nat.blt e j)&&lH l (j+1)
def nS (cx:Cx)(cf:bZ)(nt:Nat)(ops:Array Oper)(st:FSt):Option FSt:=
 match recs cx cf nt ops ops.toList st with
 |some (rs,st')=>bif lH ops.toList 0&&jG rs rs (masks [] ops.toList) 0 then some st' else none
 |none=>none
end
section
open Go Go.RowKit
variable [Sym]
theorem pu {H:Heap}(x:Nat):∀ {l:List (Nat×Option AObj)},(∀p∈l,p.1<lim)->(tF H l).get x=(bT x l).getD (H.get x)
 | [],_=>rfl
 |(n,some o)::l,h=>by
  have hn:n<lim:=h _ amJ;have ih:=pu (H:=H) x (fun p hp=>h p (amL _ hp));show ((tF H l).set n o).get x=(bif Nat.beq n x then some (some o)else bT x l).getD (H.get x);rw[aZ hn];cases hb:Nat.beq n x with
  |true=>rw[if_pos (amE hb).symm];rfl
  |false=>rw[if_neg (fun e=>by subst e;rw[Nat.beq_refl]at hb;cases hb)];exact ih
 |(n,none)::l,h=>by
  have hn:n<lim:=h _ amJ;have ih:=pu (H:=H) x (fun p hp=>h p (amL _ hp));show ((tF H l).del n).get x=(bif Nat.beq n x then some none else bT x l).getD (H.get x);rw[iL hn];cases hb:Nat.beq n x with
  |true=>rw[if_pos (amE hb).symm];rfl
  |false=>rw[if_neg (fun e=>by subst e;rw[Nat.beq_refl]at hb;cases hb)];exact ih
structure Canon (cx:Cx) (cf:bZ) (nt:Nat) (ops:Array Oper) (l:List Oper) (rs:List Rec) (sts:Nat->FSt):Prop where
 len:rs.length=l.length
 step:∀k,k<l.length->∃o r,l[k]? =some o/\rs[k]? =some r/\aeE cx cf ops (sts k) o=some r/\yY nt (sts k) r=some (sts (k+1))
theorem nT {cx:Cx}{cf:bZ}{nt:Nat}{ops:Array Oper}:∀(l:List Oper) (st st':FSt) (rs:List Rec),recs cx cf nt ops l st=some (rs,st')->∃sts,sts 0=st/\sts l.length=st'/\Canon cx cf nt ops l rs sts
 | [],st,st',rs,h=>by cases h;exact⟨fun _=>st,rfl,rfl,rfl,fun k hk=>absurd hk (Nat.not_lt_zero _)⟩
 |o::l,st,st',rs,h=>by
  unfold recs at h;split at h
  ·rename_i r hr
   split at h
   ·rename_i st1 h1
    split at h
    ·rename_i rs2 st2 h2
     cases h;obtain⟨sts,e0,e1,hc⟩:=nT l st1 st' rs2 h2;refine⟨fun k=>match k with|0=>st|k+1=>sts k,rfl,e1,by simp[hc.len],fun k hk=>?_⟩;cases k with
     |zero=>exact⟨o,r,rfl,rfl,hr,by show yY nt st r=some (sts 0);rw[e0];exact h1⟩
     |succ k=>obtain⟨o',r',a1,a2,a3,a4⟩:=hc.step k (by simpa using hk);exact⟨o',r',by simpa using a1,by simpa using a2,a3,a4⟩
    ·cases h
   ·cases h
  ·cases h
section
variable (rs:List Rec)
def Wt (k:Nat)(t:Nat):Option (Option AV):=match rs[k]? with|some r=>if r.tw=some t then some (some r.v)else none|none=>none
def Wn (k:Nat)(x:Nat):Option (Option AObj):=match rs[k]? with|some r=>bT x r.nw|none=>none
def ahd (x:Nat):Option (Nat×Value×AV)->Option (Value×AV)
 |some (n,p)=>if n=x then some p else none
 |none=>none
def Wa (k:Nat)(x:Nat):Option (Value×AV):=match rs[k]? with|some r=>ahd x r.ad|none=>none
end
section
variable {cx:Cx} {cf:bZ} {nt:Nat} {ops:Array Oper} {l:List Oper} {rs:List Rec} {sts:Nat->FSt}
theorem iV {st st':FSt}{r:Rec}(h:yY nt st r=some st'):st.nx<=r.hi/\st.nx=r.lo/\(∀p∈r.nw,p.1<lim)/\st'.nx=r.hi/\ahn nt st.tm r.tw r.v=some st'.tm/\st'.H=abl (tF st.H r.nw) r.ad/\ajL r.ad=true:=by
 unfold yY at h;obtain⟨hb,h⟩:=ag h;simp only[amC,Nat.ble_eq,Nat.beq_eq,amU,anh]at hb;split at h
 ·rename_i tm' hp
  cases h;exact⟨hb.1,hb.2.1,hb.2.2.2,rfl,hp,rfl,hb.2.2.1⟩
 ·cases h
theorem aiP {tm tm':Tr AV}{dst:Option Tmp}{v:AV}(h:ahn nt tm dst v=some tm')(t:Nat):tm'.get t=(if dst=some t then some (some v)else none).getD (tm.get t):=by
 cases dst with
 |none=>cases h;simp
 |some d=>
  obtain⟨hb,h⟩:=ag h;cases h;simp only[amC,anh]at hb;rw[aZ hb.2];by_cases e:t=d
  ·subst e;simp
  ·have e':¬d=t:=fun x=>e x.symm
   simp[e,e']
theorem Canon.tm (h:Canon cx cf nt ops l rs sts):∀k,k<=l.length->∀t,(sts k).tm.get t=eQ (Wt rs) (sts 0).tm.get acy k t
 |0,_,t=>rfl
 |k+1,hk,t=>by
  obtain⟨o,r,h1,h2,h3,h4⟩:=h.step k hk;rw[sS, <-h.tm k (by omega) t,aiP (iV h4).2.2.2.2.1];unfold Wt;rw[h2]
theorem abk {H:Heap}(x:Nat){p:Option (Nat×Value×AV)}(hl:ajL p=true):(abl H p).get x=ul (ahd x p) (H.get x):=by
 cases p with
 |none=>rw[show ahd x none=none from rfl,cK];rfl
 |some p=>
  obtain⟨n,k,v⟩:=p;have hn:n<lim:=by simpa[ajL,anh]using hl
  show (match H.get n with|some (.map es)=>fEs (es++ [(k,v)]) fun es=>H.set n (.map es)|_=>H).get x=ul (if n=x then some (k,v)else none) (H.get x);by_cases e:n=x
  ·subst e
   rw[if_pos rfl];split
   ·rename_i es he
    rw[afX,aZ hn,if_pos rfl,he];rfl
   ·rename_i hne
    cases hg:H.get n with
    |none=>rfl
    |some o=>
     cases o with
     |map es=>exact absurd hg (hne es)
     |_=>rfl
  ·rw[if_neg e,cK]
   split
   ·rw[afX,aZ hn,if_neg (fun q=>e q.symm)]
   ·rfl
theorem Canon.heap (h:Canon cx cf nt ops l rs sts):∀k,k<=l.length->∀x,(sts k).H.get x=dm (Wn rs) (Wa rs) (sts 0).H.get acy k x
 |0,_,_=>rfl
 |k+1,hk,x=>by
  obtain⟨o,r,h1,h2,h3,h4⟩:=h.step k hk;rw[kw, <-h.heap k (by omega) x,(iV h4).2.2.2.2.2.1,abk x (iV h4).2.2.2.2.2.2,pu x (iV h4).2.2.1];unfold Wn Wa;rw[h2]
theorem Canon.mono (h:Canon cx cf nt ops l rs sts):∀k j,j<=k->k<=l.length->(sts j).nx <=(sts k).nx
 |0,j,hj,_=>by have:j=0:=by omega
               subst this;exact am4 _
 |k+1,j,hj,hk=>by
  by_cases e:j=k+1
  ·subst e;exact am4 _
  ·obtain⟨o,r,h1,h2,h3,h4⟩:=h.step k hk
   have:=iV h4;exact amG (h.mono k j (by omega) (by omega)) (by omega)
theorem uR:∀(l:List Oper) (ms:List Nat) (j m:Nat),(masks ms l)[j]? =some m->ms.length<=j->∀i,m.testBit i=true->∃o,l[j-ms.length]? =some o/\∃e∈nU o,i=e\/∃m',(masks ms l)[e]? =some m'/\m'.testBit i=true
 | [],ms,j,m,h,hj,i,hi=>by
  have:=(amH.1 h).1;simp only[masks]at this;omega
 |o::l,ms,j,m,h,hj,i,hi=>by
  unfold masks at h;have hpre:∀(l:List Oper) (ms:List Nat) (j:Nat),j<ms.length->(masks ms l)[j]? =ms[j]?:=by
   intro l
   induction l with
   |nil=>intro ms j _;rfl
   |cons o l ih=>
    intro ms j hj;unfold masks;rw[ih _ _ (by simp;omega),List.getElem?_append_left hj]
  by_cases e:j=ms.length
  ·subst e
   rw[hpre _ _ _ (by simp)]at h;rw[List.getElem?_append_right ano]at h;simp only[Nat.sub_self,List.getElem?_cons_zero,Option.some.injEq]at h;subst h;refine⟨o,by simp,?_⟩;rcases rX (fun e=>ms.getD e 0) i (nU o) 0 hi with h1|⟨e,he,h1⟩
   ·simp at h1
   ·refine⟨e,he,h1.imp id fun h2=>?_⟩
    by_cases hlt:e<ms.length
    ·refine⟨ms[e],?_,?_⟩
     ·unfold masks
      rw[hpre _ _ _ (by simp;omega),List.getElem?_append_left hlt];simp
     ·simpa[List.getD,hlt]using h2
    ·simp[List.getD,Nat.not_lt.1 hlt]at h2
  ·have hr:=uR l _ j m h (by simp;omega) i hi
   obtain⟨o',ho',e,he,h1⟩:=hr;refine⟨o',?_,e,he,h1⟩;rw[<-ho',show j-ms.length=(j-(ms.length+1))+1 by omega,List.getElem?_cons_succ];simp
theorem jU:∀(l:List Oper) (j k:Nat) (o:Oper),lH l j=true->l[k]? =some o->∀e∈nU o,e<j+k
 | [],_,k,o,_,ho,_,_=>by simp at ho
 |o'::l,j,k,o,h,ho,e,he=>by
  unfold lH at h;simp only[amC,amU,anh]at h;cases k with
  |zero=>simp at ho;subst ho;exact h.1 e he
  |succ k=>have:=jU l (j+1) k o h.2 (by simpa using ho) e he;omega
theorem ze {S:Nat->Bool}(hp:lH l 0=true)(hS:∀j o,l[j]? =some o->S j=true->∀e∈nU o,S e=true):∀(j m:Nat) (o:Oper),l[j]? =some o->(∀e∈nU o,S e=true)->(masks [] l)[j]? =some m->∀i,m.testBit i=true->S i=true:=by
 intro j
 induction j using Nat.strongRecOn with
 |_ j ih=>
  intro m o ho hd hm i hi;obtain⟨o',ho',e,he,h1⟩:=uR l [] j m hm (Nat.zero_le _) i hi;have:o'=o:=by simpa[ho]using ho'.symm
  subst this;rcases h1 with h1|⟨m',hm',h1⟩
  ·subst h1;exact hd i he
  ·have hej:e<j:=by have:=jU l 0 j o' hp ho e he;omega
   have hlt:=(amH.1 ho).1;obtain⟨oe,hoe⟩:∃oe,l[e]? =some oe:=⟨l[e]'(by omega),by simp⟩;exact ih e hej m' oe hoe (hS e oe hoe (hd e he)) hm' i h1
theorem jJ (m j:Nat)(b:Rec):∀(l:List Rec) (i k:Nat) (a:Rec),kN m j b l i=true->l[k]? =some a->i+k<j->m.testBit (i+k)=true\/apart a b=true
 | [],_,k,a,_,ha,_=>by simp at ha
 |a'::l,i,k,a,h,ha,hk=>by
  unfold kN at h;have hij:Nat.blt i j=true:=by rw[anh];omega
  rw[hij]at h;have h':((Nat.testBit m i||apart a' b)&&kN m j b l (i+1))=true:=h;simp only[amC,Bool.or_eq_true]at h';cases k with
  |zero=>simp at ha;subst ha;exact h'.1
  |succ k=>
   have:=jJ m j b l (i+1) k a h'.2 (by simpa using ha) (by omega);rwa[show i+1+k=i+(k+1)by omega]at this
theorem jF (rs:List Rec):∀(l:List Rec) (ms:List Nat) (j k:Nat) (r:Rec),jG rs l ms j=true->l[k]? =some r->∃m,ms[k]? =some m/\kN m (j+k) r rs 0=true
 | [],_,_,k,r,_,hr=>by simp at hr
 |r'::l,m::ms,j,k,r,h,hr=>by
  unfold jG at h;simp only[amC]at h;cases k with
  |zero=>simp at hr;subst hr;exact⟨m,rfl,h.1⟩
  |succ k=>
   obtain⟨m',h1,h2⟩:=jF rs l ms (j+1) k r h.2 (by simpa using hr);exact⟨m',by simpa using h1,by rwa[show j+1+k=j+(k+1)by omega]at h2⟩
 |r'::l,[],j,k,r,h,hr=>by unfold jG at h;cases h
end
end
section
open Go Go.RowKit
variable [Sym]
structure HF (S:Nat->Prop) (w0:World) (E:Env) (D:Nat->Prop) (G:Nat->Option AObj) (w:World):Prop where
 obj:∀n o,G n=some o->OR E w n o
 inj:∀n m o o',G n=some o->G m=some o'->n≠m->(E n).b ≠(E m).b
 own:∀n o,G n=some o->S (E n).b \/w0.heap.size<=(E n).b
 names:∀n o,G n=some o->D n/\o.In D
 fr:Fr S w0 w
section
variable {S:Nat->Prop} {w0 w:World} {E:Env} {D:Nat->Prop} {H:Heap} {G:Nat->Option AObj}
theorem HW.toF (h:HW S w0 E D H w):HF S w0 E D H.get w:=⟨h.obj,h.inj,h.own,h.names,h.fr⟩
theorem HF.toW (h:HF S w0 E D G w)(he:∀x,H.get x=G x):HW S w0 E D H w:=
 ⟨fun n o hn=>h.obj n o (by rw[<-he];exact hn),fun n m o o' hn hm hne=>h.inj n m o o' (by rw[<-he];exact hn) (by rw[<-he];exact hm) hne,fun n o hn=>h.own n o (by rw[<-he];exact hn),fun n o hn=>h.names n o (by rw[<-he];exact hn),h.fr⟩
theorem HF.congr {G':Nat->Option AObj}(h:HF S w0 E D G w)(he:∀x,G' x=G x):HF S w0 E D G' w:=by
 have:G'=G:=funext he;rw[this];exact h
theorem HF.sim {G':Nat->Option AObj}(h:HF S w0 E D G w)(he:∀x,Sim (G' x) (G x)):HF S w0 E D G' w:=by
 have key:∀n o,G' n=some o->∃o',G n=some o'/\(OR E w n o'->OR E w n o)/\(o'.In D->o.In D):=fun n o ho=>by
  rcases he n with e|⟨es,fs,e1,e2,p⟩
  ·exact⟨o,by rw[<-e];exact ho,fun x=>x,fun x=>x⟩
  ·rw[ho]at e1
   cases e1;refine⟨.map fs,e2,fun hor=>?_,fun hin e hm=>hin e (p.subset hm)⟩;obtain⟨ents,clk,hb,h1,h2,h3,h4⟩:=hor;exact⟨ents,clk,hb,h1.trans (p.symm.map _),h2,h3,(p.map _).nodup_iff.2 h4⟩
 refine⟨fun n o hn=>?_,fun n m o o' hn hm hne=>?_,fun n o hn=>?_,fun n o hn=>?_,h.fr⟩
 ·obtain⟨o',h1,h2,_⟩:=key n o hn;exact h2 (h.obj n o' h1)
 ·obtain⟨a,h1,_⟩:=key n o hn
  obtain⟨b,h2,_⟩:=key m o' hm;exact h.inj n m a b h1 h2 hne
 ·obtain⟨o',h1,_⟩:=key n o hn;exact h.own n o' h1
 ·obtain⟨o',h1,_,h3⟩:=key n o hn;exact⟨(h.names n o' h1).1,h3 (h.names n o' h1).2⟩
def Sof (E:Env)(Hr:Heap):Nat->Prop:=fun b=>∃n o,Hr.get n=some o/\(E n).b =b
theorem HF.sub (h:HF S w0 E D G w){Hr:Heap}(hs:∀n o,Hr.get n=some o->G n=some o):HW (Sof E Hr) w E D Hr w:=
 ⟨fun n o hn=>h.obj n o (hs n o hn),fun n m o o' hn hm hne=>h.inj n m o o' (hs n o hn) (hs m o' hm) hne,fun n o hn=>.inl ⟨n,o,hn,rfl⟩,fun n o hn=>h.names n o (hs n o hn),Fr.refl _ _⟩
theorem HF.fr_sub (h:HF S w0 E D G w){Hr:Heap}(hs:∀n o,Hr.get n=some o->G n=some o){w':World}(hf:Fr (Sof E Hr) w w'):Fr S w0 w':=
 ⟨hf.os.trans h.fr.os,hf.tape.trans h.fr.tape,hf.output.trans h.fr.output,amG h.fr.size hf.size,fun k hk hS=>by
  refine(hf.block k (amS hk h.fr.size) ?_).trans (h.fr.block k hk hS);rintro⟨n,o,hn,rfl⟩;rcases h.own n o (hs n o hn)with h1|h1
  ·exact hS h1
  ·exact absurd hk (Nat.not_lt.2 h1)⟩
theorem HF.frame (h:HF S w0 E D G w){Hr Hr':Heap}(hs:∀n o,Hr.get n=some o->G n=some o){E':Env}{w':World}{lo hi:Nat}(hD:∀n,lo<=n->n<hi->¬D n)
 (he:∀n,D n->E' n=E n) (h':HW (Sof E Hr) w E' (DR D lo hi) Hr' w') (hdom:Dom Hr Hr' lo hi) {G':Nat->Option AObj}
 (hG:∀x,(((∃o,Hr.get x=some o)\/(lo<=x/\x<hi))/\G' x=Hr'.get x)\/(¬(∃o,Hr.get x=some o)/\¬(lo<=x/\x<hi)/\G' x=G x)):HF S w0 E' (DR D lo hi) G' w':=by
 have old:∀x o,G x=some o->¬(∃o,Hr.get x=some o)->w'.heap[(E x).b]? =w.heap[(E x).b]?:=fun x o hx hn=>
  h'.fr.block _ (h.obj x o hx).lt (by
   rintro⟨n,o',hn',e⟩;by_cases hne:n=x
   ·subst hne;exact hn ⟨o',hn'⟩
   ·exact h.inj n x o' o (hs n o' hn') hx hne e)
 have hE:∀x o,G x=some o->E' x=E x:=fun x o hx=>he x (h.names x o hx).1
 have mixed:∀x y o o',Hr'.get x=some o->G y=some o'->¬(∃o,Hr.get y=some o)->(E' x).b ≠(E' y).b :=fun x y o o' hx hy hn e=>by
  rw[hE y o' hy]at e;rcases h'.own x o hx with ⟨n,o1,hn1,e1⟩|h1
  ·have hne:n≠y:=fun q=>by subst q;exact hn ⟨o1,hn1⟩
   exact h.inj n y o1 o' (hs n o1 hn1) hy hne (by rw[e1,e])
  ·have:=(h.obj y o' hy).lt
   omega
 refine⟨fun x o hx=>?_,fun x y o o' hx hy hne=>?_,fun x o hx=>?_,fun x o hx=>?_,h.fr_sub hs h'.fr⟩
 ·rcases hG x with ⟨_,e⟩|⟨h1,h2,e⟩<;>rw[e]at hx
  ·exact h'.obj x o hx
  ·exact OR.congr he (h.names x o hx).1 (h.names x o hx).2 (old x o hx h1) (h.obj x o hx)
 ·rcases hG x with ⟨_,e⟩|⟨h1,h2,e⟩<;>rcases hG y with ⟨_,e'⟩|⟨h1',h2',e'⟩<;>rw[e]at hx<;>rw[e']at hy
  ·exact h'.inj x y o o' hx hy hne
  ·exact mixed x y o o' hx hy h1'
  ·exact fun q=>mixed y x o' o hy hx h1 q.symm
  ·rw[hE x o hx,hE y o' hy];exact h.inj x y o o' hx hy hne
 ·rcases hG x with ⟨_,e⟩|⟨h1,h2,e⟩<;>rw[e]at hx
  ·rcases h'.own x o hx with ⟨n,o1,hn1,e1⟩|h3
   ·rw[<-e1];exact h.own n o1 (hs n o1 hn1)
   ·exact .inr (amG h.fr.size h3)
  ·rw[hE x o hx];exact h.own x o hx
 ·rcases hG x with ⟨_,e⟩|⟨h1,h2,e⟩<;>rw[e]at hx
  ·exact h'.names x o hx
  ·exact⟨.inl (h.names x o hx).1,(h.names x o hx).2.mono fun _ q=>.inl q⟩
end
theorem dP {Hr H':Heap}(x:Nat):∀(nr:List Nat),x∈nr->(bT x (changed Hr H' nr)).getD (Hr.get x)=H'.get x
 |n::l,hx=>by
  have ih:x∈l->(bT x (changed Hr H' l)).getD (Hr.get x)=H'.get x:=dP x l;have cons:∀c,(bT x ((n,c)::changed Hr H' l))=if n=x then some c else bT x (changed Hr H' l):=fun c=>by
   show (bif Nat.beq n x then some c else bT x (changed Hr H' l))=_;by_cases e:n=x
   ·subst e;rw[Nat.beq_refl,if_pos rfl];rfl
   ·rw[if_neg e]
    cases hb:Nat.beq n x with
    |true=>exact absurd (amE hb) e
    |false=>rfl
  have hx':x=n\/x∈l:=anf.1 hx;have skip:n=x->H'.get x=Hr.get x->(bT x (changed Hr H' l)).getD (Hr.get x)=H'.get x:=fun e h1=>by
   by_cases hm:x∈l
   ·exact ih hm
   ·have:bT x (changed Hr H' l)=none:=gX (changed_names x l hm)
    rw[this,Option.getD_none,h1]
  unfold changed;cases h1:Hr.get n with
  |none=>
   cases h2:H'.get n with
   |none=>
    by_cases e:n=x
    ·subst e;exact skip rfl (by rw[h1,h2])
    ·exact ih (hx'.resolve_left (fun q=>e q.symm))
   |some b=>
    rw[cons];by_cases e:n=x
    ·subst e;rw[if_pos rfl,h2];rfl
    ·rw[if_neg e];exact ih (hx'.resolve_left (fun q=>e q.symm))
  |some a=>
   cases h2:H'.get n with
   |none=>
    rw[cons];by_cases e:n=x
    ·subst e;rw[if_pos rfl,h2];rfl
    ·rw[if_neg e];exact ih (hx'.resolve_left (fun q=>e q.symm))
   |some b=>
    dsimp only;cases hs:aar a b with
    |true=>
     have:=abB hs;subst this;by_cases e:n=x
     ·subst e;exact skip rfl (by rw[h1,h2])
     ·exact ih (hx'.resolve_left (fun q=>e q.symm))
    |false=>
     show (bT x ((n,some b)::changed Hr H' l)).getD (Hr.get x)=_;rw[cons];by_cases e:n=x
     ·subst e;rw[if_pos rfl,h2];rfl
     ·rw[if_neg e];exact ih (hx'.resolve_left (fun q=>e q.symm))
where
 changed_names {Hr H':Heap} (x:Nat):∀(l:List Nat),x∉l->∀p∈changed Hr H' l,p.1≠x
  |n::l,hx,p,hp=>by
   have hx':¬(x=n\/x∈l):=fun h=>hx (anf.2 h)
   have ih:=changed_names (Hr:=Hr) (H':=H') x l (fun h=>hx' (.inr h)) p;have hn:n≠x:=fun e=>hx' (.inl e.symm)
   unfold changed at hp;cases h1:Hr.get n<;>cases h2:H'.get n<;>rw[h1,h2]at hp<;>dsimp only at hp
   ·exact ih hp
   ·rcases anf.1 hp with e|hp
    ·subst e;exact hn
    ·exact ih hp
   ·rcases anf.1 hp with e|hp
    ·subst e;exact hn
    ·exact ih hp
   ·rename_i a b
    cases hs:aar a b<;>rw[hs]at hp
    ·rcases anf.1 (show p∈(n,some b)::changed Hr H' l from hp)with e|hp
     ·subst e;exact hn
     ·exact ih hp
    ·exact ih hp
theorem oH {H':Heap}(lo x:Nat):∀k,(lo<=x/\x<lo+k->bT x (fresh H' lo k)=(H'.get x).map some)/\(¬(lo<=x/\x<lo+k)->bT x (fresh H' lo k)=none)
 |0=>⟨fun h=>by omega,fun _=>rfl⟩
 |k+1=>by
  obtain⟨h1,h2⟩:=oH (H':=H') lo x k;have cons:∀c,(bT x ((lo+k,c)::fresh H' lo k))=if lo+k=x then some c else bT x (fresh H' lo k):=fun c=>by
   show (bif Nat.beq (lo+k) x then some c else bT x (fresh H' lo k))=_;by_cases e:lo+k=x
   ·subst e;rw[Nat.beq_refl,if_pos rfl];rfl
   ·rw[if_neg e]
    cases hb:Nat.beq (lo+k) x with
    |true=>exact absurd (amE hb) e
    |false=>rfl
  unfold fresh;refine⟨fun h=>?_,fun h=>?_⟩
  ·cases hg:H'.get (lo+k)with
   |none=>
    by_cases e:lo+k=x
    ·subst e;rw[h2 (by omega),hg];rfl
    ·exact h1 (by omega)
   |some o=>
    dsimp only;rw[cons];by_cases e:lo+k=x
    ·subst e;rw[if_pos rfl,hg];rfl
    ·rw[if_neg e];exact h1 (by omega)
  ·cases hg:H'.get (lo+k)with
   |none=>exact h2 (by omega)
   |some o=>
    dsimp only;rw[cons,if_neg (by omega)];exact h2 (by omega)
end
section
open Go Go.RowKit
variable [Sym]
def cnt (S:Nat->Bool):Nat->Nat
 |0=>0
 |k+1=>cnt S k+(if S k then 0 else 1)
theorem qE (S:Nat->Bool)(k:Nat):cnt S (k+1)=cnt S k+(if S k then 0 else 1):=rfl
theorem agj {S:Nat->Bool}{j:Nat}(hS:S j=false):∀n,cnt (jK S j) n+(if j<n then 1 else 0)=cnt S n
 |0=>by simp[cnt]
 |n+1=>by
  have ih:=agj hS n;rw[qE,qE];by_cases e:n=j
  ·subst e
   rw[if_neg (Nat.lt_irrefl _)]at ih;rw[show jK S n n=true by simp[jK],hS,if_pos rfl,if_pos (by omega),if_neg (by simp)];omega
  ·rw[show jK S j n=S n by simp[jK,e]]
   by_cases h1:j<n
   ·rw[if_pos h1]at ih;rw[if_pos (show j<n+1 by omega)];omega
   ·rw[if_neg h1]at ih;rw[if_neg (show¬j<n+1 by omega)];omega
theorem aco {S:Nat->Bool}:∀n,cnt S n=0->∀i,i<n->S i=true
 |n+1,h,i,hi=>by
  rw[qE]at h;by_cases e:i=n
  ·subst e
   cases hs:S i with
   |true=>rfl
   |false=>rw[hs]at h;simp at h
  ·exact aco n (by omega) i (by omega)
theorem eY {Hr H':Heap}(x:Nat):∀(nr:List Nat),bT x (changed Hr H' nr)=some none->∃o,Hr.get x=some o
 | [],h=>by cases h
 |n::l,h=>by
  have cons:∀c,(bT x ((n,c)::changed Hr H' l))=if n=x then some c else bT x (changed Hr H' l):=fun c=>by
   show (bif Nat.beq n x then some c else bT x (changed Hr H' l))=_;by_cases e:n=x
   ·subst e;rw[Nat.beq_refl,if_pos rfl];rfl
   ·rw[if_neg e]
    cases hb:Nat.beq n x with
    |true=>exact absurd (amE hb) e
    |false=>rfl
  unfold changed at h;cases h1:Hr.get n<;>cases h2:H'.get n<;>rw[h1,h2]at h<;>dsimp only at h
  ·exact eY x l h
  ·rw[cons]at h
   split at h
   ·cases h
   ·exact eY x l h
  ·rw[cons]at h
   split at h
   ·rename_i e;subst e;exact⟨_,h1⟩
   ·exact eY x l h
  ·rename_i a b
   cases hs:aar a b<;>rw[hs]at h
   ·have h':bT x ((n,some b)::changed Hr H' l)=some none:=h
    rw[cons]at h';split at h'
    ·cases h'
    ·exact eY x l h'
   ·exact eY x l h
theorem apart_spec {a b:Rec}(h:apart a b=true):(∀t,a.tw=some t->t∉b.tr)/\(∀t,b.tw=some t->t∉a.tr)/\(∀t,a.tw=some t->b.tw≠some t)/\(∀p∈a.nw,p.1∉b.nr)/\(∀p∈a.nw,∀q∈b.nw,p.1≠q.1)/\(∀q∈b.nw,q.1∉a.nr):=by
 unfold apart at h;simp only[amC,amU,Bool.not_eq_true']at h;obtain⟨_,h1,h2,h3,h4,h5⟩:=h;refine⟨fun t ht hm=>?_,fun t ht hm=>?_,fun t ht hb=>?_,fun p hp hm=>?_,fun p hp q hq e=>?_,fun q hq hm=>?_⟩
 ·rw[ht]at h1
  have h1':(!ade t b.tr)=true:=h1;rw[ol.2 hm]at h1';cases h1'
 ·rw[ht]at h2
  have h2':(!ade t a.tr)=true:=h2;rw[ol.2 hm]at h2';cases h2'
 ·rw[ht,hb]at h3
  have:(!Nat.beq t t)=true:=h3;rw[Nat.beq_refl]at this;cases this
 ·have:=(h4 p hp).1
  rw[ol.2 hm]at this;cases this
 ·have:=(h4 p hp).2 q hq
  rw[e,Nat.beq_refl]at this;cases this
 ·have:=h5 q hq
  rw[ol.2 hm]at this;cases this
theorem dR {a b:Rec}(h:pz a b=true){n:Nat}{k:Value}{v:AV}(ha:a.ad=some (n,k,v)):n∉b.nr/\(∀q∈b.nw,q.1≠n)/\∀l u,b.ad=some (n,l,u)->iK k l=some false:=by
 unfold pz at h;rw[ha]at h;simp only[amC,amU,Bool.not_eq_true']at h;obtain⟨h1,h2,h3⟩:=h;refine⟨fun hm=>?_,fun q hq e=>?_,fun l u hb=>?_⟩
 ·rw[ol.2 hm]at h1;cases h1
 ·have:=h2 q hq
  rw[e,Nat.beq_refl]at this;cases this
 ·rw[hb]at h3
  have h3':(!Nat.beq n n||(match iK k l with|some false=>true|_=>false))=true:=h3;rw[Nat.beq_refl]at h3';simp only[Bool.not_true,Bool.false_or]at h3';split at h3'
  ·assumption
  ·cases h3'
theorem jI {a b:Rec}(h:apart a b=true):pz a b=true/\pz b a=true:=by
 unfold apart at h;simp only[amC]at h;exact⟨h.1.1,h.1.2⟩
theorem ajH {k:Value}{es:List (Value×AV)}(h:allF k es=true):∀e∈es,iK k e.1=some false:=fun e he=>by
 have:=amU.1 h e he;split at this
 ·assumption
 ·cases this
theorem amg {k:Value}{es:List (Value×AV)}(h:∀e∈es,iK k e.1=some false):ag7 k es=true:=amU.2 fun e he=>by rw[h e he];rfl
theorem acf {k:Value}:∀ {es:List (Value×AV)},(∀e∈es,iK k e.1=some false)->je k es=none
 | [],_=>rfl
 |e::es,h=>by
  unfold je;rw[h e amJ];exact acf fun e' he'=>h e' (amL _ he')
theorem ahc {cx:Cx}{ρ:Operand->AV}{H:Heap}{o:Op}{n:Nat}{kv:Value}{v:AV}(h:adOf cx ρ H o=some (n,kv,v)):(∃es,H.get n=some (.map es)/\allF kv es=true)/\n<lim/\(∃m,ρ m= .map n)/\(∃x,ρ x=v)/\
 ∀(cf:bZ) (H2:Heap) (es2:List (Value×AV)) (nx:Nat),H2.get n=some (.map es2)->(∀e∈es2,iK kv e.1=some false)->opX cx cf ρ H2 nx o=some (.lit undef,H2.set n (.map (es2++ [(kv,v)])),nx):=by
 unfold adOf at h;split at h
 ·rename_i t m k x
  split at h
  ·rename_i kt et sz by' z ht
   split at h
   ·rename_i ki kv' n' hk hkv hm
    split at h
    ·rename_i es hes
     obtain⟨hb,h⟩:=ag h;rw[zJ,afV,dG]at h;cases h;simp only[amC,anh]at hb;obtain⟨hd,hf,hl⟩:=hb;refine⟨⟨es,hes,hf⟩,hl,⟨m,hm⟩,⟨x,rfl⟩,fun cf H2 es2 nx h2 h3=>?_⟩;unfold opX;rw[afW];show iU cx ρ H2 nx t m k x=_;unfold iU;rw[ht];dsimp only;rw[hk,hkv,hm];dsimp only;rw[h2];dsimp only;have hcond:(zw ki.desc kv&&(ag7 kv es2&&Nat.blt n lim))=true:=by
      simp only[amC,anh];exact⟨hd,amg h3,hl⟩
     rw[hcond,acf h3];rfl
    ·cases h
   ·cases h
  ·cases h
 ·cases h
theorem nW {H:Heap}{nr:List Nat}{n:Nat}{o:AObj}(h:(kV (uN H nr)).get n=some o):n∈nr/\H.get n=some o:=by
 have:=oD h;unfold uN at this;obtain⟨m,hm,h1⟩:=List.mem_filterMap.1 this;cases hg:H.get m with
 |none=>rw[hg]at h1;cases h1
 |some x=>rw[hg]at h1;simp at h1;obtain⟨rfl,rfl⟩:=h1;exact⟨hm,hg⟩
theorem nD (f:Nat->AV){t:Nat}:∀ {l:List Nat},t∈l->bT t (l.map fun t=>(t,f t))=some (f t)
 |m::l,h=>by
  show (bif Nat.beq m t then some (f m)else bT t (l.map fun t=>(t,f t)))=_;cases hb:Nat.beq m t with
  |true=>have:=amE hb;subst this;rfl
  |false=>
   have:t∈l:=by
    rcases anf.1 h with e|e
    ·subst e;rw[Nat.beq_refl]at hb;cases hb
    ·exact e
   exact nD f this
theorem aiZ (f:Nat->AV){t:Nat}{l:List Nat}(h:t∉l):bT t (l.map fun t=>(t,f t))=none:=
 gX fun p hp e=>by obtain⟨m,hm,rfl⟩:=amN.1 hp;exact h (e▸hm)
theorem aj6 {D:Nat->Prop}{f:Nat->AV}{l:List Nat}(h:∀t∈l,(f t).In D)(x:Operand):(evL (l.map fun t=>(t,f t)) x).In D:=by
 cases x with
 |tmp t=>
  show ((bT t (l.map fun t=>(t,f t))).getD (.lit undef)).In D;by_cases hm:t∈l
  ·rw[nD f hm];exact h t hm
  ·rw[aiZ f hm];trivial
 |const v=>trivial
 |global g=>trivial
 |func f=>trivial
end
section
open Go Go.RowKit
variable [Sym]
section
variable {cx:Cx} {cf:bZ} {G:World->Prop} {S0:Nat->Prop} {w0:World} {nt:Nat} {ops:Array Oper} {rs:List Rec} {sts:Nat->FSt}
structure Inv (S0:Nat->Prop) (w0:World) (nt:Nat) (ops:Array Oper) (rs:List Rec) (sts:Nat->FSt) (Db:Nat->Prop) (E0:Env) (df:List Deferred) (S:Nat->Bool) (a:Act) (w:World) (E:Env) (D:Nat->Prop):Prop where
 dc:∀j o,ops.toList[j]? =some o->S j=true->∀e∈nU o,S e=true
 hf:HF S0 w0 E D (dm (Wn rs) (Wa rs) (sts 0).H.get S ops.toList.length) w
 sz:a.tmps.size=nt
 tm:∀t v,eQ (Wt rs) (sts 0).tm.get S ops.toList.length t=some v->a.tmps.getD t undef=aj E v
 tin:∀t v,eQ (Wt rs) (sts 0).tm.get S ops.toList.length t=some v->v.In D
 hD:∀n,D n->Db n\/∃i,S i=true/\i<ops.toList.length/\(sts i).nx <=n/\n<(sts (i+1)).nx
 hD0:∀n,Db n->D n
 agree:∀n,Db n->E n=E0 n
 df:a.defers=df
 dom:∀i,i<ops.toList.length->S i=true->∀x o,Wn rs i x=some (some o)->(∃o',(sts i).H.get x=some o')\/((sts i).nx <=x/\x<(sts (i+1)).nx)
theorem Inv.next (hc:CxOK cx)(hG:∀w,Fr S0 w0 w->G w)(hcf:bU cx G cf)(hcan:Canon cx cf nt ops ops.toList rs sts)(hp:lH ops.toList 0=true)(hch:jG rs rs (masks [] ops.toList) 0=true)
 {Db:Nat->Prop} (hfree:vN Db (sts 0).nx (sts ops.toList.length).nx) {E0:Env} {df:List Deferred} {S:Nat->Bool} {a:Act} {w:World} {E:Env} {D:Nat->Prop} (h:Inv S0 w0 nt ops rs sts Db E0 df S a w E D) {j:Nat} {o:Oper} (ho:ops.toList[j]? =some o) (hS:S j=false) (hpre:∀e∈nU o,S e=true)
 {ro:Option Nat} {K:Act->World->Prop} {Q:Exit->Act->World->Prop} (hK:∀E' D' a' w',Inv S0 w0 nt ops rs sts Db E0 df (jK S j) a' w' E' D'->K a' w'):wpOpIn (fence ro) 0 cx.P ops Q j K a w:=by
 have hjn:j<ops.toList.length:=(amH.1 ho).1;obtain⟨o',r,h1,h2,h3,h4⟩:=hcan.step j hjn;have:o'=o:=by rw[ho]at h1;exact(anj h1).symm
 subst this;obtain⟨n1,n2,n3,n4,n5,n6⟩:=iV h4;have ho':ops[j]? =some o':=by rw[<-amV];exact ho
 have order:∀i ri,i<ops.toList.length->rs[i]? =some ri->i≠j->¬(if i<j then apart ri r=true else apart r ri=true)->(i<j->S i=true)/\(j<i->S i=false):=by
  intro i ri hi hri hne hna;refine⟨fun hlt=>?_,fun hlt=>?_⟩
  ·rw[if_pos hlt]at hna
   obtain⟨m,hm1,hm2⟩:=jF rs rs _ 0 j r hch h2;rcases jJ m (0+j) r rs 0 i ri hm2 hri (by omega)with hb|hb
   ·rw[am5]at hb
    exact ze hp h.dc j m o' ho hpre hm1 i hb
   ·exact absurd hb hna
  ·rw[if_neg (by omega)]at hna
   obtain⟨m,hm1,hm2⟩:=jF rs rs _ 0 i ri hch hri;rcases jJ m (0+i) ri rs 0 j r hm2 h2 (by omega)with hb|hb
   ·rw[am5]at hb
    cases hs:S i with
    |false=>rfl
    |true=>
     obtain⟨oi,hoi⟩:∃oi,ops.toList[i]? =some oi:=⟨ops.toList[i]'hi,by simp⟩;have:=ze hp h.dc i m oi hoi (h.dc i oi hoi hs) hm1 j hb;rw[hS]at this;cases this
   ·exact absurd hb hna
 have wt:∀i t,(Wt rs i t).isSome =true->∃ri,rs[i]? =some ri/\ri.tw=some t:=fun i t hw=>by
  unfold Wt at hw;split at hw
  ·rename_i ri hri
   split at hw
   ·rename_i e;exact⟨ri,hri,e⟩
   ·cases hw
  ·cases hw
 have wn:∀i x,(Wn rs i x).isSome =true->∃ri,rs[i]? =some ri/\∃c,(x,c)∈ri.nw:=fun i x hw=>by
  unfold Wn at hw;split at hw
  ·rename_i ri hri
   obtain⟨c,hc⟩:=Option.isSome_iff_exists.1 hw;exact⟨ri,hri,c,zX hc⟩
  ·cases hw
 have wa:∀i x,(Wa rs i x).isSome =true->∃ri,rs[i]? =some ri/\∃k v,ri.ad=some (x,k,v):=fun i x hw=>by
  unfold Wa at hw;split at hw
  ·rename_i ri hri
   cases ha:ri.ad with
   |none=>rw[ha]at hw;cases hw
   |some p=>
    obtain⟨n,k,v⟩:=p;rw[ha]at hw;have hw':(if n=x then some (k,v)else none:Option (Value×AV)).isSome =true:=hw;split at hw'
    ·rename_i e;subst e;exact⟨ri,hri,k,v,ha⟩
    ·cases hw'
  ·cases hw
 have htr:r.tr=fF ops o'/\r.tw=o'.dst/\∀t∈fF ops o',((sts j).tm.get t).isSome =true:=by
  unfold aeE at h3;dsimp only at h3;have hpr:=(ag h3).1;replace h3:=(ag h3).2;refine⟨?_,?_,amU.1 hpr⟩<;>
  ·cases hw:tQ ops (sts j).tm o'.guard with
   |true=>
    rw[hw]at h3;simp only[cond_true]at h3;split at h3
    ·cases h3;rfl
    ·split at h3
     ·cases h3;rfl
     ·cases h3
   |false=>rw[hw]at h3;cases h3;rfl
 have readT:∀t∈r.tr,eQ (Wt rs) (sts 0).tm.get S ops.toList.length t=(sts j).tm.get t:=fun t ht=>by
  rw[hcan.tm j (by omega) t];refine adB _ _ hjn hS (fun i hi hw hne=>?_);obtain⟨ri,hri,e⟩:=wt i t hw;refine order i ri hi hri hne (fun hna=>?_);split at hna
  ·exact(apart_spec hna).1 t e ht
  ·exact(apart_spec hna).2.1 t e ht
 have readN:∀x∈r.nr,dm (Wn rs) (Wa rs) (sts 0).H.get S ops.toList.length x=(sts j).H.get x:=fun x hx=>by
  rw[hcan.heap j (by omega) x];refine adC _ _ _ hjn hS (fun i hi hw hne=>?_);rcases hw with hw|hw
  ·obtain⟨ri,hri,c,e⟩:=wn i x hw
   refine order i ri hi hri hne (fun hna=>?_);split at hna
   ·exact(apart_spec hna).2.2.2.1 _ e hx
   ·exact(apart_spec hna).2.2.2.2.2 _ e hx
  ·obtain⟨ri,hri,k,v,e⟩:=wa i x hw
   refine order i ri hi hri hne (fun hna=>?_);split at hna
   ·exact(dR (jI hna).1 e).1 hx
   ·exact(dR (jI hna).2 e).1 hx
 have wtj:∀t,Wt rs j t=if r.tw=some t then some (some r.v)else none:=fun t=>by unfold Wt;rw[h2]
 have wnj:∀x,Wn rs j x=bT x r.nw:=fun x=>by unfold Wn;rw[h2]
 have addT:∀t,eQ (Wt rs) (sts 0).tm.get (jK S j) ops.toList.length t=(if o'.dst=some t then some (some r.v)else none).getD (eQ (Wt rs) (sts 0).tm.get S ops.toList.length t):=fun t=>by
  rw[agh _ _ hjn hS (fun i hi hw hwj hlt=>?_)]
  ·rw[wtj t,htr.2.1]
  ·obtain⟨ri,hri,e⟩:=wt i t hw
   obtain⟨rj,hrj,e'⟩:=wt j t hwj;rw[h2]at hrj;cases hrj;refine(order i ri hi hri (by omega) (fun hna=>?_)).2 hlt;rw[if_neg (by omega)]at hna;exact(apart_spec hna).2.2.1 t e' e
 have waj:∀x,Wa rs j x=ahd x r.ad:=fun x=>by unfold Wa;rw[h2]
 have addN:∀x,Sim (dm (Wn rs) (Wa rs) (sts 0).H.get (jK S j) ops.toList.length x) (ul (ahd x r.ad) ((bT x r.nw).getD (dm (Wn rs) (Wa rs) (sts 0).H.get S ops.toList.length x))):=fun x=>by
  rw[<-wnj x, <-waj x];refine agi _ _ _ hjn hS (fun i hi hlt hs=>⟨fun hw=>?_,fun hw=>?_⟩)
  ·obtain⟨ri,hri,c,e⟩:=wn i x hw
   have off:∀P:Prop,¬apart r ri=true->P:=fun P hna=>by
    have:=(order i ri hi hri (by omega) (by rw[if_neg (by omega)];exact hna)).2 hlt;rw[hs]at this;cases this
   constructor
   ·cases hwj:Wn rs j x with
    |none=>rfl
    |some c'=>
     obtain⟨rj,hrj,c',e'⟩:=wn j x (by rw[hwj];rfl);rw[h2]at hrj;cases hrj;exact off _ (fun hna=>(apart_spec hna).2.2.2.2.1 _ e' _ e rfl)
   ·cases hwj:Wa rs j x with
    |none=>rfl
    |some c'=>
     obtain⟨rj,hrj,k,v,e'⟩:=wa j x (by rw[hwj];rfl);rw[h2]at hrj;cases hrj;exact off _ (fun hna=>(dR (jI hna).1 e').2.1 _ e rfl)
  ·obtain⟨ri,hri,k,v,e⟩:=wa i x hw
   cases hwj:Wn rs j x with
   |none=>rfl
   |some c'=>
    obtain⟨rj,hrj,c',e'⟩:=wn j x (by rw[hwj];rfl);rw[h2]at hrj;cases hrj;have:=(order i ri hi hri (by omega) (by rw[if_neg (by omega)];exact fun hna=>(dR (jI hna).2 e).2.1 _ e' rfl)).2 hlt;rw[hs]at this;cases this
 have dcAdd:∀i oi,ops.toList[i]? =some oi->jK S j i=true->∀e∈nU oi,jK S j e=true:=fun i oi hoi hs e he=>by
  unfold jK at hs⊢
  split
  ·rfl
  ·split at hs
   ·rename_i e1;subst e1
    have:oi=o':=by rw[ho]at hoi;exact(anj hoi).symm
    subst this;exact hpre e he
   ·exact h.dc i oi hoi hs e he
 have hwant:Region.wanted o' (yielded ops a.tmps)=tQ ops (sts j).tm o'.guard:=qO (E:=E) (fun t ht=>⟨_,dJ (htr.2.2 t ht),h.tm t _ (by rw[readT t (by rw[htr.1];exact ht)];exact dJ (htr.2.2 t ht))⟩);have hDfree:∀n,(sts j).nx <=n->n<(sts (j+1)).nx ->¬D n:=fun n ha hb hd=>by
  rcases h.hD n hd with h5|⟨i,hi,hin,h5,h6⟩
  ·exact hfree n (by have:=hcan.mono j 0 (by omega) (by omega);omega) (by have:=hcan.mono ops.toList.length (j+1) (by omega) ano;omega) h5
  ·have hij:i≠j:=fun e=>by subst e;rw[hS]at hi;cases hi
   by_cases hlt:i<j
   ·have:=hcan.mono j (i+1) (by omega) (by omega);omega
   ·have:=hcan.mono i (j+1) (by omega) (by omega);omega
 unfold wpOpIn;simp only[ho'];rw[hwant];have tmPut:∀(E':Env) (v:AV),r.v=v->(∀n,D n->E' n=E n)->(a.put o'.dst (aj E' v)).tmps.size =nt/\∀t u,eQ (Wt rs) (sts 0).tm.get (jK S j) ops.toList.length t=some u->(a.put o'.dst (aj E' v)).tmps.getD t undef=aj E' u:=by
  intro E' v hv he;rw[htr.2.1]at n5;refine⟨by cases hd:o'.dst<;>simp[Act.put,h.sz],fun t u hu=>?_⟩;rw[addT t]at hu;have hold:∀u,eQ (Wt rs) (sts 0).tm.get S ops.toList.length t=some u->a.tmps.getD t undef=aj E' u:=fun u hu=>by rw[h.tm t u hu,bL he _ (h.tin t u hu)]
  cases hd:o'.dst with
  |none=>rw[hd]at hu;simp at hu;simpa[Act.put]using hold u hu
  |some d=>
   rw[hd]at n5 hu;obtain⟨hb,_⟩:=ag n5;simp only[amC,anh]at hb;simp only[Act.put];by_cases e:d=t
   ·subst e
    rw[if_pos rfl]at hu;simp only[Option.getD_some,Option.some.injEq]at hu;subst hu;have:d<a.tmps.size:=by rw[h.sz];exact hb.1
    simp[Array.getD,this,hv]
   ·have e':¬(some d=some t):=fun q=>e (anj q)
    rw[if_neg e']at hu;have:=hold u hu;simp only[Array.getD_eq_getD_getElem?,Array.getElem?_setIfInBounds_ne e]at this⊢
    exact this
 cases hw:tQ ops (sts j).tm o'.guard with
 |false=>
  simp only[amQ,if_false];have h3':=h3;unfold aeE at h3';dsimp only at h3';replace h3':=(ag h3').2;rw[hw]at h3';cases h3';obtain⟨q1,q2⟩:=tmPut E (.lit undef) rfl (fun _ _=>rfl);refine⟨fun f _=>jy ro f,hK E D _ w ⟨dcAdd,h.hf.sim (fun x=>by have:=addN x;rw[show ahd x none=none from rfl,cK]at this;exact this),q1,q2,fun t u hu=>?_,fun n hn=>?_,h.hD0,h.agree,?_,fun i hi hs x ob hx=>?_⟩⟩
  ·rw[addT t]at hu
   by_cases e:o'.dst=some t
   ·rw[if_pos e]at hu
    cases hu
    trivial
   ·rw[if_neg e]at hu;exact h.tin t u hu
  ·rcases h.hD n hn with h5|⟨i,hi,h5⟩
   ·exact .inl h5
   ·exact .inr ⟨i,by unfold jK;split;rfl;exact hi,h5⟩
  ·rw[<-h.df];cases o'.dst<;>rfl
  ·by_cases e:i=j
   ·subst e
    unfold Wn at hx;rw[h2]at hx;cases hx
   ·exact h.dom i hi (by simpa[jK,e]using hs) x ob hx
 |true=>
  simp only[if_true];have h3':=h3;unfold aeE at h3';dsimp only at h3';replace h3':=(ag h3').2;rw[hw]at h3';simp only[cond_true]at h3';split at h3'
  ·rename_i p hadd
   cases h3';obtain⟨y,kv,vv⟩:=p;dsimp only at n1 n2 n3 n4 n5 n6 addN readN readT tmPut addT htr;obtain⟨⟨es,hes,hesF⟩,hyl,⟨m0,hm0⟩,⟨x0,hx0⟩,hop⟩:=ahc hadd;have hin:∀t∈fF ops o',(acJ (sts j).tm t).In D:=fun t ht=>h.tin t _ (by rw[readT t (by rw[htr.1];exact ht)];exact dJ (htr.2.2 t ht))
   obtain⟨es2,he2,hF2⟩:=adD (Wn rs) (Wa rs) (sts 0).H.get (S:=S) (j:=j) (n:=ops.toList.length) (x:=y) (fun e=>iK kv e.1=some false) hjn hS (fun i hi hw hne=>by
    obtain⟨ri,hri,c,e⟩:=wn i y hw;refine order i ri hi hri hne (fun hna=>?_);split at hna
    ·exact(dR (jI hna).2 rfl).2.1 _ e rfl
    ·exact(dR (jI hna).1 rfl).2.1 _ e rfl) (fun i p hi hlt hs hp'=>by
    obtain⟨ri,hri,k,v,e⟩:=wa i y (by rw[hp'];rfl);have hap:apart ⟨fF ops o',o'.dst,.lit undef,[],[],(sts j).nx,(sts j).nx,some (y,kv,vv)⟩ ri=true:=by
     cases hap:apart ⟨fF ops o',o'.dst,.lit undef,[],[],(sts j).nx,(sts j).nx,some (y,kv,vv)⟩ ri with
     |true=>rfl
     |false=>
      have:=(order i ri hi hri (by omega) (by rw[if_neg (by omega),hap];simp)).2 hlt;rw[hs]at this;cases this
    have hk:=(dR (jI hap).1 rfl).2.2 _ _ e;have hp2:Wa rs i y=some (k,v):=by unfold Wa;rw[hri];show ahd y ri.ad=_;rw[e];exact if_pos rfl
    rw[hp2]at hp';cases hp';exact hk) (es:=es) (by rw[<-hcan.heap j (by omega) y];exact hes) (ajH hesF)
   have hget:∀(o2:AObj) n,((Tr.leaf:Heap).set y o2).get n=if n=y then some o2 else none:=fun o2 n=>by rw[aZ hyl];rfl
   have hs:∀n ob,((Tr.leaf:Heap).set y (.map es2)).get n=some ob->dm (Wn rs) (Wa rs) (sts 0).H.get S ops.toList.length n=some ob:=fun n ob hn=>by
    rw[hget]at hn;split at hn
    ·rename_i e;subst e;cases hn;exact he2
    ·cases hn
   rw[n4]at hDfree;refine wO (S:=Sof E ((Tr.leaf:Heap).set y (.map es2))) (w0:=w) (E:=E) (D:=D) hc (hcf _ _ (fun w' hf=>hG w' (h.hf.fr_sub hs hf))) (h.hf.sub hs) (o:=o') (a:=a) (r:=fun x=>aj E (evL ((fF ops o').map fun t=>(t,acJ (sts j).tm t)) x)) (execOp_congr o' (fun cs b e=>?_) (fun x hx=>?_)) (fun _=>rfl) (aj6 hin) (hi:=(sts j).nx) (by rw[<-n2]at hDfree;exact hDfree) (hop cf _ es2 (sts j).nx (by rw[hget,if_pos rfl]) hF2) (fun hle hdom E' w' e1 e2 e3=>?_)
   ·rw[e]at hadd;cases hadd
   ·cases x with
    |tmp t=>
     show a.tmps.getD t undef=aj E ((bT t _).getD _);rw[nD _ (eU hx)];exact h.tm t _ (by rw[readT t (eU hx)];exact dJ (htr.2.2 t (eU hx)))
    |const c=>rfl
    |global g=>rfl
    |func f=>rfl
   ·obtain⟨q1,q2⟩:=tmPut E' (.lit undef) rfl e1
    have hfr:HF S0 w0 E' (DR D (sts j).nx (sts j).nx) (fun x=>ul (ahd x (some (y,kv,vv))) (dm (Wn rs) (Wa rs) (sts 0).H.get S ops.toList.length x)) w':=h.hf.frame hs hDfree e1 e2 hdom (fun x=>by
     by_cases e:x=y
     ·subst e
      refine .inl ⟨.inl ⟨_,by rw[hget,if_pos rfl]⟩,?_⟩;rw[he2,aZ hyl,if_pos rfl,show ahd x (some (x,kv,vv))=some (kv,vv)from if_pos rfl];rfl
     ·refine .inr ⟨fun⟨ob,hob⟩=>(by rw[hget,if_neg e]at hob;cases hob),(by omega),?_⟩
      rw[show ahd x (some (y,kv,vv))=none from if_neg (fun q=>e q.symm),cK])
    refine hK E' (DR D (sts j).nx (sts j).nx) _ w' ⟨dcAdd,hfr.sim addN,q1,q2,fun t u hu=>?_,fun n hn=>?_,fun n hn=>.inl (h.hD0 n hn),fun n hn=>(e1 n (h.hD0 n hn)).trans (h.agree n hn),?_,fun i hi hsi x ob hx=>?_⟩
    ·rw[addT t]at hu
     by_cases e:o'.dst=some t
     ·rw[if_pos e]at hu
      cases hu;exact e3
     ·rw[if_neg e]at hu;exact Ev.In.mono DR.le _ (h.tin t u hu)
    ·rcases hn with hn|hn
     ·rcases h.hD n hn with h5|⟨i,hi,h5⟩
      ·exact .inl h5
      ·exact .inr ⟨i,by unfold jK;split;rfl;exact hi,h5⟩
     ·omega
    ·rw[<-h.df];cases o'.dst<;>rfl
    ·by_cases e:i=j
     ·subst e
      unfold Wn at hx;rw[h2]at hx;cases hx
     ·exact h.dom i hi (by simpa[jK,e]using hsi) x ob hx
  split at h3'
  ·rename_i v H' hi' hop
   cases h3';dsimp only at n1 n2 n3 n4 n5 n6 addN readN readT tmPut addT htr;generalize hHr:kV (uN (sts j).H (foot (sts j).H (evL ((fF ops o').map fun t=>(t,acJ (sts j).tm t))) o'.op))=Hr at*
   generalize hnr:foot (sts j).H (evL ((fF ops o').map fun t=>(t,acJ (sts j).tm t))) o'.op=nr at*
   have hsub:∀n ob,Hr.get n=some ob->n∈nr/\(sts j).H.get n=some ob:=fun n ob hn=>nW (by rw[hHr];exact hn)
   have hs:∀n ob,Hr.get n=some ob->dm (Wn rs) (Wa rs) (sts 0).H.get S ops.toList.length n=some ob:=fun n ob hn=>by
    rw[readN n (hsub n ob hn).1];exact(hsub n ob hn).2
   rw[n4]at hDfree;refine wO (S:=Sof E Hr) (w0:=w) (E:=E) (D:=D) hc (hcf _ _ (fun w' hf=>hG w' (h.hf.fr_sub hs hf))) (h.hf.sub hs) (o:=o') (a:=a) (r:=fun x=>aj E (evL ((fF ops o').map fun t=>(t,acJ (sts j).tm t)) x)) (execOp_congr o' (fun cs b e=>?_) (fun x hx=>?_)) (fun _=>rfl) (aj6 fun t ht=>?_) hDfree hop (fun hle hdom E' w' e1 e2 e3=>?_)
   ·rw[e]at hop;cases hop
   ·cases x with
    |tmp t=>
     show a.tmps.getD t undef=aj E ((bT t _).getD _);rw[nD _ (eU hx)];exact h.tm t _ (by rw[readT t (eU hx)];exact dJ (htr.2.2 t (eU hx)))
    |const c=>rfl
    |global g=>rfl
    |func f=>rfl
   ·exact h.tin t _ (by rw[readT t ht];exact dJ (htr.2.2 t ht))
   ·obtain⟨q1,q2⟩:=tmPut E' v rfl e1
    have hxD:∀x ob,dm (Wn rs) (Wa rs) (sts 0).H.get S ops.toList.length x=some ob->D x:=fun x ob hx=>(h.hf.names x ob hx).1
    have key:∀x,(((∃ob,Hr.get x=some ob)\/((sts j).nx <=x/\x<hi'))/\(fun x=>(bT x (changed Hr H' nr++fresh H' (sts j).nx (hi'-(sts j).nx))).getD (dm (Wn rs) (Wa rs) (sts 0).H.get S ops.toList.length x)) x=H'.get x)\/(¬(∃ob,Hr.get x=some ob)/\¬((sts j).nx <=x/\x<hi')/\(fun x=>(bT x (changed Hr H' nr++fresh H' (sts j).nx (hi'-(sts j).nx))).getD (dm (Wn rs) (Wa rs) (sts 0).H.get S ops.toList.length x)) x=dm (Wn rs) (Wa rs) (sts 0).H.get S ops.toList.length x):=by
     intro x;dsimp only;rw[ky];obtain⟨f1,f2⟩:=oH (H':=H') (sts j).nx x (hi'-(sts j).nx);have hsum:(sts j).nx +(hi'-(sts j).nx)=hi':=by omega
     rw[hsum]at f1 f2;by_cases hdm:∃ob,Hr.get x=some ob
     ·refine .inl ⟨.inl hdm,?_⟩
      obtain⟨ob,hob⟩:=hdm;have hxn:=(hsub x ob hob).1;have hG':=hs x ob hob;have hrng:¬((sts j).nx <=x/\x<hi'):=fun hr'=>hDfree x hr'.1 hr'.2 (hxD x ob hG')
      have hcs:=dP (Hr:=Hr) (H':=H') x nr hxn;rw[f2 hrng,Option.or_none,hG', <-hob];exact hcs
     ·by_cases hrng:(sts j).nx <=x/\x<hi'
      ·refine .inl ⟨.inr hrng,?_⟩
       have hGn:dm (Wn rs) (Wa rs) (sts 0).H.get S ops.toList.length x=none:=by
        cases hg:dm (Wn rs) (Wa rs) (sts 0).H.get S ops.toList.length x with
        |none=>rfl
        |some ob=>exact absurd (hxD x ob hg) (hDfree x hrng.1 hrng.2)
       have hHn:Hr.get x=none:=by
        cases hg:Hr.get x with
        |none=>rfl
        |some ob=>exact absurd ⟨ob,hg⟩ hdm
       rw[f1 hrng,hGn];by_cases hxn:x∈nr
       ·have hcs:=dP (Hr:=Hr) (H':=H') x nr hxn
        cases hac:bT x (changed Hr H' nr)with
        |some c=>rw[hac]at hcs;exact hcs
        |none=>
         rw[hac]at hcs;simp only[Option.getD_none]at hcs;rw[hHn]at hcs;rw[<-hcs];rfl
       ·rw[gX (dP.changed_names x nr hxn),Option.none_or]
        cases H'.get x<;>rfl
      ·refine .inr ⟨hdm,hrng,?_⟩
       rw[f2 hrng,Option.or_none];have hHn:Hr.get x=none:=by
        cases hg:Hr.get x with
        |none=>rfl
        |some ob=>exact absurd ⟨ob,hg⟩ hdm
       cases hac:bT x (changed Hr H' nr)with
       |none=>rfl
       |some c=>
        cases c with
        |none=>exact absurd (eY x nr hac) hdm
        |some ob=>
         by_cases hxn:x∈nr
         ·have hcs:=dP (Hr:=Hr) (H':=H') x nr hxn
          rw[hac]at hcs;rcases hdom x ob hcs.symm with h5|h5
          ·exact absurd h5 hdm
          ·exact absurd h5 hrng
         ·rw[gX (dP.changed_names x nr hxn)]at hac
          cases hac
    refine hK E' (DR D (sts j).nx hi') _ w' ⟨dcAdd,(h.hf.frame hs hDfree e1 e2 hdom key).sim (fun x=>by have:=addN x;rw[show ahd x none=none from rfl,cK]at this;exact this),q1,q2,fun t u hu=>?_,fun n hn=>?_,fun n hn=>.inl (h.hD0 n hn),fun n hn=>(e1 n (h.hD0 n hn)).trans (h.agree n hn),?_,fun i hi hsi x ob hx=>?_⟩
    ·rw[addT t]at hu
     by_cases e:o'.dst=some t
     ·rw[if_pos e]at hu
      cases hu;exact e3
     ·rw[if_neg e]at hu;exact Ev.In.mono DR.le _ (h.tin t u hu)
    ·rcases hn with hn|hn
     ·rcases h.hD n hn with h5|⟨i,hi,h5⟩
      ·exact .inl h5
      ·exact .inr ⟨i,by unfold jK;split;rfl;exact hi,h5⟩
     ·exact .inr ⟨j,by simp[jK],hjn,hn.1,by rw[n4];exact hn.2⟩
    ·rw[<-h.df];cases o'.dst<;>rfl
    ·by_cases e:i=j
     ·subst e
      unfold Wn at hx;rw[h2]at hx;dsimp only at hx;rw[n4];rcases key x with ⟨h5,h6⟩|⟨h5,h6,h7⟩
      ·rcases h5 with ⟨ob',h5⟩|h5
       ·exact .inl ⟨ob',(hsub x ob' h5).2⟩
       ·exact .inr h5
      ·dsimp only at h7
       rw[hx]at h7;have hg:dm (Wn rs) (Wa rs) (sts 0).H.get S ops.toList.length x=some ob:=h7.symm;rw[ky]at hx;obtain⟨f1,f2⟩:=oH (H':=H') (sts i).nx x (hi'-(sts i).nx);rw[f2 (by omega),Option.or_none]at hx;by_cases hxn:x∈nr
       ·exact .inl ⟨ob,by rw[<-readN x hxn];exact hg⟩
       ·rw[gX (dP.changed_names x nr hxn)]at hx
        cases hx
     ·exact h.dom i hi (by simpa[jK,e]using hsi) x ob hx
  ·cases h3'
end
end
section
open Go Go.RowKit
variable [Sym]
section
variable {cx:Cx} {cf:bZ} {G:World->Prop} {S0:Nat->Prop} {w0:World} {nt:Nat} {ops:Array Oper} {rs:List Rec} {sts:Nat->FSt}
def bS (listed:Array Bool):Nat->Bool:=fun i=>listed.getD i false
theorem akd {listed:Array Bool}{j:Nat}(h:j<listed.size):bS (listed.setIfInBounds j true)=jK (bS listed) j:=by
 funext i;unfold bS jK;by_cases e:i=j
 ·subst e;simp[Array.getD,h]
 ·rw[if_neg e]
  simp only[Array.getD_eq_getD_getElem?,Array.getElem?_setIfInBounds_ne (fun q:j=i=>e q.symm)]
theorem zb {o:Oper}{e:Nat}:e∈nU o↔∃x∈o.after,Region.binds .any x=true/\x.on=e:=by
 unfold nU;simp only[amN,List.mem_filter,Array.mem_toList_iff];exact⟨fun⟨x,⟨a,b⟩,c⟩=>⟨x,a,b,c⟩,fun⟨x,a,b,c⟩=>⟨x,⟨a,b⟩,c⟩⟩
theorem ai9 (hc:CxOK cx)(hG:∀w,Fr S0 w0 w->G w)(hcf:bU cx G cf)(hcan:Canon cx cf nt ops ops.toList rs sts)(hp:lH ops.toList 0=true)(hch:jG rs rs (masks [] ops.toList) 0=true)
 {Db:Nat->Prop} (hfree:vN Db (sts 0).nx (sts ops.toList.length).nx) {E0:Env} {df:List Deferred} {ro:Option Nat} {Q:Exit->Act->World->Prop} (hQ:∀S a w E D,(∀i,i<ops.toList.length->S i=true)->Inv S0 w0 nt ops rs sts Db E0 df S a w E D->Q .normal a w):
 ∀(fuel:Nat) (listed:Array Bool) (a:Act) (w:World) (E:Env) (D:Nat->Prop),listed.size=ops.toList.length->cnt (bS listed) ops.toList.length=fuel->Inv S0 w0 nt ops rs sts Db E0 df (bS listed) a w E D->wpAnyIn (fence ro) 0 cx.P .any ops Q fuel listed a w:=by
 have full:∀(listed:Array Bool) (a:Act) (w:World) (E:Env) (D:Nat->Prop),listed.size=ops.toList.length->Inv S0 w0 nt ops rs sts Db E0 df (bS listed) a w E D->Region.ready .any ops listed=[]->∀i,i<ops.toList.length->bS listed i=true:=by
  intro listed a w E D hsz hI hr i
  induction i using Nat.strongRecOn with
  |_ i ih=>
   intro hi;cases hb:bS listed i with
   |true=>rfl
   |false=>
    exfalso;have ho:ops.toList[i]? =some (ops.toList[i]'hi):=by simp
    have hm:i∈Region.ready .any ops listed:=by
     refine mem_ready.2 ⟨?_,ops.toList[i]'hi,by rw[<-amV];exact ho,fun e he hbd=>?_⟩
     ·have hlt:i<listed.size:=by rw[hsz];exact hi
      unfold bS at hb;simp[Array.getD,hlt]at hb⊢
      exact hb
     ·have hpe:e.on∈nU (ops.toList[i]'hi):=zb.2 ⟨e,he,hbd,rfl⟩
      have:=jU ops.toList 0 i _ hp ho _ hpe;exact ih e.on (by omega) (by omega)
    rw[hr]at hm;cases hm
 intro fuel
 induction fuel with
 |zero=>
  intro listed a w E D hsz hcnt hI;have hall:=aco _ hcnt;refine⟨?_,hQ _ a w E D hall hI⟩;cases hr:Region.ready .any ops listed with
  |nil=>rfl
  |cons i l=>
   have hm:i∈Region.ready .any ops listed:=by rw[hr];exact amJ
   obtain⟨h1,o,ho,_⟩:=mem_ready.1 hm;have hlt:i<ops.toList.length:=by simpa using(amA.1 ho).1
   have h2:=hall i hlt;have hlt':i<listed.size:=by rw[hsz];exact hlt
   unfold bS at h2;simp[Array.getD,hlt']at h1 h2;rw[h1]at h2;cases h2
 |succ fuel ih=>
  intro listed a w E D hsz hcnt hI;refine⟨fun hr=>hQ _ a w E D (full listed a w E D hsz hI hr) hI,fun j hj=>?_⟩;obtain⟨h1,o,ho,hpre⟩:=mem_ready.1 hj;have hlt:j<ops.toList.length:=by simpa using(amA.1 ho).1
  have hlt':j<listed.size:=by rw[hsz];exact hlt
  have hSj:bS listed j=false:=by
   unfold bS;simp[Array.getD,hlt']at h1⊢
   exact h1
  refine hI.next hc hG hcf hcan hp hch hfree (by rw[amV];exact ho) hSj (fun e he=>?_) (fun E' D' a' w' hI'=>?_)
  ·obtain⟨x,hx,hb,rfl⟩:=zb.1 he
   exact hpre x hx hb
  ·refine ih _ a' w' E' D' (by simp[hsz]) ?_ (by rw[akd hlt'];exact hI')
   rw[akd hlt'];have:=agj hSj ops.toList.length;rw[if_pos hlt]at this;omega
theorem agW (n:Nat):∀i,bS (Array.replicate n false) i=false:=fun i=>by
 unfold bS;simp only[Array.getD_eq_getD_getElem?,Array.getElem?_replicate];split<;>rfl
theorem pI {st st':FSt}(he:nS cx cf nt ops st=some st'):st.nx<=st'.nx:=by
 unfold nS at he;split at he
 ·rename_i rs st2 hrec
  obtain⟨hb,he⟩:=ag he;cases he;obtain⟨sts,e0,e1,hcan⟩:=nT ops.toList st st' rs hrec;rw[<-e0, <-e1];exact hcan.mono _ 0 (Nat.zero_le _) ano
 ·cases he
theorem uF (hc:CxOK cx)(hG:∀w,Fr S0 w0 w->G w)(hcf:bU cx G cf){st st':FSt}{E:Env}{Db:Nat->Prop}{a:Act}{w:World}(h:Rel S0 w0 nt E Db st a.tmps w)(he:nS cx cf nt ops st=some st')(hfr:vN Db st.nx st'.nx){ro:Option Nat}{Q:Exit->Act->World->Prop}
 (hQ:Dom st.H st'.H st.nx st'.nx->∀E' a' w',a'.defers=a.defers->(∀n,Db n->E' n=E n)->Rel S0 w0 nt E' (DR Db st.nx st'.nx) st' a'.tmps w'->Q .normal a' w'):wpAnyIn (fence ro) 0 cx.P .any ops Q ops.size (Array.replicate ops.size false) a w:=by
 unfold nS at he;split at he
 ·rename_i rs st2 hrec
  obtain⟨hb,he⟩:=ag he;cases he;simp only[amC]at hb;obtain⟨sts,e0,e1,hcan⟩:=nT ops.toList st st' rs hrec;have hn:ops.toList.length=ops.size:=by simp
  have hle:st.nx<=st'.nx:=by rw[<-e0, <-e1];exact hcan.mono _ 0 (Nat.zero_le _) ano
  refine ai9 hc hG hcf hcan hb.1 hb.2 (Db:=Db) (by rw[e0,e1];exact hfr) (E0:=E) (df:=a.defers) (fun S a' w' E' D hall hI=>?_) ops.size _ a w E Db (by simp) ?_ ?_
  ·have domK:∀k,k<=ops.toList.length->Dom st.H (sts k).H st.nx (sts k).nx :=by
    intro k
    induction k with
    |zero=>intro _;rw[e0];exact Dom.refl _ _ _
    |succ k ih=>
     intro hk x ob hx;have hm:st.nx<=(sts k).nx :=by have:=hcan.mono k 0 (Nat.zero_le _) (by omega);rwa[e0]at this
     have hm2:(sts k).nx <=(sts (k+1)).nx :=hcan.mono (k+1) k (by omega) (by omega);have lift:(∃o',(sts k).H.get x=some o')->(∃o',st.H.get x=some o')\/(st.nx<=x/\x<(sts (k+1)).nx):=fun⟨o',ho'⟩=>
      (ih (by omega) x o' ho').imp id fun⟨a,b⟩=>⟨a,amS b hm2⟩
     rw[hcan.heap (k+1) hk x,kw, <-hcan.heap k (by omega) x]at hx;have hx2:=ahb hx;obtain⟨ob',hx⟩:=hx2;cases hw:Wn rs k x with
     |none=>rw[hw]at hx;exact lift ⟨ob',hx⟩
     |some c=>
      rw[hw]at hx;simp only[Option.getD_some]at hx;subst hx;rcases hI.dom k (by omega) (hall k (by omega)) x ob' hw with h5|h5
      ·exact lift h5
      ·exact .inr ⟨by omega,h5.2⟩
   have hdomF:Dom st.H st'.H st.nx st'.nx:=by have:=domK _ ano;rwa[e1]at this
   have hG':∀x,st'.H.get x=dm (Wn rs) (Wa rs) (sts 0).H.get S ops.toList.length x:=fun x=>by
    rw[<-e1,hcan.heap _ ano x,vH _ _ _ hall _ _ ano]
   have hT':∀t,st'.tm.get t=eQ (Wt rs) (sts 0).tm.get S ops.toList.length t:=fun t=>by
    rw[<-e1,hcan.tm _ ano t,vF _ _ hall _ _ ano]
   have hDn:∀n,D n->DR Db st.nx st'.nx n:=fun n hd=>by
    rcases hI.hD n hd with h5|⟨i,_,hi,h6,h7⟩
    ·exact .inl h5
    ·have q1:=hcan.mono ops.toList.length (i+1) (by omega) ano
     have q2:=hcan.mono i 0 (Nat.zero_le _) (by omega);rw[e1]at q1;rw[e0]at q2;exact .inr ⟨by omega,by omega⟩
   refine hQ hdomF E' a' w' hI.df (fun n hn'=>hI.agree n hn') ⟨(hI.hf.toW hG').more hDn,⟨hI.sz,fun t u hu=>hI.tm t u (by rw[<-hT' t];exact hu)⟩,fun t u hu=>Ev.In.mono hDn u (hI.tin t u (by rw[<-hT' t];exact hu))⟩
  ·rw[hn]
   have:∀k,cnt (bS (Array.replicate ops.size false)) k=k:=by
    intro k
    induction k with
    |zero=>rfl
    |succ k ih=>rw[qE,ih,agW];rfl
   exact this _
  ·have hz:=agW ops.size
   refine⟨fun j o _ hs=>?_,?_,h.tm.1,fun t u hu=>?_,fun t u hu=>?_,fun n hn'=>.inl hn',fun n hn'=>hn',fun _ _=>rfl,rfl,fun i _ hs=>?_⟩
   ·rw[hz j]at hs;cases hs
   ·exact h.hw.toF.congr (fun x=>by rw[vG _ _ _ hz,e0])
   ·rw[oU _ _ hz,e0]at hu;exact h.tm.2 t u hu
   ·rw[oU _ _ hz,e0]at hu;exact h.tin t u hu
   ·rw[hz i]at hs;cases hs
 ·cases he
end
end
end Go.Proofs.Q.Ev
