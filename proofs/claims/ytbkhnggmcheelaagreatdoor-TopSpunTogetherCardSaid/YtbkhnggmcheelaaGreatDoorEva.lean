/- TopSpunTogether: A reckoner of closed runs. Conditions: bounded sizes; variables as laid. -/
import Derived.Test.YtbkhnggmcheelaaGreatDoorGaa
import Derived.RangeFuncLeaves
import Derived.OrdersIn
import Derived.Laws.IdiomStrings
import Derived.Laws.Strings
set_option linter.unusedSectionVars false
set_option linter.unusedSimpArgs false
set_option linter.unusedVariables false
namespace Go.Proofs.Q.Ev
section
open Go
inductive Tr (α:Type) where
 |leaf
 |node (l:Tr α) (v:Option α) (r:Tr α)
variable {α:Type}
def Tr.get:Tr α->Nat->Option α
 | .leaf,_=>none
 | .node l v r,n=>bif Nat.beq n 0 then v else bif Nat.beq (Nat.mod n 2) 1 then l.get (Nat.div n 2)else r.get (Nat.pred (Nat.div n 2))
def Tr.put:Nat->Tr α->Nat->Option α->Tr α
 |0,t,_,_=>t
 |f+1,.leaf,n,a=>bif Nat.beq n 0 then .node .leaf a .leaf else bif Nat.beq (Nat.mod n 2) 1 then .node (Tr.put f .leaf (Nat.div n 2) a) none .leaf else .node .leaf none (Tr.put f .leaf (Nat.pred (Nat.div n 2)) a)
 |f+1,.node l v r,n,a=>bif Nat.beq n 0 then .node l a r else bif Nat.beq (Nat.mod n 2) 1 then .node (Tr.put f l (Nat.div n 2) a) v r else .node l v (Tr.put f r (Nat.pred (Nat.div n 2)) a)
def lim:Nat:=1048576
def Tr.set (t:Tr α)(n:Nat)(a:α):Tr α:=Tr.put 24 t n (some a)
def Tr.del (t:Tr α)(n:Nat):Tr α:=Tr.put 24 t n none
theorem gH (n:Nat):(Tr.leaf:Tr α).get n=none:=rfl
theorem gG (l:Tr α)(v:Option α)(r:Tr α)(n:Nat):(Tr.node l v r).get n=if n=0 then v else if n%2=1 then l.get (n/2)else r.get (n/2-1):=by
 show (bif Nat.beq n 0 then v else bif Nat.beq (Nat.mod n 2) 1 then l.get (Nat.div n 2)else r.get (Nat.pred (Nat.div n 2)))=_;by_cases h:n=0
 ·subst h;rfl
 ·have h1:Nat.beq n 0=false:=by
   cases hb:Nat.beq n 0 with
   |false=>rfl
   |true=>exact absurd (amE hb) h
  rw[h1,if_neg h];by_cases h2:n%2=1
  ·have h3:Nat.beq (Nat.mod n 2) 1=true:=by show Nat.beq (n%2) 1=true;rw[h2];rfl
   rw[h3,if_pos h2];rfl
  ·have h3:Nat.beq (Nat.mod n 2) 1=false:=by
    cases hb:Nat.beq (Nat.mod n 2) 1 with
    |false=>rfl
    |true=>exact absurd (amE hb) h2
   rw[h3,if_neg h2];rfl
theorem ah6 (f n:Nat)(a:Option α):Tr.put (f+1) .leaf n a=if n=0 then .node .leaf a .leaf else if n%2=1 then .node (Tr.put f .leaf (n/2) a) none .leaf else .node .leaf none (Tr.put f .leaf (n/2-1) a):=by
 show (bif Nat.beq n 0 then(.node .leaf a .leaf :Tr α)else bif Nat.beq (Nat.mod n 2) 1 then .node (Tr.put f .leaf (Nat.div n 2) a) none .leaf else .node .leaf none (Tr.put f .leaf (Nat.pred (Nat.div n 2)) a))=_;by_cases h:n=0
 ·subst h;rfl
 ·have h1:Nat.beq n 0=false:=by
   cases hb:Nat.beq n 0 with
   |false=>rfl
   |true=>exact absurd (amE hb) h
  rw[h1,if_neg h];by_cases h2:n%2=1
  ·have h3:Nat.beq (Nat.mod n 2) 1=true:=by show Nat.beq (n%2) 1=true;rw[h2];rfl
   rw[h3,if_pos h2];rfl
  ·have h3:Nat.beq (Nat.mod n 2) 1=false:=by
    cases hb:Nat.beq (Nat.mod n 2) 1 with
    |false=>rfl
    |true=>exact absurd (amE hb) h2
   rw[h3,if_neg h2];rfl
theorem ah5 (f n:Nat)(l:Tr α)(v:Option α)(r:Tr α)(a:Option α):Tr.put (f+1) (.node l v r) n a=if n=0 then .node l a r else if n%2=1 then .node (Tr.put f l (n/2) a) v r else .node l v (Tr.put f r (n/2-1) a):=by
 show (bif Nat.beq n 0 then(.node l a r:Tr α)else bif Nat.beq (Nat.mod n 2) 1 then .node (Tr.put f l (Nat.div n 2) a) v r else .node l v (Tr.put f r (Nat.pred (Nat.div n 2)) a))=_;by_cases h:n=0
 ·subst h;rfl
 ·have h1:Nat.beq n 0=false:=by
   cases hb:Nat.beq n 0 with
   |false=>rfl
   |true=>exact absurd (amE hb) h
  rw[h1,if_neg h];by_cases h2:n%2=1
  ·have h3:Nat.beq (Nat.mod n 2) 1=true:=by show Nat.beq (n%2) 1=true;rw[h2];rfl
   rw[h3,if_pos h2];rfl
  ·have h3:Nat.beq (Nat.mod n 2) 1=false:=by
    cases hb:Nat.beq (Nat.mod n 2) 1 with
    |false=>rfl
    |true=>exact absurd (amE hb) h2
   rw[h3,if_neg h2];rfl
theorem get_put (a:Option α):∀(f:Nat) (t:Tr α) (n m:Nat),n+1<2^f->(Tr.put f t n a).get m=if m=n then a else t.get m:=by
 intro f
 induction f with
 |zero=>intro t n m h;exact absurd h (by omega)
 |succ f ih=>
  intro t n m h;have e2:2^(f+1)=2*2^f:=by rw[anb];omega
  cases t with
  |leaf=>
   rw[ah6];by_cases h0:n=0
   ·subst h0
    rw[if_pos rfl,gG,gH,gH,gH];by_cases hm:m=0
    ·rw[if_pos hm,if_pos hm]
    ·rw[if_neg hm,if_neg hm];split<;>rfl
   ·rw[if_neg h0]
    by_cases h1:n%2=1
    ·rw[if_pos h1,gG,gH,gH,ih _ _ _ (by omega),gH]
     by_cases hm:m=0
     ·subst hm;rw[if_pos rfl,if_neg (fun e=>h0 e.symm)]
     ·rw[if_neg hm]
      by_cases hm1:m%2=1
      ·rw[if_pos hm1]
       by_cases e:m=n
       ·subst e;rw[if_pos rfl,if_pos rfl]
       ·rw[if_neg e,if_neg (by omega)]
      ·rw[if_neg hm1,if_neg (by intro e;subst e;exact hm1 h1)]
    ·rw[if_neg h1,gG,gH,gH,ih _ _ _ (by omega),gH]
     by_cases hm:m=0
     ·subst hm;rw[if_pos rfl,if_neg (fun e=>h0 e.symm)]
     ·rw[if_neg hm]
      by_cases hm1:m%2=1
      ·rw[if_pos hm1,if_neg (by intro e;subst e;exact h1 hm1)]
      ·rw[if_neg hm1]
       by_cases e:m=n
       ·subst e;rw[if_pos rfl,if_pos rfl]
       ·rw[if_neg e,if_neg (by omega)]
  |node l v r=>
   rw[ah5];by_cases h0:n=0
   ·subst h0
    rw[if_pos rfl,gG,gG];by_cases hm:m=0
    ·rw[if_pos hm,if_pos hm]
    ·rw[if_neg hm,if_neg hm,if_neg hm]
   ·rw[if_neg h0]
    by_cases h1:n%2=1
    ·rw[if_pos h1,gG,gG,ih _ _ _ (by omega)]
     by_cases hm:m=0
     ·subst hm;rw[if_pos rfl,if_neg (fun e=>h0 e.symm),if_pos rfl]
     ·rw[if_neg hm,if_neg hm]
      by_cases hm1:m%2=1
      ·rw[if_pos hm1,if_pos hm1]
       by_cases e:m=n
       ·subst e;rw[if_pos rfl,if_pos rfl]
       ·rw[if_neg e,if_neg (by omega)]
      ·rw[if_neg hm1,if_neg hm1,if_neg (by intro e;subst e;exact hm1 h1)]
    ·rw[if_neg h1,gG,gG,ih _ _ _ (by omega)]
     by_cases hm:m=0
     ·subst hm;rw[if_pos rfl,if_neg (fun e=>h0 e.symm),if_pos rfl]
     ·rw[if_neg hm,if_neg hm]
      by_cases hm1:m%2=1
      ·rw[if_pos hm1,if_pos hm1,if_neg (by intro e;subst e;exact h1 hm1)]
      ·rw[if_neg hm1,if_neg hm1]
       by_cases e:m=n
       ·subst e;rw[if_pos rfl,if_pos rfl]
       ·rw[if_neg e,if_neg (by omega)]
theorem aZ {t:Tr α}{n:Nat}{a:α}(h:n<lim)(m:Nat):(t.set n a).get m=if m=n then some a else t.get m:=
 get_put _ 24 t n m (by have:lim+1<2^24:=by decide
                        omega)
theorem iL {t:Tr α}{n:Nat}(h:n<lim)(m:Nat):(t.del n).get m=if m=n then none else t.get m:=
 get_put _ 24 t n m (by have:lim+1<2^24:=by decide
                        omega)
inductive Cap where
 |ex (c:Nat)
 |rest (sz:Nat)
inductive AV where
 |lit (v:Value)
 |ptr (n o:Nat)
 |slice (n o len:Nat) (cap:Cap)
 |map (n:Nat)
 |func (f:FuncId) (cap:List AV)
 |yield (n:Nat)
 |sym (n:Nat)
 |rptr (n o:Nat)
 |rsl (n len:Nat)
 |agg (l:List AV)
 |tup (l:List AV)
 |iface (t:TypeId) (v:AV)
instance:Inhabited AV:=⟨.lit default⟩
structure Loc where
 b:Nat
 s:Nat
def Env:=Nat->Loc
def Cap.val (s o:Nat):Cap->Nat
 | .ex c=>c
 | .rest sz=>(s-o)/sz
inductive SV where
 |s (b:BA)
 |i (k:IntKind) (z:Int)
def SV.v:SV->Value
 | .s b=>.string b
 | .i k z=>.int k z
class Sym where
 val:Nat->SV
 off:Nat->Nat
 cap:Nat->Nat
 row:Nat->Array Value×TypeId×(Nat×Nat)
variable [Sym]
mutual
def aj (E:Env):AV->Value
 | .lit v=>v
 | .ptr n o=>.pointer (some ⟨(E n).b,o,none⟩)
 | .slice n o len cap=>.slice (some ⟨(E n).b,o,none⟩) len (cap.val (E n).s o)
 | .map n=>.map (some (E n).b)
 | .func f cap=>.func (.func f) #[] (fT E cap).toArray
 | .yield n=>.func (.yield (E n).b) #[] #[]
 | .sym n=>(Sym.val n).v
 | .rptr n o=>.pointer (some ⟨(E n).b,Sym.off n+o,none⟩)
 | .rsl n len=>.slice (some ⟨(E n).b,Sym.off n,none⟩) len (Sym.cap n)
 | .agg l=>.agg (fT E l).toArray
 | .tup l=>.tuple (fT E l).toArray
 | .iface t v=>.iface t (aj E v)
def fT (E:Env):List AV->List Value
 | []=>[]
 |v::l=>aj E v::fT E l
end
theorem bE (E:Env)(l:List AV):fT E l=l.map (aj E):=by
 induction l with
 |nil=>rfl
 |cons v l ih=>simp[fT,ih]
mutual
def AV.In (D:Nat->Prop):AV->Prop
 | .lit _| .sym _=>True
 | .ptr n _| .slice n _ _ _| .map n| .yield n| .rptr n _| .rsl n _=>D n
 | .func _ l| .agg l| .tup l=>InL D l
 | .iface _ v=>v.In D
def InL (D:Nat->Prop):List AV->Prop
 | []=>True
 |v::l=>v.In D/\InL D l
end
theorem eO {D:Nat->Prop}{l:List AV}:InL D l↔∀v∈l,v.In D:=by
 induction l with
 |nil=>simp[InL]
 |cons v l ih=>simp[InL,ih]
mutual
theorem bL {E E':Env}{D:Nat->Prop}(h:∀n,D n->E' n=E n):∀v:AV,v.In D->aj E' v=aj E v
 | .lit _,_=>rfl
 | .ptr n o,hb=>by simp only[aj];rw[h n hb]
 | .slice n o l c,hb=>by simp only[aj];rw[h n hb]
 | .map n,hb=>by simp only[aj];rw[h n hb]
 | .yield n,hb=>by simp only[aj];rw[h n hb]
 | .sym _,_=>rfl
 | .rptr n o,hb=>by simp only[aj];rw[h n hb]
 | .rsl n l,hb=>by simp only[aj];rw[h n hb]
 | .func f l,hb=>by simp only[aj];rw[jD h l hb]
 | .agg l,hb=>by simp only[aj];rw[jD h l hb]
 | .tup l,hb=>by simp only[aj];rw[jD h l hb]
 | .iface t v,hb=>by simp only[aj];rw[bL h v hb]
theorem jD {E E':Env}{D:Nat->Prop}(h:∀n,D n->E' n=E n):∀l:List AV,InL D l->fT E' l=fT E l
 | [],_=>rfl
 |v::l,hb=>by
  simp only[fT];rw[bL h v hb.1,jD h l hb.2]
end
mutual
theorem In.mono {D D':Nat->Prop}(h:∀n,D n->D' n):∀v:AV,v.In D->v.In D'
 | .lit _,_=>trivial
 | .ptr n o,hb=>h n hb
 | .slice n o l c,hb=>h n hb
 | .map n,hb=>h n hb
 | .yield n,hb=>h n hb
 | .sym _,_=>trivial
 | .rptr n o,hb=>h n hb
 | .rsl n l,hb=>h n hb
 | .func f l,hb=>InL.mono h l hb
 | .agg l,hb=>InL.mono h l hb
 | .tup l,hb=>InL.mono h l hb
 | .iface t v,hb=>In.mono h v hb
theorem InL.mono {D D':Nat->Prop}(h:∀n,D n->D' n):∀l:List AV,InL D l->InL D' l
 | [],_=>trivial
 |v::l,hb=>⟨In.mono h v hb.1,InL.mono h l hb.2⟩
end
def AV.cells:AV->List AV
 | .agg l=>l
 | .lit (.agg c)=>c.toList.map .lit
 |v=>[v]
theorem jf (E:Env)(l:List Value):(l.map AV.lit).map (aj E)=l:=by
 induction l with
 |nil=>rfl
 |cons v l ih=>rw[ann,ann,ih];rfl
theorem eZ (E:Env)(v:AV):(aj E v).cells =(v.cells.map (aj E)).toArray :=by
 cases v with
 |lit v=>
  cases v<;>first|rfl|skip
  rename_i c;show c=((c.toList.map AV.lit).map (aj E)).toArray;rw[jf]
 |agg l=>show (fT E l).toArray =_;rw[bE];rfl
 |sym n=>show (Sym.val n).v.cells = #[(Sym.val n).v];cases Sym.val n<;>rfl
 |_=>rfl
theorem kM {D:Nat->Prop}(v:AV)(h:v.In D):∀u∈v.cells,u.In D:=by
 cases v with
 |lit v=>
  cases v<;>intro u hu<;>simp only[AV.cells,List.mem_singleton,amN]at hu<;>first|(subst hu;exact h)|skip
  obtain⟨x,_,rfl⟩:=hu
  trivial
 |agg l=>exact eO.1 h
 |_=>intro u hu;simp only[AV.cells,List.mem_singleton]at hu;subst hu;exact h
end
section
open Go Go.RowKit
variable [Sym]
inductive AObj where
 |cells (l:List AV) (t:TypeId) (ex:Bool)
 |map (es:List (Value×AV))
 |loop (st:LoopState) (pending:Option Code) (tm:Tr AV) (nt:Nat) (ps:List Tmp) (assign body:Code) (d:Nat)
 |defd
 |strIter (s:BA) (pos:Nat)
 |bytes (s:BA) (e:TypeId)
 |row (l:List AV) (k:Nat)
def acJ (tm:Tr AV)(t:Nat):AV:=(tm.get t).getD (.lit undef)
def TM (E:Env)(nt:Nat)(tm:Tr AV)(tmps:Array Value):Prop:=tmps.size=nt/\∀i v,tm.get i=some v->tmps.getD i undef=aj E v
def TIn (D:Nat->Prop)(tm:Tr AV):Prop:=∀i v,tm.get i=some v->v.In D
def amo (E:Env)(es:List (Value×AV))(ents:Array MapEntry)(clk:Nat):Prop:=
 (ents.toList.map fun e=>(e.key,e.val)).Perm (es.map fun e=>(e.1,aj E e.2))/\(∀e∈ents.toList,e.born<clk)/\(ents.toList.map (·.born)).Nodup /\(es.map (·.1)).Nodup
def OR (E:Env)(w:World)(n:Nat):AObj->Prop
 | .cells l t ex=>∃c,w.heap[(E n).b]? =some (.cells c t (0,0))/\c.size=(E n).s /\l.length<=c.size/\(ex=true->c.size=l.length)/\∀(i:Nat) (v:AV),l[i]? =some v->c[i]? =some (aj E v)
 | .map es=>∃ents clk,w.heap[(E n).b]? =some (.map ents clk)/\amo E es ents clk
 | .loop st pending tm nt ps assign body d=>∃tmps fn,w.heap[(E n).b]? =some (.loop {state:=st,pending,fn,tmps,params:=ps.toArray,assign,body,defers:=(E d).b})/\TM E nt tm tmps
 | .defd =>w.heap[(E n).b]? =some (.deferred (some []))
 | .strIter s pos=>w.heap[(E n).b]? =some (.stringIter s pos)
 | .bytes s e=>∃c fz,w.heap[(E n).b]? =some (.cells c e fz)/\c.size=(E n).s /\∀(i:Nat) (b:UInt8),s.data.toList[i]? =some b->c[i]? =some (.int .u8 b.toNat)
 | .row l k=>w.heap[(E n).b]? =some (.cells (Sym.row k).1 (Sym.row k).2.1 (Sym.row k).2.2)/\∀(i:Nat) (v:AV),l[i]? =some v->(Sym.row k).1[Sym.off n+i]? =some (aj E v)
def AObj.In (D:Nat->Prop):AObj->Prop
 | .cells l _ _=>∀v∈l,v.In D
 | .map es=>∀e∈es,e.2.In D
 | .loop _ _ tm _ _ _ _ d=>TIn D tm/\D d
 | .defd =>True
 | .strIter .. =>True
 | .bytes .. =>True
 | .row l _=>∀v∈l,v.In D
theorem AObj.In.mono {D D':Nat->Prop}(h:∀n,D n->D' n){o:AObj}(hi:o.In D):o.In D':=by
 cases o with
 |cells l t ex=>exact fun v hv=>Ev.In.mono h v (hi v hv)
 |map es=>exact fun e he=>Ev.In.mono h _ (hi e he)
 |loop st pending tm nt ps assign body d=>exact⟨fun i v hv=>Ev.In.mono h v (hi.1 i v hv),h d hi.2⟩
 |defd=>trivial
 |strIter s pos=>trivial
 |bytes s e=>trivial
 |row l k=>exact fun v hv=>Ev.In.mono h v (hi v hv)
abbrev Heap:=Tr AObj
structure Fr (S:Nat->Prop) (w0 w:World):Prop where
 os:w.os=w0.os
 tape:w.tape=w0.tape
 output:w.output=w0.output
 size:w0.heap.size<=w.heap.size
 block:∀k,k<w0.heap.size->¬S k->w.heap[k]? =w0.heap[k]?
theorem Fr.refl (S:Nat->Prop)(w:World):Fr S w w:=⟨rfl,rfl,rfl,am4 _,fun _ _ _=>rfl⟩
theorem Fr.below {w0 w:World}(h:Fr (fun _=>False) w0 w):Below w0.heap.size w0 w:=⟨h.os,h.tape,h.output,h.size,fun k hk=>h.block k hk (fun x=>x)⟩
theorem Fr.on {S:Nat->Prop}{w0 w w':World}(h:Fr S w0 w)(hb:Below w.heap.size w w'):Fr S w0 w':=
 ⟨hb.os.trans h.os,hb.tape.trans h.tape,hb.output.trans h.output,amG h.size hb.size,fun k hk hs=>(hb.block k (amS hk h.size)).trans (h.block k hk hs)⟩
structure HW (S:Nat->Prop) (w0:World) (E:Env) (D:Nat->Prop) (H:Heap) (w:World):Prop where
 obj:∀n o,H.get n=some o->OR E w n o
 inj:∀n m o o',H.get n=some o->H.get m=some o'->n≠m->(E n).b ≠(E m).b
 own:∀n o,H.get n=some o->S (E n).b \/w0.heap.size<=(E n).b
 names:∀n o,H.get n=some o->D n/\o.In D
 fr:Fr S w0 w
section
variable {S:Nat->Prop} {w0 w w':World} {E E':Env} {D:Nat->Prop} {H:Heap}
theorem OR.lt {n:Nat}{o:AObj}(h:OR E w n o):(E n).b <w.heap.size:=by
 have key:∀x,w.heap[(E n).b]? =some x->(E n).b <w.heap.size:=fun x hx=>(amA.1 hx).1
 cases o with
 |cells l t ex=>obtain⟨c,hc,_⟩:=h;exact key _ hc
 |map es=>obtain⟨a,b,hc,_⟩:=h;exact key _ hc
 |loop st pending tm nt ps assign body d=>obtain⟨c,fn,hc,_⟩:=h;exact key _ hc
 |defd=>exact key _ h
 |strIter s pos=>exact key _ h
 |bytes s e=>obtain⟨c,fz,hc,_⟩:=h;exact key _ hc
 |row l k=>exact key _ h.1
theorem iA {nt:Nat}{tm:Tr AV}{tmps:Array Value}(he:∀n,D n->E' n=E n)(ht:TIn D tm)(h:TM E nt tm tmps):TM E' nt tm tmps:=by
 exact⟨h.1,fun i v hv=>(h.2 i v hv).trans (bL he v (ht i v hv)).symm⟩
theorem OR.congr {n:Nat}{o:AObj}(he:∀n,D n->E' n=E n)(hn:D n)(hi:o.In D)(hh:w'.heap[(E n).b]? =w.heap[(E n).b]?)(h:OR E w n o):OR E' w' n o:=by
 cases o with
 |cells l t ex=>
  obtain⟨c,hc,hs,hl,hx,hv⟩:=h;refine⟨c,by rw[he n hn,hh,hc],by rw[he n hn,hs],hl,hx,fun i v hi'=>?_⟩;rw[hv i v hi',bL he v (hi v (amI hi'))]
 |map es=>
  obtain⟨a,b,hc,h1,h2⟩:=h;refine⟨a,b,by rw[he n hn,hh,hc],?_,h2⟩;have:(es.map fun e=>(e.1,aj E' e.2))=(es.map fun e=>(e.1,aj E e.2)):=
   List.map_congr_left fun e hm=>by rw[bL he _ (hi e hm)]
  rw[this];exact h1
 |loop st pending tm nt ps assign body d=>
  obtain⟨c,fn,hc,ht⟩:=h;exact⟨c,fn,by rw[he n hn,hh,hc,he d hi.2],iA he hi.1 ht⟩
 |defd=>show w'.heap[(E' n).b]? =_;rw[he n hn,hh];exact h
 |strIter s pos=>show w'.heap[(E' n).b]? =_;rw[he n hn,hh];exact h
 |bytes s e=>
  obtain⟨c,fz,hc,hs,h2⟩:=h;exact⟨c,fz,by rw[he n hn,hh,hc],by rw[he n hn,hs],h2⟩
 |row l k=>
  obtain⟨hc,hv⟩:=h;refine⟨by rw[he n hn,hh,hc],fun i v hi'=>?_⟩;rw[hv i v hi',bL he v (hi v (amI hi'))]
theorem HW.step (h:HW S w0 E D H w){D':Nat->Prop}(hd:∀n,D n->D' n)(he:∀n,D n->E' n=E n)(hf:Fr S w0 w')(hh:∀n o,H.get n=some o->w'.heap[(E n).b]? =w.heap[(E n).b]?):HW S w0 E' D' H w':=by
 refine⟨fun n o hn=>?_,fun n m o o' hn hm hne=>?_,fun n o hn=>?_,fun n o hn=>?_,hf⟩
 ·exact OR.congr he (h.names n o hn).1 (h.names n o hn).2 (hh n o hn) (h.obj n o hn)
 ·rw[he n (h.names n o hn).1,he m (h.names m o' hm).1];exact h.inj n m o o' hn hm hne
 ·rw[he n (h.names n o hn).1];exact h.own n o hn
 ·exact⟨hd n (h.names n o hn).1,(h.names n o hn).2.mono hd⟩
def setE (E:Env)(n:Nat)(l:Loc):Env:=fun m=>if m=n then l else E m
theorem ay (n:Nat)(l:Loc):setE E n l n=l:=by simp[setE]
theorem aU {n m:Nat}(l:Loc)(h:m≠n):setE E n l m=E m:=by simp[setE,h]
def D1 (D:Nat->Prop)(n:Nat):Nat->Prop:=fun m=>D m\/m=n
theorem HW.new (h:HW S w0 E D H w){n:Nat}(hn:¬D n)(hl:n<lim){o:AObj}{x:Obj}{s:Nat}(ho:o.In D)(hx:OR (setE E n ⟨w.heap.size,s⟩) (w.alloc x) n o):
 HW S w0 (setE E n ⟨w.heap.size,s⟩) (D1 D n) (H.set n o) (w.alloc x):=by
 have he:∀m,D m->setE E n ⟨w.heap.size,s⟩ m=E m:=fun m hm=>aU _ (by intro e;subst e;exact hn hm)
 have hb:Below w.heap.size w (w.alloc x):=(am3 _ _).alloc ano x;have h1:HW S w0 (setE E n ⟨w.heap.size,s⟩) (D1 D n) H (w.alloc x):=h.step (fun m hm=>.inl hm) he (h.fr.on hb) (fun m o' hm=>hb.block _ (h.obj m o' hm).lt);have hfresh:∀m o',H.get m=some o'->(setE E n ⟨w.heap.size,s⟩ m).b <w.heap.size:=fun m o' hm=>by rw[he m (h.names m o' hm).1];exact(h.obj m o' hm).lt
 refine⟨fun m o' hm=>?_,fun m m' o1 o2 hm hm' hne=>?_,fun m o' hm=>?_,fun m o' hm=>?_,h1.fr⟩
 ·rw[aZ hl]at hm
  split at hm
  ·rename_i e;subst e;cases hm;exact hx
  ·exact h1.obj m o' hm
 ·rw[aZ hl]at hm hm'
  split at hm<;>split at hm'
  ·rename_i e1 e2;exact absurd (e1.trans e2.symm) hne
  ·rename_i e1 e2
   subst e1;rw[ay];have:=hfresh m' o2 hm';exact fun e=>by rw[<-e]at this;exact Nat.lt_irrefl _ this
  ·rename_i e1 e2
   subst e2;rw[ay];have:=hfresh m o1 hm;exact fun e=>by rw[e]at this;exact Nat.lt_irrefl _ this
  ·exact h1.inj m m' o1 o2 hm hm' hne
 ·rw[aZ hl]at hm
  split at hm
  ·rename_i e;subst e;rw[ay];exact .inr h.fr.size
  ·exact h1.own m o' hm
 ·rw[aZ hl]at hm
  split at hm
  ·rename_i e;subst e;cases hm;exact⟨.inr rfl,ho.mono fun _ hx=>.inl hx⟩
  ·exact h1.names m o' hm
theorem HW.turn (h:HW S w0 E D H w){n:Nat}(hl:n<lim){o o':AObj}(hn:H.get n=some o)(ho:o'.In D)(hsz:w'.heap.size=w.heap.size)(hos:w'.os=w.os)(ht:w'.tape=w.tape)(hout:w'.output=w.output)
 (hh:∀k,k≠(E n).b ->w'.heap[k]? =w.heap[k]?) (hx:OR E w' n o'):HW S w0 E D (H.set n o') w':=by
 have hf:Fr S w0 w':=⟨hos.trans h.fr.os,ht.trans h.fr.tape,hout.trans h.fr.output,by rw[hsz];exact h.fr.size,fun k hk hs=>by
  by_cases e:k=(E n).b
  ·subst e
   rcases h.own n o hn with h1|h1
   ·exact absurd h1 hs
   ·exact absurd hk (Nat.not_lt.2 h1)
  ·rw[hh k e];exact h.fr.block k hk hs⟩
 refine⟨fun m x hm=>?_,fun m m' o1 o2 hm hm' hne=>?_,fun m x hm=>?_,fun m x hm=>?_,hf⟩
 ·rw[aZ hl]at hm
  split at hm
  ·rename_i e;subst e;cases hm;exact hx
  ·rename_i e
   exact OR.congr (D:=D) (fun _ _=>rfl) (h.names m x hm).1 (h.names m x hm).2 (hh _ (h.inj m n x o hm hn e)) (h.obj m x hm)
 ·rw[aZ hl]at hm hm'
  split at hm<;>split at hm'
  ·rename_i e1 e2;exact absurd (e1.trans e2.symm) hne
  ·rename_i e1 e2;subst e1;exact h.inj _ _ _ _ hn hm' hne
  ·rename_i e1 e2;subst e2;exact h.inj _ _ _ _ hm hn hne
  ·exact h.inj m m' o1 o2 hm hm' hne
 ·rw[aZ hl]at hm
  split at hm
  ·rename_i e;subst e;exact h.own _ _ hn
  ·exact h.own m x hm
 ·rw[aZ hl]at hm
  split at hm
  ·rename_i e;subst e;cases hm;exact⟨(h.names _ _ hn).1,ho⟩
  ·exact h.names m x hm
theorem HW.drop (h:HW S w0 E D H w){n:Nat}(hl:n<lim):HW S w0 E D (H.del n) w:=by
 have key:∀m x,(H.del n).get m=some x->H.get m=some x:=fun m x hm=>by
  rw[iL hl]at hm;split at hm
  ·cases hm
  ·exact hm
 exact⟨fun m x hm=>h.obj m x (key m x hm),fun m m' o1 o2 hm hm' hne=>h.inj m m' o1 o2 (key _ _ hm) (key _ _ hm') hne,fun m x hm=>h.own m x (key m x hm),fun m x hm=>h.names m x (key m x hm),h.fr⟩
end
end
section
open Go Go.RowKit
variable [Sym]
section
variable {P:Program} {w:World}
theorem fZ (b o n:Nat):(⟨b,o,none⟩:Addr).add n=⟨b,o+n,none⟩:=by
 unfold Addr.add;split
 ·rename_i h;subst h;rfl
 ·rfl
theorem cell_of {b o:Nat}{c:Array Value}{t:TypeId}{fz:Nat×Nat}{v:Value}(h:w.heap[b]? =some (.cells c t fz))(hv:c[o]? =some v):w.cell? ⟨b,o,none⟩=some v:=by
 simp[World.cell?,h,hv]
theorem qw {b o:Nat}{c:Array Value}{t:TypeId}{fz:Nat×Nat}{v:Value}(h:w.heap[b]? =some (.cells c t fz))(hv:c[o]? =some v):(load ⟨b,o,none⟩).run P w= .ok v w:=by
 rw[run_load,cell_of h hv]
theorem zq {b:Nat}{c:Array Value}{t:TypeId}{fz:Nat×Nat}(h:w.heap[b]? =some (.cells c t fz))(o:Nat):∀(vs:List Value) (i:Nat) (acc:Array Value),(∀(j:Nat) (v:Value),vs[j]? =some v->c[o+i+j]? =some v)->
 (loadCellsFrom ⟨b,o,none⟩ i vs.length acc).run P w= .ok (acc++vs.toArray) w
 | [],i,acc,_=>by simp[loadCellsFrom]
 |v::vs,i,acc,hv=>by
  have h0:=hv 0 v rfl;simp only[Nat.add_zero]at h0;have ih:=zq h o vs (i+1) (acc.push v) (fun j u hj=>by have:=hv (j+1) u (by simpa using hj);rwa[show o+i+(j+1)=o+(i+1)+j by omega]at this);simp only[amT,loadCellsFrom,amF,fZ,qw (P:=P) h h0,amz];rw[ih];simp
theorem kF {b o:Nat}{c:Array Value}{t:TypeId}{fz:Nat×Nat}{vs:List Value}(h:w.heap[b]? =some (.cells c t fz))(hv:∀(j:Nat) (v:Value),vs[j]? =some v->c[o+j]? =some v):
 (loadCells ⟨b,o,none⟩ vs.length).run P w= .ok vs.toArray w:=by
 unfold loadCells;rw[zq h o vs 0 #[] (fun j v hj=>by simpa using hv j v hj)];simp
def aL {α:Type}(c:Array α)(o:Nat):List α->Array α
 | []=>c
 |v::vs=>aL (c.setIfInBounds o v) (o+1) vs
theorem aC {α:Type}:∀(vs:List α) (c:Array α) (o:Nat),(aL c o vs).size =c.size
 | [],_,_=>rfl
 |v::vs,c,o=>by simp[aL,aC vs]
theorem aY {α:Type}:∀(vs:List α) (c:Array α) (o i:Nat),o+vs.length<=c.size->(aL c o vs)[i]? =if o<=i/\i<o+vs.length then vs[i-o]? else c[i]?
 | [],c,o,i,_=>by simp[aL];intro _ h;omega
 |v::vs,c,o,i,h=>by
  simp only[amT]at h;rw[aL,aY vs _ _ _ (by simp;omega)];by_cases h1:o+1<=i/\i<o+1+vs.length
  ·rw[if_pos h1,if_pos (by simp;omega),show i-o=(i-(o+1))+1 by omega,List.getElem?_cons_succ]
  ·rw[if_neg h1]
   by_cases h2:i=o
   ·subst h2
    rw[if_pos (by simp),Nat.sub_self,Array.getElem?_setIfInBounds_self_of_lt (by omega)];rfl
   ·rw[if_neg (by simp;omega),Array.getElem?_setIfInBounds_ne (Ne.symm h2)]
theorem wy {b o:Nat}{c:Array Value}{t:TypeId}{fz:Nat×Nat}(h:w.heap[b]? =some (.cells c t fz))(v:Value):(w.setCell ⟨b,o,none⟩ v).heap[b]? =some (.cells (c.setIfInBounds o v) t fz):=by
 simp[World.setCell,Array.getElem?_modify,h]
theorem ut {b o:Nat}{t:TypeId}:∀(vs:List Value) (w:World) (c:Array Value) (i:Nat),w.heap[b]? =some (.cells c t (0,0))->o+i+vs.length<=c.size->(∀v∈vs,v.oneCell'=true)->
 ∃w',(storeCells ⟨b,o,none⟩ vs i).run P w= .ok () w'/\w'.heap[b]? =some (.cells (aL c (o+i) vs) t (0,0))/\w'.heap.size=w.heap.size/\w'.os=w.os/\w'.tape=w.tape/\w'.output=w.output/\∀k,k≠b->w'.heap[k]? =w.heap[k]?
 | [],w,c,i,h,_,_=>⟨w,rfl,h,rfl,rfl,rfl,rfl,fun _ _=>rfl⟩
 |v::vs,w,c,i,h,hl,ho=>by
  simp only[amT]at hl;have hc:w.cell? ⟨b,o+i,none⟩=some (c[o+i]'(by omega)):=cell_of h (by simp);have hf:w.frozen? ⟨b,o+i,none⟩=false:=by simp[World.frozen?,h]
  have h1:=wy (o:=o+i) h v;obtain⟨w',hr,hb,hs,e1,e2,e3,hk⟩:=ut (o:=o) vs (w.setCell ⟨b,o+i,none⟩ v) _ (i+1) h1 (by simp;omega) (fun u hu=>ho u (amL _ hu));refine⟨w',?_,?_,?_,e1,e2,e3,fun k hkb=>?_⟩
  ·simp only[storeCells,amF,fZ,run_store _ _ _ _ _ (ho v amJ),hc,hf,amQ,if_false,amz]
   exact hr
  ·rw[hb,aL,show o+i+1=o+(i+1)by omega]
  ·rw[hs,World.size_setCell]
  ·rw[hk k hkb];exact amR w _ v k hkb
theorem lh {b o:Nat}{t:TypeId}{vs:List Value}{c:Array Value}(h:w.heap[b]? =some (.cells c t (0,0)))(hl:o+vs.length<=c.size)(ho:∀v∈vs,v.oneCell'=true):
 ∃w',(storeCells ⟨b,o,none⟩ vs).run P w= .ok () w'/\w'.heap[b]? =some (.cells (aL c o vs) t (0,0))/\w'.heap.size=w.heap.size/\w'.os=w.os/\w'.tape=w.tape/\w'.output=w.output/\∀k,k≠b->w'.heap[k]? =w.heap[k]?:=
 ut vs w c 0 h hl ho
end
structure TI where
 desc:TypeDesc
 size:Nat
 bytes:Nat
 zero:Value
structure FI where
 nt:Nat
 body:Code
 res:List ResultVar
structure Cx where
 P:Program
 ti:Nat->Option TI
 fn:Nat->Option FI
 rB:BinOp->TypeId->AV->AV->Option AV
 rC:TypeId->TypeId->AV->Option AV
def abm:TypeDesc->Bool
 | .struct _| .array _ _=>true
 |_=>false
structure CxOK (cx:Cx):Prop where
 ti:∀t i,cx.ti t=some i->cx.P.underlying t=some i.desc/\∃inf,cx.P.info? t=some inf/\inf.size=i.size/\inf.bytes=i.bytes/\inf.zero=some i.zero
 fn:∀f i,cx.fn f=some i->∃F,cx.P.funcs[f]? =some F/\F.body=some i.body/\F.ntmps=i.nt/\F.results.toList=i.res/\(F.name== "runtime.NumGoroutine")=false
 mixed:cx.P.follows .mixedOrders =true
 rB:∀op t a b v,cx.rB op t a b=some v->(∀D,v.In D)/\∀(E:Env) (x y:Operand) (w:World),(do eqGuard op t x y (aj E a) (aj E b);Go.binOp op t (aj E a) (aj E b):Sem Value).run cx.P w= .ok (aj E v) w
 rC:∀s d a v,cx.rC s d a=some v->(∀D,v.In D)/\∀(E:Env) (w:World),(convert s d (aj E a)).run cx.P w= .ok (aj E v) w
section
variable {cx:Cx} {t:TypeId} {i:TI} {w:World}
theorem run_underlying (h:CxOK cx)(hi:cx.ti t=some i):(underlying t).run cx.P w= .ok i.desc w:=by
 unfold underlying;simp only[amF,run_program,amz,(h.ti t i hi).1];rfl
theorem run_typeInfo (h:CxOK cx)(hi:cx.ti t=some i):∃inf,(typeInfo t).run cx.P w= .ok inf w/\inf.size=i.size/\inf.bytes=i.bytes/\inf.zero=some i.zero:=by
 obtain⟨_,inf,h1,h2⟩:=h.ti t i hi;refine⟨inf,?_,h2⟩;unfold typeInfo;simp only[amF,run_program,amz,h1];rfl
theorem run_sizeOf (h:CxOK cx)(hi:cx.ti t=some i):(sizeOf t).run cx.P w= .ok i.size w:=by
 obtain⟨inf,h1,h2,_⟩:=run_typeInfo (w:=w) h hi;unfold sizeOf;simp only[amF,h1,amz,h2];rfl
theorem bQ (h:CxOK cx)(hi:cx.ti t=some i):(zeroValue t).run cx.P w= .ok i.zero w:=by
 obtain⟨inf,h1,_,_,h2⟩:=run_typeInfo (w:=w) h hi;unfold zeroValue;simp only[amF,h1,amz,h2];rfl
theorem mI (h:CxOK cx)(hi:cx.ti t=some i):(isAgg t).run cx.P w= .ok (abm i.desc) w:=by
 unfold isAgg;simp only[amF,run_underlying h hi,amz];cases i.desc<;>rfl
end
def pick (agg:Bool)(size:Nat)(l:List AV)(o:Nat):Option AV:=
 bif agg then(bif Nat.ble (o+size) l.length then some (.agg ((l.drop o).take size))else none)else l[o]?
def AV.one:AV->Bool
 | .lit v=>v.oneCell'
 | .agg _| .tup _=>false
 |_=>true
theorem wP (E:Env)(v:AV)(h:v.one=true):(aj E v).oneCell' =true:=by
 cases v<;>first|exact h|rfl|(cases h;done)|skip
 rename_i n;show (Sym.val n).v.oneCell' =true;cases Sym.val n<;>rfl
def DR (D:Nat->Prop)(lo hi:Nat):Nat->Prop:=fun n=>D n\/(lo<=n/\n<hi)
theorem DR.le {D:Nat->Prop}{lo hi:Nat}:∀n,D n->DR D lo hi n:=fun _ h=>.inl h
section
variable {cx:Cx} {S:Nat->Prop} {w0 w:World} {E:Env} {D:Nat->Prop} {H:Heap}
theorem afu (hc:CxOK cx)(h:HW S w0 E D H w){t:TypeId}{i:TI}(hi:cx.ti t=some i){n o:Nat}{l:List AV}{T:TypeId}{ex:Bool}(hn:H.get n=some (.cells l T ex)){v:AV}(hv:pick (abm i.desc) i.size l o=some v):
 (loadVar t ⟨(E n).b,o,none⟩).run cx.P w= .ok (aj E v) w/\v.In D:=by
 obtain⟨c,hb,hs,hl,hx,hcell⟩:=h.obj n _ hn;have hin:=(h.names n _ hn).2;unfold loadVar;simp only[amF,mI hc hi,amz];unfold pick at hv;cases ha:abm i.desc with
 |false=>
  rw[ha]at hv;have hv':l[o]? =some v:=hv;refine⟨?_,hin v (amI hv')⟩;simp only[amQ,if_false];exact qw hb (hcell o v hv')
 |true=>
  rw[ha]at hv;have hv':(bif Nat.ble (o+i.size) l.length then some (AV.agg ((l.drop o).take i.size))else none)=some v:=hv;cases hle:Nat.ble (o+i.size) l.length with
  |false=>rw[hle]at hv';cases hv'
  |true=>
   rw[hle]at hv';have hv'':some (AV.agg ((l.drop o).take i.size))=some v:=hv';cases hv'';have hle':o+i.size<=l.length:=Nat.le_of_ble_eq_true hle;refine⟨?_,eO.2 fun u hu=>hin u (List.mem_of_mem_drop (am7 hu))⟩;simp only[if_true,amF,run_sizeOf hc hi,amz];have hlen:(((l.drop o).take i.size).map (aj E)).length =i.size:=by simp;omega
   have:=kF (P:=cx.P) (o:=o) (vs:=((l.drop o).take i.size).map (aj E)) hb (fun j u hj=>by
    rw[amP]at hj;cases hx':((l.drop o).take i.size)[j]? with
    |none=>rw[hx']at hj;cases hj
    |some x=>
     rw[hx']at hj;cases hj;rw[amZ]at hx';split at hx'
     ·rw[List.getElem?_drop]at hx';exact hcell _ _ hx'
     ·cases hx')
   rw[hlen]at this;rw[this];simp only[amz,amM,aj,bE]
theorem aiy (hc:CxOK cx)(h:HW S w0 E D H w){t:TypeId}{i:TI}(hi:cx.ti t=some i){n o:Nat}{l:List AV}{k:Nat}(hn:H.get n=some (.row l k)){v:AV}(hv:pick (abm i.desc) i.size l o=some v):
 (loadVar t ⟨(E n).b,Sym.off n+o,none⟩).run cx.P w= .ok (aj E v) w/\v.In D:=by
 obtain⟨hb,hcell⟩:=h.obj n _ hn;have hin:=(h.names n _ hn).2;unfold loadVar;simp only[amF,mI hc hi,amz];unfold pick at hv;cases ha:abm i.desc with
 |false=>
  rw[ha]at hv;have hv':l[o]? =some v:=hv;refine⟨?_,hin v (amI hv')⟩;simp only[amQ,if_false];exact qw hb (hcell o v hv')
 |true=>
  rw[ha]at hv;have hv':(bif Nat.ble (o+i.size) l.length then some (AV.agg ((l.drop o).take i.size))else none)=some v:=hv;cases hle:Nat.ble (o+i.size) l.length with
  |false=>rw[hle]at hv';cases hv'
  |true=>
   rw[hle]at hv';have hv'':some (AV.agg ((l.drop o).take i.size))=some v:=hv';cases hv'';have hle':o+i.size<=l.length:=Nat.le_of_ble_eq_true hle;refine⟨?_,eO.2 fun u hu=>hin u (List.mem_of_mem_drop (am7 hu))⟩;simp only[if_true,amF,run_sizeOf hc hi,amz];have hlen:(((l.drop o).take i.size).map (aj E)).length =i.size:=by simp;omega
   have:=kF (P:=cx.P) (o:=Sym.off n+o) (vs:=((l.drop o).take i.size).map (aj E)) hb (fun j u hj=>by
    rw[amP]at hj;cases hx':((l.drop o).take i.size)[j]? with
    |none=>rw[hx']at hj;cases hj
    |some x=>
     rw[hx']at hj;cases hj;rw[amZ]at hx';split at hx'
     ·rw[List.getElem?_drop]at hx';rw[Nat.add_assoc];exact hcell _ _ hx'
     ·cases hx')
   rw[hlen]at this;rw[this];simp only[amz,amM,aj,bE]
theorem ahF (hc:CxOK cx)(h:HW S w0 E D H w){t:TypeId}{i:TI}(hi:cx.ti t=some i){n o:Nat}{l:List AV}{T:TypeId}{ex:Bool}(hn:H.get n=some (.cells l T ex))(hlim:n<lim){v:AV}(hv:v.In D)(hsz:v.cells.length=i.size)(ho:o+v.cells.length<=l.length)(h1:∀u∈v.cells,u.one=true):
 ∃w',(storeVar t ⟨(E n).b,o,none⟩ (aj E v)).run cx.P w= .ok () w'/\HW S w0 E D (H.set n (.cells (aL l.toArray o v.cells).toList T ex)) w':=by
 obtain⟨c,hb,hs,hl,hx,hcell⟩:=h.obj n _ hn;have hin:=(h.names n _ hn).2;have hcs:(aj E v).cells.size =i.size:=by rw[eZ];simpa using hsz
 obtain⟨w',hr,hb',hsz',e1,e2,e3,hk⟩:=lh (P:=cx.P) (w:=w) (b:=(E n).b) (o:=o) (vs:=(v.cells.map (aj E))) (c:=c) hb (by simp;omega) (fun u hu=>by
  obtain⟨x,hx,rfl⟩:=amN.1 hu;exact wP E x (h1 x hx))
 refine⟨w',?_,?_⟩
 ·unfold storeVar
  simp only[amF,run_sizeOf hc hi,amz,hcs,ne_eq,not_true_eq_false,if_false];rw[eZ];simpa using hr
 ·refine h.turn hlim hn ?_ hsz' e1 e2 e3 hk ?_
  ·intro u hu
   obtain⟨j,hj⟩:=List.getElem?_of_mem hu;rw[amV,aY _ _ _ _ (by simpa using ho)]at hj;split at hj
   ·exact kM v hv u (amI hj)
   ·exact hin u (by simpa using Array.mem_of_getElem? hj)
  ·refine⟨_,hb',by rw[aC];exact hs,by rw[aC];simpa[aC]using hl,fun he=>by rw[aC];simpa[aC]using hx he,fun j u hj=>?_⟩
   rw[amV,aY _ _ _ _ (by simpa using ho)]at hj;rw[aY _ _ _ _ (by simp;omega)];simp only[am6];split at hj
   ·rename_i hh
    rw[if_pos hh,amP,hj];rfl
   ·rename_i hh
    rw[if_neg hh];exact hcell j u (by simpa using hj)
theorem ajV (h:HW S w0 E D H w){n:Nat}(hn:¬D n)(hlim:n<lim){l:List AV}(hl:∀v∈l,v.In D)(T:TypeId):
 HW S w0 (setE E n ⟨w.heap.size,l.length⟩) (D1 D n) (H.set n (.cells l T true)) (w.alloc (.cells (l.map (aj E)).toArray T)):=by
 refine h.new hn hlim (o:=.cells l T true) hl ⟨(l.map (aj E)).toArray,?_,?_,?_,?_,?_⟩
 ·rw[ay];show (w.heap.push _)[w.heap.size]? =_;rw[Array.getElem?_push_size]
 ·rw[ay];simp
 ·simp
 ·simp
 ·intro j v hj
  have he:∀m,D m->setE E n ⟨w.heap.size,l.length⟩ m=E m:=fun m hm=>aU _ (by intro e;subst e;exact hn hm)
  rw[bL he v (hl v (amI hj))];simp[hj]
end
end
section
open Go Go.RowKit
variable [Sym]
def ev (tm:Tr AV):Operand->AV
 | .tmp t=>acJ tm t
 | .const v=>.lit v
 | .global g=>.lit (.pointer (some ⟨g,0,none⟩))
 | .func f=>.func f []
theorem dJ {tm:Tr AV}{t:Nat}(h:(tm.get t).isSome =true):tm.get t=some (acJ tm t):=by
 unfold acJ;cases hv:tm.get t with
 |none=>rw[hv]at h;cases h
 |some v=>rfl
theorem aa1 {E:Env}{nt:Nat}{tm:Tr AV}{a:Act}(h:TM E nt tm a.tmps)(x:Operand)(hx:∀t,x= .tmp t->(tm.get t).isSome =true):a.eval x=aj E (ev tm x):=by
 cases x with
 |tmp t=>exact h.2 t _ (dJ (hx t rfl))
 |const v=>rfl
 |global g=>rfl
 |func f=>rfl
theorem oM {E:Env}{nt:Nat}{tm:Tr AV}{a:Act}(h:TM E nt tm a.tmps)(x:Operand)(hne:ev tm x≠ .lit undef):a.eval x=aj E (ev tm x):=
 aa1 h x fun t e=>by
  subst e;cases hv:tm.get t with
  |some v=>rfl
  |none=>exact absurd (show ev tm (.tmp t)= .lit undef by show acJ tm t=_;unfold acJ;rw[hv];rfl) hne
theorem alT {D:Nat->Prop}{tm:Tr AV}(h:TIn D tm)(x:Operand):(ev tm x).In D:=by
 cases x with
 |tmp t=>
  show (acJ tm t).In D;unfold acJ;cases hv:tm.get t with
  |none=>trivial
  |some v=>exact h t v hv
 |const v=>trivial
 |global g=>trivial
 |func f=>trivial
def lD {α:Type}(P:Program):Sem α->Option α
 | .pure a=>some a
 | .program k=>lD P (k P)
 |_=>none
theorem ji {α:Type}{P:Program}(s:Sem α){a:α}(h:lD P s=some a)(w:World):s.run P w= .ok a w:=by
 induction s with
 |pure b=>cases h;rfl
 |program k ih=>exact ih P h
 |load m a k ih=>cases h
 |store m a v k ih=>cases h
 |new o k ih=>cases h
 |shape r k ih=>cases h
 |freeze a n k ih=>cases h
 |frozen a k ih=>cases h
 |getObj r k ih=>cases h
 |setObj r o k ih=>cases h
 |choose q k ih=>cases h
 |sys c k ih=>cases h
 |mark m k ih=>cases h
 |halt h'=>cases h
def ajF:List UInt8->List UInt8->Bool
 | [],[]=>true
 |a::x,b::y=>Nat.beq a.toNat b.toNat&&ajF x y
 |_,_=>false
theorem oZ:∀x y:List UInt8,ajF x y=(x==y)
 | [],[]=>rfl
 | [],_::_=>rfl
 |_::_,[]=>rfl
 |a::x,b::y=>by
  show (Nat.beq a.toNat b.toNat&&ajF x y)=((a==b)&&(x==y));rw[oZ x y];congr 1;cases h:Nat.beq a.toNat b.toNat with
  |true=>have:=UInt8.toNat_inj.1 (amE h);subst this;simp
  |false=>
   have hne:a≠b:=fun e=>by subst e;rw[Nat.beq_refl]at h;cases h
   exact(beq_false_of_ne hne).symm
def lessL:List UInt8->List UInt8->Bool
 |_,[]=>false
 | [],_::_=>true
 |a::x,b::y=>Nat.blt a.toNat b.toNat||(Nat.beq a.toNat b.toNat&&lessL x y)
theorem ab0:∀x y:List UInt8,lessL x y=Op.bytesLess x y
 | [],[]=>rfl
 |_::_,[]=>rfl
 | [],_::_=>rfl
 |a::x,b::y=>by
  show (Nat.blt a.toNat b.toNat||(Nat.beq a.toNat b.toNat&&lessL x y))=(decide (a<b)||((a==b)&&Op.bytesLess x y));rw[ab0 x y];have h1:Nat.blt a.toNat b.toNat=decide (a<b):=by
   rw[Bool.eq_iff_iff,anh,decide_eq_true_iff];exact UInt8.lt_iff_toNat_lt.symm
  have h2:Nat.beq a.toNat b.toNat=(a==b):=by
   cases h:Nat.beq a.toNat b.toNat with
   |true=>have:=UInt8.toNat_inj.1 (amE h);subst this;simp
   |false=>
    have hne:a≠b:=fun e=>by subst e;rw[Nat.beq_refl]at h;cases h
    exact(beq_false_of_ne hne).symm
  rw[h1,h2]
def ahE (op:BinOp)(x y:BA):Option Value:=
 match op with
 | .eql =>some (.bool (ajF x.data.toList y.data.toList))
 | .neq =>some (.bool (!ajF x.data.toList y.data.toList))
 | .lss =>some (.bool (lessL x.data.toList y.data.toList))
 | .leq =>some (.bool (lessL x.data.toList y.data.toList||ajF x.data.toList y.data.toList))
 | .gtr =>some (.bool (!(lessL x.data.toList y.data.toList||ajF x.data.toList y.data.toList)))
 | .geq =>some (.bool (!lessL x.data.toList y.data.toList))
 | .add =>bif Nat.ble (x.size+y.size) 1000000 then some (.string (x++y))else none
 |_=>none
theorem ahD {op:BinOp}{x y:BA}{v:Value}(h:ahE op x y=some v)(P:Program)(w:World):(Op.stringOp op x y).run P w= .ok v w:=by
 unfold ahE at h;unfold Op.stringOp;simp only[ByteArray.toList_eq, <-oZ, <-ab0];cases op<;>first|(cases h;rfl)|(simp at h;done)|skip
 have h':(bif Nat.ble (x.size+y.size) 1000000 then some (Value.string (x++y))else none)=some v:=h;cases hb:Nat.ble (x.size+y.size) 1000000 with
 |false=>rw[hb]at h';cases h'
 |true=>
  rw[hb]at h';cases h';have:=Nat.le_of_ble_eq_true hb;have hn:¬(((x.size+y.size:Nat):Int)>IntKind.i64.max):=by
   have:IntKind.i64.max=9223372036854775807:=rfl;omega
  simp only[hn,if_false];rfl
def litB (P:Program)(op:BinOp)(t:TypeId):Value->Value->Option Value
 | .string a,.string b=>ahE op a b
 | .int j a,.int k b=>lD P (Go.binOp op t (.int j a) (.int k b))
 |_,_=>none
def uV:List AV->Option (List Value)
 | []=>some []
 | .lit v::l=>match uV l with
  |some vs=>some (v::vs)
  |none=>none
 |_=>none
theorem jv {E:Env}:∀ {l:List AV} {vs:List Value},uV l=some vs->l.map (aj E)=vs
 | [],vs,h=>by cases h;rfl
 |v::l,vs,h=>by
  unfold uV at h;split at h
  ·rename_i heq;cases heq
  ·rename_i u l' heq
   cases heq;split at h
   ·rename_i vs' h'
    cases h;rw[ann,jv h'];rfl
   ·cases h
  ·cases h
def ajI:AV->Option Value
 | .lit (.agg c)=>some (.agg c)
 | .agg l=>match uV l with
  |some vs=>some (.agg vs.toArray)
  |none=>none
 |_=>none
theorem vJ {E:Env}{v:AV}{u:Value}(h:ajI v=some u):aj E v=u:=by
 unfold ajI at h;split at h
 ·cases h;rfl
 ·split at h
  ·rename_i vs hvs
   cases h;show Value.agg (fT E _).toArray =_;rw[bE,jv hvs]
  ·cases h
 ·cases h
def abS:TypeDesc->AV->Option Bool
 | .pointer _,.lit (.pointer none)=>some true
 | .pointer _,.ptr .. =>some false
 | .slice _,.lit (.slice none _ _)=>some true
 | .slice _,.slice .. =>some false
 | .map _ _,.lit (.map none)=>some true
 | .map _ _,.map _=>some false
 | .func ..,.lit .nilFunc =>some true
 | .func ..,.func .. =>some false
 | .func ..,.yield _=>some false
 | .interface _,.lit .nilIface =>some true
 | .interface _,.lit (.iface ..)=>some false
 | .interface _,.iface .. =>some false
 |_,_=>none
def isC:Operand->Bool
 | .const _=>true
 |_=>false
def gOK (x y:Operand):AV->AV->Bool
 | .lit .nilIface,.lit .nilIface =>isC x||isC y
 |_,_=>true
abbrev Res:=Option (AV×Heap×Nat)
section
variable (cx:Cx) (ρ:Operand->AV) (H:Heap) (nx:Nat)
def akY (c a b:Operand):Res:=
 match ρ c with
 | .lit (.bool true)=>some (ρ a,H,nx)
 | .lit (.bool false)=>some (ρ b,H,nx)
 |_=>none
def oNew (l:List AV)(T:TypeId):Res:=
 bif Nat.blt nx lim then some (.ptr nx 0,H.set nx (.cells l T true),nx+1)else none
def afg (t:TypeId):Res:=
 match cx.ti t with
 |some i=>oNew H nx (AV.cells (.lit i.zero)) t
 |none=>none
def akZ (t:TypeId)(x:Operand):Res:=
 match ρ x with
 | .ptr n o=>match H.get n with
  |some (.cells l _ _)=>match cx.ti t with
   |some i=>match pick (abm i.desc) i.size l o with
    |some v=>some (v,H,nx)
    |none=>none
   |none=>none
  |some (.bytes s _)=>match cx.ti t with
   |some i=>match abm i.desc,s.data.toList[o]? with
    |false,some b=>some (.lit (.int .u8 b.toNat),H,nx)
    |_,_=>none
   |none=>none
  |_=>none
 | .rptr n o=>match H.get n with
  |some (.row l _)=>match cx.ti t with
   |some i=>match pick (abm i.desc) i.size l o with
    |some v=>some (v,H,nx)
    |none=>none
   |none=>none
  |_=>none
 |_=>none
def ae3 (t:TypeId)(x y:Operand):Res:=
 match ρ x with
 | .ptr n o=>match H.get n with
  |some (.cells l T ex)=>match cx.ti t with
   |some i=>
    bif Nat.blt n lim&&(Nat.beq (ρ y).cells.length i.size&&(Nat.ble (o+(ρ y).cells.length) l.length&&(ρ y).cells.all AV.one))then some (.lit undef,H.set n (.cells (aL l.toArray o (ρ y).cells).toList T ex),nx)else none
   |none=>none
  |_=>none
 |_=>none
def og (s:TypeId)(x:Operand)(f:Nat):Res:=
 match ρ x with
 | .ptr n o=>match cx.ti s with
  |some {desc:=.struct fs, ..}=>match fs[f]? with
   |some fd=>match cx.ti fd.type with
    |some i=>bif Nat.beq i.size 0 then none else some (.ptr n (o+fd.offset),H,nx)
    |none=>none
   |none=>none
  |_=>none
 | .rptr n o=>match cx.ti s with
  |some {desc:=.struct fs, ..}=>match fs[f]? with
   |some fd=>match cx.ti fd.type with
    |some i=>bif Nat.beq i.size 0 then none else some (.rptr n (o+fd.offset),H,nx)
    |none=>none
   |none=>none
  |_=>none
 |_=>none
def afa (s:TypeId)(x:Operand)(f:Nat):Res:=
 match cx.ti s with
 |some {desc:=.struct fs, ..}=>match fs[f]? with
  |some fd=>match cx.ti fd.type,ρ x with
   |some i,.agg l=>match pick (abm i.desc) i.size l fd.offset with
    |some v=>some (v,H,nx)
    |none=>none
   |some i,.lit (.agg c)=>match pick (abm i.desc) i.size (c.toList.map .lit) fd.offset with
    |some v=>some (v,H,nx)
    |none=>none
   |_,_=>none
  |none=>none
 |_=>none
def asI:AV->Option Int
 | .lit (.int _ n)=>some n
 |_=>none
def nZ (t:TypeId)(x ix:Operand):Res:=
 match asI (ρ ix)with
 |some (.ofNat k)=>match cx.ti t with
  |some {desc:=.slice el, ..}=>match ρ x,cx.ti el with
   | .slice n o len _,some i=>bif Nat.blt k len then some (.ptr n (o+k*i.size),H,nx)else none
   | .rsl n len,some i=>bif Nat.blt k len then some (.rptr n (k*i.size),H,nx)else none
   |_,_=>none
  |some {desc:=.array len el, ..}=>match ρ x,cx.ti el with
   | .ptr n o,some i=>bif Nat.blt k len then some (.ptr n (o+k*i.size),H,nx)else none
   |_,_=>none
  |_=>none
 |_=>none
def ae8 (t:TypeId)(x ix:Operand):Res:=
 match asI (ρ ix)with
 |some (.ofNat k)=>match cx.ti t with
  |some {desc:=.array len el, ..}=>match ρ x,cx.ti el with
   | .agg l,some i=>bif Nat.blt k len then(match pick (abm i.desc) i.size l (k*i.size)with|some v=>some (v,H,nx)|none=>none)else none
   |_,_=>none
  |some {desc:=.string, ..}=>match ρ x with
   | .lit (.string s)=>match s.data.toList[k]? with
    |some b=>some (.lit (.int .u8 b.toNat),H,nx)
    |none=>none
   |_=>none
  |_=>none
 |_=>none
def wU (x:Operand)(i:Nat):Res:=
 match ρ x with
 | .tup l=>match l[i]? with
  |some v=>some (v,H,nx)
  |none=>none
 |_=>none
def rM (x:Operand):Res:=
 match ρ x with
 | .ptr n o=>some (.ptr n o,H,nx)
 | .rptr n o=>some (.rptr n o,H,nx)
 | .func f l=>some (.func f l,H,nx)
 | .yield l=>some (.yield l,H,nx)
 |_=>none
def oBin (op:BinOp)(t:TypeId)(x y:Operand):Res:=
 match ρ x,ρ y with
 | .lit (.int j a),.lit (.int k b)=>match litB cx.P op t (.int j a) (.int k b)with
  |some v=>some (.lit v,H,nx)
  |none=>none
 | .lit (.string a),.lit (.string b)=>match litB cx.P op t (.string a) (.string b)with
  |some v=>some (.lit v,H,nx)
  |none=>none
 | .lit (.bool a),.lit (.bool b)=>match cx.ti t,op with
  |some {desc:=.bool, ..},.eql =>some (.lit (.bool (a==b)),H,nx)
  |some {desc:=.bool, ..},.neq =>some (.lit (.bool (!(a==b))),H,nx)
  |_,_=>none
 |a,b=>match ajI a,ajI b with
  |some u,some v=>match lD cx.P (do eqGuard op t x y u v;Go.binOp op t u v)with
   |some z=>some (.lit z,H,nx)
   |none=>none
  |_,_=>match cx.ti t with
   |some i=>match abS i.desc a,abS i.desc b,op with
    |some a',some b',.eql =>bif (a'||b')&&gOK x y a b then some (.lit (.bool (a'&&b')),H,nx)else none
    |some a',some b',.neq =>bif (a'||b')&&gOK x y a b then some (.lit (.bool (!(a'&&b'))),H,nx)else none
    |_,_,_=>none
   |none=>none
def oUn (op:UnOp)(x:Operand):Res:=
 match ρ x with
 | .lit a=>match lD cx.P (Op.unary op a)with
  |some v=>some (.lit v,H,nx)
  |none=>none
 |_=>none
def qi (s d:TypeId)(x:Operand):Res:=
 match cx.ti s,cx.ti d,ρ x with
 |some i,some j,.lit (.int _ n)=>match i.desc,j.desc with
  | .int _,.int k=>some (.lit (.int k (k.wrap n)),H,nx)
  |_,_=>none
 |some i,some j,.lit (.string b)=>match i.desc,j.desc with
  | .string,.string =>some (.lit (.string b),H,nx)
  | .string,.slice e=>match cx.ti e with
   |some {desc:=.int .u8, ..}=>bif Nat.blt nx lim then some (.slice nx 0 b.size (.rest 1),H.set nx (.bytes b e),nx+1)else none
   |_=>none
  |_,_=>none
 |_,_,_=>none
def rO (fn:Fn)(first captured:Array Operand):Res:=
 match fn,first.toList with
 | .func f,[]=>some (.func f (captured.toList.map ρ),H,nx)
 |_,_=>none
end
end
section
open Go Go.RowKit
variable [Sym]
def Dom (H H':Heap)(lo hi:Nat):Prop:=∀m o,H'.get m=some o->(∃o',H.get m=some o')\/(lo<=m/\m<hi)
theorem Dom.refl (H:Heap)(lo hi:Nat):Dom H H lo hi:=fun _ o h=>.inl ⟨o,h⟩
theorem Dom.set {H H':Heap}{lo hi:Nat}(h:Dom H H' lo hi){n:Nat}(hl:n<lim)(hn:(∃o',H.get n=some o')\/(lo<=n/\n<hi))(o:AObj):Dom H (H'.set n o) lo hi:=fun m o' hm=>by
 rw[aZ hl]at hm;split at hm
 ·rename_i e;subst e;exact hn
 ·exact h m o' hm
theorem Dom.del {H H':Heap}{lo hi:Nat}(h:Dom H H' lo hi){n:Nat}(hl:n<lim):Dom H (H'.del n) lo hi:=fun m o' hm=>by
 rw[iL hl]at hm;split at hm
 ·cases hm
 ·exact h m o' hm
theorem Dom.mono {H H':Heap}{lo hi lo' hi':Nat}(h:Dom H H' lo hi)(h1:lo'<=lo)(h2:hi<=hi'):Dom H H' lo' hi':=fun m o hm=>(h m o hm).imp id fun⟨a,b⟩=>⟨amG h1 a,amS b h2⟩
theorem Dom.trans {H H' H'':Heap}{lo mi hi:Nat}(h1:lo<=mi)(h2:mi<=hi)(h:Dom H H' lo mi)(h':Dom H' H'' mi hi):Dom H H'' lo hi:=fun m o hm=>by
 rcases h' m o hm with ⟨o',ho'⟩|⟨a,b⟩
 ·exact(h m o' ho').imp id fun⟨a,b⟩=>⟨a,amS b h2⟩
 ·exact .inr ⟨amG h1 a,b⟩
def aA (cx:Cx)(S:Nat->Prop)(w0:World)(E:Env)(D:Nat->Prop)(H:Heap)(w:World)(sem:Sem Next)(lo:Nat)(v:AV)(H':Heap)(hi:Nat):Prop:=
 lo<=hi/\Dom H H' lo hi/\∃E' w',(sem.run cx.P w= .ok (.value (aj E' v)) w'\/(sem.run cx.P w= .ok .skip w'/\v= .lit undef))/\(∀n,D n->E' n=E n)/\HW S w0 E' (DR D lo hi) H' w'/\v.In (DR D lo hi)
section
variable {cx:Cx} {S:Nat->Prop} {w0 w:World} {E:Env} {D:Nat->Prop} {H H':Heap} {nx hi:Nat} {ρ:Operand->AV} {r:Operand->Value} {v:AV}
theorem HW.more (h:HW S w0 E D H w){D':Nat->Prop}(hd:∀n,D n->D' n):HW S w0 E D' H w:=h.step hd (fun _ _=>rfl) h.fr (fun _ _ _=>rfl)
theorem aA.pure (h:HW S w0 E D H w){sem:Sem Next}(hr:sem.run cx.P w= .ok (.value (aj E v)) w)(hv:v.In D):aA cx S w0 E D H w sem nx v H nx:=
 ⟨am4 _,Dom.refl _ _ _,E,w,.inl hr,fun _ _=>rfl,h.more DR.le,Ev.In.mono DR.le v hv⟩
theorem aA.new (h:HW S w0 E D H w){sem:Sem Next}{l:List AV}{T:TypeId}(hl:∀v∈l,v.In D)(hn:∀n,nx<=n->n<nx+1->¬D n)(hlim:nx<lim)
 (hr:sem.run cx.P w= .ok (.value (.pointer (some ⟨w.heap.size,0,none⟩))) (w.alloc (.cells (l.map (aj E)).toArray T))):aA cx S w0 E D H w sem nx (.ptr nx 0) (H.set nx (.cells l T true)) (nx+1):=by
 have hnx:=hn nx ano (am9 _);refine⟨Nat.le_succ _,(Dom.refl _ _ _).set hlim (.inr ⟨am4 _,am9 _⟩) _,setE E nx ⟨w.heap.size,l.length⟩,_,.inl ?_,fun n hd=>aU _ (by intro e;subst e;exact hnx hd),(ajV h hnx hlim hl T).more ?_,.inr ⟨am4 _,am9 _⟩⟩
 ·rw[hr];simp only[aj,ay]
 ·intro n hn'
  rcases hn' with h1|h1
  ·exact .inl h1
  ·subst h1;exact .inr ⟨am4 _,am9 _⟩
theorem ae6 (h:HW S w0 E D H w){sem:Sem Next}{l:List AV}{T:TypeId}(hl:∀v∈l,v.In D)(hn:∀n,nx<=n->n<hi->¬D n)
 (hr:sem.run cx.P w= .ok (.value (.pointer (some ⟨w.heap.size,0,none⟩))) (w.alloc (.cells (l.map (aj E)).toArray T))) (he:oNew H nx l T=some (v,H',hi)):aA cx S w0 E D H w sem nx v H' hi:=by
 unfold oNew at he;cases hb:Nat.blt nx lim with
 |false=>rw[hb]at he;cases he
 |true=>
  rw[hb]at he;cases he;exact aA.new h hl hn (by simpa[anh]using hb) hr
theorem aff (hc:CxOK cx)(h:HW S w0 E D H w){t:TypeId}(hn:∀n,nx<=n->n<hi->¬D n)(he:afg cx H nx t=some (v,H',hi)):aA cx S w0 E D H w (do Pure.pure (.value (<-Instr.alloc t true (.tuple #[])))) nx v H' hi:=by
 unfold afg at he;split at he
 ·rename_i i hi'
  refine ae6 h (fun u hu=>kM (.lit i.zero) trivial u hu) hn ?_ he;have hz:=eZ E (.lit i.zero);unfold Instr.alloc newVar newRow;simp only[amF,bQ hc hi',amz,run_newObj,amM,World.alloc_eq];rw[<-hz];rfl
 ·cases he
theorem ak1 (h:HW S w0 E D H w){t:TypeId}{x:AV}(hx:x.In D)(hn:∀n,nx<=n->n<hi->¬D n)(he:oNew H nx x.cells t=some (v,H',hi)):aA cx S w0 E D H w (do Pure.pure (.value (<-Instr.box t (aj E x)))) nx v H' hi:=by
 refine ae6 h (fun u hu=>kM x hx u hu) hn ?_ he;unfold Instr.box newVar newRow;simp only[amF,amz,run_newObj,amM,World.alloc_eq];rw[eZ]
theorem ail (hc:CxOK cx)(h:HW S w0 E D H w){t:TypeId}{x:Operand}(hr:r x=aj E (ρ x))(he:akZ cx ρ H nx t x=some (v,H',hi)):aA cx S w0 E D H w (do Pure.pure (.value (<-Instr.loadAt t (r x)))) nx v H' hi:=by
 unfold akZ at he;rw[hr];generalize ρ x=X at*
 split at he
 ·rename_i n o
  split at he
  ·rename_i l T ex hn
   split at he
   ·rename_i i hi'
    split at he
    ·rename_i u hu
     cases he;obtain⟨h1,h2⟩:=afu hc h hi' hn hu;refine aA.pure h ?_ h2;unfold Instr.loadAt Instr.sureAddr;simp only[amF,amz,amM,aj,h1]
    ·cases he
   ·cases he
  ·rename_i s e hn
   split at he
   ·rename_i i hi'
    split at he
    ·rename_i b ha hb
     cases he;obtain⟨c,fz,hc1,_,hc2⟩:=h.obj n _ hn;refine aA.pure h ?_ trivial;unfold Instr.loadAt Instr.sureAddr loadVar;simp only[amF,amz,amM,aj,mI hc hi',ha,amQ,if_false,qw (P:=cx.P) hc1 (hc2 _ _ hb)]
    ·cases he
   ·cases he
  ·cases he
 ·rename_i n o
  split at he
  ·rename_i l k hn
   split at he
   ·rename_i i hi'
    split at he
    ·rename_i u hu
     cases he;obtain⟨h1,h2⟩:=aiy hc h hi' hn hu;refine aA.pure h ?_ h2;unfold Instr.loadAt Instr.sureAddr;simp only[amF,amz,amM,aj,h1]
    ·cases he
   ·cases he
  ·cases he
 ·cases he
theorem ae2 (hc:CxOK cx)(h:HW S w0 E D H w){t:TypeId}{x y:Operand}(hr:r x=aj E (ρ x))(hr2:r y=aj E (ρ y))(hy:(ρ y).In D)(he:ae3 cx ρ H nx t x y=some (v,H',hi)):aA cx S w0 E D H w (do Instr.storeAt t (r x) (r y);Pure.pure .skip) nx v H' hi:=by
 unfold ae3 at he;rw[hr,hr2];generalize ρ x=X at*
 split at he
 ·rename_i n o
  split at he
  ·rename_i l T ex hn
   split at he
   ·rename_i i hi'
    generalize hb:(Nat.blt n lim&&(Nat.beq (ρ y).cells.length i.size&&(Nat.ble (o+(ρ y).cells.length) l.length&&(ρ y).cells.all AV.one)))=b at he;cases b with
    |false=>cases he
    |true=>
     cases he;simp only[amC,anh,Nat.beq_eq,Nat.ble_eq,amU]at hb;obtain⟨b1,b2,b3,b4⟩:=hb;obtain⟨w',h1,h2⟩:=ahF hc h hi' hn b1 hy b2 b3 b4;refine⟨am4 _,(Dom.refl _ _ _).set b1 (.inl ⟨_,hn⟩) _,E,w',.inr ⟨?_,rfl⟩,fun _ _=>rfl,h2.more DR.le,trivial⟩;unfold Instr.storeAt Instr.sureAddr;simp only[amF,amz,amM,aj,h1]
   ·cases he
  ·cases he
 ·cases he
end
end
section
open Go Go.RowKit
variable [Sym]
section
variable {cx:Cx} {S:Nat->Prop} {w0 w:World} {E:Env} {D:Nat->Prop} {H H':Heap} {nx hi:Nat} {ρ:Operand->AV} {r:Operand->Value} {v:AV}
theorem aik (h:HW S w0 E D H w){c a b:Operand}(hr:∀x,r x=aj E (ρ x))(hi':∀x,(ρ x).In D)(he:akY ρ H nx c a b=some (v,H',hi)):aA cx S w0 E D H w (do Pure.pure (.value (if<-asBool (r c)then r a else r b))) nx v H' hi:=by
 unfold akY at he;have hc:=hr c;split at he
 ·rename_i e
  cases he;refine aA.pure h ?_ (hi' a);rw[hc,e,hr a];rfl
 ·rename_i e
  cases he;refine aA.pure h ?_ (hi' b);rw[hc,e,hr b];rfl
 ·cases he
theorem wT (hc:CxOK cx)(h:HW S w0 E D H w){s:TypeId}{x:Operand}{f:Nat}(hr:∀x,r x=aj E (ρ x))(hi':∀x,(ρ x).In D)(he:og cx ρ H nx s x f=some (v,H',hi)):aA cx S w0 E D H w (do Pure.pure (.value (<-Instr.fieldAt s (r x) f))) nx v H' hi:=by
 unfold og at he;have hx:=hi' x;rw[hr x];generalize ρ x=X at*
 split at he
 ·rename_i n o
  split at he
  ·rename_i fs sz by' z hs
   split at he
   ·rename_i fd hf
    split at he
    ·rename_i i hfi
     cases hb:Nat.beq i.size 0 with
     |true=>rw[hb]at he;cases he
     |false=>
      rw[hb]at he;cases he;refine aA.pure h ?_ hx;have hne:¬i.size=0:=fun e=>by rw[e]at hb;cases hb
      unfold Instr.fieldAt Instr.sureAddr fieldPlace;simp only[amF,run_underlying hc hs,amz,hf,aj,amM,run_sizeOf hc hfi,hne,if_false,fZ]
    ·cases he
   ·cases he
  ·cases he
 ·rename_i n o
  split at he
  ·rename_i fs sz by' z hs
   split at he
   ·rename_i fd hf
    split at he
    ·rename_i i hfi
     cases hb:Nat.beq i.size 0 with
     |true=>rw[hb]at he;cases he
     |false=>
      rw[hb]at he;cases he;refine aA.pure h ?_ hx;have hne:¬i.size=0:=fun e=>by rw[e]at hb;cases hb
      unfold Instr.fieldAt Instr.sureAddr fieldPlace;simp only[amF,run_underlying hc hs,amz,hf,aj,amM,run_sizeOf hc hfi,hne,if_false,fZ,Nat.add_assoc]
    ·cases he
   ·cases he
  ·cases he
 ·cases he
theorem aaA (hc:CxOK cx){t:TypeId}{i:TI}(hi':cx.ti t=some i){l:List AV}{o:Nat}(hv:pick (abm i.desc) i.size l o=some v):(part t (l.map (aj E)).toArray o).run cx.P w= .ok (aj E v) w:=by
 unfold part;simp only[amF,mI hc hi',amz];unfold pick at hv;cases ha:abm i.desc with
 |false=>
  rw[ha]at hv;have hv':l[o]? =some v:=hv;simp[hv']
 |true=>
  rw[ha]at hv;have hv':(bif Nat.ble (o+i.size) l.length then some (AV.agg ((l.drop o).take i.size))else none)=some v:=hv;cases hle:Nat.ble (o+i.size) l.length with
  |false=>rw[hle]at hv';cases hv'
  |true=>
   rw[hle]at hv';have hv'':some (AV.agg ((l.drop o).take i.size))=some v:=hv';cases hv'';simp only[if_true,amF,run_sizeOf hc hi',amz,amM,aj,bE];congr 2;apply Array.ext';simp[List.extract_eq_take_drop,List.map_drop,List.map_take]
theorem aaz {agg:Bool}{size:Nat}{l:List AV}{o:Nat}(hl:∀u∈l,u.In D)(hv:pick agg size l o=some v):v.In D:=by
 unfold pick at hv;cases agg with
 |false=>exact hl v (amI hv)
 |true=>
  have hv':(bif Nat.ble (o+size) l.length then some (AV.agg ((l.drop o).take size))else none)=some v:=hv;cases hle:Nat.ble (o+size) l.length with
  |false=>rw[hle]at hv';cases hv'
  |true=>
   rw[hle]at hv';have hv'':some (AV.agg ((l.drop o).take size))=some v:=hv';cases hv'';exact eO.2 fun u hu=>hl u (List.mem_of_mem_drop (am7 hu))
theorem ae9 (hc:CxOK cx)(h:HW S w0 E D H w){s:TypeId}{x:Operand}{f:Nat}(hr:∀x,r x=aj E (ρ x))(hi':∀x,(ρ x).In D)(he:afa cx ρ H nx s x f=some (v,H',hi)):aA cx S w0 E D H w (do Pure.pure (.value (<-Instr.field s (r x) f))) nx v H' hi:=by
 unfold afa at he;have hx:=hi' x;rw[hr x];generalize ρ x=X at*
 split at he
 ·rename_i fs sz by' z hs
  split at he
  ·rename_i fd hf
   split at he
   ·rename_i i l hfi
    split at he
    ·rename_i u hu
     cases he;refine aA.pure h ?_ (aaz (eO.1 hx) hu);unfold Instr.field asAgg;simp only[amF,run_underlying hc hs,amz,hf,aj,amM,bE,aaA hc hfi hu]
    ·cases he
   ·rename_i i c hfi
    split at he
    ·rename_i u hu
     cases he;refine aA.pure h ?_ (aaz (fun u hu=>by obtain⟨x,_,rfl⟩:=amN.1 hu;trivial) hu);have hp:=aaA (E:=E) (w:=w) hc hfi hu;rw[jf]at hp;unfold Instr.field asAgg;simp only[amF,run_underlying hc hs,amz,hf,aj,amM];simpa using congrArg (fun x=>Result.andThen x fun a w'=>Result.ok (Next.value a) w') hp
    ·cases he
   ·cases he
  ·cases he
 ·cases he
theorem nK {x:AV}{n:Int}(hx:asI x=some n):∃k,aj E x= .int k n:=by
 unfold asI at hx;split at hx
 ·cases hx;exact⟨_,rfl⟩
 ·cases hx
theorem wS (hc:CxOK cx)(h:HW S w0 E D H w){t:TypeId}{x ix:Operand}(hr:∀x,r x=aj E (ρ x))(hi':∀x,(ρ x).In D)(he:nZ cx ρ H nx t x ix=some (v,H',hi)):aA cx S w0 E D H w (do Pure.pure (.value (<-Instr.indexAt t (r x) (r ix)))) nx v H' hi:=by
 unfold nZ at he;have hx:=hi' x;rw[hr x,hr ix];generalize ρ x=X at*
 generalize ρ ix=Y at*
 split at he
 ·rename_i k hk
  obtain⟨kk,hk'⟩:=nK (E:=E) hk;rw[show Int.ofNat k=(k:Int)from rfl]at hk';rw[hk'];split at he
  ·rename_i el sz by' z hs
   split at he
   ·rename_i n o len cap i hel
    cases hb:Nat.blt k len with
    |false=>rw[hb]at he;cases he
    |true=>
     rw[hb]at he;cases he;refine aA.pure h ?_ hx;have hlt:k<len:=by simpa[anh]using hb
     unfold Instr.indexAt asIntOf;have hb1:(0:Int)<=(k:Int)/\(k:Int)<(len:Int):=⟨Int.natCast_nonneg k,Int.ofNat_lt.2 hlt⟩;simp only[amF,run_underlying hc hs,amz,aj,amM,hb1,and_self,if_true,run_sizeOf hc hel,fZ,anm]
   ·rename_i n len i hel
    cases hb:Nat.blt k len with
    |false=>rw[hb]at he;cases he
    |true=>
     rw[hb]at he;cases he;refine aA.pure h ?_ hx;have hlt:k<len:=by simpa[anh]using hb
     unfold Instr.indexAt asIntOf;have hb1:(0:Int)<=(k:Int)/\(k:Int)<(len:Int):=⟨Int.natCast_nonneg k,Int.ofNat_lt.2 hlt⟩;simp only[amF,run_underlying hc hs,amz,aj,amM,hb1,and_self,if_true,run_sizeOf hc hel,fZ,anm]
   ·cases he
  ·rename_i len el sz by' z hs
   split at he
   ·rename_i n o i hel
    cases hb:Nat.blt k len with
    |false=>rw[hb]at he;cases he
    |true=>
     rw[hb]at he;cases he;refine aA.pure h ?_ hx;have hlt:k<len:=by simpa[anh]using hb
     unfold Instr.indexAt asIntOf Instr.sureAddr;have hb1:(0:Int)<=(k:Int)/\(k:Int)<(len:Int):=⟨Int.natCast_nonneg k,Int.ofNat_lt.2 hlt⟩;simp only[amF,run_underlying hc hs,amz,aj,amM,hb1,and_self,if_true,run_sizeOf hc hel,fZ,anm]
   ·cases he
  ·cases he
 ·cases he
theorem ae7 (hc:CxOK cx)(h:HW S w0 E D H w){t:TypeId}{x ix:Operand}(hr:∀x,r x=aj E (ρ x))(hi':∀x,(ρ x).In D)(he:ae8 cx ρ H nx t x ix=some (v,H',hi)):aA cx S w0 E D H w (do Pure.pure (.value (<-Instr.index t (r x) (r ix)))) nx v H' hi:=by
 unfold ae8 at he;have hx:=hi' x;rw[hr x,hr ix];generalize ρ x=X at*
 generalize ρ ix=Y at*
 split at he
 ·rename_i k hk
  obtain⟨kk,hk'⟩:=nK (E:=E) hk;rw[show Int.ofNat k=(k:Int)from rfl]at hk';rw[hk'];split at he
  ·rename_i len el sz by' z hs
   split at he
   ·rename_i l i hel
    cases hb:Nat.blt k len with
    |false=>rw[hb]at he;cases he
    |true=>
     rw[hb]at he;have he':(match pick (abm i.desc) i.size l (k*i.size)with|some v=>some (v,H,nx)|none=>none)=some (v,H',hi):=he;split at he'
     ·rename_i u hu
      cases he';refine aA.pure h ?_ (aaz (eO.1 hx) hu);have hlt:k<len:=by simpa[anh]using hb
      unfold Instr.index asIntOf;have hb1:(0:Int)<=(k:Int)/\(k:Int)<(len:Int):=⟨Int.natCast_nonneg k,Int.ofNat_lt.2 hlt⟩;simp only[amF,run_underlying hc hs,amz,aj,amM,hb1,and_self,if_true,run_sizeOf hc hel,anm,bE,aaA hc hel hu]
     ·cases he'
   ·cases he
  ·rename_i sz by' z hs
   split at he
   ·rename_i s
    split at he
    ·rename_i b hb
     cases he;refine aA.pure h ?_ trivial;unfold Instr.index asIntOf;have hb1:(0:Int)<=(k:Int):=Int.natCast_nonneg k;have hg:s[k]? =some b:=by
      rw[<-hb];show (if h:k<s.size then some s[k]else none)=_;by_cases hlt:k<s.size
      ·rw[dif_pos hlt]
       have hlt':k<s.data.size:=hlt;rw[amV,Array.getElem?_eq_getElem hlt'];rfl
      ·rw[dif_neg hlt]
       have hlt':¬k<s.data.size:=hlt;rw[amV,Array.getElem?_eq_none (Nat.not_lt.1 hlt')]
     simp only[amF,run_underlying hc hs,amz,aj,amM,hb1,if_true,anm,hg]
    ·cases he
   ·cases he
  ·cases he
 ·cases he
theorem aaG (h:HW S w0 E D H w){x:Operand}{i:Nat}(hr:∀x,r x=aj E (ρ x))(hi':∀x,(ρ x).In D)(he:wU ρ H nx x i=some (v,H',hi)):aA cx S w0 E D H w (do Pure.pure (.value (<-Instr.extract (r x) i))) nx v H' hi:=by
 unfold wU at he;have hx:=hi' x;rw[hr x];generalize ρ x=X at*
 split at he
 ·rename_i l
  split at he
  ·rename_i u hu
   cases he;refine aA.pure h ?_ (eO.1 hx _ (amI hu));unfold Instr.extract;simp[aj,bE,hu]
  ·cases he
 ·cases he
theorem oUn_ok (h:HW S w0 E D H w){op:UnOp}{x:Operand}(hr:∀x,r x=aj E (ρ x))(he:oUn cx ρ H nx op x=some (v,H',hi)):aA cx S w0 E D H w (do Pure.pure (.value (<-Op.unary op (r x)))) nx v H' hi:=by
 unfold oUn at he;rw[hr x];generalize ρ x=X at*
 split at he
 ·split at he
  ·rename_i u hu
   cases he;refine aA.pure h ?_ trivial;simp only[amF,aj,ji _ hu,amz,amM]
  ·cases he
 ·cases he
theorem aaH (hc:CxOK cx)(h:HW S w0 E D H w){s d:TypeId}{x:Operand}(hr:∀x,r x=aj E (ρ x))(hn:∀n,nx<=n->n<hi->¬D n)(he:qi cx ρ H nx s d x=some (v,H',hi)):aA cx S w0 E D H w (do Pure.pure (.value (<-convert s d (r x)))) nx v H' hi:=by
 unfold qi at he;rw[hr x];generalize ρ x=X at*
 split at he
 ·rename_i i j k n h1 h2
  split at he
  ·rename_i k1 k2 e1 e2
   cases he;refine aA.pure h ?_ trivial;unfold convert;simp only[amF,run_underlying hc h1,run_underlying hc h2,amz,e1,e2,aj,Conv.intToInt,amM]
  ·cases he
 ·rename_i i j b h1 h2
  split at he
  ·rename_i e1 e2
   cases he;refine aA.pure h ?_ trivial;unfold convert;simp only[amF,run_underlying hc h1,run_underlying hc h2,amz,e1,e2,aj,amM]
  ·rename_i e e1 e2
   split at he
   ·rename_i sz by' z hel
    cases hb:Nat.blt nx lim with
    |false=>rw[hb]at he;cases he
    |true=>
     rw[hb]at he;cases he;have hlim:nx<lim:=by simpa[anh]using hb
     have hnx:=hn nx ano (am9 _);have hrun:=run_bytes_of_string (P:=cx.P) w s d e b (by rw[(hc.ti _ _ h1).1,e1]) (by rw[(hc.ti _ _ h2).1,e2]) (hc.ti _ _ hel).1;have hdr:HW S w0 E D H w.drew:=h.step (fun _ x=>x) (fun _ _=>rfl) (h.fr.on ((am3 _ _).drew)) (fun _ _ _=>rfl);have hsz:(bytesRow b (grownCap w b.size 0 e)).size =grownCap w b.size 0 e:=by
      have:b.size<=grownCap w b.size 0 e:=Nat.le_add_right _ _;have e0:b.data.size=b.size:=rfl;simp only[bytesRow,Array.size_append,Array.size_map,Array.size_replicate];omega
     have hw:=hdr.new (n:=nx) (o:=.bytes b e) (x:=.cells (bytesRow b (grownCap w b.size 0 e)) e ((bytesRow b (grownCap w b.size 0 e)).size,(bytesRow b (grownCap w b.size 0 e)).size +1)) (s:=grownCap w b.size 0 e) hnx hlim trivial
      ⟨_,_,by rw[ay];show (w.heap.push _)[w.heap.size]? =_;exact Array.getElem?_push_size,by rw[ay];exact hsz,fun i u hu=>by
       have hi':i<b.data.size:=by
        have:=(amH.1 hu).1;simpa using this
       rw[bytesRow_at b _ i hi'];obtain⟨_,hq⟩:=amH.1 hu;simp only[Array.getElem_toList]at hq;rw[hq]⟩
     have hD:∀n,D1 D nx n->DR D nx (nx+1) n:=fun n hd=>hd.elim .inl fun q=>.inr (by omega)
     refine⟨Nat.le_succ _,(Dom.refl _ _ _).set hlim (.inr ⟨am4 _,am9 _⟩) _,_,_,.inl ?_,fun n hd=>aU _ (by intro q;subst q;exact hnx hd),hw.more hD,.inr ⟨am4 _,am9 _⟩⟩;rw[amF,show aj E (.lit (.string b))= .string b from rfl,hrun];simp only[amz,amM,aj,ay,Cap.val,Nat.sub_zero,Nat.div_one];rfl
   ·cases he
  ·cases he
 ·cases he
end
end
section
open Go Go.RowKit
variable [Sym]
def plainV:Value->Bool
 | .nilIface | .agg _=>false
 |_=>true
theorem ag {α:Type}{b:Bool}{x:Option α}{y:α}(h:(bif b then x else none)=some y):b=true/\x=some y:=by
 cases b with
 |false=>cases h
 |true=>exact⟨rfl,h⟩
section
variable {cx:Cx} {S:Nat->Prop} {w0 w:World} {E:Env} {D:Nat->Prop} {H H':Heap} {nx hi:Nat} {ρ:Operand->AV} {r:Operand->Value} {v:AV}
theorem fG {P:Program}{op:BinOp}{t:TypeId}{x y:Operand}{a b:Value}(h:plainV a=true):(eqGuard op t x y a b).run P w= .ok () w:=by
 unfold eqGuard;cases op<;>cases a<;>first|rfl|(cases h)
theorem sG {P:Program}{op:BinOp}{t:TypeId}{x y:Operand}{d:TypeDesc}{a b:AV}{a' b':Bool}(ha:abS d a=some a')(hb:abS d b=some b')(hg:gOK x y a b=true):(eqGuard op t x y (aj E a) (aj E b)).run P w= .ok () w:=by
 unfold abS at ha;split at ha<;>first
  |(cases ha;done)
  |exact fG rfl
  |skip
 unfold abS at hb;split at hb<;>first
  |(cases hb;done)
  |contradiction
  |skip
 ·have hg':(isC x||isC y)=true:=hg
  clear hg;cases op<;>cases x<;>first|rfl|(cases y<;>first|rfl|(cases hg';done))
 ·unfold eqGuard
  cases op<;>rfl
 ·unfold eqGuard
  cases op<;>rfl
theorem nil_eq (hc:CxOK cx){t:TypeId}{i:TI}(hs:cx.ti t=some i){a b:AV}{x y:Bool}(ha:abS i.desc a=some x)(hb:abS i.desc b=some y)(hxy:(x||y)=true):(Op.equal t (aj E a) (aj E b)).run cx.P w= .ok (x&&y) w:=by
 show (Op.equalIn (9999+1) t (aj E a) (aj E b)).run cx.P w=_;unfold Op.equalIn;simp only[amF,run_underlying hc hs,amz];generalize i.desc=d at*
 unfold abS at ha;split at ha<;>first|(cases ha;done)|(cases ha;unfold abS at hb;split at hb<;>first|(cases hb;done)|contradiction|(cases hb;first|(cases hxy;done)|rfl))
theorem akb {t:TypeId}{a b:AV}{d:TypeDesc}{x y:Bool}(ha:abS d a=some x)(hb:abS d b=some y):
 Go.binOp .eql t (aj E a) (aj E b)=(do pure (.bool (<-Op.equal t (aj E a) (aj E b))))/\Go.binOp .neq t (aj E a) (aj E b)=(do pure (.bool (!(<-Op.equal t (aj E a) (aj E b))))):=by
 unfold abS at ha;split at ha<;>first|(cases ha;done)|(cases ha;unfold abS at hb;split at hb<;>first|(cases hb;done)|contradiction|exact⟨rfl,rfl⟩)
theorem ak2 (hc:CxOK cx)(h:HW S w0 E D H w){op:BinOp}{t:TypeId}{x y:Operand}(hr:∀x,r x=aj E (ρ x))(he:oBin cx ρ H nx op t x y=some (v,H',hi)):aA cx S w0 E D H w (do pure (.value (<-(do eqGuard op t x y (r x) (r y);Go.binOp op t (r x) (r y))))) nx v H' hi:=by
 unfold oBin at he;rw[hr x,hr y];generalize ρ x=X at*
 generalize ρ y=Y at*
 split at he
 ·rename_i j a k b
  split at he
  ·rename_i u hu
   cases he;refine aA.pure h ?_ trivial;have hg:=fG (P:=cx.P) (w:=w) (op:=op) (t:=t) (x:=x) (y:=y) (a:=.int j a) (b:=.int k b) rfl;simp only[amF,aj,hg,amz,ji _ (show lD cx.P (Go.binOp op t (.int j a) (.int k b))=some u from hu),amM]
  ·cases he
 ·rename_i a b
  split at he
  ·rename_i u hu
   cases he;refine aA.pure h ?_ trivial;have hg:=fG (P:=cx.P) (w:=w) (op:=op) (t:=t) (x:=x) (y:=y) (a:=.string a) (b:=.string b) rfl;have hb:(Go.binOp op t (.string a) (.string b)).run cx.P w= .ok u w:=by
    have h1:=ahD hu cx.P w;cases op<;>first|exact h1|(simp[litB,ahE]at hu;done)
   simp only[amF,aj,hg,amz,hb,amM]
  ·cases he
 ·rename_i a b
  split at he
  ·rename_i sz by' z hs
   cases he;refine aA.pure h ?_ trivial;have hg:=fG (P:=cx.P) (w:=w) (op:=.eql) (t:=t) (x:=x) (y:=y) (a:=.bool a) (b:=.bool b) rfl;have hb:(Go.binOp .eql t (.bool a) (.bool b)).run cx.P w= .ok (.bool (a==b)) w:=by
    show ((Op.equalIn (9999+1) t (.bool a) (.bool b)).bind _).run cx.P w=_;unfold Op.equalIn;simp only[Sem.run_bind',amF,run_underlying hc hs,amz,amM]
   simp only[amF,aj,hg,amz,hb,amM]
  ·rename_i sz by' z hs
   cases he;refine aA.pure h ?_ trivial;have hg:=fG (P:=cx.P) (w:=w) (op:=.neq) (t:=t) (x:=x) (y:=y) (a:=.bool a) (b:=.bool b) rfl;have hb:(Go.binOp .neq t (.bool a) (.bool b)).run cx.P w= .ok (.bool (!(a==b))) w:=by
    show ((Op.equalIn (9999+1) t (.bool a) (.bool b)).bind _).run cx.P w=_;unfold Op.equalIn;simp only[Sem.run_bind',amF,run_underlying hc hs,amz,amM]
   simp only[amF,aj,hg,amz,hb,amM]
  ·cases he
 ·split at he
  ·rename_i u z hu hz
   split at he
   ·rename_i q hq
    cases he;refine aA.pure h ?_ trivial;rw[vJ hu,vJ hz,amF,ji _ hq];rfl
   ·cases he
  ·split at he
   ·rename_i i hs
    split at he
    ·rename_i a' b' ha hb
     obtain⟨hb',he⟩:=ag he;rw[amC]at hb';obtain⟨hab,hg⟩:=hb'
     ·cases he
      refine aA.pure h ?_ trivial;simp only[amF,sG ha hb hg,(akb (t:=t) ha hb).1,nil_eq hc hs ha hb hab,amz,amM,aj]
    ·rename_i a' b' ha hb
     obtain⟨hb',he⟩:=ag he;rw[amC]at hb';obtain⟨hab,hg⟩:=hb'
     ·cases he
      refine aA.pure h ?_ trivial;simp only[amF,sG ha hb hg,(akb (t:=t) ha hb).2,nil_eq hc hs ha hb hab,amz,amM,aj]
    ·cases he
   ·cases he
theorem yT (h:HW S w0 E D H w){x:Operand}(hr:∀x,r x=aj E (ρ x))(hi':∀x,(ρ x).In D){pos:String}{t:TypeId}{af:Array Edge}{g:Option (Nat×Bool)}{d:Option Tmp}(he:rM ρ H nx x=some (v,H',hi)):aA cx S w0 E D H w (execOp r ⟨d,.nilCheck x,t,pos,af,g⟩) nx v H' hi:=by
 unfold rM at he;have hx:=hi' x;have hr:=hr x;generalize ρ x=X at*
 unfold execOp;dsimp only;rw[hr];split at he
 ·cases he;exact aA.pure h rfl hx
 ·cases he;exact aA.pure h rfl hx
 ·cases he;exact aA.pure h rfl hx
 ·cases he;exact aA.pure h rfl hx
 ·cases he
theorem yU (h:HW S w0 E D H w){fn:Fn}{first captured:Array Operand}(hr:∀x,r x=aj E (ρ x))(hi':∀x,(ρ x).In D)(he:rO ρ H nx fn first captured=some (v,H',hi)):aA cx S w0 E D H w (do pure (.value (<-Instr.makeFunc fn (first.map r) (captured.map r)))) nx v H' hi:=by
 unfold rO at he;split at he
 ·rename_i f hf
  cases he;refine aA.pure h ?_ (eO.2 fun u hu=>by obtain⟨o,_,rfl⟩:=amN.1 hu;exact hi' o);have h1:first= #[]:=by apply Array.ext';simpa using hf
  subst h1;have h2:captured.map r=((captured.toList.map ρ).map (aj E)).toArray :=by
   apply Array.ext';simp only[Array.toList_map,List.map_map];exact List.map_congr_left fun o _=>hr o
  unfold Instr.makeFunc;simp only[amF,amM,amz,aj,bE,h2,Array.map_empty]
 ·cases he
end
end
section
open Go Go.RowKit
variable [Sym]
section
variable (cx:Cx) (H:Heap) (nx:Nat)
def oLen (ats:List TypeId)(args:List AV):Res:=
 match ats,args with
 |t::_,x::_=>match cx.ti t with
  |some {desc:=.string, ..}=>match x with
   | .lit (.string s)=>some (.lit (goInt s.size),H,nx)
   |_=>none
  |some {desc:=.slice _, ..}=>match x with
   | .slice _ _ k _=>some (.lit (goInt k),H,nx)
   | .rsl _ k=>some (.lit (goInt k),H,nx)
   | .lit (.slice _ k _)=>some (.lit (goInt k),H,nx)
   |_=>none
  |some {desc:=.array k _, ..}=>some (.lit (goInt k),H,nx)
  |some {desc:=.map _ _, ..}=>match x with
   | .lit (.map none)=>some (.lit (goInt 0),H,nx)
   | .map n=>match H.get n with
    |some (.map es)=>some (.lit (goInt es.length),H,nx)
    |_=>none
   |_=>none
  |_=>none
 |_,_=>none
def wu (size:Nat)(x:AV):Option (Nat×List AV):=
 match x with
 | .lit (.slice none k _)=>bif Nat.beq k 0 then some (0,[])else none
 | .lit (.string s)=>bif Nat.beq size 1 then some (s.size,s.data.toList.map fun b=>.lit (.int .u8 b.toNat))else none
 | .slice n o k _=>match H.get n with
  |some (.cells l _ _)=>bif Nat.ble (o+k*size) l.length then some (k,(l.drop o).take (k*size))else none
  |_=>none
 |_=>none
def small (n:Nat):Bool:=Nat.ble n 1000000
def nL (el:TypeId)(i:TI)(need:Nat)(cells:List AV):Res:=
 bif Nat.blt nx lim&&(small need&&(Nat.ble i.bytes 10000&&(Nat.beq i.zero.cells.size i.size&&Nat.blt 0 i.size)))then some (.slice nx 0 need (.rest i.size),H.set nx (.cells cells el false),nx+1)else none
def afi (cx:Cx):List TypeId->Bool
 | []=>true
 |t::_=>match cx.ti t with
  |some {desc:=.int _, ..}=>false
  |some _=>true
  |none=>false
def aaI (ats:List TypeId)(args:List AV):Res:=
 match ats,args with
 |st::xt,[s,x]=>match cx.ti st with
  |some {desc:=.slice el, ..}=>match cx.ti el with
   |some i=>bif afi cx xt then(match wu H i.size x with
    |some (k,xs)=>match s with
     | .lit (.slice none 0 0)=>bif Nat.beq k 0 then some (.lit (.slice none 0 0),H,nx)else nL H nx el i k xs
     | .slice n o len cap=>match H.get n with
      |some (.cells l T ex)=>
       let need:=len+k
       let knownCap:Option Nat:=match cap with
        | .ex c=>some c
        | .rest sz=>bif ex then some ((l.length-o)/sz)else none
       let inPlace:Res:=bif Nat.blt n lim&&(Nat.ble (o+need*i.size) l.length&&xs.all AV.one)then some (.slice n o need cap,H.set n (.cells (aL l.toArray (o+len*i.size) xs).toList T ex),nx)else none
       bif Nat.ble (o+len*i.size) l.length then(match knownCap with
       |some c=>bif Nat.ble need c then inPlace else nL H nx el i need ((l.drop o).take (len*i.size)++xs)
       |none=>match cap with
        | .rest sz=>bif Nat.ble (o+need*i.size) l.length&&(Nat.beq sz i.size&&Nat.blt 0 i.size)then inPlace else
         bif Nat.beq o 0&&(Nat.beq sz i.size&&(Nat.beq T el&&(Nat.blt n lim&&xs.all AV.one)))then nL (H.del n) nx el i need (l.take (len*i.size)++xs)else none
        | .ex _=>none)else none
      |_=>none
     |_=>none
    |none=>none)else none
   |none=>none
  |_=>none
 |_,_=>none
end
section
variable {cx:Cx} {S:Nat->Prop} {w0 w:World} {E:Env} {D:Nat->Prop} {H H':Heap} {nx hi:Nat} {v:AV}
theorem zC (newLen M:Nat)(hM:newLen+(newLen+768)/4<=M):∀(r c:Nat),c<=M->Builtin.growBy newLen r c<=M
 |0,c,h=>h
 |r+1,c,h=>by
  unfold Builtin.growBy;split
  ·exact h
  ·exact zC newLen M hM r _ (by omega)
theorem ac4 {need cap:Nat}(h:cap<need)(hn:need<=1000000):Builtin.nextslicecap need cap<=2000000:=by
 unfold Builtin.nextslicecap;split
 ·omega
 ·split
  ·omega
  ·exact zC need _ (by omega) 4 cap (by omega)
theorem aaj (h:HW S w0 E D H w){size:Nat}{x:AV}{k:Nat}{xs:List AV}(hx:x.In D)(he:wu H size x=some (k,xs)):
 (Builtin.lenOf (aj E x)).run cx.P w= .ok k w/\(∀w',(∀b:Nat,b<w.heap.size->w'.heap[b]? =w.heap[b]?)->(Builtin.firstCells size k (aj E x)).run cx.P w'= .ok (xs.map (aj E)).toArray w')/\xs.length=k*size/\∀u∈xs,u.In D:=by
 unfold wu at he;split at he
 ·rename_i kk c
  cases hb:Nat.beq kk 0 with
  |false=>rw[hb]at he;cases he
  |true=>
   rw[hb]at he;cases he;have:kk=0:=amE hb;subst this;exact⟨rfl,fun w' _=>rfl,by simp,by simp⟩
 ·rename_i s
  cases hb:Nat.beq size 1 with
  |false=>rw[hb]at he;cases he
  |true=>
   rw[hb]at he;cases he;have:size=1:=amE hb;subst this;refine⟨rfl,fun w' _=>?_,?_,fun u hu=>by obtain⟨b,_,rfl⟩:=amN.1 hu;trivial⟩
   ·show Result.ok ((s.extract 0 s.size).data.map fun b=>Value.int .u8 b.toNat) w'=_
    congr 1;apply Array.ext';simp only[List.map_map,ByteArray.extract_zero_size,Array.toList_map];rfl
   ·simp
 ·rename_i n o kk cap
  split at he
  ·rename_i l T ex hn
   cases hb:Nat.ble (o+kk*size) l.length with
   |false=>rw[hb]at he;cases he
   |true=>
    rw[hb]at he;cases he;have hle:=Nat.le_of_ble_eq_true hb;obtain⟨c,hc,hs,hl,hx',hcell⟩:=h.obj n _ hn;have hlen:((l.drop o).take (k*size)).length =k*size:=by simp;omega
    refine⟨rfl,fun w' hw'=>?_,hlen,fun u hu=>(h.names n _ hn).2 u (List.mem_of_mem_drop (am7 hu))⟩;have hc':w'.heap[(E n).b]? =some (.cells c T (0,0)):=(hw' _ (h.obj n _ hn).lt).trans hc;have:=kF (P:=cx.P) (o:=o) (vs:=((l.drop o).take (k*size)).map (aj E)) hc' (fun j u hj=>by
     rw[amP]at hj;cases hx':((l.drop o).take (k*size))[j]? with
     |none=>rw[hx']at hj;cases hj
     |some x=>
      rw[hx']at hj;cases hj;rw[amZ]at hx';split at hx'
      ·rw[List.getElem?_drop]at hx';exact hcell _ _ hx'
      ·cases hx')
    rw[am6,hlen]at this;exact this
  ·cases he
 ·cases he
theorem HW.newRest (h:HW S w0 E D H w){n:Nat}(hn:¬D n)(hl:n<lim){l:List AV}(hin:∀v∈l,v.In D)(T:TypeId)(rest:Array Value):
 HW S w0 (setE E n ⟨w.heap.size,l.length+rest.size⟩) (D1 D n) (H.set n (.cells l T false)) (w.drew.alloc (.cells ((l.map (aj E)).toArray ++rest) T)):=by
 have h':HW S w0 E D H w.drew:=h.step (fun _ h=>h) (fun _ _=>rfl) ⟨h.fr.os,h.fr.tape,h.fr.output,h.fr.size,h.fr.block⟩ (fun _ _ _=>rfl);refine h'.new hn hl (o:=.cells l T false) hin ⟨(l.map (aj E)).toArray ++rest,?_,?_,?_,?_,?_⟩
 ·rw[ay];show (w.heap.push _)[w.heap.size]? =_;rw[Array.getElem?_push_size]
 ·rw[ay];simp
 ·simp
 ·intro e;cases e
 ·intro j v hj
  have he:∀m,D m->setE E n ⟨w.heap.size,l.length+rest.size⟩ m=E m:=fun m hm=>aU _ (by intro e;subst e;exact hn hm)
  rw[show setE E n ⟨w.drew.heap.size,l.length+rest.size⟩=setE E n ⟨w.heap.size,l.length+rest.size⟩from rfl,bL he v (hin v (amI hj))];have hlt:=(amH.1 hj).1;rw[Array.getElem?_append_left (by simpa using hlt)];simp[hj]
theorem HW.move (h:HW S w0 E D H w){n m:Nat}(hm:¬D m)(hl:n<lim)(hl':m<lim){o:AObj}(hn:H.get n=some o){o':AObj}(ho:o'.In D)(hx:OR (setE E m (E n)) w m o'):HW S w0 (setE E m (E n)) (D1 D m) ((H.del n).set m o') w:=by
 have hmn:m≠n:=fun e=>hm (by subst e;exact(h.names _ _ hn).1)
 have he:∀k,D k->setE E m (E n) k=E k:=fun k hk=>aU _ (by intro e;subst e;exact hm hk)
 have h1:HW S w0 (setE E m (E n)) (D1 D m) (H.del n) w:=(h.drop hl).step (fun k hk=>.inl hk) he h.fr (fun _ _ _=>rfl);have key:∀k x,(H.del n).get k=some x->k≠n/\H.get k=some x:=fun k x hk=>by
  rw[iL hl]at hk;split at hk
  ·cases hk
  ·rename_i e;exact⟨e,hk⟩
 refine⟨fun k x hk=>?_,fun k k' x x' hk hk' hne=>?_,fun k x hk=>?_,fun k x hk=>?_,h1.fr⟩
 ·rw[aZ hl']at hk
  split at hk
  ·rename_i e;subst e;cases hk;exact hx
  ·exact h1.obj k x hk
 ·rw[aZ hl']at hk hk'
  split at hk<;>split at hk'
  ·rename_i e1 e2;exact absurd (e1.trans e2.symm) hne
  ·rename_i e1 e2
   obtain⟨hkn,hk''⟩:=key k' x' hk';subst e1;rw[ay,he k' (h.names _ _ hk'').1];exact fun e=>h.inj n k' o x' hn hk'' (Ne.symm hkn) e
  ·rename_i e1 e2
   obtain⟨hkn,hk''⟩:=key k x hk;subst e2;rw[ay,he k (h.names _ _ hk'').1];exact h.inj k n x o hk'' hn hkn
  ·exact h1.inj k k' x x' hk hk' hne
 ·rw[aZ hl']at hk
  split at hk
  ·rename_i e;subst e;rw[ay];exact h.own n o hn
  ·exact h1.own k x hk
 ·rw[aZ hl']at hk
  split at hk
  ·rename_i e;subst e;cases hk;exact⟨.inr rfl,ho.mono fun _ hx=>.inl hx⟩
  ·exact h1.names k x hk
theorem ajO {n:Nat}:∀m,D1 D n m->DR D n (n+1) m:=fun m hm=>by
 rcases hm with h1|h1
 ·exact .inl h1
 ·subst h1;exact .inr ⟨am4 _,am9 _⟩
theorem tH (hc:CxOK cx){st el:TypeId}{sz0 by0:Nat}{z0:Value}(hst:cx.ti st=some ⟨.slice el,sz0,by0,z0⟩){i:TI}(hel:cx.ti el=some i)(h:HW S w0 E D H w){H1:Heap}(h1:∀m o,H1.get m=some o->H.get m=some o)
 (hH1:HW S w0 E D H1 w) (hn:∀n,nx<=n->n<hi->¬D n) {s x:Value} {base:Option Addr} {sLen sCap k:Nat} {old xs:List AV} (hs:s= .slice base sLen sCap) (hcap:sCap<sLen+k)
 {ats:Array TypeId} (hats:ats[0]? =some st) (hz:∀t,ats[1]? =some t->∃d,(underlying t).run cx.P w= .ok d w/\∀k,d≠ .int k)
 (hlen:(Builtin.lenOf x).run cx.P w= .ok k w) (hold:∀w':World,(∀b:Nat,b<w.heap.size->w'.heap[b]? =w.heap[b]?)->(Builtin.firstCells i.size sLen s).run cx.P w'= .ok (old.map (aj E)).toArray w')
 (hxs:∀w':World,(∀b:Nat,b<w.heap.size->w'.heap[b]? =w.heap[b]?)->(Builtin.firstCells i.size k x).run cx.P w'= .ok (xs.map (aj E)).toArray w')
 (hin:∀v∈old++xs,v.In D) (hl:(old++xs).length =(sLen+k)*i.size) (he:nL H1 nx el i (sLen+k) (old++xs)=some (v,H',hi)) (ty:TypeId):
 aA cx S w0 E D H w (do pure (.value (<-Builtin.append_ ats ty #[s,x]))) nx v H' hi:=by
 unfold nL at he;generalize hb:(Nat.blt nx lim&&(small (sLen+k)&&(Nat.ble i.bytes 10000&&(Nat.beq i.zero.cells.size i.size&&Nat.blt 0 i.size))))=b at he;cases b with
 |false=>cases he
 |true=>
  cases he;simp only[amC,anh,Nat.beq_eq,Nat.ble_eq,small]at hb;obtain⟨b1,b2,b3,b4,b5⟩:=hb;have hnx:=hn nx ano (am9 _);obtain⟨inf,hinf,_,hby,_⟩:=run_typeInfo (w:=w) hc hel;have hq:¬((((sLen+k:Nat):Int)>IntKind.i64.max)/\(False\/inf.bytes=0)):=by
   have:IntKind.i64.max=9223372036854775807:=rfl;omega
  have hq2:¬(Builtin.nextslicecap (sLen+k) sCap*inf.bytes>2^48):=by
   have h1:=ac4 hcap b2;rw[hby];have:Builtin.nextslicecap (sLen+k) sCap*i.bytes<=2000000*10000:=Nat.mul_le_mul h1 b3;have h2:(2:Nat)^48=281474976710656:=rfl;omega
  have hd:∀w':World,w'=w.drew->(∀b:Nat,b<w.heap.size->w'.heap[b]? =w.heap[b]?):=fun w' e b _=>by subst e;rfl
  let newCap:=(Question.appendCap (sLen+k) sCap el).cut (w.tape w.drawn (Question.appendCap (sLen+k) sCap el))
  have hnc:sLen+k<=newCap:=Nat.le_add_right _ _;obtain⟨inf2,hinf2,_,_,_⟩:=run_typeInfo (w:=w.drew) hc hel;refine⟨Nat.le_succ _,Dom.set (fun m o hm=>.inl ⟨o,h1 m o hm⟩) b1 (.inr ⟨am4 _,am9 _⟩) _,setE E nx ⟨w.heap.size,(old++xs).length +(Builtin.zeroCells i.zero.cells (newCap-(sLen+k))).size⟩,_,.inl ?_,fun n hd=>aU _ (by intro e;subst e;exact hnx hd),(hH1.newRest hnx b1 hin el (Builtin.zeroCells i.zero.cells (newCap-(sLen+k)))).more ajO,.inr ⟨am4 _,am9 _⟩⟩;subst hs;have hzs:(Builtin.zeroCells i.zero.cells (newCap-(sLen+k))).size =(newCap-(sLen+k))*i.size:=by simp[Builtin.zeroCells,b4]
  have hval:((old++xs).length +(Builtin.zeroCells i.zero.cells (newCap-(sLen+k))).size -0)/i.size=newCap:=by
   rw[hl,hzs, <-Nat.add_mul,show sLen+k+(newCap-(sLen+k))=newCap by omega];simp[Nat.mul_div_cancel _ b5]
  have hg:¬(sLen+k<=sCap):=by omega
  have hold':=hold w.drew (hd _ rfl);have hxs':=hxs w.drew (hd _ rfl);have hdw:∀x y:Bool,(x&&y)=true->True:=fun _ _ _=>trivial
  have hcut:(Question.appendCap (sLen+k) sCap el).forced =false:=rfl;have hx0:(#[Value.slice base sLen sCap,x]:Array Value)[0]? =some (.slice base sLen sCap):=rfl;have hx1:(#[Value.slice base sLen sCap,x]:Array Value)[1]? =some x:=rfl;have hfin:aj (setE E nx ⟨w.heap.size,(old++xs).length +(Builtin.zeroCells i.zero.cells (newCap-(sLen+k))).size⟩) (.slice nx 0 (sLen+k) (.rest i.size))= .slice (some ⟨w.heap.size,0,none⟩) (sLen+k) newCap:=by
   simp only[aj,ay,Cap.val,hval]
  have hcells:((old++xs).map (aj E)).toArray =(old.map (aj E)).toArray ++(xs.map (aj E)).toArray :=by simp
  rw[hfin];cases ha1:ats[1]? with
  |none=>
   unfold Builtin.append_;simp only[hats,hx0,hx1,ha1,amF,run_underlying hc hst,run_sizeOf hc hel,amz,amM,amQ,if_false,hlen,hg,hinf,hinf2,run_choose,hcut,World.drew_eq,run_askRoom,hold',hxs',bQ hc hel,newRow,run_newObj,World.alloc_eq,Bool.not_false,if_true,Sem.run_ite,hq,hq2];rw[hcells];rfl
  |some t2=>
   obtain⟨d,hd1,hd2⟩:=hz t2 ha1;unfold Builtin.append_;cases d<;>first|(exact absurd rfl (hd2 _))|(simp only[hats,hx0,hx1,ha1,amF,run_underlying hc hst,run_sizeOf hc hel,amz,amM,amQ,if_false,hlen,hg,hinf,hinf2,run_choose,hcut,World.drew_eq,run_askRoom,hold',hxs',bQ hc hel,newRow,run_newObj,World.alloc_eq,Bool.not_false,if_true,Sem.run_ite,hq,hq2,hd1];rw[hcells];rfl)
theorem afh (hc:CxOK cx){xt:List TypeId}(hx:afi cx xt=true)(st:TypeId):∀t,(st::xt).toArray[1]? =some t->∃d,(underlying t).run cx.P w= .ok d w/\∀k,d≠ .int k:=by
 intro t ht;unfold afi at hx;split at hx
 ·simp at ht
 ·rename_i t' l
  simp at ht;subst ht;split at hx
  ·cases hx
  ·rename_i i hd hti
   refine⟨i.desc,run_underlying hc hti,?_⟩;obtain⟨d,a,b,c⟩:=i;intro k e;dsimp only at e;subst e;exact absurd rfl (hd _ _ _ _)
  ·cases hx
theorem acx (hc:CxOK cx){st el:TypeId}{sz0 by0:Nat}{z0:Value}(hst:cx.ti st=some ⟨.slice el,sz0,by0,z0⟩){i:TI}(hel:cx.ti el=some i)(h:HW S w0 E D H w)
 {n o len:Nat} {sCap k:Nat} {l:List AV} {T:TypeId} {ex:Bool} (hn:H.get n=some (.cells l T ex)) (hcap:len+k<=sCap) {x:Value} {xs:List AV}
 {ats:Array TypeId} (hats:ats[0]? =some st) (hz:∀t,ats[1]? =some t->∃d,(underlying t).run cx.P w= .ok d w/\∀k,d≠ .int k)
 (hlen:(Builtin.lenOf x).run cx.P w= .ok k w) (hxs:(Builtin.firstCells i.size k x).run cx.P w= .ok (xs.map (aj E)).toArray w) (ty:TypeId) (h1:∀u∈xs,u.one=true) {c:Array Value} (hb:w.heap[(E n).b]? =some (.cells c T (0,0))) (hs:o+len*i.size+xs.length<=c.size):
 ∃w',(Builtin.append_ ats ty #[.slice (some ⟨(E n).b,o,none⟩) len sCap,x]).run cx.P w= .ok (.slice (some ⟨(E n).b,o,none⟩) (len+k) sCap) w'/\w'.heap[(E n).b]? =some (.cells (aL c (o+len*i.size) (xs.map (aj E))) T (0,0))/\w'.heap.size=w.heap.size/\w'.os=w.os/\w'.tape=w.tape/\w'.output=w.output/\∀k,k≠(E n).b ->w'.heap[k]? =w.heap[k]?:=by
 obtain⟨w',hr,hb',hsz',e1,e2,e3,hk⟩:=lh (P:=cx.P) (w:=w) (b:=(E n).b) (o:=o+len*i.size) (vs:=(xs.map (aj E))) (c:=c) hb (by simpa using hs) (fun u hu=>by
  obtain⟨x,hx,rfl⟩:=amN.1 hu;exact wP E x (h1 x hx))
 refine⟨w',?_,hb',hsz',e1,e2,e3,hk⟩;have hx0:(#[Value.slice (some ⟨(E n).b,o,none⟩) len sCap,x]:Array Value)[0]? =some (.slice (some ⟨(E n).b,o,none⟩) len sCap):=rfl;have hx1:(#[Value.slice (some ⟨(E n).b,o,none⟩) len sCap,x]:Array Value)[1]? =some x:=rfl;cases ha1:ats[1]? with
 |none=>
  unfold Builtin.append_;simp only[hats,hx0,hx1,ha1,amF,run_underlying hc hst,run_sizeOf hc hel,amz,amM,amQ,if_false,hlen,hcap,if_true,Bool.not_false,hxs,fZ,hr,Sem.run_ite]
 |some t2=>
  obtain⟨d,hd1,hd2⟩:=hz t2 ha1;unfold Builtin.append_;cases d<;>first|(exact absurd rfl (hd2 _))|(simp only[hats,hx0,hx1,ha1,amF,run_underlying hc hst,run_sizeOf hc hel,amz,amM,amQ,if_false,hlen,hcap,if_true,Bool.not_false,hxs,fZ,hr,Sem.run_ite,hd1])
end
end
section
open Go Go.RowKit
variable [Sym]
section
variable {cx:Cx} {S:Nat->Prop} {w0 w:World} {E:Env} {D:Nat->Prop} {H H':Heap} {nx hi:Nat} {v:AV}
theorem ace (h:HW S w0 E D H w){n o len size:Nat}{cap:Nat}{l:List AV}{T:TypeId}{ex:Bool}(hn:H.get n=some (.cells l T ex))(hl:o+len*size<=l.length)(w':World)(hw:∀b:Nat,b<w.heap.size->w'.heap[b]? =w.heap[b]?):
 (Builtin.firstCells size len (.slice (some ⟨(E n).b,o,none⟩) len cap)).run cx.P w'= .ok (((l.drop o).take (len*size)).map (aj E)).toArray w':=by
 obtain⟨c,hc,hs,hl',hx',hcell⟩:=h.obj n _ hn;have hlen:((l.drop o).take (len*size)).length =len*size:=by simp;omega
 have hc':w'.heap[(E n).b]? =some (.cells c T (0,0)):=(hw _ (h.obj n _ hn).lt).trans hc;have:=kF (P:=cx.P) (o:=o) (vs:=((l.drop o).take (len*size)).map (aj E)) hc' (fun j u hj=>by
  rw[amP]at hj;cases hx':((l.drop o).take (len*size))[j]? with
  |none=>rw[hx']at hj;cases hj
  |some x=>
   rw[hx']at hj;cases hj;rw[amZ]at hx';split at hx'
   ·rw[List.getElem?_drop]at hx';exact hcell _ _ hx'
   ·cases hx')
 rw[am6,hlen]at this;exact this
theorem acG (h:HW S w0 E D H w){w':World}{n o:Nat}{l:List AV}{T:TypeId}{ex:Bool}(hn:H.get n=some (.cells l T ex))(hlim:n<lim){xs:List AV}(hxs:∀u∈xs,u.In D)(ho:o+xs.length<=l.length){c:Array Value}(hb:w.heap[(E n).b]? =some (.cells c T (0,0)))
 (hb':w'.heap[(E n).b]? =some (.cells (aL c o (xs.map (aj E))) T (0,0))) (hsz:w'.heap.size=w.heap.size) (e1:w'.os=w.os) (e2:w'.tape=w.tape) (e3:w'.output=w.output) (hk:∀k,k≠(E n).b ->w'.heap[k]? =w.heap[k]?):
 HW S w0 E D (H.set n (.cells (aL l.toArray o xs).toList T ex)) w':=by
 obtain⟨c',hb0,hs,hl,hx,hcell⟩:=h.obj n _ hn;have hin:=(h.names n _ hn).2;have:c'=c:=by rw[hb0]at hb;injection hb with hb;injection hb
 subst this;refine h.turn hlim hn ?_ hsz e1 e2 e3 hk ?_
 ·intro u hu
  obtain⟨j,hj⟩:=List.getElem?_of_mem hu;rw[amV,aY _ _ _ _ (by simpa using ho)]at hj;split at hj
  ·exact hxs u (amI hj)
  ·exact hin u (by simpa using Array.mem_of_getElem? hj)
 ·refine⟨_,hb',by rw[aC];exact hs,by rw[aC];simpa[aC]using hl,fun he=>by rw[aC];simpa[aC]using hx he,fun j u hj=>?_⟩
  rw[amV,aY _ _ _ _ (by simpa using ho)]at hj;rw[aY _ _ _ _ (by simp;omega)];simp only[am6];split at hj
  ·rename_i hh
   rw[if_pos hh,amP,hj];rfl
  ·rename_i hh
   rw[if_neg hh];exact hcell j u (by simpa using hj)
theorem ac3 (hc:CxOK cx)(h:HW S w0 E D H w){ats:List TypeId}{args:List AV}(hin:∀u∈args,u.In D)(hn:∀n,nx<=n->n<hi->¬D n)(he:aaI cx H nx ats args=some (v,H',hi))(ty:TypeId):
 aA cx S w0 E D H w (do pure (.value (<-Builtin.append_ ats.toArray ty (args.map (aj E)).toArray))) nx v H' hi:=by
 unfold aaI at he;split at he
 ·rename_i st xt s x
  have hsin:=hin s (by simp);have hxin:=hin x (by simp);split at he
  ·rename_i el sz0 by0 z0 hst
   split at he
   ·rename_i i hel
    obtain⟨hni,he⟩:=ag he;have hz:=afh (w:=w) hc hni st;have hats:(st::xt).toArray[0]? =some st:=by simp
    split at he
    ·rename_i k xs hsrc
     obtain⟨hlen,hxs,hxl,hxin'⟩:=aaj (cx:=cx) h hxin hsrc;split at he
     ·
      cases hb:Nat.beq k 0 with
      |true=>
       rw[hb]at he;cases he;have hk0:k=0:=amE hb;subst hk0;refine aA.pure h ?_ trivial;have hx0:(#[Value.slice none 0 0,aj E x]:Array Value)[0]? =some (.slice none 0 0):=rfl;have hx1:(#[Value.slice none 0 0,aj E x]:Array Value)[1]? =some (aj E x):=rfl;have hxs':=hxs w (fun _ _=>rfl);show (do pure (Next.value (<-Builtin.append_ (st::xt).toArray ty #[Value.slice none 0 0,aj E x])):Sem Next).run cx.P w=_;cases ha1:(st::xt).toArray[1]? with
       |none=>
        unfold Builtin.append_;simp only[hats,hx0,hx1,ha1,amF,run_underlying hc hst,run_sizeOf hc hel,amz,amM,amQ,if_false,hlen,Nat.add_zero,am4,if_true,Bool.not_false,hxs',Sem.run_ite];rfl
       |some t2=>
        obtain⟨d,hd1,hd2⟩:=hz t2 ha1;unfold Builtin.append_;cases d<;>first|(exact absurd rfl (hd2 _))|(simp only[hats,hx0,hx1,ha1,amF,run_underlying hc hst,run_sizeOf hc hel,amz,amM,amQ,if_false,hlen,Nat.add_zero,am4,if_true,Bool.not_false,hxs',Sem.run_ite,hd1];rfl)
      |false=>
       rw[hb]at he;have hk0:k≠0:=fun e=>by subst e;cases hb
       have he':nL H nx el i (0+k) ([]++xs)=some (v,H',hi):=by rw[am5];exact he
       exact tH hc hst hel h (fun _ _ hh=>hh) h hn (s:=.slice none 0 0) rfl (by omega) hats hz hlen (fun w' hw'=>by simp[Builtin.firstCells]) hxs (by simpa using hxin') (by simpa using hxl) he' ty
     ·rename_i n o len cap _
      split at he
      ·rename_i l T ex hHn
       obtain⟨hlo,he⟩:=ag he;have hlo:=Nat.le_of_ble_eq_true hlo;have hDn:D n:=(h.names n _ hHn).1;have hNin:=(h.names n _ hHn).2;obtain⟨c,hb,hs,hl,hx',hcell⟩:=h.obj n _ hHn;have inPl:∀ {sCap:Nat},(cap.val (E n).s o=sCap)->len+k<=sCap->(bif Nat.blt n lim&&(Nat.ble (o+(len+k)*i.size) l.length&&xs.all AV.one)then some (AV.slice n o (len+k) cap,H.set n (.cells (aL l.toArray (o+len*i.size) xs).toList T ex),nx)else none)=some (v,H',hi)->
        aA cx S w0 E D H w (do pure (.value (<-Builtin.append_ (st::xt).toArray ty ([AV.slice n o len cap,x].map (aj E)).toArray))) nx v H' hi:=by
        intro sCap hcv hcap he;obtain⟨hb',he⟩:=ag he;cases he;simp only[amC,anh,Nat.ble_eq,amU]at hb';obtain⟨b1,b2,b3⟩:=hb';have hfit:o+len*i.size+xs.length<=l.length:=by rw[hxl,Nat.add_assoc, <-Nat.add_mul];exact b2
        obtain⟨w',hr,hbb,hsz,e1,e2,e3,hk⟩:=acx hc hst hel h hHn (o:=o) hcap hats hz hlen (hxs w (fun _ _=>rfl)) ty b3 hb (by omega);refine⟨am4 _,(Dom.refl _ _ _).set b1 (.inl ⟨_,hHn⟩) _,E,w',.inl ?_,fun _ _=>rfl,(acG h hHn b1 hxin' hfit hb hbb hsz e1 e2 e3 hk).more DR.le,.inl hDn⟩;show (do pure (Next.value (<-Builtin.append_ (st::xt).toArray ty #[Value.slice (some ⟨(E n).b,o,none⟩) len (cap.val (E n).s o),aj E x])):Sem Next).run cx.P w=_;rw[hcv];simp only[amF,hr,amz,amM,aj,hcv]
       have newB:∀ {sCap:Nat},(cap.val (E n).s o=sCap)->sCap<len+k->nL H nx el i (len+k) ((l.drop o).take (len*i.size)++xs)=some (v,H',hi)->
        aA cx S w0 E D H w (do pure (.value (<-Builtin.append_ (st::xt).toArray ty ([AV.slice n o len cap,x].map (aj E)).toArray))) nx v H' hi:=by
        intro sCap hcv hcap he;show aA cx S w0 E D H w (do pure (Next.value (<-Builtin.append_ (st::xt).toArray ty #[Value.slice (some ⟨(E n).b,o,none⟩) len (cap.val (E n).s o),aj E x]))) nx v H' hi;rw[hcv];refine tH hc hst hel h (fun _ _ hh=>hh) h hn rfl hcap hats hz hlen (fun w' hw'=>ace h hHn hlo w' hw') hxs ?_ ?_ he ty
        ·intro u hu
         rcases ane.1 hu with h1|h1
         ·exact hNin u (List.mem_of_mem_drop (am7 h1))
         ·exact hxin' u h1
        ·rw[am0,hxl,Nat.add_mul,amO,am8,Nat.min_eq_left (by omega)]
       split at he
       ·rename_i cc hkc
        have hcv:cap.val (E n).s o=cc:=by
         cases cap with
         |ex c'=>injection hkc
         |rest sz=>
          dsimp only at hkc;cases ex with
          |false=>cases hkc
          |true=>
           have hkc':some ((l.length-o)/sz)=some cc:=hkc;injection hkc' with hkc'
           rw[<-hkc', <-hx' rfl,hs];rfl
        cases hle:Nat.ble (len+k) cc with
        |true=>rw[hle]at he;exact inPl hcv (Nat.le_of_ble_eq_true hle) he
        |false=>
         rw[hle]at he;have:¬len+k<=cc:=fun e=>by rw[Nat.ble_eq_true_of_le e]at hle;cases hle
         exact newB hcv (by omega) he
       ·rename_i hkc
        split at he
        ·rename_i sz _ _
         generalize hbb:(Nat.ble (o+(len+k)*i.size) l.length&&(Nat.beq sz i.size&&Nat.blt 0 i.size))=b at he;cases b with
         |true=>
          simp only[amC,anh,Nat.ble_eq,Nat.beq_eq]at hbb;obtain⟨b1,b2,b3⟩:=hbb;subst b2;refine inPl (sCap:=((E n).s -o)/i.size) rfl ?_ he;rw[<-hs];exact(Nat.le_div_iff_mul_le b3).2 (by omega)
         |false=>
          obtain⟨hb2,he2⟩:=ag (show (bif Nat.beq o 0&&(Nat.beq sz i.size&&(Nat.beq T el&&(Nat.blt n lim&&xs.all AV.one)))then nL (H.del n) nx el i (len+k) (l.take (len*i.size)++xs)else none)=some (v,H',hi)from he);simp only[amC,anh,Nat.beq_eq,amU]at hb2;obtain⟨rfl,rfl,rfl,b4,b5⟩:=hb2;show aA cx S w0 E D H w (do pure (Next.value (<-Builtin.append_ (st::xt).toArray ty #[Value.slice (some ⟨(E n).b,0,none⟩) len (((E n).s -0)/i.size),aj E x]))) nx v H' hi;by_cases hcap:((E n).s -0)/i.size<len+k
          ·refine tH hc hst hel h (fun m o hm=>by rw[iL b4]at hm;split at hm;cases hm;exact hm) (h.drop b4) hn (old:=l.take (len*i.size)) rfl hcap hats hz hlen (fun w' hw'=>by simpa using ace (cx:=cx) (cap:=((E n).s -0)/i.size) h hHn hlo w' hw') hxs ?_ ?_ he2 ty
           ·intro u hu
            rcases ane.1 hu with h1|h1
            ·exact hNin u (am7 h1)
            ·exact hxin' u h1
           ·rw[am0,hxl,Nat.add_mul,amO,Nat.min_eq_left (by omega)]
          ·unfold nL at he2
           obtain⟨hb3,he3⟩:=ag he2;cases he3;simp only[amC,anh,Nat.beq_eq,Nat.ble_eq,small]at hb3;obtain⟨c1,c2,c3,c4,c5⟩:=hb3;have hnx:=hn nx ano (am9 _);have hfit:len*i.size+xs.length<=c.size:=by
            rw[hxl, <-Nat.add_mul,hs];have h1:len+k<=(E n).s /i.size:=by simpa using hcap
            exact(Nat.le_div_iff_mul_le c5).1 h1
           obtain⟨w',hr,hbb,hsz,e1,e2,e3,hk⟩:=acx (sCap:=((E n).s -0)/i.size) (c:=c) (len:=len) (k:=k) hc hst hel h hHn (o:=0) (by omega) hats hz hlen (hxs w (fun _ _=>rfl)) ty b5 hb (by omega);have hin2:∀u∈l.take (len*i.size)++xs,u.In D:=by
            intro u hu;rcases ane.1 hu with h1|h1
            ·exact hNin u (am7 h1)
            ·exact hxin' u h1
           have hlo':len*i.size<=l.length:=by omega
           have hor:∀E2:Env,(E2 n)=E n->(∀u∈l.take (len*i.size)++xs,aj E2 u=aj E u)->∀m,E2 m=E n->OR E2 w' m (.cells (l.take (len*i.size)++xs) T false):=by
            intro E2 _ hco m hm;refine⟨aL c (0+len*i.size) (xs.map (aj E)),by rw[hm];exact hbb,by rw[hm,aC];exact hs,?_,(fun e=>by cases e),fun j u hj=>?_⟩
            ·rw[aC,am0,amO,Nat.min_eq_left hlo']
             exact hfit
            ·rw[hco u (amI hj),aY _ _ _ _ (by simpa using hfit)]
             simp only[am6,am5];rw[List.getElem?_append]at hj;simp only[amO,Nat.min_eq_left hlo']at hj;split at hj
             ·rename_i hlt
              rw[if_neg (by omega)];rw[amZ,if_pos hlt]at hj;exact hcell j u hj
             ·rename_i hlt
              have:=(amH.1 hj).1;rw[if_pos (by omega),amP,hj];rfl
           have hT:HW S w0 E D (H.set n (.cells (l.take (len*i.size)++xs) T false)) w':=h.turn b4 hHn (o':=.cells (l.take (len*i.size)++xs) T false) hin2 hsz e1 e2 e3 hk (hor E rfl (fun _ _=>rfl) n rfl);have hM:=hT.move (n:=n) (m:=nx) hnx b4 c1 (by rw[aZ b4,if_pos rfl]) (o':=.cells (l.take (len*i.size)++xs) T false) hin2 (hor _ (aU _ (by intro e;subst e;exact hnx hDn)) (fun u hu=>bL (D:=D) (fun m hm=>aU _ (by intro e;subst e;exact hnx hm)) u (hin2 u hu)) nx (ay _ _));have hsame:∀m,(((H.set n (.cells (l.take (len*i.size)++xs) T false)).del n).set nx (.cells (l.take (len*i.size)++xs) T false)).get m=((H.del n).set nx (.cells (l.take (len*i.size)++xs) T false)).get m:=by
            intro m;rw[aZ c1,aZ c1,iL b4,iL b4,aZ b4];split
            ·rfl
            ·split<;>rfl
           refine⟨Nat.le_succ _,((Dom.refl _ _ _).del b4).set c1 (.inr ⟨am4 _,am9 _⟩) _,setE E nx (E n),w',.inl ?_,fun m hd=>aU _ (by intro e;subst e;exact hnx hd),?_,.inr ⟨am4 _,am9 _⟩⟩
           ·simp only[amF,hr,amz,amM,aj,ay,Cap.val]
           ·have hM':HW S w0 (setE E nx (E n)) (D1 D nx) ((H.del n).set nx (.cells (l.take (len*i.size)++xs) T false)) w':=
             ⟨fun m o hm=>hM.obj m o (by rw[hsame];exact hm),fun m m' o o' hm hm' hne=>hM.inj m m' o o' (by rw[hsame];exact hm) (by rw[hsame];exact hm') hne,fun m o hm=>hM.own m o (by rw[hsame];exact hm),fun m o hm=>hM.names m o (by rw[hsame];exact hm),hM.fr⟩
            exact hM'.more ajO
        ·cases he
      ·cases he
     ·cases he
    ·cases he
   ·cases he
  ·cases he
 ·cases he
end
end
section
open Go Go.RowKit
variable [Sym]
def zI (place:Nat->Option (Nat×Nat))(cells:List AV):List (Nat×AV)->Option (List AV)
 | []=>some cells
 |(i,v)::rest=>
  match place i with
  |none=>none
  |some (off,size)=>
   bif Nat.beq v.cells.length size&&Nat.ble (off+v.cells.length) cells.length then zI place (aL cells.toArray off v.cells).toList rest else none
theorem pF (E:Env):∀(vs:List AV) (c:Array AV) (o:Nat),(aL c o vs).map (aj E)=aL (c.map (aj E)) o (vs.map (aj E))
 | [],_,_=>rfl
 |v::vs,c,o=>by
  simp only[aL,ann];rw[pF E vs];congr 1;apply Array.ext';simp
theorem kW:∀(vs:List Value) (cs:Array Value) (off k:Nat),(vs.zipIdx k).foldl (fun cs (c,j)=>cs.setIfInBounds (off+j) c) cs=aL cs (off+k) vs
 | [],_,_,_=>rfl
 |v::vs,cs,off,k=>by
  simp only[List.zipIdx_cons,List.foldl_cons,aL];rw[kW vs,Nat.add_assoc]
theorem xG (E:Env)(place:Nat->Option (Nat×Nat)):∀(parts:List (Nat×AV)) (cells out:List AV),zI place cells parts=some out->
 Instr.fill place (cells.map (aj E)).toArray (parts.map fun p=>(p.1,aj E p.2))=some (out.map (aj E)).toArray
 | [],cells,out,h=>by cases h;rfl
 |(i,v)::rest,cells,out,h=>by
  unfold zI at h;simp only[ann];unfold Instr.fill;cases hp:place i with
  |none=>rw[hp]at h;cases h
  |some p=>
   obtain⟨off,size⟩:=p;rw[hp]at h;obtain⟨hb,h⟩:=ag h;simp only[amC,Nat.beq_eq,Nat.ble_eq]at hb;have hsz:(aj E v).cells.size =v.cells.length:=by rw[eZ];simp
   have hcond:(decide ((aj E v).cells.size ≠size)||decide (off+(aj E v).cells.size >(cells.map (aj E)).toArray.size))=false:=by
    rw[hsz];simp;omega
   dsimp only;rw[if_neg (by rw[hcond];simp)];have:=xG E place rest _ out h;rw[<-this];congr 1;rw[eZ,List.toList_toArray]<;>skip;rw[show ((v.cells.map (aj E)).toArray.zipIdx.foldl (fun cs x=>cs.setIfInBounds (off+x.2) x.1) (cells.map (aj E)).toArray)=aL (cells.map (aj E)).toArray off (v.cells.map (aj E))from ?_]
   ·have h3:=pF E v.cells cells.toArray off
    have h2:(aL cells.toArray off v.cells).map (aj E)=((aL cells.toArray off v.cells).toList.map (aj E)).toArray :=by apply Array.ext';simp
    rw[<-h2,h3,List.map_toArray]
   ·have:=kW (v.cells.map (aj E)) (cells.map (aj E)).toArray off 0
    rw[Nat.add_zero]at this;rw[<-this, <-Array.foldl_toList];simp
theorem qB {D:Nat->Prop}{place:Nat->Option (Nat×Nat)}:∀(parts:List (Nat×AV)) (cells out:List AV),(∀v∈cells,v.In D)->(∀p∈parts,p.2.In D)->zI place cells parts=some out->∀v∈out,v.In D
 | [],cells,out,hc,_,h=>by cases h;exact hc
 |(i,v)::rest,cells,out,hc,hp,h=>by
  unfold zI at h;cases hpl:place i with
  |none=>rw[hpl]at h;cases h
  |some p=>
   obtain⟨off,size⟩:=p;rw[hpl]at h;obtain⟨hb,h⟩:=ag h;simp only[amC,Nat.beq_eq,Nat.ble_eq]at hb;refine qB rest _ out ?_ (fun q hq=>hp q (amL _ hq)) h;intro u hu;obtain⟨j,hj⟩:=List.getElem?_of_mem hu;rw[amV,aY _ _ _ _ (by simpa using hb.2)]at hj;split at hj
   ·exact kM v (hp (i,v) amJ) u (amI hj)
   ·exact hc u (by simpa using Array.mem_of_getElem? hj)
section
variable (cx:Cx) (ρ:Operand->AV) (H:Heap) (nx:Nat)
def wL:List Field->Option (List (Nat×Nat))
 | []=>some []
 |f::fs=>match cx.ti f.type with
  |some i=>match wL fs with
   |some l=>some ((f.offset,i.size)::l)
   |none=>none
  |none=>none
def afe (t:TypeId)(parts:List (Nat×Operand)):Res:=
 match cx.ti t with
 |some {desc:=.struct fs,zero:=z, ..}=>match wL cx fs.toList with
  |some pl=>match zI (pl.toArray[·]?) (AV.cells (.lit z)) (parts.map fun p=>(p.1,ρ p.2))with
   |some l=>some (.agg l,H,nx)
   |none=>none
  |none=>none
 |some {desc:=.array _ el,zero:=z, ..}=>match cx.ti el with
  |some i=>match zI (fun k=>some (k*i.size,i.size)) (AV.cells (.lit z)) (parts.map fun p=>(p.1,ρ p.2))with
   |some l=>some (.agg l,H,nx)
   |none=>none
  |none=>none
 |_=>none
def qK (z:Array Value)(n:Nat):List AV:=((Array.range n).map fun k=>z[k%z.size]!).toList.map .lit
def lI (t:TypeId)(len:Nat)(parts:List (Nat×Operand)):Res:=
 match cx.ti t with
 |some {desc:=.slice el, ..}=>match cx.ti el with
  |some i=>bif Nat.ble (len*i.size) 16777216&&Nat.blt nx lim then(match zI (fun k=>some (k*i.size,i.size)) (qK (if len*i.size=0 then #[]else i.zero.cells) (len*i.size)) (parts.map fun p=>(p.1,ρ p.2))with
   |some l=>some (.slice nx 0 len (.ex len),H.set nx (.cells l el true),nx+1)
   |none=>none)else none
  |none=>none
 |_=>none
def nX (t:TypeId)(len cap:Operand):Res:=
 match cx.ti t,asI (ρ len),asI (ρ cap)with
 |some {desc:=.slice el, ..},some (.ofNat l),some (.ofNat c)=>match cx.ti el with
  |some i=>bif Nat.ble l c&&(Nat.ble c 1000000&&(Nat.ble i.bytes 10000&&Nat.blt nx lim))then
   some (.slice nx 0 l (.ex c),H.set nx (.cells (qK (if c*i.size=0 then #[]else i.zero.cells) (c*i.size)) el true),nx+1)else none
  |none=>none
 |_,_,_=>none
def iJ (t:TypeId)(x:Operand):Res:=
 match cx.ti t with
 |some {desc:=.interface _, ..}=>none
 |some _=>some (.iface t (ρ x),H,nx)
 |none=>none
end
section
variable {cx:Cx} {S:Nat->Prop} {w0 w:World} {E:Env} {D:Nat->Prop} {H H':Heap} {nx hi:Nat} {ρ:Operand->AV} {r:Operand->Value} {v:AV}
theorem rH (hc:CxOK cx):∀(fs:List Field) (l:List (Nat×Nat)),wL cx fs=some l->(fs.mapM fun f=>(do pure (f.offset, <-sizeOf f.type):Sem (Nat×Nat))).run cx.P w= .ok l w
 | [],l,h=>by cases h;rfl
 |f::fs,l,h=>by
  unfold wL at h;split at h
  ·rename_i i hi
   split at h
   ·rename_i l' hl
    cases h;simp only[List.mapM_cons,amF,run_sizeOf hc hi,amz,amM,rH hc fs l' hl]
   ·cases h
  ·cases h
theorem parts_eq (hr:∀x,r x=aj E (ρ x))(parts:List (Nat×Operand)):(parts.map fun p=>(p.1,r p.2))=((parts.map fun p=>(p.1,ρ p.2)).map fun p=>(p.1,aj E p.2)):=by
 rw[List.map_map];exact List.map_congr_left fun p _=>by simp[hr p.2]
theorem afd (hc:CxOK cx)(h:HW S w0 E D H w){t:TypeId}{parts:Array (Nat×Operand)}(hr:∀x,r x=aj E (ρ x))(hi':∀x,(ρ x).In D)(he:afe cx ρ H nx t parts.toList=some (v,H',hi)):aA cx S w0 E D H w (do pure (.value (<-Instr.build t (parts.map fun(i,x)=>(i,r x))))) nx v H' hi:=by
 unfold afe at he;have hp:(parts.map fun(i,x)=>(i,r x)).toList =((parts.toList.map fun p=>(p.1,ρ p.2)).map fun p=>(p.1,aj E p.2)):=by
  rw[<-parts_eq hr];simp
 split at he
 ·rename_i fs sz by' z ht
  split at he
  ·rename_i pl hpl
   split at he
   ·rename_i l hf
    cases he;refine aA.pure h ?_ (eO.2 (qB _ _ _ (fun u hu=>kM (.lit z) trivial u hu) (fun p hp=>by obtain⟨q,_,rfl⟩:=amN.1 hp;exact hi' _) hf));have hff:=xG E _ _ _ _ hf;rw[<-hp, <-eZ E (.lit z)]at hff;have hpl':=rH (w:=w) hc _ _ hpl;unfold Instr.build;simp only[amF,bQ hc ht,run_underlying hc ht,amz,Array.mapM_eq_mapM_toList,Sem.run_map,hpl',aj]at hff⊢
    rw[hff];simp only[amM,amz,bE]
   ·cases he
  ·cases he
 ·rename_i len el sz by' z ht
  split at he
  ·rename_i i hel
   split at he
   ·rename_i l hf
    cases he;refine aA.pure h ?_ (eO.2 (qB _ _ _ (fun u hu=>kM (.lit z) trivial u hu) (fun p hp=>by obtain⟨q,_,rfl⟩:=amN.1 hp;exact hi' _) hf));have hff:=xG E _ _ _ _ hf;rw[<-hp, <-eZ E (.lit z)]at hff;unfold Instr.build;simp only[amF,bQ hc ht,run_underlying hc ht,amz,run_sizeOf hc hel,aj]at hff⊢
    rw[hff];simp only[amM,amz,bE]
   ·cases he
  ·cases he
 ·cases he
theorem abT (h:HW S w0 E D H w){sem:Sem Next}{l:List AV}{T:TypeId}{len cap:Nat}(hl:∀v∈l,v.In D)(hn:∀n,nx<=n->n<nx+1->¬D n)(hlim:nx<lim)
 (hr:sem.run cx.P w= .ok (.value (.slice (some ⟨w.heap.size,0,none⟩) len cap)) (w.alloc (.cells (l.map (aj E)).toArray T))):aA cx S w0 E D H w sem nx (.slice nx 0 len (.ex cap)) (H.set nx (.cells l T true)) (nx+1):=by
 have hnx:=hn nx ano (am9 _);refine⟨Nat.le_succ _,(Dom.refl _ _ _).set hlim (.inr ⟨am4 _,am9 _⟩) _,setE E nx ⟨w.heap.size,l.length⟩,_,.inl ?_,fun n hd=>aU _ (by intro e;subst e;exact hnx hd),(ajV h hnx hlim hl T).more ajO,.inr ⟨am4 _,am9 _⟩⟩;rw[hr];simp only[aj,ay,Cap.val]
theorem qJ {z:Array Value}{n:Nat}:∀u∈qK z n,u.In D:=fun u hu=>by
 obtain⟨x,_,rfl⟩:=amN.1 hu
 trivial
theorem jh (z:Array Value)(n:Nat):((qK z n).map (aj E)).toArray =(Array.range n).map fun k=>z[k%z.size]! :=by
 unfold qK;rw[jf]
theorem uf (hc:CxOK cx)(h:HW S w0 E D H w){t:TypeId}{len:Nat}{parts:Array (Nat×Operand)}(hr:∀x,r x=aj E (ρ x))(hi':∀x,(ρ x).In D)(hn:∀n,nx<=n->n<hi->¬D n)(he:lI cx ρ H nx t len parts.toList=some (v,H',hi)):aA cx S w0 E D H w (do pure (.value (<-Instr.buildSlice t len (parts.map fun(i,x)=>(i,r x))))) nx v H' hi:=by
 unfold lI at he;have hp:(parts.map fun(i,x)=>(i,r x)).toList =((parts.toList.map fun p=>(p.1,ρ p.2)).map fun p=>(p.1,aj E p.2)):=by
  rw[<-parts_eq hr];simp
 split at he
 ·rename_i el sz by' z ht
  split at he
  ·rename_i i hel
   obtain⟨hb,he⟩:=ag he;simp only[amC,anh,Nat.ble_eq]at hb;split at he
   ·rename_i l hf
    cases he;refine abT h (qB _ _ _ qJ (fun p hp=>by obtain⟨q,_,rfl⟩:=amN.1 hp;exact hi' _) hf) hn hb.2 ?_;have hff:=xG E _ _ _ _ hf;rw[<-hp,jh]at hff;have h16:¬(len*i.size>2^24):=by
     have:(2:Nat)^24=16777216:=rfl;omega
    unfold Instr.buildSlice;by_cases h0:len*i.size=0
    ·rw[if_pos h0]at hff
     have hz:¬((0:Nat)>2^24):=by decide
     simp only[amF,run_underlying hc ht,amz,run_sizeOf hc hel,Sem.run_ite,hz,if_false,h0,if_true,amM]at hff⊢
     rw[hff];simp only[amF,newRow,run_newObj,amz,amM,World.alloc_eq]
    ·rw[if_neg h0]at hff
     simp only[amF,run_underlying hc ht,amz,run_sizeOf hc hel,Sem.run_ite,h16,if_false,h0,amM,bQ hc hel]at hff⊢
     rw[hff];simp only[amF,newRow,run_newObj,amz,amM,World.alloc_eq]
   ·cases he
  ·cases he
 ·cases he
theorem nY (hc:CxOK cx)(h:HW S w0 E D H w){t:TypeId}{x:Operand}(hr:∀x,r x=aj E (ρ x))(hi':∀x,(ρ x).In D)(he:iJ cx ρ H nx t x=some (v,H',hi)):aA cx S w0 E D H w (do pure (.value (<-Instr.makeInterface t (r x)))) nx v H' hi:=by
 unfold iJ at he;split at he
 ·cases he
 ·rename_i i hd ht
  cases he;refine aA.pure h ?_ (hi' x);unfold Instr.makeInterface;obtain⟨d,a,b,c⟩:=i;simp only[amF,run_underlying hc ht,amz,hr x];cases d<;>first|rfl|(exact absurd rfl (hd _ _ _ _))
 ·cases he
end
end
section
open Go Go.RowKit
variable [Sym]
section
variable (cx:Cx) (ρ:Operand->AV) (H:Heap) (nx:Nat)
def ahp:Option Operand->Option (Option Nat)
 |none=>some none
 |some x=>match asI (ρ x)with
  |some (.ofNat k)=>some (some k)
  |_=>none
def ae5 (t:TypeId)(x:Operand)(lo hi mx:Option Operand):Res:=
 match cx.ti t,ρ x,ahp ρ lo,ahp ρ hi,ahp ρ mx with
 |some {desc:=.string, ..},.lit (.string s),some l,some h,some none=>
  let b:=h.getD s.size
  let a:=l.getD 0
  bif Nat.ble a b&&Nat.ble b s.size then some (.lit (.string ⟨((s.data.toList.drop a).take (b-a)).toArray⟩),H,nx)else none
 |some {desc:=.slice el, ..},.slice n o len cap,some l,some h,some m=>match cx.ti el,H.get n with
  |some i,some (.cells cs _ _)=>
   let a:=l.getD 0
   let b:=h.getD len
   match m,cap with
   |none,.ex c=>bif Nat.ble a b&&Nat.ble b c then some (bif Nat.beq c a then .slice n o 0 (.ex 0)else .slice n (o+a*i.size) (b-a) (.ex (c-a)),H,nx)else none
   |none,.rest sz=>bif Nat.ble a b&&(Nat.ble b ((cs.length-o)/sz)&&(Nat.beq sz i.size&&(Nat.blt 0 sz&&(Nat.beq a 0||Nat.blt a ((cs.length-o)/sz)))))then some (.slice n (o+a*i.size) (b-a) (.rest sz),H,nx)else none
   |some c,.ex c'=>bif Nat.ble a b&&(Nat.ble b c&&(Nat.ble c c'&&h.isSome))then some (bif Nat.beq c a then .slice n o 0 (.ex 0)else .slice n (o+a*i.size) (b-a) (.ex (c-a)),H,nx)else none
   |some c,.rest sz=>bif Nat.ble a b&&(Nat.ble b c&&(Nat.ble c ((cs.length-o)/sz)&&(h.isSome&&(Nat.beq sz i.size&&Nat.blt 0 sz))))then some (bif Nat.beq c a then .slice n o 0 (.ex 0)else .slice n (o+a*i.size) (b-a) (.ex (c-a)),H,nx)else none
  |_,_=>none
 |some {desc:=.slice el, ..},.lit (.slice none 0 0),some l,some h,some m=>match cx.ti el with
  |some _=>bif Nat.beq (l.getD 0) 0&&(Nat.beq (h.getD 0) 0&&(Nat.beq (m.getD 0) 0&&(m.isNone||h.isSome)))then some (.lit (.slice none 0 0),H,nx)else none
  |none=>none
 |_,_,_,_,_=>none
end
section
variable {cx:Cx} {S:Nat->Prop} {w0 w:World} {E:Env} {D:Nat->Prop} {H H':Heap} {nx hi:Nat} {ρ:Operand->AV} {r:Operand->Value} {v:AV}
theorem wrap_small {k:Nat}(h:k<=1000000):IntKind.i64.wrap (k:Int)=k:=by
 have e:((k:Int)%(2^IntKind.i64.bits:Int))=k:=by
  show ((k:Int)%(18446744073709551616:Int))=k;omega
 have hq:¬((IntKind.i64.signed&&decide ((k:Int)>=(2^(IntKind.i64.bits-1):Int)))=true):=by
  show¬((true&&decide ((k:Int)>=(9223372036854775808:Int)))=true);simp only[Bool.true_and,decide_eq_true_eq];omega
 unfold IntKind.wrap;dsimp only;rw[e,if_neg hq]
theorem wQ (hc:CxOK cx)(h:HW S w0 E D H w){t:TypeId}{len cap:Operand}(hr:∀x,r x=aj E (ρ x))(hn:∀n,nx<=n->n<hi->¬D n)(he:nX cx ρ H nx t len cap=some (v,H',hi)):aA cx S w0 E D H w (do pure (.value (<-Instr.makeSlice t (r len) (r cap)))) nx v H' hi:=by
 unfold nX at he;rw[hr len,hr cap];split at he
 ·rename_i el sz by' z l c ht h1 h2
  obtain⟨k1,e1⟩:=nK (E:=E) h1;obtain⟨k2,e2⟩:=nK (E:=E) h2;rw[e1,e2];split at he
  ·rename_i i hel
   obtain⟨hb,he⟩:=ag he;cases he;simp only[amC,anh,Nat.ble_eq]at hb;obtain⟨b1,b2,b3,b4⟩:=hb;refine abT h qJ hn b4 ?_;obtain⟨inf,hinf,_,hby,_⟩:=run_typeInfo (w:=w) hc hel;have w1:IntKind.i64.wrap (Int.ofNat l)=(l:Int):=wrap_small (by omega);have w2:IntKind.i64.wrap (Int.ofNat c)=(c:Int):=wrap_small b2;have hbig:¬((i.bytes:Int)*(c:Int)>2^48):=by
    have h1:i.bytes*c<=10000*1000000:=Nat.mul_le_mul b3 b2;have h2:((i.bytes*c:Nat):Int)=(i.bytes:Int)*(c:Int):=Int.natCast_mul _ _;omega
   have hcond:((decide ((c:Int)<0)||decide ((inf.bytes:Int)*(c:Int)>2^48))||decide ((l:Int)<0)||decide ((l:Int)>(c:Int)))=false:=by
    rw[hby];simp only[Bool.or_eq_false_iff,decide_eq_false_iff_not];exact⟨⟨⟨by omega,hbig⟩,by omega⟩,by omega⟩
   unfold Instr.makeSlice asInt asIntOf;by_cases h0:c*i.size=0
   ·simp only[amF,run_underlying hc ht,amz,amM,hinf,w1,w2,hcond,amQ,if_false,Sem.run_ite,run_askRoom,anm,run_sizeOf hc hel,h0,if_true,newRow,run_newObj,World.alloc_eq]
    rw[jh]
   ·simp only[amF,run_underlying hc ht,amz,amM,hinf,w1,w2,hcond,amQ,if_false,Sem.run_ite,run_askRoom,anm,run_sizeOf hc hel,h0,newRow,run_newObj,World.alloc_eq,bQ hc hel]
    rw[jh]
  ·cases he
 ·cases he
theorem ak0 (hc:CxOK cx)(h:HW S w0 E D H w){ats:List TypeId}{args:List AV}(he:oLen cx H nx ats args=some (v,H',hi))(ty:TypeId):
 aA cx S w0 E D H w (do pure (.value (<-Builtin.len_ ats.toArray ty (args.map (aj E)).toArray))) nx v H' hi:=by
 unfold oLen at he;split at he
 ·rename_i t ts x xs
  have h1:(t::ts).toArray[0]? =some t:=by simp
  have h2:(((x::xs).map (aj E)).toArray)[0]? =some (aj E x):=by simp
  split at he
  ·rename_i sz by' z ht
   split at he
   ·cases he
    refine aA.pure h ?_ trivial;unfold Builtin.len_;simp only[h1,h2,amF,run_underlying hc ht,amz,aj,amM]
   ·cases he
  ·rename_i el sz by' z ht
   split at he
   ·cases he
    refine aA.pure h ?_ trivial;unfold Builtin.len_;simp only[h1,h2,amF,run_underlying hc ht,amz,aj,amM]
   ·cases he
    refine aA.pure h ?_ trivial;unfold Builtin.len_;simp only[h1,h2,amF,run_underlying hc ht,amz,aj,amM]
   ·cases he
    refine aA.pure h ?_ trivial;unfold Builtin.len_;simp only[h1,h2,amF,run_underlying hc ht,amz,aj,amM]
   ·cases he
  ·rename_i k el sz by' z ht
   cases he;refine aA.pure h ?_ trivial;unfold Builtin.len_;simp only[h1,h2,amF,run_underlying hc ht,amz,aj,amM]
  ·rename_i kk el sz by' z ht
   split at he
   ·cases he
    refine aA.pure h ?_ trivial;unfold Builtin.len_;simp only[h1,h2,amF,run_underlying hc ht,amz,aj,amM]
   ·rename_i n
    split at he
    ·rename_i es hn
     cases he;refine aA.pure h ?_ trivial;obtain⟨ents,clk,hb,hp,_⟩:=h.obj n _ hn;have hlen:ents.size=es.length:=by simpa using hp.length_eq
     unfold Builtin.len_;have hg:(getObj (E n).b).run cx.P w= .ok (.map ents clk) w:=by
      unfold getObj;simp only[Sem.run,hb]
     simp only[h1,h2,amF,run_underlying hc ht,amz,aj,amM,hg,hlen]
    ·cases he
   ·cases he
  ·cases he
 ·cases he
theorem qh {x:Option Operand}{y:Option Nat}(hr:∀x,r x=aj E (ρ x))(h:ahp ρ x=some y):(x=none/\y=none)\/∃o k n,x=some o/\y=some n/\r o= .int k (n:Int):=by
 unfold ahp at h;split at h
 ·cases h;exact .inl ⟨rfl,rfl⟩
 ·rename_i o
  split at h
  ·rename_i n hn
   cases h;obtain⟨k,hk⟩:=nK (E:=E) hn;exact .inr ⟨o,k,n,rfl,rfl,(hr o).trans hk⟩
  ·cases h
theorem nQ {P:Program}(isS:Bool){len cap:Nat}{lo hi mx:Option Operand}{l h m:Option Nat}(hr:∀x,r x=aj E (ρ x))(h1:ahp ρ lo=some l)(h2:ahp ρ hi=some h)(h3:ahp ρ mx=some m)
 (hm:∀c,m=some c->c<=cap/\h.isSome=true) (hh:h.getD len<=m.getD cap\/h=none) (hl:l.getD 0<=h.getD len):(Instr.sliceBounds isS len cap (lo.map r) (hi.map r) (mx.map r)).run P w= .ok (l.getD 0,h.getD len,m.getD cap) w:=by
 have b0:∀(k:IntKind) (n y:Nat) (code:BoundsCode),n<=y->(Instr.sliceBound (.int k (n:Int)) y code).run P w= .ok n w:=fun k n y code hny=>by
  unfold Instr.sliceBound asIntOf;have:(0:Int)<=(n:Int)/\(n:Int)<=(y:Int):=⟨Int.natCast_nonneg n,Int.ofNat_le.2 hny⟩;simp only[amF,amM,amz,this,and_self,if_true,anm]
 unfold Instr.sliceBounds;rcases qh (E:=E) hr h1 with ⟨rfl,rfl⟩|⟨o1,k1,n1,rfl,rfl,e1⟩<;>rcases qh (E:=E) hr h2 with ⟨rfl,rfl⟩|⟨o2,k2,n2,rfl,rfl,e2⟩<;>rcases qh (E:=E) hr h3 with ⟨rfl,rfl⟩|⟨o3,k3,n3,rfl,rfl,e3⟩<;>
  simp only[Option.map_some,Option.map_none,Option.getD_some,Option.getD_none,amF,amM,amz]at*
 ·exact absurd (hm _ rfl).2 (by simp)
 ·rw[e2,b0 k2 n2 _ _ (by rcases hh with hh|hh;exact hh;cases hh)];rfl
 ·rw[e3,b0 k3 n3 _ _ (hm _ rfl).1];simp only[amz];rw[e2,b0 k2 n2 _ _ (by rcases hh with hh|hh;exact hh;cases hh)];rfl
 ·rw[e1,b0 k1 n1 _ _ hl];rfl
 ·exact absurd (hm _ rfl).2 (by simp)
 ·rw[e2,b0 k2 n2 _ _ (by rcases hh with hh|hh;exact hh;cases hh)];simp only[amz];rw[e1,b0 k1 n1 _ _ hl];rfl
 ·rw[e3,b0 k3 n3 _ _ (hm _ rfl).1];simp only[amz];rw[e2,b0 k2 n2 _ _ (by rcases hh with hh|hh;exact hh;cases hh)];simp only[amz];rw[e1,b0 k1 n1 _ _ hl];rfl
theorem ae4 (hc:CxOK cx)(h:HW S w0 E D H w){t:TypeId}{x:Operand}{lo hi' mx:Option Operand}(hr:∀x,r x=aj E (ρ x))(hin:∀x,(ρ x).In D)(he:ae5 cx ρ H nx t x lo hi' mx=some (v,H',hi)):aA cx S w0 E D H w (do pure (.value (<-Instr.sliceAt t (r x) (lo.map r) (hi'.map r) (mx.map r)))) nx v H' hi:=by
 unfold ae5 at he;have hx:=hin x;rw[hr x];generalize ρ x=X at*
 split at he
 ·rename_i sz by' z s l hh ht h1 h2 h3
  dsimp only at he;obtain⟨hb,he⟩:=ag he;cases he;simp only[amC,Nat.ble_eq]at hb;refine aA.pure h ?_ trivial;have hbn:=nQ (w:=w) (P:=cx.P) false (len:=s.size) (cap:=s.size) hr h1 h2 h3 (fun c e=>by cases e) (.inl (by simpa using hb.2)) hb.1;have hmx:mx=none:=by
   cases mx with
   |none=>rfl
   |some o=>
    simp only[ahp]at h3;split at h3<;>cases h3
  subst hmx;have hext:s.extract (l.getD 0) (hh.getD s.size)=⟨((s.data.toList.drop (l.getD 0)).take (hh.getD s.size-l.getD 0)).toArray⟩:=by
   apply ByteArray.ext;rw[ByteArray.data_extract];apply Array.ext';simp[List.extract_eq_take_drop]
  unfold Instr.sliceAt Instr.slice;simp only[amF,run_underlying hc ht,amz,aj,Option.map_none,Option.isSome_none,amQ,if_false,amM]at hbn⊢
  rw[hbn];simp only[amz,hext]
 ·rename_i el sz by' z n o len cap l hh m ht h1 h2 h3
  have hDn:D n:=hx;split at he
  ·rename_i i cs T ex hel hn
   dsimp only at he;obtain⟨c,hcb,hs,hl,hx',hcell⟩:=h.obj n _ hn;have key:∀(u:AV),u.In D->(∀c0,cap.val (E n).s o=c0->(m.getD c0=l.getD 0->aj E u= .slice (some ⟨(E n).b,o,none⟩) (hh.getD len-l.getD 0) (m.getD c0-l.getD 0))/\(m.getD c0≠l.getD 0->aj E u= .slice (some ⟨(E n).b,o+l.getD 0*i.size,none⟩) (hh.getD len-l.getD 0) (m.getD c0-l.getD 0)))->
    (∀c',m=some c'->c'<=cap.val (E n).s o/\hh.isSome=true)->(hh.getD len<=m.getD (cap.val (E n).s o)\/hh=none)->l.getD 0<=hh.getD len->aA cx S w0 E D H w (do pure (.value (<-Instr.sliceAt t (aj E (.slice n o len cap)) (lo.map r) (hi'.map r) (mx.map r)))) nx u H nx:=by
    intro u hu hcu hm hle hlo;refine aA.pure h ?_ hu;have hbn:=nQ (w:=w) (P:=cx.P) true (len:=len) (cap:=cap.val (E n).s o) hr h1 h2 h3 hm hle hlo;obtain⟨q1,q2⟩:=hcu _ rfl;unfold Instr.sliceAt Instr.slice;simp only[amF,run_underlying hc ht,amz,aj,amM];rw[hbn];simp only[amz,run_sizeOf hc hel,Option.map_some,fZ];by_cases hq:m.getD (cap.val (E n).s o)=l.getD 0
    ·rw[if_pos hq,q1 hq]
    ·rw[if_neg hq,q2 hq]
   split at he
   ·rename_i c0
    obtain⟨hb,he⟩:=ag he;cases he;simp only[amC,Nat.ble_eq]at hb;refine key _ ?_ (fun c1 e=>?_) (fun _ e=>by cases e) (.inl hb.2) hb.1
    ·cases Nat.beq c0 (l.getD 0)<;>exact hDn
    ·simp only[Cap.val]at e
     subst e;simp only[Option.getD_none];refine⟨fun e=>?_,fun e=>?_⟩
     ·rw[show Nat.beq c0 (l.getD 0)=true by rw[e];exact Nat.beq_refl _]
      have:hh.getD len=l.getD 0:=by have:=hb.1;have:=hb.2;omega
      simp only[cond_true,aj,Cap.val,this,e,Nat.sub_self]
     ·rw[show Nat.beq c0 (l.getD 0)=false by cases hq:Nat.beq c0 (l.getD 0);rfl;exact absurd (amE hq) e]
      simp only[cond_false,aj,Cap.val]
   ·rename_i sz0
    obtain⟨hb,he⟩:=ag he;cases he;simp only[amC,Nat.ble_eq,Nat.beq_eq,anh,Bool.or_eq_true]at hb;obtain⟨b1,b2,rfl,b4,b5⟩:=hb;have hcap:(cs.length-o)/i.size<=((E n).s -o)/i.size:=Nat.div_le_div_right (by omega);refine key _ hDn (fun c1 e=>?_) (fun _ e=>by cases e) (.inl (by show _<=((E n).s -o)/i.size;omega)) b1;simp only[Cap.val]at e;subst e;simp only[Option.getD_none,aj,Cap.val];have hv:((E n).s -(o+l.getD 0*i.size))/i.size=((E n).s -o)/i.size-l.getD 0:=by
     rw[Nat.sub_add_eq,ank (l.getD 0),Nat.sub_mul_div]
    rw[hv];refine⟨fun e=>?_,fun _=>rfl⟩;have h0:l.getD 0=0:=by rcases b5 with b5|b5<;>omega
    rw[h0,Nat.zero_mul,Nat.add_zero]
   ·rename_i c0 c'
    obtain⟨hb,he⟩:=ag he;cases he;simp only[amC,Nat.ble_eq]at hb;obtain⟨b1,b2,b3,b4⟩:=hb;refine key _ ?_ (fun c1 e=>?_) (fun _ e=>by cases e;exact⟨b3,b4⟩) (.inl b2) b1
    ·cases Nat.beq c0 (l.getD 0)<;>exact hDn
    ·simp only[Option.getD_some]
     refine⟨fun e=>?_,fun e=>?_⟩
     ·rw[show Nat.beq c0 (l.getD 0)=true by rw[e];exact Nat.beq_refl _]
      have:hh.getD len=l.getD 0:=by omega
      simp only[cond_true,aj,Cap.val,this,e,Nat.sub_self]
     ·rw[show Nat.beq c0 (l.getD 0)=false by cases hq:Nat.beq c0 (l.getD 0);rfl;exact absurd (amE hq) e]
      simp only[cond_false,aj,Cap.val]
   ·rename_i c0 sz0
    obtain⟨hb,he⟩:=ag he;cases he;simp only[amC,Nat.ble_eq,Nat.beq_eq,anh]at hb;obtain⟨b1,b2,b3,b4,rfl,b6⟩:=hb;have hcap:(cs.length-o)/i.size<=((E n).s -o)/i.size:=Nat.div_le_div_right (by omega);refine key _ ?_ (fun c1 e=>?_) (fun _ e=>by cases e;exact⟨by show _<=((E n).s -o)/i.size;omega,b4⟩) (.inl b2) b1
    ·cases Nat.beq c0 (l.getD 0)<;>exact hDn
    ·simp only[Option.getD_some]
     refine⟨fun e=>?_,fun e=>?_⟩
     ·rw[show Nat.beq c0 (l.getD 0)=true by rw[e];exact Nat.beq_refl _]
      have:hh.getD len=l.getD 0:=by omega
      simp only[cond_true,aj,Cap.val,this,e,Nat.sub_self]
     ·rw[show Nat.beq c0 (l.getD 0)=false by cases hq:Nat.beq c0 (l.getD 0);rfl;exact absurd (amE hq) e]
      simp only[cond_false,aj,Cap.val]
  ·cases he
 ·rename_i el sz by' z l hh m ht h1 h2 h3
  split at he
  ·rename_i i hel
   obtain⟨hb,he⟩:=ag he;cases he;simp only[amC,Nat.beq_eq,Bool.or_eq_true]at hb;obtain⟨b1,b2,b3,b4⟩:=hb;refine aA.pure h ?_ trivial;have hbn:=nQ (w:=w) (P:=cx.P) true (len:=0) (cap:=0) hr h1 h2 h3 (fun c e=>by subst e;simp only[Option.getD_some]at b3;subst b3;exact⟨am4 _,by simpa using b4⟩) (.inl (by rw[b2,b3];exact am4 _)) (by rw[b1];exact Nat.zero_le _);rw[b1,b2,b3]at hbn;unfold Instr.sliceAt Instr.slice;simp only[amF,run_underlying hc ht,amz,aj,amM];rw[hbn];simp only[amz,run_sizeOf hc hel,Option.map_none,if_true,Nat.sub_self]
  ·cases he
 ·cases he
end
end
section
open Go Go.RowKit
variable [Sym]
def iK:Value->Value->Option Bool
 | .int j a,.int k b=>if j=k then some (a==b)else none
 | .string a,.string b=>some (ajF a.data.toList b.data.toList)
 |_,_=>none
theorem kH {x y:Value}(h:iK x y=some true):x=y:=by
 unfold iK at h;split at h
 ·split at h
  ·rename_i e;subst e;simp at h;subst h;rfl
  ·cases h
 ·rename_i a b
  simp only[Option.some.injEq]at h;rw[oZ,beq_iff_eq]at h;congr 1;apply ByteArray.ext;exact Array.ext' h
 ·cases h
theorem rZ {x y:Value}(h:iK x y=some false):x≠y:=by
 intro e;subst e;unfold iK at h;split at h
 ·rename_i j a k b
  split at h<;>simp_all
 ·rename_i a b
  simp only[Option.some.injEq]at h;rw[oZ]at h
  simp_all
 ·cases h
def zw:TypeDesc->Value->Bool
 | .int _,.int .. =>true
 | .string,.string _=>true
 |_,_=>false
theorem acT {d:TypeDesc}{k x:Value}{b:Bool}(hd:zw d k=true)(h:iK k x=some b):Instr.sameNow d k x=some b:=by
 unfold zw at hd;split at hd
 ·unfold iK at h
  split at h
  ·rename_i j a k b heq
   cases heq;unfold Instr.sameNow;exact h
  ·rename_i heq;cases heq
  ·cases h
 ·unfold iK at h
  split at h
  ·rename_i heq;cases heq
  ·rename_i a b heq
   cases heq;rw[<-h,oZ];rename_i a _ _;show some (a==b)=_;congr 1;have key:(a==b)=true↔a.data.toList=b.data.toList:=by
    refine Iff.trans (show _↔(a.data==b.data)=true from Iff.rfl) ?_;rw[beq_iff_eq];exact⟨fun e=>by rw[e],fun e=>Array.ext' e⟩
   rw[Bool.eq_iff_iff,key,beq_iff_eq]
  ·cases h
 ·cases hd
theorem findNow_spec {d:TypeDesc}{k:Value}(hd:zw d k=true):∀(L:List MapEntry) (i0:Nat),(∀e∈L,(iK k e.key).isSome =true)->
 (∃i e,L[i]? =some e/\e.key=k/\(∀j e',j<i->L[j]? =some e'->e'.key≠k)/\Instr.findNow d k L i0=some (some (i0+i,e.val)))\/((∀e∈L,e.key≠k)/\Instr.findNow d k L i0=some none)
 | [],_,_=>.inr ⟨by simp,rfl⟩
 |e::L,i0,h=>by
  obtain⟨b,hb⟩:=Option.isSome_iff_exists.1 (h e amJ);have hs:=acT hd hb;cases b with
  |true=>exact .inl ⟨0,e,rfl,(kH hb).symm,fun j _ hj=>by omega,by unfold Instr.findNow;rw[hs];rfl⟩
  |false=>
   have hne:=rZ hb;rcases findNow_spec hd L (i0+1) (fun e' he'=>h e' (amL _ he'))with ⟨i,e',h1,h2,h3,h4⟩|⟨h1,h2⟩
   ·refine .inl ⟨i+1,e',by simpa using h1,h2,fun j e2 hj hj2=>?_,?_⟩
    ·cases j with
     |zero=>simp at hj2;subst hj2;exact hne.symm
     |succ j=>exact h3 j e2 (by omega) (by simpa using hj2)
    ·unfold Instr.findNow;rw[hs];dsimp only;rw[h4];congr 3;omega
   ·refine .inr ⟨fun e2 he2=>?_,by unfold Instr.findNow;rw[hs];exact h2⟩
    rcases anf.1 he2 with q|q
    ·subst q;exact hne.symm
    ·exact h1 e2 q
def je (k:Value):List (Value×AV)->Option AV
 | []=>none
 |e::es=>match iK k e.1 with
  |some true=>some e.2
  |_=>je k es
def ag7 (k:Value)(es:List (Value×AV)):Bool:=es.all fun e=>(iK k e.1).isSome
def ahm (k:Value)(v:AV):List (Value×AV)->List (Value×AV)
 | []=>[]
 |e::es=>match iK k e.1 with
  |some true=>(k,v)::es
  |_=>e::ahm k v es
section
variable (cx:Cx) (ρ:Operand->AV) (H:Heap) (nx:Nat)
def wR (t:TypeId)(r:Option Operand):Res:=
 match cx.ti t,ahp ρ r with
 |some {desc:=.map _ _, ..},some _=>bif Nat.blt nx lim then some (.map nx,H.set nx (.map []),nx+1)else none
 |_,_=>none
def aaF (t:TypeId)(m k:Operand)(ok:Bool):Res:=
 match cx.ti t with
 |some {desc:=.map kt et, ..}=>match cx.ti kt,cx.ti et,ρ k with
  |some ki,some ei,.lit kv=>bif zw ki.desc kv then
   let es:Option (List (Value×AV)):=match ρ m with
    | .lit (.map none)=>some []
    | .map n=>match H.get n with
     |some (.map es)=>some es
     |_=>none
    |_=>none
   match es with
   |some es=>bif ag7 kv es then
    let (v,b):=match je kv es with
     |some v=>(v,true)
     |none=>(AV.lit ei.zero,false)
    some (if ok then .tup [v,.lit (.bool b)]else v,H,nx)else none
   |none=>none
   else none
  |_,_,_=>none
 |_=>none
def iU (t:TypeId)(m k x:Operand):Res:=
 match cx.ti t with
 |some {desc:=.map kt et, ..}=>match cx.ti kt,ρ k,ρ m with
  |some ki,.lit kv,.map n=>match H.get n with
   |some (.map es)=>bif zw ki.desc kv&&(ag7 kv es&&Nat.blt n lim)then
    some (.lit undef,H.set n (.map (if (je kv es).isSome then ahm kv (ρ x) es else es++ [(kv,ρ x)])),nx)else none
   |_=>none
  |_,_,_=>none
 |_=>none
end
section
variable {cx:Cx} {S:Nat->Prop} {w0 w:World} {E:Env} {D:Nat->Prop} {H H':Heap} {nx hi:Nat} {ρ:Operand->AV} {r:Operand->Value} {v:AV}
theorem gV {k:Value}:∀ {es:List (Value×AV)} {v:AV},je k es=some v->(k,v)∈es
 |e::es,v,h=>by
  unfold je at h;split at h
  ·rename_i hk
   cases h;rw[kH hk];exact amJ
  ·exact amL _ (gV h)
theorem oK {k:Value}:∀ {es:List (Value×AV)},ag7 k es=true->je k es=none->∀e∈es,e.1≠k
 |e::es,ha,h,e',he'=>by
  unfold je at h;unfold ag7 at ha;simp only[List.all_cons,amC]at ha;split at h
  ·cases h
  ·rename_i hne
   rcases anf.1 he' with q|q
   ·subst q
    obtain⟨b,hb⟩:=Option.isSome_iff_exists.1 ha.1;cases b with
    |true=>exact absurd hb hne
    |false=>exact(rZ hb).symm
   ·exact oK (by unfold ag7;exact ha.2) h e' q
theorem yX {k:Value}{v v':AV}:∀ {es:List (Value×AV)},(es.map (·.1)).Nodup ->(k,v)∈es->(k,v')∈es->v=v'
 |e::es,hn,h1,h2=>by
  simp only[ann,List.nodup_cons]at hn;rcases anf.1 h1 with q1|q1<;>rcases anf.1 h2 with q2|q2
  ·rw[<-q1]at q2;injection q2 with _ q2;exact q2.symm
  ·subst q1;exact absurd (amN.2 ⟨_,q2,rfl⟩) hn.1
  ·subst q2;exact absurd (amN.2 ⟨_,q1,rfl⟩) hn.1
  ·exact yX hn.2 q1 q2
theorem run_getObj_map {b:Nat}{ents:Array MapEntry}{clk:Nat}{P:Program}(h:w.heap[b]? =some (.map ents clk)):(getObj b).run P w= .ok (.map ents clk) w:=by
 unfold getObj;simp only[Sem.run,h]
theorem run_setObj_map {b:Nat}{ents:Array MapEntry}{clk:Nat}{P:Program}(h:w.heap[b]? =some (.map ents clk))(o:Obj):(setObj b o).run P w= .ok () {w with heap:=w.heap.setIfInBounds b o}:=by
 unfold setObj;simp only[Sem.run,h]
theorem run_checkKey (hc:CxOK cx){e:Bool}{t:TypeId}{i:TI}(hi':cx.ti t=some i){k:Value}(hk:zw i.desc k=true):(Instr.checkKey e 10000 t k).run cx.P w= .ok () w:=by
 show (Instr.checkKey e (9999+1) t k).run cx.P w=_;unfold Instr.checkKey;simp only[amF,run_underlying hc hi',amz];generalize i.desc=d at*
 unfold zw at hk;split at hk<;>first|rfl|cases hk
theorem find_ok (hc:CxOK cx){kt:TypeId}{ki:TI}(hk:cx.ti kt=some ki){kv:Value}(hd:zw ki.desc kv=true){es:List (Value×AV)}{ents:Array MapEntry}{clk:Nat}(hm:amo E es ents clk)(ha:ag7 kv es=true):
 (∃i e v,ents.toList[i]? =some e/\e.key=kv/\je kv es=some v/\e.val=aj E v/\(∀j e',j≠i->ents.toList[j]? =some e'->e'.key≠kv)/\(Instr.findKey kt kv ents.toList).run cx.P w= .ok (some (i,e.val)) w)\/
 (je kv es=none/\(∀e∈ents.toList,e.key≠kv)/\(Instr.findKey kt kv ents.toList).run cx.P w= .ok none w):=by
 obtain⟨hp,_,_,hn⟩:=hm;have hall:∀e∈ents.toList,(iK kv e.key).isSome =true:=fun e he=>by
  have:(e.key,e.val)∈es.map fun p=>(p.1,aj E p.2):=hp.subset (amN.2 ⟨e,he,rfl⟩)
  obtain⟨p,hp1,hp2⟩:=amN.1 this;have:=amU.1 ha p hp1;injection hp2 with q1 _
  rwa[q1]at this
 have hkn:(ents.toList.map (·.key)).Nodup :=by
  have h1:(ents.toList.map fun e=>(e.key,e.val)).map (·.1)=ents.toList.map (·.key):=by rw[List.map_map];rfl
  rw[<-h1];refine(hp.map (·.1)).nodup_iff.2 ?_;rw[List.map_map];exact hn
 have hrun:∀x,Instr.findNow ki.desc kv ents.toList 0=some x->(Instr.findKey kt kv ents.toList).run cx.P w= .ok x w:=fun x hx=>by
  unfold Instr.findKey;simp only[amF,run_underlying hc hk,amz,hx];rfl
 rcases findNow_spec hd ents.toList 0 hall with ⟨i,e,h1,h2,h3,h4⟩|⟨h1,h2⟩
 ·rw[am5]at h4
  have hmem:(kv,e.val)∈es.map fun p=>(p.1,aj E p.2):=by rw[<-h2];exact hp.subset (amN.2 ⟨e,amI h1,rfl⟩)
  obtain⟨p,hp1,hp2⟩:=amN.1 hmem;injection hp2 with q1 q2
  cases hf:je kv es with
  |none=>exact absurd q1 (oK ha hf p hp1)
  |some v=>
   have:=gV hf;have hv:p.2=v:=yX hn (show (kv,p.2)∈es by rw[<-q1];exact hp1) this;refine .inl ⟨i,e,v,h1,h2,rfl,by rw[<-q2,hv],fun j e' hj hj' hk'=>?_,hrun _ h4⟩;have hi:=(amH.1 h1).1;have hj2:=(amH.1 hj').1;have k1:(ents.toList.map (·.key))[i]? =some kv:=by rw[amP,h1];simp[h2]
   have k2:(ents.toList.map (·.key))[j]? =some kv:=by rw[amP,hj'];simp[hk']
   exact hj ((List.getElem?_inj (by simpa using hj2) hkn).1 (k2.trans k1.symm))
 ·refine .inr ⟨?_,h1,hrun _ h2⟩
  cases hf:je kv es with
  |none=>rfl
  |some v=>
   have:(kv,aj E v)∈ents.toList.map fun e=>(e.key,e.val):=hp.symm.subset (amN.2 ⟨_,gV hf,rfl⟩)
   obtain⟨e,he,q⟩:=amN.1 this;injection q with q1 _
   exact absurd q1 (h1 e he)
theorem aaE (hc:CxOK cx)(h:HW S w0 E D H w){t:TypeId}{x:Option Operand}(hr:∀x,r x=aj E (ρ x))(hn:∀n,nx<=n->n<hi->¬D n)(he:wR cx ρ H nx t x=some (v,H',hi)):
 aA cx S w0 E D H w (do Pure.pure (.value (<-Instr.makeMap t (x.map r)))) nx v H' hi:=by
 unfold wR at he;split at he
 ·rename_i k el sz by' z y ht hx
  obtain⟨hb,he⟩:=ag he;cases he;have hl:nx<lim:=by simpa[anh]using hb
  have hnx:=hn nx ano (am9 _);have hw:=h.new (n:=nx) (o:=.map []) (x:=.map #[] 0) (s:=0) hnx hl (by intro e he;cases he) ⟨#[],0,by rw[ay];show (w.heap.push _)[w.heap.size]? =_;exact Array.getElem?_push_size,by refine⟨?_,?_,?_,?_⟩<;>simp⟩;have hD:∀n,D1 D nx n->DR D nx (nx+1) n:=fun n hd=>hd.elim .inl fun e=>.inr (by omega)
  refine⟨Nat.le_succ _,(Dom.refl _ _ _).set hl (.inr ⟨am4 _,am9 _⟩) _,_,_,.inl ?_,fun n hd=>aU _ (by intro e;subst e;exact hnx hd),hw.more hD,.inr ⟨am4 _,am9 _⟩⟩;unfold Instr.makeMap;rcases qh hr hx with ⟨e1,e2⟩|⟨o,k',n,e1,e2,e3⟩
  ·subst e1
   simp only[Option.map_none,amF,amz,amM,run_newObj,World.alloc_eq,aj,ay]
  ·subst e1
   unfold asInt asIntOf;simp only[Option.map_some,amF,amz,amM,run_newObj,World.alloc_eq,aj,ay,run_underlying hc ht,e3]
 ·cases he
theorem ac2 (hc:CxOK cx)(h:HW S w0 E D H w){t:TypeId}{m k:Operand}{ok:Bool}(hr:∀x,r x=aj E (ρ x))(hin:∀x,(ρ x).In D)(he:aaF cx ρ H nx t m k ok=some (v,H',hi)):
 aA cx S w0 E D H w (do Pure.pure (.value (<-Instr.lookup t (r m) (r k) ok))) nx v H' hi:=by
 unfold aaF at he;rw[hr m,hr k];have hm:=hin m;generalize ρ m=M at*
 split at he
 ·rename_i kt et sz by' z ht
  split at he
  ·rename_i ki ei kv hk hel hkv
   rw[hkv,show aj E (.lit kv)=kv from rfl];obtain⟨hd,he⟩:=ag he;dsimp only at he;split at he
   ·rename_i es hes
    obtain⟨ha,he⟩:=ag he;have key:∃ents:Array MapEntry,∃clk,amo E es ents clk/\(∀e∈es,e.2.In D)/\∀q,(Instr.findKey kt kv ents.toList).run cx.P w= .ok q w->(Instr.lookup t (aj E M) kv ok).run cx.P w=(do
     let (v,ok')<-match q with
      |some (_,v)=>Pure.pure (v,true)
      |none=>Pure.pure (<-zeroValue et,false)
     Pure.pure (if ok then .tuple #[v,.bool ok']else v):Sem Value).run cx.P w:=by
     split at hes
     ·cases hes
      refine⟨#[],0,by refine⟨?_,?_,?_,?_⟩<;>simp,by simp,fun q hq=>?_⟩;unfold Instr.lookup;simp only[amF,run_underlying hc ht,amz,aj,run_checkKey hc hk hd,hq,amM];cases q<;>rfl
     ·rename_i n
      split at hes
      ·rename_i es' hn
       cases hes;obtain⟨ents,clk,hb,hp⟩:=h.obj n _ hn;refine⟨ents,clk,hp,(h.names n _ hn).2,fun q hq=>?_⟩;unfold Instr.lookup;simp only[amF,run_underlying hc ht,amz,aj,run_checkKey hc hk hd,hq,amM,run_getObj_map hb];cases q<;>rfl
      ·cases hes
     ·cases hes
    obtain⟨ents,clk,hp,hev,hrun⟩:=key;rcases find_ok (w:=w) hc hk hd hp ha with ⟨i,e,u,h1,h2,h3,h4,h5,h6⟩|⟨h1,h2,h3⟩
    ·rw[h3]at he
     cases he;have hu:u.In D:=hev _ (gV h3);refine aA.pure h ?_ ?_
     ·rw[amF,hrun _ h6]
      simp only[amF,amz,amM,h4];cases ok<;>simp[aj,fT]
     ·cases ok
      ·exact hu
      ·exact⟨hu,trivial,trivial⟩
    ·rw[h1]at he
     cases he;refine aA.pure h ?_ ?_
     ·rw[amF,hrun _ h3]
      simp only[amF,amz,amM,bQ hc hel];cases ok<;>simp[aj,fT]
     ·cases ok
      ·trivial
      ·exact⟨trivial,trivial,trivial⟩
   ·cases he
  ·cases he
 ·cases he
open Classical in
theorem abu {k:Value}{v:AV}{f:AV->Value}:∀ {es:List (Value×AV)} {u:AV},(es.map (·.1)).Nodup ->je k es=some u->
 (ahm k v es).map (fun p=>(p.1,f p.2))=(es.map fun p=>(p.1,f p.2)).map fun q=>if q.1=k then(k,f v)else q
 |e::es,u,hn,h=>by
  unfold je at h;unfold ahm;simp only[ann,List.nodup_cons]at hn;split at h
  ·rename_i hk
   have e1:=kH hk;rw[ann,ann,ann];rw[if_pos e1.symm];congr 1;rw[List.map_map];refine List.map_congr_left fun p hp=>?_
   show _=if p.1=k then _ else _
   rw[if_neg];intro q;exact hn.1 (amN.2 ⟨p,hp,by rw[q,e1]⟩)
  ·rename_i hne
   have hne':e.1≠k:=fun q=>by
    have hm:=gV h;exact hn.1 (amN.2 ⟨_,hm,q.symm⟩)
   rw[ann,ann,ann,if_neg hne',abu hn.2 h]
theorem yg {k:Value}{v:AV}:∀(es:List (Value×AV)),(ahm k v es).map (·.1)=es.map (·.1)
 | []=>rfl
 |e::es=>by
  unfold ahm;split
  ·rename_i hk
   rw[ann,ann,kH hk]
  ·rw[ann,ann,yg es]
theorem abt {k:Value}{v:AV}:∀(es:List (Value×AV)) {p:Value×AV},p∈ahm k v es->p.2=v\/p∈es
 | [],p,h=>by cases h
 |e::es,p,h=>by
  unfold ahm at h;split at h
  ·rcases anf.1 h with q|q
   ·subst q;exact .inl rfl
   ·exact .inr (amL _ q)
  ·rcases anf.1 h with q|q
   ·subst q;exact .inr amJ
   ·exact(abt es q).imp id fun q=>amL _ q
theorem yB {d:TypeDesc}{k:Value}(hd:zw d k=true):Instr.sameBits 10000 k k=true:=by
 show Instr.sameBits (9999+1) k k=true;unfold zw at hd;split at hd
 ·simp[Instr.sameBits]
 ·rename_i s
  show (s==s)=true;exact(show (s.data==s.data)=true from by rw[beq_iff_eq])
 ·cases hd
theorem jq {α:Type}{i:Nat}{f:α->α}(a:Array α):(a.modify i f).toList =a.toList.modify i f:=by
 apply anl;intro j;rw[amV,Array.getElem?_modify,List.getElem?_modify,amV];by_cases e:i=j<;>simp[e]
open Classical in
theorem mR (hc:CxOK cx)(h:HW S w0 E D H w){t:TypeId}{m k x:Operand}(hr:∀x,r x=aj E (ρ x))(hin:∀x,(ρ x).In D)(he:iU cx ρ H nx t m k x=some (v,H',hi)):
 aA cx S w0 E D H w (do Instr.mapUpdate t (r m) (r k) (r x);Pure.pure .skip) nx v H' hi:=by
 unfold iU at he;rw[hr m,hr k,hr x];have hx:=hin x;generalize ρ x=X at*
 split at he
 ·rename_i kt et sz by' z ht
  split at he
  ·rename_i ki kv n hk hkv hM
   rw[hkv,hM,show aj E (.lit kv)=kv from rfl,show aj E (.map n)= .map (some (E n).b)from rfl];split at he
   ·rename_i es hn
    obtain⟨hb,he⟩:=ag he;simp only[amC,anh]at hb;obtain⟨hd,ha,hl⟩:=hb;cases he;obtain⟨ents,clk,hob,hp⟩:=h.obj n _ hn;have hlt:=(h.obj n _ hn).lt;have hes:=(h.names n _ hn).2;have fin:∀(es':List (Value×AV)) (ents':Array MapEntry) (clk':Nat),amo E es' ents' clk'->(∀e∈es',e.2.In D)->(Instr.mapUpdate t (.map (some (E n).b)) kv (aj E X)).run cx.P w= .ok () {w with heap:=w.heap.setIfInBounds (E n).b (.map ents' clk')}->
     aA cx S w0 E D H w (do Instr.mapUpdate t (.map (some (E n).b)) kv (aj E X);Pure.pure .skip) nx (.lit undef) (H.set n (.map es')) nx:=fun es' ents' clk' h1 h2 h3=>by
     refine⟨am4 _,(Dom.refl _ _ _).set hl (.inl ⟨_,hn⟩) _,E,{w with heap:=w.heap.setIfInBounds (E n).b (.map ents' clk')},.inr ⟨?_,rfl⟩,fun _ _=>rfl,(h.turn (w':={w with heap:=w.heap.setIfInBounds (E n).b (.map ents' clk')}) hl hn (o':=.map es') h2 (by simp) rfl rfl rfl (fun k hk=>?_) ⟨ents',clk',?_,h1⟩).more DR.le,trivial⟩
     ·rw[amF,h3];rfl
     ·show (w.heap.setIfInBounds _ _)[k]? =_
      rw[Array.getElem?_setIfInBounds_ne (Ne.symm hk)]
     ·show (w.heap.setIfInBounds _ _)[_]? =_
      rw[Array.getElem?_setIfInBounds_self_of_lt hlt]
    obtain⟨hp1,hp2,hp3,hp4⟩:=hp;rcases find_ok (w:=w) hc hk hd ⟨hp1,hp2,hp3,hp4⟩ ha with ⟨i,e,u,h1,h2,h3,h4,h5,h6⟩|⟨h1,h2,h3⟩
    ·rw[h3]
     have hi:(ents[i]?.map (·.key)).getD kv=kv:=by
      rw[<-amV,h1];exact h2
     refine fin _ (ents.modify i fun e=>{e with key:=kv,val:=aj E X}) clk ⟨?_,?_,?_,?_⟩ ?_ ?_
     ·rw[jq]
      show List.Perm _ ((ahm kv X es).map fun p=>(p.1,aj E p.2));rw[abu hp4 h3];have e1:(ents.toList.modify i fun e=>{e with key:=kv,val:=aj E X}).map (fun e=>(e.key,e.val))=(ents.toList.map fun e=>(e.key,e.val)).map fun q=>if q.1=kv then(kv,aj E X)else q:=by
       apply anl;intro j;rw[List.map_map,amP,amP,List.getElem?_modify];by_cases ej:i=j
       ·subst ej
        rw[h1];simp[h2]
       ·cases hj:ents.toList[j]? with
        |none=>simp[ej]
        |some e'=>simp[ej,h5 j e' (Ne.symm ej) hj]
      rw[e1];exact hp1.map _
     ·intro e' he'
      rw[jq]at he';obtain⟨j,hj⟩:=List.mem_iff_getElem?.1 he';rw[List.getElem?_modify]at hj;cases hj':ents.toList[j]? with
      |none=>rw[hj']at hj;cases hj
      |some e2=>
       rw[hj']at hj;have:=hp2 e2 (amI hj');by_cases ej:i=j<;>simp[ej]at hj<;>rw[<-hj]<;>exact this
     ·rw[jq]
      have:((ents.toList.modify i fun e=>{e with key:=kv,val:=aj E X}).map (·.born))=ents.toList.map (·.born):=by
       apply anl;intro j;rw[amP,amP,List.getElem?_modify];by_cases ej:i=j<;>cases ents.toList[j]?<;>simp[ej]
      rw[this];exact hp3
     ·show ((ahm kv X es).map (·.1)).Nodup
      rw[yg];exact hp4
     ·intro p hp
      rcases abt es hp with q|q
      ·rw[q];exact hx
      ·exact hes p q
     ·unfold Instr.mapUpdate Instr.keyThatStays
      simp only[amF,run_underlying hc ht,amz,run_getObj_map hob,run_checkKey hc hk hd,h6,hi,yB hd,if_true,amM,run_setObj_map hob]
    ·rw[h1]
     refine fin _ (ents.push {key:=kv,val:=aj E X,born:=clk}) (clk+1) ⟨?_,?_,?_,?_⟩ ?_ ?_
     ·simp only[Array.toList_push,List.map_append,ann,List.map_nil,Option.isSome_none,amQ,if_false]
      exact hp1.append_right _
     ·intro e' he'
      rw[Array.toList_push,ane,List.mem_singleton]at he';rcases he' with q|q
      ·exact Nat.lt_succ_of_lt (hp2 e' q)
      ·subst q;exact am9 _
     ·rw[Array.toList_push,List.map_append]
      refine List.nodup_append.2 ⟨hp3,by simp,fun a ha b hb=>?_⟩;simp only[ann,List.map_nil,List.mem_singleton]at hb;subst hb;obtain⟨e',he',q⟩:=amN.1 ha;have:=hp2 e' he';omega
     ·simp only[Option.isSome_none,amQ,if_false,List.map_append]
      refine List.nodup_append.2 ⟨hp4,by simp,fun a ha' b hb=>?_⟩;simp only[ann,List.map_nil,List.mem_singleton]at hb;subst hb;obtain⟨e',he',q⟩:=amN.1 ha';rw[<-q];exact oK ha h1 e' he'
     ·simp only[Option.isSome_none,amQ,if_false]
      intro p hp;rcases ane.1 hp with q|q
      ·exact hes p q
      ·rw[List.mem_singleton]at q;subst q;exact hx
     ·unfold Instr.mapUpdate
      simp only[amF,run_underlying hc ht,amz,run_getObj_map hob,run_checkKey hc hk hd,h3,amM,run_setObj_map hob]
   ·cases he
  ·cases he
 ·cases he
end
end
section
open Go Go.RowKit
variable [Sym]
section
variable (cx:Cx) (H:Heap) (nx:Nat)
def afc (ats:List TypeId)(args:List AV):Res:=
 match ats,args with
 |t::_,x::_=>match cx.ti t,x with
  |some {desc:=.slice _, ..},.lit (.slice none 0 0)=>some (.lit (.tuple #[]),H,nx)
  |some {desc:=.slice el, ..},.slice n o len _=>match cx.ti el,H.get n with
   |some i,some (.cells l T ex)=>
    bif Nat.beq len 0 then some (.lit (.tuple #[]),H,nx)else
    let xs:=qK i.zero.cells (len*i.zero.cells.size)
    bif Nat.blt n lim&&(Nat.ble (o+xs.length) l.length&&xs.all AV.one)then some (.lit (.tuple #[]),H.set n (.cells (aL l.toArray o xs).toList T ex),nx)else none
   |_,_=>none
  |_,_=>none
 |_,_=>none
end
section
variable {cx:Cx} {S:Nat->Prop} {w0 w:World} {E:Env} {D:Nat->Prop} {H H':Heap} {nx hi:Nat} {v:AV}
theorem aee {P:Program}(h:HW S w0 E D H w){n o:Nat}{l:List AV}{T:TypeId}{ex:Bool}(hn:H.get n=some (.cells l T ex))(hlim:n<lim){xs:List AV}(hv:∀u∈xs,u.In D)(ho:o+xs.length<=l.length)(h1:∀u∈xs,u.one=true):
 ∃w',(storeCells ⟨(E n).b,o,none⟩ (xs.map (aj E))).run P w= .ok () w'/\HW S w0 E D (H.set n (.cells (aL l.toArray o xs).toList T ex)) w':=by
 obtain⟨c,hb,hs,hl,hx,hcell⟩:=h.obj n _ hn;have hin:=(h.names n _ hn).2;obtain⟨w',hr,hb',hsz',e1,e2,e3,hk⟩:=lh (P:=P) (w:=w) (b:=(E n).b) (o:=o) (vs:=(xs.map (aj E))) (c:=c) hb (by simp;omega) (fun u hu=>by
  obtain⟨x,hx,rfl⟩:=amN.1 hu;exact wP E x (h1 x hx))
 refine⟨w',hr,?_⟩
 ·refine h.turn hlim hn ?_ hsz' e1 e2 e3 hk ?_
  ·intro u hu
   obtain⟨j,hj⟩:=List.getElem?_of_mem hu;rw[amV,aY _ _ _ _ (by simpa using ho)]at hj;split at hj
   ·exact hv u (amI hj)
   ·exact hin u (by simpa using Array.mem_of_getElem? hj)
  ·refine⟨_,hb',by rw[aC];exact hs,by rw[aC];simpa[aC]using hl,fun he=>by rw[aC];simpa[aC]using hx he,fun j u hj=>?_⟩
   rw[amV,aY _ _ _ _ (by simpa using ho)]at hj;rw[aY _ _ _ _ (by simp;omega)];simp only[am6];split at hj
   ·rename_i hh
    rw[if_pos hh,amP,hj];rfl
   ·rename_i hh
    rw[if_neg hh];exact hcell j u (by simpa using hj)
theorem afb (hc:CxOK cx)(h:HW S w0 E D H w){ats:List TypeId}{args:List AV}(he:afc cx H nx ats args=some (v,H',hi))(ty:TypeId):
 aA cx S w0 E D H w (do pure (.value (<-Builtin.clear_ ats.toArray ty (args.map (aj E)).toArray))) nx v H' hi:=by
 unfold afc at he;split at he
 ·rename_i t ts x xs0
  have h1:(t::ts).toArray[0]? =some t:=by simp
  have h2:(((x::xs0).map (aj E)).toArray)[0]? =some (aj E x):=by simp
  split at he
  ·rename_i el sz by' z ht
   cases he;refine aA.pure h ?_ trivial;unfold Builtin.clear_;simp only[h1,h2,amF,run_underlying hc ht,amz,aj,amM]
  ·rename_i el sz by' z n o len cap ht
   split at he
   ·rename_i i l T ex hel hn
    cases hl0:Nat.beq len 0 with
    |true=>
     rw[hl0]at he;cases he;have:len=0:=amE hl0;subst this;refine aA.pure h ?_ trivial;unfold Builtin.clear_;simp only[h1,h2,amF,run_underlying hc ht,amz,aj,amM]
    |false=>
     rw[hl0]at he;obtain⟨hb,he⟩:=ag (show (bif _ then _ else none)=some _ from he);cases he;simp only[amC,anh,Nat.ble_eq,amU]at hb;obtain⟨b1,b2,b3⟩:=hb;obtain⟨w',hr,hw⟩:=aee (P:=cx.P) h hn b1 (o:=o) qJ b2 b3;refine⟨am4 _,(Dom.refl _ _ _).set b1 (.inl ⟨_,hn⟩) _,E,w',.inl ?_,fun _ _=>rfl,hw.more DR.le,trivial⟩;have hz:(qK i.zero.cells (len*i.zero.cells.size)).map (aj E)=(Builtin.zeroCells i.zero.cells len).toList :=by
      have:=jh (E:=E) i.zero.cells (len*i.zero.cells.size);unfold Builtin.zeroCells;rw[<-this]
     rw[hz]at hr;have hne:len≠0:=fun e=>by subst e;cases hl0
     obtain⟨m,rfl⟩:=Nat.exists_eq_succ_of_ne_zero hne;unfold Builtin.clear_;simp only[h1,h2,amF,run_underlying hc ht,amz,aj,amM,bQ hc hel,hr]
   ·cases he
  ·cases he
 ·cases he
end
end
section
open Go Go.RowKit
variable [Sym]
section
variable (cx:Cx) (ρ:Operand->AV) (H:Heap) (nx:Nat)
def aij (args:List AV)(s:List Value->Sem Value):Res:=
 match uV args with
 |some vs=>match lD cx.P (s vs)with
  |some v=>some (.lit v,H,nx)
  |none=>none
 |none=>none
def opB (b:Builtin)(ats:List TypeId)(args:List AV):Res:=
 match b with
 | .len =>oLen cx H nx ats args
 | .append =>aaI cx H nx ats args
 | .clear =>afc cx H nx ats args
 | .max =>aij cx H nx args fun vs=>Builtin.max_ #[] 0 vs.toArray
 | .min =>aij cx H nx args fun vs=>Builtin.min_ #[] 0 vs.toArray
 |_=>none
def op1 (o:Op):Res:=
 match o with
 | .move x| .assign x=>some (ρ x,H,nx)
 | .pick c a b=>akY ρ H nx c a b
 | .alloc t=>afg cx H nx t
 | .box t x=>oNew H nx (ρ x).cells t
 | .build t ps=>afe cx ρ H nx t ps.toList
 | .buildSlice t n ps=>lI cx ρ H nx t n ps.toList
 | .load t x=>akZ cx ρ H nx t x
 | .store t x y=>ae3 cx ρ H nx t x y
 | .nilCheck x=>rM ρ H nx x
 | .binOp op t x y _=>match cx.rB op t (ρ x) (ρ y)with
  |some v=>some (v,H,nx)
  |none=>oBin cx ρ H nx op t x y
 | .unOp op _ x=>oUn cx ρ H nx op x
 | .convert s d x=>match cx.rC s d (ρ x)with
  |some v=>some (v,H,nx)
  |none=>qi cx ρ H nx s d x
 | .makeInterface t x=>iJ cx ρ H nx t x
 | .makeFunc f a b=>rO ρ H nx f a b
 | .makeSlice t l c=>nX cx ρ H nx t l c
 | .makeMap t r=>wR cx ρ H nx t r
 | .lookup t m k ok=>aaF cx ρ H nx t m k ok
 | .mapUpdate t m k x| .insert t m k x=>iU cx ρ H nx t m k x
 | .slice t x l h m=>ae5 cx ρ H nx t x l h m
 | .fieldAddr s x f=>og cx ρ H nx s x f
 | .field s x f=>afa cx ρ H nx s x f
 | .indexAddr t x i=>nZ cx ρ H nx t x i
 | .index t x i=>ae8 cx ρ H nx t x i
 | .extract x i=>wU ρ H nx x i
 | .call {callee:=.builtin b,args,argTypes}=>opB cx H nx b argTypes.toList (args.toList.map ρ)
 |_=>none
end
section
variable {cx:Cx} {S:Nat->Prop} {w0 w:World} {E:Env} {D:Nat->Prop} {H H':Heap} {nx hi:Nat} {ρ:Operand->AV} {r:Operand->Value} {v:AV}
theorem aA.of_run {sem sem':Sem Next}(hs:sem'.run cx.P w=sem.run cx.P w)(h:aA cx S w0 E D H w sem nx v H' hi):aA cx S w0 E D H w sem' nx v H' hi:=by
 obtain⟨h1,h2,E',w',h3,h4⟩:=h;refine⟨h1,h2,E',w',?_,h4⟩;rw[hs];exact h3
theorem ag4 (hr:∀x,r x=aj E (ρ x))(args:Array Operand):args.map r=((args.toList.map ρ).map (aj E)).toArray :=by
 apply Array.ext';simp only[Array.toList_map,List.map_map];exact List.map_congr_left fun o _=>hr o
theorem abQ (h:HW S w0 E D H w){args:List AV}{s:List Value->Sem Value}(he:aij cx H nx args s=some (v,H',hi)){t:Sem Value}(ht:∀vs,args.map (aj E)=vs->t=s vs):
 aA cx S w0 E D H w (do pure (.value (<-t))) nx v H' hi:=by
 unfold aij at he;split at he
 ·rename_i vs hvs
  split at he
  ·rename_i u hu
   cases he;refine aA.pure h ?_ trivial;rw[ht vs (jv hvs),amF,ji _ hu];rfl
  ·cases he
 ·cases he
theorem op1_ok (hc:CxOK cx)(h:HW S w0 E D H w){o:Oper}(hr:∀x,r x=aj E (ρ x))(hin:∀x,(ρ x).In D)(hn:∀n,nx<=n->n<hi->¬D n)(he:op1 cx ρ H nx o.op=some (v,H',hi)):aA cx S w0 E D H w (execOp r o) nx v H' hi:=by
 obtain⟨dst,op,ty,pos,after,guard⟩:=o;cases op<;>try (cases he;done)
 case move x=>cases he;exact aA.pure h (by rw[<-hr x];rfl) (hin x)
 case assign x=>cases he;exact aA.pure h (by rw[<-hr x];rfl) (hin x)
 case pick c a b=>exact aik h hr hin he
 case alloc t=>exact aff hc h hn he
 case box t x=>
  have:=ak1 (cx:=cx) h (hin x) hn he;rw[<-hr x]at this;exact this
 case build t ps=>exact afd hc h hr hin he
 case buildSlice t n ps=>exact uf hc h hr hin hn he
 case load t x=>exact ail hc h (hr x) he
 case store t x y=>exact ae2 hc h (hr x) (hr y) (hin y) he
 case nilCheck x=>exact yT h hr hin he
 case binOp op t x y yt=>
  have he':(match cx.rB op t (ρ x) (ρ y)with|some v=>some (v,H,nx)|none=>oBin cx ρ H nx op t x y)=some (v,H',hi):=he;split at he'
  ·rename_i u hu
   cases he';obtain⟨h1,h2⟩:=hc.rB _ _ _ _ _ hu;refine aA.pure h ?_ (h1 D);show (do pure (.value (<-(do eqGuard op t x y (r x) (r y);Go.binOp op t (r x) (r y)))):Sem Next).run cx.P w=_;rw[hr x,hr y,amF,h2 E x y w];rfl
  ·exact ak2 hc h hr he'
 case unOp op t x=>exact oUn_ok h hr he
 case convert s d x=>
  have he':(match cx.rC s d (ρ x)with|some v=>some (v,H,nx)|none=>qi cx ρ H nx s d x)=some (v,H',hi):=he;split at he'
  ·rename_i u hu
   cases he';obtain⟨h1,h2⟩:=hc.rC _ _ _ _ hu;refine aA.pure h ?_ (h1 D);show (do Pure.pure (.value (<-convert s d (r x))):Sem Next).run cx.P w=_;rw[hr x,amF,h2 E w];rfl
  ·exact aaH hc h hr hn he'
 case makeInterface t x=>exact nY hc h hr hin he
 case makeFunc f a b=>exact yU h hr hin he
 case makeSlice t l c=>exact wQ hc h hr hn he
 case makeMap t x=>exact aaE hc h hr hn he
 case lookup t m k ok=>exact ac2 hc h hr hin he
 case mapUpdate t m k x=>exact mR hc h hr hin he
 case insert t m k x=>exact mR hc h hr hin he
 case slice t x l hh m=>exact ae4 hc h hr hin he
 case fieldAddr s x f=>exact wT hc h hr hin he
 case field s x f=>exact ae9 hc h hr hin he
 case indexAddr t x i=>exact wS hc h hr hin he
 case index t x i=>exact ae7 hc h hr hin he
 case extract x i=>exact aaG h hr hin he
 case call c=>
  obtain⟨callee,args,ats⟩:=c;cases callee with
  |value f=>cases he
  |invoke a b=>cases he
  |builtin b=>
   have hargs:=ag4 hr args;have hain:∀u∈args.toList.map ρ,u.In D:=fun u hu=>by obtain⟨x,_,rfl⟩:=amN.1 hu;exact hin x
   have hsem:(execOp r ⟨dst,.call ⟨.builtin b,args,ats⟩,ty,pos,after,guard⟩).run cx.P w=(builtin b ats ty (args.map fun| .const _=>true|_=>false) (args.map r)).run cx.P w:=rfl;have he':opB cx H nx b ats.toList (args.toList.map ρ)=some (v,H',hi):=he;unfold opB at he';split at he'
   ·refine aA.of_run hsem ?_
    rw[hargs];exact ak0 hc h he' ty
   ·refine aA.of_run hsem ?_
    rw[hargs];exact ac3 hc h hain hn he' ty
   ·refine aA.of_run hsem ?_
    rw[hargs];exact afb hc h he' ty
   ·refine aA.of_run hsem ?_
    rw[hargs];exact abQ h he' fun vs e=>by rw[<-e];rfl
   ·refine aA.of_run hsem ?_
    rw[hargs];exact abQ h he' fun vs e=>by rw[<-e];rfl
   ·cases he'
end
end
section
open Go Go.RowKit
variable [Sym]
def ui {β:Type}(n:Nat)(k:Nat->β):β:=match n with
 |0=>k 0
 |m+1=>k (m+1)
theorem dG {β:Type}(n:Nat)(k:Nat->β):ui n k=k n:=by cases n<;>rfl
def fInt {β:Type}(z:Int)(k:Int->β):β:=match z with
 | .ofNat n=>ui n fun m=>k (.ofNat m)
 | .negSucc n=>ui n fun m=>k (.negSucc m)
theorem alO {β:Type}(z:Int)(k:Int->β):fInt z k=k z:=by
 cases z<;>simp only[fInt,dG]
def fBs {β:Type}:List UInt8->(List UInt8->β)->β
 | [],k=>k []
 |b::l,k=>ui b.toNat fun n=>fBs l fun l'=>k (UInt8.ofNat n::l')
theorem aj4 {β:Type}:∀(l:List UInt8) (k:List UInt8->β),fBs l k=k l
 | [],k=>rfl
 |b::l,k=>by rw[fBs,dG,aj4 l];simp
def fVal {β:Type}(v:Value)(k:Value->β):β:=match v with
 | .int j z=>fInt z fun z=>k (.int j z)
 | .bool b=>match b with
  |true=>k (.bool true)
  |false=>k (.bool false)
 | .string ⟨⟨l⟩⟩=>fBs l fun l=>k (.string ⟨⟨l⟩⟩)
 |v=>k v
theorem afV {β:Type}(v:Value)(k:Value->β):fVal v k=k v:=by
 unfold fVal;split
 ·rw[alO]
 ·split<;>rfl
 ·rw[aj4]
 ·rfl
mutual
def fAV {β:Type}:AV->(AV->β)->β
 | .lit v,k=>fVal v fun v=>k (.lit v)
 | .ptr n o,k=>ui n fun n=>ui o fun o=>k (.ptr n o)
 | .slice n o len c,k=>ui n fun n=>ui o fun o=>ui len fun len=>match c with
  | .ex m=>ui m fun m=>k (.slice n o len (.ex m))
  | .rest m=>ui m fun m=>k (.slice n o len (.rest m))
 | .map n,k=>ui n fun n=>k (.map n)
 | .func f l,k=>ui f fun f=>aj5 l fun l=>k (.func f l)
 | .yield n,k=>ui n fun n=>k (.yield n)
 | .sym n,k=>ui n fun n=>k (.sym n)
 | .rptr n o,k=>ui n fun n=>ui o fun o=>k (.rptr n o)
 | .rsl n o,k=>ui n fun n=>ui o fun o=>k (.rsl n o)
 | .agg l,k=>aj5 l fun l=>k (.agg l)
 | .tup l,k=>aj5 l fun l=>k (.tup l)
 | .iface t v,k=>fAV v fun v=>k (.iface t v)
def aj5 {β:Type}:List AV->(List AV->β)->β
 | [],k=>k []
 |v::l,k=>fAV v fun v=>aj5 l fun l=>k (v::l)
end
mutual
theorem zJ {β:Type}:∀(v:AV) (k:AV->β),fAV v k=k v
 | .lit v,k=>by rw[fAV,afV]
 | .ptr n o,k=>by rw[fAV,dG,dG]
 | .slice n o len c,k=>by rw[fAV,dG,dG,dG];cases c<;>simp only[dG]
 | .map n,k=>by rw[fAV,dG]
 | .func f l,k=>by rw[fAV,dG,oL l]
 | .yield n,k=>by rw[fAV,dG]
 | .sym n,k=>by rw[fAV,dG]
 | .rptr n o,k=>by rw[fAV,dG,dG]
 | .rsl n o,k=>by rw[fAV,dG,dG]
 | .agg l,k=>by rw[fAV,oL l]
 | .tup l,k=>by rw[fAV,oL l]
 | .iface t v,k=>by rw[fAV,zJ v]
theorem oL {β:Type}:∀(l:List AV) (k:List AV->β),aj5 l k=k l
 | [],k=>rfl
 |v::l,k=>by rw[aj5,zJ v,oL l]
end
theorem wG {α:Type}{a:α}:∀(f:Nat) (t:Tr α) (n:Nat),t.get n=some a->Tr.put f t n (some a)=t
 |0,t,n,h=>rfl
 |f+1,.leaf,n,h=>by cases h
 |f+1,.node l v r,n,h=>by
  rw[Tr.get]at h;rw[Tr.put];cases h1:Nat.beq n 0 with
  |true=>rw[h1]at h;cases h;rfl
  |false=>
   rw[h1]at h;cases h2:Nat.beq (Nat.mod n 2) 1 with
   |true=>rw[h2]at h;show Tr.node (Tr.put f l _ _) v r=_;rw[wG f l _ h]
   |false=>rw[h2]at h;show Tr.node l v (Tr.put f r _ _)=_;rw[wG f r _ h]
def fH {β:Type}(H:Heap):List Nat->(Heap->β)->β
 | [],k=>k H
 |n::ns,k=>match H.get n with
  |some (.cells l T ex)=>aj5 l fun l=>fH (H.set n (.cells l T ex)) ns k
  |_=>fH H ns k
theorem alP {β:Type}:∀(ns:List Nat) (H:Heap) (k:Heap->β),fH H ns k=k H
 | [],H,k=>rfl
 |n::ns,H,k=>by
  rw[fH];split
  ·rename_i l T ex h
   rw[oL,show H.set n (.cells l T ex)=H from wG 24 H n h,alP ns]
  ·rw[alP ns]
def touch (ρ:Operand->AV)(o:Op)(v:AV):List Nat:=
 match o with
 | .store _ x _=>match ρ x with
  | .ptr n _=>[n]
  |_=>[]
 | .alloc _| .box .. | .buildSlice .. | .makeSlice .. | .call {callee:=.builtin _, ..}=>match v with
  | .ptr n _| .slice n _ _ _=>[n]
  |_=>[]
 |_=>[]
def fRes (ρ:Operand->AV)(o:Op)(x:Res):Res:=
 match x with
 |some (v,H,nx)=>fAV v fun v=>ui nx fun nx=>fH H (touch ρ o v) fun H=>some (v,H,nx)
 |none=>none
theorem afW (ρ:Operand->AV)(o:Op)(x:Res):fRes ρ o x=x:=by
 unfold fRes;split
 ·rw[zJ,dG,alP]
 ·rfl
end
section
open Go Go.RowKit
variable [Sym]
abbrev bZ:=AV->List AV->Heap->Nat->Res
def fence:Option Nat->Fence
 |none=>Fence.wide
 |some l=>Fence.wide.inRound l
theorem jy (r:Option Nat)(f:FuncId):(fence r).fn f:=by cases r<;>trivial
theorem lS (r:Option Nat):(fence r).depth =none:=by cases r<;>rfl
def akg (P:Program)(ro:Option Nat)(fv:Value)(args:Array Value)(w:World)(R:Value->World->Prop):Prop:=
 ∃nx,(do let d<-Deferred.ofValue fv args;invoke d.target d.args:Sem Next).run P w= .ok nx w/\match nx with
  | .enter f as=>CallsIn (fence ro) 0 P f as w fun e w'=>∃v,e= .returned v/\R v w'
  | .round l f tmps assign body=>RoundIn (fence ro) 0 P l f tmps assign body w fun e w'=>∃v,e= .returned v/\R v w'
  | .value u=>R u w
  |_=>False
def acD (cx:Cx)(S:Nat->Prop)(w0:World)(cf:bZ):Prop:=
 ∀(ro:Option Nat) (fv:AV) (args:List AV) (H:Heap) (nx:Nat) (v:AV) (H':Heap) (hi:Nat),cf fv args H nx=some (v,H',hi)->
  ∀(E:Env) (D:Nat->Prop) (w:World),HW S w0 E D H w->fv.In D->(∀u∈args,u.In D)->(∀n,nx<=n->n<hi->¬D n)->
   nx<=hi/\akg cx.P ro (aj E fv) (args.map (aj E)).toArray w fun u w'=>Dom H H' nx hi/\∃E',u=aj E' v/\(∀n,D n->E' n=E n)/\HW S w0 E' (DR D nx hi) H' w'/\v.In (DR D nx hi)
def bU (cx:Cx)(G:World->Prop)(cf:bZ):Prop:=∀(S:Nat->Prop) (w0:World),(∀w,Fr S w0 w->G w)->acD cx S w0 cf
def opX (cx:Cx)(cf:bZ)(ρ:Operand->AV)(H:Heap)(nx:Nat)(o:Op):Res:=
 fRes ρ o (match o with
 | .call {callee:=.value f,args, ..}=>fAV (ρ f) fun fv=>aj5 (args.toList.map ρ) fun as=>cf fv as H nx
 |o=>op1 cx ρ H nx o)
section
variable {cx:Cx} {S:Nat->Prop} {w0 w:World} {E:Env} {D:Nat->Prop} {H H':Heap} {nx hi:Nat} {v:AV} {cf:bZ}
theorem aaD {ρ:Operand->AV}{o:Op}{x:AV×Heap×Nat}(he:op1 cx ρ H nx o=some x)(c:Call):o≠ .defer c:=by
 intro e;subst e;cases he
theorem wO (hc:CxOK cx)(hcf:acD cx S w0 cf)(h:HW S w0 E D H w){o:Oper}{a:Act}{ρ:Operand->AV}{r:Operand->Value}(hx:execOp a.eval o=execOp r o)(hr:∀x,r x=aj E (ρ x))(hin:∀x,(ρ x).In D)(hn:∀n,nx<=n->n<hi->¬D n)
 (he:opX cx cf ρ H nx o.op=some (v,H',hi)) {ro:Option Nat} {next:Act->World->Prop} {Q:Exit->Act->World->Prop}
 (K:nx<=hi->Dom H H' nx hi->∀E' w',(∀n,D n->E' n=E n)->HW S w0 E' (DR D nx hi) H' w'->v.In (DR D nx hi)->next (a.put o.dst (aj E' v)) w'):o.wpIn (fence ro) 0 cx.P a w next Q:=by
 obtain⟨dst,op,ty,pos,after,guard⟩:=o;have gen:op1 cx ρ H nx op=some (v,H',hi)->Oper.wpIn (fence ro) 0 cx.P ⟨dst,op,ty,pos,after,guard⟩ a w next Q:=by
  intro he1;obtain⟨h1,hd,E',w',h2,h3,h4,h5⟩:=op1_ok (o:=⟨dst,op,ty,pos,after,guard⟩) hc h hr hin hn he1;refine⟨fun f _=>jy ro f,?_⟩;rw[Oper.semAt_eq _ _ _ (aaD he1),hx];rcases h2 with h2|⟨h2,e⟩
  ·rw[h2,Oper.uponIn_value]
   exact K h1 hd E' w' h3 h4 h5
  ·rw[h2,Oper.uponIn_skip]
   subst e;exact K h1 hd E' w' h3 h4 h5
 unfold opX at he;rw[afW]at he;split at he
 ·rename_i f args ats heq
  dsimp only at heq;subst heq;rw[zJ,oL]at he;have hain:∀u∈args.toList.map ρ,u.In D:=fun u hu=>by obtain⟨x,_,rfl⟩:=amN.1 hu;exact hin x
  obtain⟨h1,nxt,hrun,hpost⟩:=hcf ro _ _ _ _ _ _ _ he E D w h (hin f) hain hn;refine⟨fun f _=>jy ro f,?_⟩;rw[Oper.semAt_eq _ _ _ (by intro c e;cases e),hx];have hsem:(execOp r ⟨dst,.call ⟨.value f,args,ats⟩,ty,pos,after,guard⟩).run cx.P w= .ok nxt w:=by
   rw[<-hrun, <-ag4 hr args, <-hr f];rfl
  rw[hsem];cases nxt with
  |enter g as=>
   rw[Oper.uponIn_enter];refine⟨fun hd=>(by rw[lS]at hd;cases hd),CallsIn.mono hpost ?_⟩;rintro e w' ⟨u,rfl,hd,E',rfl,e1,e2,e3⟩;exact K h1 hd E' w' e1 e2 e3
  |round l g tmps assign body=>
   rw[Oper.uponIn_round];refine⟨fun hd=>(by rw[lS]at hd;cases hd),RoundIn.mono hpost ?_⟩;rintro e w' ⟨u,rfl,hd,E',rfl,e1,e2,e3⟩;exact K h1 hd E' w' e1 e2 e3
  |value u=>
   rw[Oper.uponIn_value];obtain⟨hd,E',rfl,e1,e2,e3⟩:=hpost;exact K h1 hd E' w e1 e2 e3
  |_=>exact hpost.elim
 ·exact gen he
end
structure FSt where
 tm:Tr AV
 H:Heap
 nx:Nat
def yA (ops:Array Oper)(tm:Tr AV)(j:Nat):Option Bool:=
 match (ops[j]?).bind (·.dst)with
 |some d=>match tm.get d with
  |some (.lit (.bool b))=>some b
  |_=>none
 |none=>none
def tQ (ops:Array Oper)(tm:Tr AV)(g:Option (Nat×Bool)):Bool:=
 match g with
 |none=>true
 |some (j,b)=>match yA ops tm j with
  |some c=>c==b
  |none=>false
def ahn (nt:Nat)(tm:Tr AV)(dst:Option Tmp)(v:AV):Option (Tr AV):=
 match dst with
 |none=>some tm
 |some d=>bif Nat.blt d nt&&Nat.blt d lim then some (tm.set d v)else none
def fF (ops:Array Oper)(o:Oper):List Nat:=
 (match o.guard with
  |some (j,_)=>((ops[j]?).bind (·.dst)).toList
  |none=>[])++o.op.operands.toList.filterMap fun| .tmp t=>some t|_=>none
def uu (cx:Cx)(cf:bZ)(nt:Nat)(ops:Array Oper)(st:FSt)(o:Oper):Option FSt:=
 bif (fF ops o).all fun t=>(st.tm.get t).isSome then
 bif tQ ops st.tm o.guard then
  match opX cx cf (ev st.tm) st.H st.nx o.op with
  |some (v,H',nx')=>bif Nat.ble st.nx nx' then(match ahn nt st.tm o.dst v with
   |some tm'=>some ⟨tm',H',nx'⟩
   |none=>none)else none
  |none=>none
 else match ahn nt st.tm o.dst (.lit undef)with
  |some tm'=>some ⟨tm',st.H,st.nx⟩
  |none=>none
 else none
def uE (cx:Cx)(cf:bZ)(nt:Nat)(ops:Array Oper):List Oper->FSt->Option FSt
 | [],st=>some st
 |o::l,st=>match uu cx cf nt ops st o with
  |some st'=>uE cx cf nt ops l st'
  |none=>none
structure Rel (S:Nat->Prop) (w0:World) (nt:Nat) (E:Env) (D:Nat->Prop) (st:FSt) (tmps:Array Value) (w:World):Prop where
 hw:HW S w0 E D st.H w
 tm:TM E nt st.tm tmps
 tin:TIn D st.tm
def vN (D:Nat->Prop)(lo hi:Nat):Prop:=∀n,lo<=n->n<hi->¬D n
theorem vN.mono {D:Nat->Prop}{lo hi lo' hi':Nat}(h:vN D lo hi)(h1:lo<=lo')(h2:hi'<=hi):vN D lo' hi':=fun n a b=>h n (amG h1 a) (amS b h2)
theorem vN.next {D:Nat->Prop}{lo mi hi:Nat}(h:vN D lo hi)(h1:lo<=mi):vN (DR D lo mi) mi hi:=fun n a b c=>by
 rcases c with c|c
 ·exact h n (amG h1 a) b c
 ·exact absurd c.2 (Nat.not_lt.2 a)
theorem DR.trans {D:Nat->Prop}{lo mi hi:Nat}(h1:lo<=mi)(h2:mi<=hi):∀n,DR (DR D lo mi) mi hi n->DR D lo hi n:=fun n h=>by
 rcases h with (h|h)|h
 ·exact .inl h
 ·exact .inr ⟨h.1,amS h.2 h2⟩
 ·exact .inr ⟨amG h1 h.1,h.2⟩
section
variable {cx:Cx} {S:Nat->Prop} {w0 w:World} {E:Env} {D:Nat->Prop} {cf:bZ} {nt:Nat} {ops:Array Oper} {st st':FSt}
theorem abv {tm tm':Tr AV}{dst:Option Tmp}{v:AV}{a:Act}(h:TM E nt tm a.tmps)(hp:ahn nt tm dst v=some tm'):TM E nt tm' (a.put dst (aj E v)).tmps :=by
 cases dst with
 |none=>cases hp;exact h
 |some d=>
  obtain⟨hb,hp⟩:=ag hp;cases hp;simp only[amC,anh]at hb;refine⟨by simp[Act.put,h.1],fun i u hu=>?_⟩;simp only[Act.put];rw[aZ hb.2]at hu;by_cases e:i=d
  ·subst e
   rw[if_pos rfl]at hu;cases hu;have:i<a.tmps.size:=by rw[h.1];exact hb.1
   simp[Array.getD,this]
  ·rw[if_neg e]at hu
   rw[<-h.2 i u hu];have e':¬d=i:=fun x=>e x.symm
   simp only[Array.getD_eq_getD_getElem?,Array.getElem?_setIfInBounds_ne e']
theorem vW {tm tm':Tr AV}{dst:Option Tmp}{v:AV}(h:TIn D tm)(hv:v.In D)(hp:ahn nt tm dst v=some tm'):TIn D tm':=by
 cases dst with
 |none=>cases hp;exact h
 |some d=>
  obtain⟨hb,hp⟩:=ag hp;cases hp;simp only[amC,anh]at hb;intro i u hu;rw[aZ hb.2]at hu;split at hu
  ·cases hu;exact hv
  ·exact h i u hu
theorem TIn.mono {D':Nat->Prop}(h:∀n,D n->D' n){tm:Tr AV}(ht:TIn D tm):TIn D' tm:=fun i v hv=>Ev.In.mono h v (ht i v hv)
def yv:Value->Option Bool
 | .bool b=>some b
 |_=>none
theorem akh (tmps:Array Value)(d:Nat):(match tmps[d]? with|some (.bool b)=>some b|_=>none)=yv (tmps.getD d undef):=by
 rw[Array.getD_eq_getD_getElem?];cases tmps[d]? with
 |none=>rfl
 |some v=>cases v<;>rfl
theorem aki (E:Env)(v:AV):yv (aj E v)=(match v with| .lit (.bool b)=>some b|_=>none):=by
 cases v with
 |lit x=>cases x<;>rfl
 |sym n=>show yv (Sym.val n).v =none;cases Sym.val n<;>rfl
 |_=>rfl
theorem qO {tm:Tr AV}{tmps:Array Value}{o:Oper}(h:∀t∈fF ops o,∃v,tm.get t=some v/\tmps.getD t undef=aj E v):Region.wanted o (yielded ops tmps)=tQ ops tm o.guard:=by
 unfold Region.wanted tQ;cases hg:o.guard with
 |none=>rfl
 |some p=>
  obtain⟨j,b⟩:=p;have hy:yielded ops tmps j=yA ops tm j:=by
   unfold yielded yA;cases hd:(ops[j]?).bind (·.dst)with
   |none=>rfl
   |some d=>
    simp only[Option.bind_some];have hm:d∈fF ops o:=by
     unfold fF;rw[hg];exact List.mem_append_left _ (by simp[hd])
    obtain⟨v,h1,h2⟩:=h d hm;rw[h1];refine((akh tmps d).trans (congrArg yv h2)).trans ((aki E v).trans ?_);cases v with
    |lit x=>cases x<;>rfl
    |_=>rfl
  simp only[hy];cases yA ops tm j with
  |none=>rfl
  |some c=>cases c<;>cases b<;>rfl
theorem eU {o:Oper}{t:Nat}(h:Operand.tmp t∈o.op.operands):t∈fF ops o:=by
 unfold fF;refine List.mem_append_right _ (List.mem_filterMap.2 ⟨.tmp t,by simpa using h,rfl⟩)
theorem Rel.more {D':Nat->Prop}{tmps:Array Value}(h:Rel S w0 nt E D st tmps w)(hd:∀n,D n->D' n):Rel S w0 nt E D' st tmps w:=⟨h.hw.more hd,h.tm,TIn.mono hd h.tin⟩
theorem lq {o:Oper}(he:uu cx cf nt ops st o=some st'):st.nx<=st'.nx:=by
 unfold uu at he;replace he:=(ag he).2;cases hw:tQ ops st.tm o.guard with
 |true=>
  rw[hw]at he;simp only[cond_true]at he;split at he
  ·rename_i v H' nx' hop
   obtain⟨hb,he⟩:=ag he;split at he
   ·cases he;exact Nat.le_of_ble_eq_true hb
   ·cases he
  ·cases he
 |false=>
  rw[hw]at he;simp only[cond_false]at he;split at he
  ·cases he;exact am4 _
  ·cases he
theorem yj (hc:CxOK cx)(hcf:acD cx S w0 cf){o:Oper}{a:Act}(h:Rel S w0 nt E D st a.tmps w)(he:uu cx cf nt ops st o=some st')(hf:vN D st.nx st'.nx){ro:Option Nat}{i:Nat}(hi:ops[i]? =some o)
 {K:Act->World->Prop} {Q:Exit->Act->World->Prop} (hK:Dom st.H st'.H st.nx st'.nx->∀E' a' w',a'.defers=a.defers->(∀n,D n->E' n=E n)->Rel S w0 nt E' (DR D st.nx st'.nx) st' a'.tmps w'->K a' w'):
 wpOpIn (fence ro) 0 cx.P ops Q i K a w:=by
 unfold wpOpIn;simp only[hi];unfold uu at he;have hpr:=(ag he).1;replace he:=(ag he).2;have hpres:∀t∈fF ops o,(st.tm.get t).isSome =true:=amU.1 hpr;rw[qO (E:=E) (fun t ht=>⟨_,dJ (hpres t ht),h.tm.2 t _ (dJ (hpres t ht))⟩)];cases hw:tQ ops st.tm o.guard with
 |true=>
  rw[hw]at he;simp only[if_true];simp only[cond_true]at he;split at he
  ·rename_i v H' nx' hop
   obtain⟨hb,he⟩:=ag he;split at he
   ·rename_i tm' hp
    cases he;refine wO hc hcf h.hw (r:=fun x=>aj E (ev st.tm x)) (execOp_congr o (fun cs b e=>by rw[e]at hop;cases hop) (fun x hx=>aa1 h.tm x (fun t e=>by subst e;exact hpres t (eU hx)))) (fun _=>rfl) (fun x=>alT h.tin x) hf hop (fun h1 hd E' w' e1 e2 e3=>hK hd E' _ w' ?_ e1 ?_)
    ·cases o.dst<;>rfl
    ·exact⟨e2,abv (iA (D:=D) e1 h.tin h.tm) hp,vW (TIn.mono DR.le h.tin) e3 hp⟩
   ·cases he
  ·cases he
 |false=>
  rw[hw]at he;simp only[amQ,if_false];simp only[cond_false]at he;split at he
  ·rename_i tm' hp
   cases he;refine⟨fun f _=>jy ro f,hK (Dom.refl _ _ _) E _ w ?_ (fun _ _=>rfl) (Rel.more ⟨h.hw,abv h.tm hp,vW h.tin (show AV.In _ (.lit undef)from trivial) hp⟩ DR.le)⟩;cases o.dst<;>rfl
  ·cases he
theorem lC:∀(l:List Oper) (st:FSt),uE cx cf nt ops l st=some st'->st.nx<=st'.nx
 | [],st,he=>by cases he;exact am4 _
 |o::l,st,he=>by
  unfold uE at he;split at he
  ·rename_i st1 h1
   exact amG (lq h1) (lC l st1 he)
  ·cases he
theorem yE (hc:CxOK cx)(hcf:acD cx S w0 cf){ro:Option Nat}{Q:Exit->Act->World->Prop}:∀(l:List Oper) (k:Nat) (st:FSt) (E:Env) (D:Nat->Prop) (a:Act) (w:World),(∀j,l[j]? =ops[k+j]?)->Rel S w0 nt E D st a.tmps w->uE cx cf nt ops l st=some st'->vN D st.nx st'.nx->
 (Dom st.H st'.H st.nx st'.nx->∀E' a' w',a'.defers=a.defers->(∀n,D n->E' n=E n)->Rel S w0 nt E' (DR D st.nx st'.nx) st' a'.tmps w'->Q .normal a' w')->wpOpsIn (fence ro) 0 cx.P ops Q (List.range' k l.length) a w
 | [],k,st,E,D,a,w,hl,h,he,hf,hQ=>by
  cases he;exact hQ (Dom.refl _ _ _) E a w rfl (fun _ _=>rfl) (h.more DR.le)
 |o::l,k,st,E,D,a,w,hl,h,he,hf,hQ=>by
  unfold uE at he;split at he
  ·rename_i st1 h1
   have m1:=lq h1;have m2:=lC l st1 he;rw[amT,List.range'_succ,wpOpsIn_cons];refine yj hc hcf h h1 (hf.mono ano m2) (by have:=hl 0;simpa using this.symm) (fun hd E1 a1 w1 ed e1 hr1=>?_);refine yE hc hcf l (k+1) st1 E1 _ a1 w1 (fun j=>by have:=hl (j+1);rw[List.getElem?_cons_succ]at this;rw[this];congr 1;omega) hr1 he (hf.next m1) (fun hd2 E2 a2 w2 ed2 e2 hr2=>?_);exact hQ (Dom.trans m1 m2 hd hd2) E2 a2 w2 (ed2.trans ed) (fun n hn=>(e2 n (.inl hn)).trans (e1 n hn)) (hr2.more (DR.trans m1 m2))
  ·cases he
end
end
end Go.Proofs.Q.Ev
