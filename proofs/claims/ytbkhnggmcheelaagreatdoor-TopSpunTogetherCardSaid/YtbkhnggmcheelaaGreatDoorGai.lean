/- TopSpunTogether: Regions that leave their order open and lay new blocks. Conditions: bounded sizes; variables as laid. -/
import Derived.Test.YtbkhnggmcheelaaGreatDoorGah
set_option linter.unusedSimpArgs false
set_option linter.unusedVariables false
set_option maxHeartbeats 4000000
set_option maxRecDepth 100000
namespace Go.Proofs.YtbkhnggmcheelaaGreatDoor
open Proofs.Tryz
section
open Go.RowKit
def nI (P:Program)(v:World)(x:Value):Result Next->Prop
 | .ok (.value u) v'=>v'=v/\u=x
 | .ok .skip v'=>v'=v/\x=undef
 | .ok (.enter f args) v'=>v'=v/\Calls P f args v (fun e v''=>e= .returned x/\Below v.heap.size v v'')
 |_=>False
def Calm (P:Program)(w:World)(o:Oper)(a:Act)(x:Value):Prop:=∀u:Kept w,nI P u.W x ((execOp a.eval o).run P u.W)
def ptrTo (b:Nat):Value:=.pointer (some ⟨b,0,none⟩)
def eP (ops:Array Oper)(i:Nat):Option Tmp:=(ops[i]?).bind (·.dst)
def xe (ops:Array Oper)(i:Nat):List Tmp:=match ops[i]? with|some o=>o.looksAt ops|none=>[]
def afO (ops:Array Oper)(n:Nat)(ks:List Nat):Bool:=
 ((List.range n).all fun i=>(eP ops i).isSome &&(List.range n).all fun j=>i==j||eP ops i !=eP ops j)&&
 ((List.range n).all fun i=>ks.contains i||ks.all fun k=>match eP ops k with|some d=> !(xe ops i).contains d|none=>true)
section
variable {P:Program} {ops:Array Oper} {w:World} {ks:List Nat} {val:Nat->Value} {md:Region.Mode}
def abP (ops:Array Oper)(o:Oper)(a:Act)(x:Value):Value:=if Region.wanted o (yielded ops a.tmps)then x else undef
def jO (P:Program)(ops:Array Oper)(w:World)(ks:List Nat)(val:Nat->Value)(i:Nat)(K:Act->Prop)(a:Act):Prop:=
 match ops[i]? with
 |none=>K a
 |some o=>if i∈ks then∀b,w.heap.size<=b->K (a.put o.dst (ptrTo b))else(Region.wanted o (yielded ops a.tmps)=true->Calm P w o a (val i))/\K (a.put o.dst (abP ops o a (val i)))
theorem vg {i:Nat}{a:Act}{K K':Act->Prop}(h:∀a,K a->K' a)(hh:jO P ops w ks val i K a):jO P ops w ks val i K' a:=by
 unfold jO at*
 cases ho:ops[i]? with
 |none=>rw[ho]at hh;exact h _ hh
 |some o=>
  rw[ho]at hh;simp only at hh⊢
  split
  ·rename_i hk;rw[if_pos hk]at hh;exact fun b hb=>h _ (hh b hb)
  ·rename_i hk;rw[if_neg hk]at hh;exact⟨hh.1,h _ hh.2⟩
theorem nH {o:Oper}{a:Act}{x v:Value}{dst:Option Tmp}(hs:∀cs b,o.op≠ .select cs b)(h:∀d,dst=some d->d∉o.looksAt ops):Calm P w o (a.put dst v) x↔Calm P w o a x:=by
 unfold Calm;rw[execOp_put o hs a dst v h]
theorem qg {o:Oper}{a:Act}{x v:Value}{dst:Option Tmp}(h:∀d,dst=some d->d∉o.looksAt ops):abP ops o (a.put dst v) x=abP ops o a x:=by
 unfold abP;rw[wanted_put o a dst v h]
theorem alJ {i j:Nat}{oi oj:Oper}(hj:ops[j]? =some oj)(hap:oi.apart ops oj=true)(hsi:∀cs b,oi.op≠ .select cs b)(hsj:∀cs b,oj.op≠ .select cs b){K:Act->Prop}{a:Act}
 (hy:Region.wanted oi (yielded ops a.tmps)=true->Calm P w oi a (val i)) (h:jO P ops w ks val j K (a.put oi.dst (abP ops oi a (val i)))):
 jO P ops w ks val j (fun a'=>(Region.wanted oi (yielded ops a'.tmps)=true->Calm P w oi a' (val i))/\K (a'.put oi.dst (abP ops oi a' (val i)))) a:=by
 obtain⟨h1,h2,h3⟩:=Oper.apart_spec hap;unfold jO at*
 rw[hj]at h⊢
 simp only at h⊢
 split
 ·rename_i hk
  rw[if_pos hk]at h;intro b hb;refine⟨?_,?_⟩
  ·rw[wanted_put oi a oj.dst _ h3,nH hsi h3];exact hy
  ·rw[qg h3, <-Act.put_comm a _ _ h2];exact h b hb
 ·rename_i hk
  rw[if_neg hk]at h;rw[wanted_put oj a oi.dst _ h1,nH hsj h1,qg h1]at h;refine⟨h.1,?_,?_⟩
  ·rw[wanted_put oi a oj.dst _ h3,nH hsi h3];exact hy
  ·rw[qg h3, <-Act.put_comm a _ _ h2];exact h.2
theorem alK {j:Nat}{oi oj:Oper}(hj:ops[j]? =some oj)(hap:oi.apart ops oj=true)(hsj:∀cs b,oj.op≠ .select cs b){K:Act->Prop}{a:Act}
 (h:∀b,w.heap.size<=b->jO P ops w ks val j K (a.put oi.dst (ptrTo b))):jO P ops w ks val j (fun a'=>∀b,w.heap.size<=b->K (a'.put oi.dst (ptrTo b))) a:=by
 obtain⟨h1,h2,h3⟩:=Oper.apart_spec hap;unfold jO at*
 rw[hj];simp only[hj]at h⊢
 split
 ·rename_i hk
  intro b hb b' hb';have:=h b' hb';rw[if_pos hk]at this;rw[<-Act.put_comm a _ _ h2];exact this b hb
 ·rename_i hk
  have h0:=h _ ano;rw[if_neg hk,wanted_put oj a oi.dst _ h1,nH hsj h1]at h0;refine⟨h0.1,fun b hb=>?_⟩;have:=(by simpa only[if_neg hk]using h b hb:_/\_).2;rw[qg h1]at this;rw[<-Act.put_comm a _ _ h2];exact this
def dD (P:Program)(md:Region.Mode)(ops:Array Oper)(w:World)(ks:List Nat)(val:Nat->Value)(n:Nat)(L:Array Bool->Act->Prop):Nat->Array Bool->Act->Prop
 |0,s,a=>L s a
 |f+1,s,a=>Region.ready md ops s≠ []/\∀i∈Region.ready md ops s,i<n/\jO P ops w ks val i (dD P md ops w ks val n L f (s.setIfInBounds i true)) a
theorem dD.first {n i:Nat}{oi:Oper}{L:Array Bool->Act->Prop}(hi:ops[i]? =some oi)(hns:Region.noSelect ops=true)
 (hs:Region.sinkB md ops n=true) (hc:Region.chainB md ops n=true) (hn:n<ops.size) (hin:i<n)
 (hend:∀s a,L s a->∀j∈Region.ready md ops s,n<=j):
 ∀(f:Nat) (s:Array Bool) (a:Act),HeadInv md ops n s->
  (∀j oj,ops[j]? =some oj->j≠i->s.getD j true=false->(∀e∈oj.after,Region.binds md e=true->e.on≠i)->oi.apart ops oj=true)->
  i∈Region.ready md ops s->jO P ops w ks val i (dD P md ops w ks val n L f (s.setIfInBounds i true)) a->dD P md ops w ks val n L (f+1) s a:=by
 intro f
 induction f with
 |zero=>
  intro s a inv _ hr H;refine⟨List.ne_nil_of_mem hr,fun j hj=>?_⟩;have hlow:j<n:=Nat.lt_of_not_le fun h=>tail_waits hs hc hn inv _ i rfl hin (mem_ready.1 hr).1 j h hj
  refine⟨hlow,?_⟩;by_cases e:j=i
  ·subst e;exact H
  ·exfalso
   have hL:∃a',L (s.setIfInBounds i true) a':=by
    unfold jO at H;simp only[hi]at H;split at H
    ·exact⟨_,H _ ano⟩
    ·exact⟨_,H.2⟩
   obtain⟨a',hL⟩:=hL;exact absurd (hend _ _ hL j (ready_mono hj e)) (Nat.not_le_of_lt hlow)
 |succ f ih=>
  intro s a inv hfree hr H;have hun:=(mem_ready.1 hr).1;refine⟨List.ne_nil_of_mem hr,fun j hj=>?_⟩;have hlow:j<n:=Nat.lt_of_not_le fun h=>tail_waits hs hc hn inv _ i rfl hin hun j h hj
  refine⟨hlow,?_⟩;by_cases e:j=i
  ·subst e;exact H
  ·obtain⟨hju,oj,hoj,hall⟩:=mem_ready.1 hj
   have hno:∀x∈oj.after,Region.binds md x=true->x.on≠i:=by
    intro x hx hb hxi;have:=hall x hx hb;rw[hxi,getD_both hun]at this;cases this
   have hap:=hfree j oj hoj e hju hno;have hfree':∀k ok,ops[k]? =some ok->k≠i->(s.setIfInBounds j true).getD k true=false->(∀e∈ok.after,Region.binds md e=true->e.on≠i)->oi.apart ops ok=true:=by
    intro k ok hk hki hku hkn;refine hfree k ok hk hki ?_ hkn;by_cases hjk:j=k
    ·subst hjk;exact hju
    ·rwa[getD_set_ne true hjk]at hku
   have nsi:=fun cs b=>Region.noSelect_spec hns i oi cs b hi
   have nsj:=fun cs b=>Region.noSelect_spec hns j oj cs b hoj
   by_cases hk:i∈ks
   ·have H':∀b,w.heap.size<=b->dD P md ops w ks val n L (f+1) (s.setIfInBounds i true) (a.put oi.dst (ptrTo b)):=by
     unfold jO at H;simpa only[hi,if_pos hk]using H
    have step:=alK (K:=dD P md ops w ks val n L f ((s.setIfInBounds i true).setIfInBounds j true)) hoj hap nsj (fun b hb=>((H' b hb).2 j (ready_mono hj e)).2);refine vg (fun a' h3=>ih _ a' (inv.set hj hlow) hfree' (ready_mono hr (Ne.symm e)) ?_) step;rw[Array.setIfInBounds_comm _ _ e];unfold jO;simpa only[hi,if_pos hk]using h3
   ·have H':(Region.wanted oi (yielded ops a.tmps)=true->Calm P w oi a (val i))/\dD P md ops w ks val n L (f+1) (s.setIfInBounds i true) (a.put oi.dst (abP ops oi a (val i))):=by
     unfold jO at H;simpa only[hi,if_neg hk]using H
    have step:=alJ (i:=i) hoj hap nsi nsj H'.1 (H'.2.2 j (ready_mono hj e)).2;refine vg (fun a' h3=>ih _ a' (inv.set hj hlow) hfree' (ready_mono hr (Ne.symm e)) ?_) step;rw[Array.setIfInBounds_comm _ _ e];unfold jO;simpa only[hi,if_neg hk]using h3
def aaf (P:Program)(ops:Array Oper)(w:World)(ks:List Nat)(val:Nat->Value)(R:Act->Prop):List Oper->Nat->Act->Prop
 | [],_,a=>R a
 |o::rest,k,a=>if k∈ks then∀b,w.heap.size<=b->aaf P ops w ks val R rest (k+1) (a.put o.dst (ptrTo b))else(Region.wanted o (yielded ops a.tmps)=true->Calm P w o a (val k))/\aaf P ops w ks val R rest (k+1) (a.put o.dst (abP ops o a (val k)))
theorem dD.lex {n g:Nat}{R:Act->Prop}(hns:Region.noSelect ops=true)(hs:Region.sinkB md ops n=true)(hc:Region.chainB md ops n=true)(hn:n<ops.size):
 ∀(l:List Oper) (k:Nat) (s:Array Bool) (a:Act),(∀j,j<l.length->l[j]? =ops[k+j]?)->k+l.length=n->HeadInv md ops n s->(∀i,i<k->s.getD i false=true)->
 Region.lexHead md ops g l.length k s=true->aaf P ops w ks val R l k a->
 dD P md ops w ks val n (fun s' a'=>Region.seqB md ops g n s'=true/\(∀i,i<n->s'.getD i false=true)/\R a') l.length s a:=by
 intro l
 induction l with
 |nil=>
  intro k s a _ hk _ hset hB h;obtain rfl:k=n:=hk;exact⟨hB,hset,h⟩
 |cons o l ih=>
  intro k s a hl hk inv hset hB h;have h0:ops[k]? =some o:=(hl 0 (Nat.succ_pos _)).symm;rw[amT]at hk hB;rw[Region.lexHead,amC,amC]at hB;have hr:k∈Region.ready md ops s:=List.contains_iff_mem.1 hB.1.1;have hk2:k<s.size:=by rw[inv.size];omega
  have hset':∀i,i<k+1->(s.setIfInBounds k true).getD i false=true:=by
   intro i hi;by_cases e:i=k
   ·subst e;simp[hk2]
   ·rw[getD_set_ne false (Ne.symm e)];exact hset i (by omega)
  have nxt:∀a',aaf P ops w ks val R l (k+1) a'->dD P md ops w ks val n (fun s' a'=>Region.seqB md ops g n s'=true/\(∀i,i<n->s'.getD i false=true)/\R a') l.length (s.setIfInBounds k true) a':=by
   intro a' h';refine ih (k+1) _ _ (fun j hj=>?_) (by omega) (inv.set hr (by omega)) hset' hB.2 h';have:=hl (j+1) (by rw[amT];omega);rw[List.getElem?_cons_succ]at this;rw[this];congr 1;omega
  refine dD.first h0 hns hs hc hn (by omega) (fun s' a' h'=>seqB_ready h'.1) l.length s a inv (Region.free_spec h0 hB.1.2) hr ?_;unfold jO;rw[aaf]at h;simp only[h0];split
  ·rename_i hk';rw[if_pos hk']at h;exact fun b hb=>nxt _ (h b hb)
  ·rename_i hk';rw[if_neg hk']at h;exact⟨h.1,nxt _ h.2⟩
def abp (P:Program)(ops:Array Oper)(i:Nat)(zs:Array Value):Prop:=
 ∃o d T,ops[i]? =some o/\o.dst=some d/\o.guard=none/\∀(e:Operand->Value) (u:World),(execOp e o).run P u= .ok (.value (ptrTo u.heap.size)) (u.alloc (.cells zs T))
structure Blocks (ops:Array Oper) (w:World) (ks:List Nat) (zs:Nat->Array Value) (s:Array Bool) (a:Act) (v:World) (β:Nat->Nat):Prop where
 low:Below w.heap.size w v
 box:∀i∈ks,s.getD i false=true->∀d,eP ops i=some d->a.tmps.getD d undef=ptrTo (β i)/\Bx v (β i) (zs i)/\w.heap.size<=β i
 two:∀i∈ks,∀j∈ks,s.getD i false=true->s.getD j false=true->i≠j->β i≠β j
theorem abH (a:Act)(dst:Option Tmp)(v:Value):(a.put dst v).tmps.size =a.tmps.size:=by
 cases dst<;>simp[Act.put]
theorem wH {a:Act}{d:Tmp}{v:Value}(h:d<a.tmps.size):(a.put (some d) v).tmps.getD d undef=v:=by simp[Act.put,h]
theorem mP {a:Act}{d:Tmp}{dst:Option Tmp}{v:Value}(h:dst≠some d):(a.put dst v).tmps.getD d undef=a.tmps.getD d undef:=by
 cases dst with
 |none=>rfl
 |some x=>
  have:x≠d:=fun e=>h (by rw[e])
  simp[Act.put,Array.getElem?_setIfInBounds_ne this]
theorem dD.sound {n g N:Nat}{zs:Nat->Array Value}{L:Array Bool->Act->Prop}{Q:Exit->Act->World->Prop}
 (hks:∀k∈ks,k<n/\abp P ops k (zs k)) (hd:∀i j,i<n->j<n->i≠j->eP ops i≠eP ops j) (hN:∀i,i<n->∀d,eP ops i=some d->d<N)
 (hL:∀s a v β,Blocks ops w ks zs s a v β->L s a->wpAny P md ops Q g s a v):
 ∀(f:Nat) (s:Array Bool) (a:Act) (v:World) (β:Nat->Nat),a.tmps.size=N->s.size=ops.size->Blocks ops w ks zs s a v β->dD P md ops w ks val n L f s a->wpAny P md ops Q (f+g) s a v:=by
 intro f
 induction f with
 |zero=>intro s a v β _ _ hb h;rw[am5];exact hL s a v β hb h
 |succ f ih=>
  intro s a v β hsz hss hb h;rw[Nat.succ_add];refine⟨fun h0=>absurd h0 h.1,fun i hi=>?_⟩;obtain⟨hin,hf⟩:=h.2 i hi;obtain⟨hiu,oi,hoi,_⟩:=mem_ready.1 hi;have hdi:eP ops i=oi.dst:=by unfold eP;rw[hoi];rfl
  have keep:∀(v':World) (x:Value),i∉ks->Below v.heap.size v v'->Blocks ops w ks zs (s.setIfInBounds i true) (a.put oi.dst x) v' β:=by
   intro v' x hk hbv;have hne:∀k∈ks,k≠i:=fun k hkk e=>hk (e▸hkk)
   refine⟨hb.low.trans (hbv.mono hb.low.size),fun k hkk hl d hdk=>?_,fun k hkk j hjk h1 h2 hkj=>?_⟩
   ·rw[getD_set_ne false (Ne.symm (hne k hkk))]at hl
    obtain⟨e1,e2,e3⟩:=hb.box k hkk hl d hdk;refine⟨?_,e2.on hbv,e3⟩;rw[mP]
    ·exact e1
    ·rw[<-hdi, <-hdk];exact hd i k hin (hks k hkk).1 (Ne.symm (hne k hkk))
   ·rw[getD_set_ne false (Ne.symm (hne k hkk))]at h1
    rw[getD_set_ne false (Ne.symm (hne j hjk))]at h2;exact hb.two k hkk j hjk h1 h2 hkj
  have hsz':∀x,(a.put oi.dst x).tmps.size =N:=fun x=>by rw[abH];exact hsz
  have hss':(s.setIfInBounds i true).size =ops.size:=by rw[Array.size_setIfInBounds];exact hss
  unfold wpOp;rw[hoi];simp only;unfold jO at hf;simp only[hoi]at hf;by_cases hk:i∈ks
  ·rw[if_pos hk]at hf
   obtain⟨o,d,T,ho,hod,hg,hrun⟩:=(hks i hk).2;obtain rfl:o=oi:=anj (ho.symm.trans hoi);have hw:Region.wanted o (yielded ops a.tmps)=true:=by unfold Region.wanted;rw[hg]
   rw[if_pos hw];left;unfold Oper.wp;rw[hrun];simp only[Oper.upon];have hdl:d<a.tmps.size:=by rw[hsz];exact hN i hin d (by rw[hdi];exact hod)
   have hil:i<s.size:=by rw[hss];exact(amA.1 hoi).1
   refine ih _ _ _ (fun k=>if k=i then v.heap.size else β k) (hsz' _) hss' ?_ (hf v.heap.size hb.low.size);refine⟨hb.low.alloc hb.low.size _,fun k hkk hl d' hdk=>?_,fun k hkk j hjk h1 h2 hkj=>?_⟩
   ·by_cases e:k=i
    ·subst e
     rw[if_pos rfl];have:d'=d:=by rw[hdi,hod]at hdk;exact(anj hdk).symm
     subst this;refine⟨?_,Bx.new v _ _,hb.low.size⟩;rw[hod];exact wH hdl
    ·rw[if_neg e]
     rw[getD_set_ne false (Ne.symm e)]at hl;obtain⟨e1,e2,e3⟩:=hb.box k hkk hl d' hdk;refine⟨?_,e2.alloc _,e3⟩;rw[mP]
     ·exact e1
     ·rw[<-hdi, <-hdk];exact hd i k hin (hks k hkk).1 (Ne.symm e)
   ·have lt:∀k∈ks,k≠i->(s.setIfInBounds i true).getD k false=true->β k<v.heap.size:=by
     intro k hkk e hl;rw[getD_set_ne false (Ne.symm e)]at hl;obtain⟨o',d',T',ho',hod',_⟩:=(hks k hkk).2;exact(hb.box k hkk hl d' (by unfold eP;rw[ho'];exact hod')).2.1.lt
    by_cases e:k=i
    ·by_cases e2:j=i
     ·exact absurd (e.trans e2.symm) hkj
     ·rw[if_pos e,if_neg e2];exact Ne.symm (Nat.ne_of_lt (lt j hjk e2 h2))
    ·by_cases e2:j=i
     ·rw[if_neg e,if_pos e2];exact Nat.ne_of_lt (lt k hkk e h1)
     ·rw[if_neg e,if_neg e2]
      rw[getD_set_ne false (Ne.symm e)]at h1;rw[getD_set_ne false (Ne.symm e2)]at h2;exact hb.two k hkk j hjk h1 h2 hkj
  ·rw[if_neg hk]at hf
   split
   ·rename_i hw
    left;have hcm:=hf.1 hw ⟨v,hb.low⟩;have hK:=hf.2;unfold abP at hK;rw[if_pos hw]at hK;unfold Oper.wp;generalize (execOp a.eval oi).run P v=r at hcm⊢
    have hcm':nI P v (val i) r:=hcm;cases r with
    |ok nx v'=>
     cases nx<;>simp only[nI]at hcm'<;>simp only[Oper.upon]
     case value u=>
      obtain⟨e1,e2⟩:=hcm';rw[e1,e2];exact ih _ _ _ β (hsz' _) hss' (keep v _ hk (am3 _ _)) hK
     case skip=>
      obtain⟨e1,e2⟩:=hcm';rw[e1];rw[e2]at hK;exact ih _ _ _ β (hsz' _) hss' (keep v _ hk (am3 _ _)) hK
     case enter fi args=>
      obtain⟨e1,hc⟩:=hcm';rw[e1];exact hc.mono fun e w'' ⟨he,hw''⟩=>by subst he;exact ih _ _ _ β (hsz' _) hss' (keep w'' _ hk hw'') hK
    |halt x v'=>simp only[nI]at hcm'
   ·rename_i hw
    have hK:=hf.2;unfold abP at hK;rw[if_neg hw]at hK;exact ih _ _ _ β (hsz' _) hss' (keep v _ hk (am3 _ _)) hK
def ib (ks:List Nat):List Oper->Nat->List Oper
 | [],_=>[]
 |o::l,k=>if k∈ks then ib ks l (k+1)else o::ib ks l (k+1)
def yI (a:Act)(σ:List (Option Tmp×Value)):Act:=σ.foldl (fun a p=>a.put p.1 p.2) a
theorem ah7 {σ:List (Option Tmp×Value)}{dst:Option Tmp}{x:Value}:∀ {a:Act},(∀p∈σ,∀d,p.1=some d->dst≠some d)->(yI a σ).put dst x=yI (a.put dst x) σ:=by
 induction σ with
 |nil=>intro a _;rfl
 |cons p σ ih=>
  intro a h;show (yI (a.put p.1 p.2) σ).put dst x=yI ((a.put dst x).put p.1 p.2) σ;rw[ih (fun q hq=>h q (amL _ hq)),Act.put_comm a p.2 x (h p amJ)]
theorem aeM {σ:List (Option Tmp×Value)}{o:Oper}{x:Value}(hs:∀cs b,o.op≠ .select cs b):∀ {a:Act},(∀p∈σ,∀d,p.1=some d->d∉o.looksAt ops)->(Calm P w o (yI a σ) x↔Calm P w o a x):=by
 induction σ with
 |nil=>intro a _;rfl
 |cons p σ ih=>
  intro a h;show Calm P w o (yI (a.put p.1 p.2) σ) x↔_;rw[ih (fun q hq=>h q (amL _ hq)),nH hs (h p amJ)]
theorem rF {σ:List (Option Tmp×Value)}{o:Oper}:∀ {a:Act},(∀p∈σ,∀d,p.1=some d->d∉o.looksAt ops)->Region.wanted o (yielded ops (yI a σ).tmps)=Region.wanted o (yielded ops a.tmps):=by
 induction σ with
 |nil=>intro a _;rfl
 |cons p σ ih=>
  intro a h;show Region.wanted o (yielded ops (yI (a.put p.1 p.2) σ).tmps)=_;rw[ih (fun q hq=>h q (amL _ hq)),wanted_put o a p.1 p.2 (h p amJ)]
def pE (w:World)(H:∀(S:Type) (_:S->World),Prop):Prop:=
 ∀(S:Type) (W:S->World),Nonempty S->(∀u,Below w.heap.size w (W u))->(∀u w'',Below (W u).heap.size (W u) w''->∃u',w''=W u')->H S W
theorem uH {C:World->Prop}{af:Act}{d:Tmp}:∀ {l:List Oper} {a:Act},wpQuiet P ops C (fun a'=>a'=af) l a->(∀o∈l,o.dst≠some d)->af.tmps.getD d undef=a.tmps.getD d undef:=by
 intro l
 induction l with
 |nil=>intro a h _;rw[show a=af from h]
 |cons o l ih=>
  intro a h hd;rw[wpQuiet]at h;have h0:=hd o amJ;have h1:=fun q hq=>hd q (amL _ hq)
  split at h
  ·obtain⟨v,_,h⟩:=h
   rw[ih h h1,mP h0]
  ·rw[ih h h1,mP h0]
def valOf (ops:Array Oper)(af:Act)(k:Nat):Value:=match eP ops k with|some d=>af.tmps.getD d undef|none=>undef
theorem adc {o:Oper}:∀ {l:List Oper} {k:Nat},o∈ib ks l k->∃j,l[j]? =some o/\k+j∉ks:=by
 intro l
 induction l with
 |nil=>intro k h;simp[ib]at h
 |cons x l ih=>
  intro k h;unfold ib at h;split at h
  ·obtain⟨j,h1,h2⟩:=ih h
   exact⟨j+1,by rw[List.getElem?_cons_succ];exact h1,by rw[show k+(j+1)=k+1+j by omega];exact h2⟩
  ·rename_i hk
   rcases anf.1 h with rfl|h
   ·exact⟨0,rfl,hk⟩
   ·obtain⟨j,h1,h2⟩:=ih h
    exact⟨j+1,by rw[List.getElem?_cons_succ];exact h1,by rw[show k+(j+1)=k+1+j by omega];exact h2⟩
def kz (w:World)(ops:Array Oper)(ks:List Nat):List Oper->Nat->List (Option Tmp×Value)->Prop
 | [],_,τ=>τ=[]
 |o::l,k,τ=>if k∈ks then∃b τ',w.heap.size<=b/\τ=(o.dst,ptrTo b)::τ'/\kz w ops ks l (k+1) τ' else kz w ops ks l (k+1) τ
theorem toFix {n N:Nat}{af:Act}{R:Act->Prop}(hns:Region.noSelect ops=true)
 (hd:∀i j,i<n->j<n->i≠j->eP ops i≠eP ops j) (hsm:∀i,i<n->∃d,eP ops i=some d) (hN:∀i,i<n->∀d,eP ops i=some d->d<N)
 (hlk:∀i,i<n->i∉ks->∀k∈ks,∀d,eP ops k=some d->d∉xe ops i) (hkn:∀k∈ks,k<n):
 ∀(l:List Oper) (k:Nat) (a:Act) (σ:List (Option Tmp×Value)),a.tmps.size=N->(∀j,j<l.length->l[j]? =ops[k+j]?)->k+l.length=n->
  (∀p∈σ,∃i∈ks,p.1=eP ops i)->
  pE w (fun S W=>wpQuiet P ops (fun w'=>∃u:S,w'=W u) (fun a'=>a'=af) (ib ks l k) a)->
  (∀τ,kz w ops ks l k τ->R (yI af (σ++τ)))->aaf P ops w ks (valOf ops af) R l k (yI a σ):=by
 intro l
 induction l with
 |nil=>
  intro k a σ _ _ _ _ hq hf;have h0:a=af:=by
   have:=hq (Kept w) Kept.W (kept_some w) (fun u=>u.low) (fun u w'' h=>⟨⟨w'',u.low.trans (h.mono u.low.size)⟩,rfl⟩);exact this
  subst h0;have:=hf [] rfl;rwa[List.append_nil]at this
 |cons o l ih=>
  intro k a σ hsz hl hk hσ hq hf;rw[amT]at hk;have h0:ops[k]? =some o:=(hl 0 (Nat.succ_pos _)).symm;have hdk:eP ops k=o.dst:=by unfold eP;rw[h0];rfl
  have hl':∀j,j<l.length->l[j]? =ops[k+1+j]?:=by
   intro j hj;have:=hl (j+1) (by rw[amT];omega);rw[List.getElem?_cons_succ]at this;rw[this];congr 1;omega
  rw[aaf];unfold ib at hq;by_cases hkk:k∈ks
  ·rw[if_pos hkk]
   rw[if_pos hkk]at hq;intro b hb;have e:(yI a σ).put o.dst (ptrTo b)=yI a (σ++ [(o.dst,ptrTo b)]):=by unfold yI;rw[List.foldl_append];rfl
   rw[e];refine ih (k+1) a _ hsz hl' (by omega) ?_ hq ?_
   ·intro p hp
    rcases ane.1 hp with hp|hp
    ·exact hσ p hp
    ·obtain rfl:=List.mem_singleton.1 hp
     exact⟨k,hkk,hdk.symm⟩
   ·intro τ hτ
    rw[List.append_assoc];refine hf _ ?_;unfold kz;rw[if_pos hkk];exact⟨b,τ,hb,rfl,hτ⟩
  ·rw[if_neg hkk]
   rw[if_neg hkk]at hq;have hlo:∀p∈σ,∀d,p.1=some d->d∉o.looksAt ops:=by
    intro p hp d hpd;obtain⟨i,hi,e⟩:=hσ p hp;have:=hlk k (by omega) hkk i hi d (by rw[<-e];exact hpd);unfold xe at this;rw[h0]at this;exact this
   have hdo:∀p∈σ,∀d,p.1=some d->o.dst≠some d:=by
    intro p hp d hpd;obtain⟨i,hi,e⟩:=hσ p hp;rw[<-hdk, <-hpd,e];exact hd k i (by omega) (hkn i hi) (fun e=>hkk (e▸hi))
   obtain⟨d,hod⟩:=hsm k (by omega);have hod':o.dst=some d:=by rw[<-hdk];exact hod
   have hdl:d<a.tmps.size:=by rw[hsz];exact hN k (by omega) d hod
   have hrest:∀q∈ib ks l (k+1),q.dst≠some d:=by
    intro q hq';obtain⟨j,h1,h2⟩:=adc hq';have hj:j<l.length:=(amH.1 h1).1;have e:eP ops (k+1+j)=q.dst:=by unfold eP;rw[<-hl' j hj,h1];rfl
    rw[<-e, <-hod];exact hd _ _ (by omega) (by omega) (by omega)
   have hval:valOf ops af k=af.tmps.getD d undef:=by unfold valOf;rw[hod]
   have nso:=fun cs b=>Region.noSelect_spec hns k o cs b h0
   rw[rF hlo,aeM nso hlo];have hout:abP ops o (yI a σ) (valOf ops af k)=abP ops o a (valOf ops af k):=by unfold abP;rw[rF hlo]
   rw[hout,ah7 hdo];constructor
   ·intro hw u
    have hS:wpQuiet P ops (fun w'=>∃x:Kept u.W,w'=x.W) (fun a'=>a'=af) (o::ib ks l (k+1)) a:=hq (Kept u.W) Kept.W (kept_some u.W) (fun x=>u.low.trans (x.low.mono u.low.size)) (fun x w'' h=>⟨⟨w'',x.low.trans (h.mono x.low.size)⟩,rfl⟩);rw[wpQuiet,if_pos hw]at hS;obtain⟨v,h1,h2⟩:=hS;have e1:=uH h2 hrest;rw[hod',wH hdl]at e1;rw[hval,e1];have h3:=h1 u.W ⟨⟨u.W,am3 _ _⟩,rfl⟩;unfold Oper.quietAt at h3;generalize (execOp a.eval o).run P u.W=r at h3⊢
    cases r with
    |ok nx v'=>
     cases nx<;>simp only[Oper.quietUpon]at h3<;>simp only[nI]
     case value=>exact h3
     case skip=>exact h3
     case enter=>exact⟨h3.1,h3.2.mono fun e w'' ⟨he,x,hx⟩=>⟨he,by rw[hx];exact x.low⟩⟩
    |halt x v'=>simp only[Oper.quietUpon]at h3
   ·refine ih (k+1) _ σ (by rw[abH];exact hsz) hl' (by omega) hσ ?_ ?_
    ·intro S W hne hk1 hk2
     have hS:wpQuiet P ops (fun w'=>∃x:S,w'=W x) (fun a'=>a'=af) (o::ib ks l (k+1)) a:=hq S W hne hk1 hk2;rw[wpQuiet]at hS;unfold abP;split at hS
     ·rename_i hw
      rw[if_pos hw];obtain⟨v,h1,h2⟩:=hS;have e1:=uH h2 hrest;rw[hod',wH hdl]at e1;rw[hval,e1];exact h2
     ·rename_i hw
      rw[if_neg hw];exact hS
    ·intro τ hτ
     refine hf τ ?_;unfold kz;rw[if_neg hkk];exact hτ
structure AllBlocks (ops:Array Oper) (w:World) (ks:List Nat) (zs:Nat->Array Value) (a:Act) (v:World) (β:Nat->Nat):Prop where
 low:Below w.heap.size w v
 box:∀i∈ks,∀d,eP ops i=some d->a.tmps.getD d undef=ptrTo (β i)/\Bx v (β i) (zs i)/\w.heap.size<=β i
 two:∀i∈ks,∀j∈ks,i≠j->β i≠β j
theorem qM {id:Nat}{Q:Exit->Act->World->Prop}{a:Act}{l:List Oper}(n:Nat)(ks:List Nat)(zs:Nat->Array Value)(hm:P.follows .mixedOrders =true)(hB:Region.lexTailB .any l.toArray n=true)
 (hF:afO l.toArray n ks=true) (hkn:∀k∈ks,k<n) (hN:((List.range n).all fun i=>(eP l.toArray i).all fun d=>decide (d<a.tmps.size))=true) (hz:∀k∈ks,abp P l.toArray k (zs k))
 (h:∃af,pE w (fun S W=>wpQuiet P l.toArray (fun w'=>∃u:S,w'=W u) (fun a'=>a'=af) (ib ks (l.take n) 0) a)/\
  ∀τ,kz w l.toArray ks (l.take n) 0 τ->∀v β,AllBlocks l.toArray w ks zs (yI af τ) v β->wpList P l.toArray Q (l.drop n) (yI af τ) v):(Code.region id l.toArray true).wp P Q a w:=by
 obtain⟨af,hq,hf⟩:=h;simp only[Region.lexTailB,amC,decide_eq_true_eq]at hB;obtain⟨⟨⟨⟨hns,hn⟩,hs⟩,hc⟩,hlex⟩:=hB;have hn':n<l.length:=hn;have htl:(l.take n).length =n:=by rw[amO];omega
 have hdl:(l.drop n).length =l.toArray.size-n:=by rw[am8];rfl
 have inv0:HeadInv .any l.toArray n (Array.replicate l.toArray.size false):=
  ⟨by simp,fun j oj _ hl=>(by rw[getD_replicate_false]at hl;cases hl),fun t _ ht=>getD_in (by simpa using ht) (getD_replicate_false _ _)⟩
 unfold afO at hF;simp only[amC,amU,List.mem_range,Bool.or_eq_true,beq_iff_eq,bne_iff_ne,Option.isSome_iff_exists,List.contains_iff_mem,ne_eq]at hF;simp only[amU,List.mem_range]at hN;have hd:∀i j,i<n->j<n->i≠j->eP l.toArray i≠eP l.toArray j:=fun i j hi hj hij=>((hF.1 i hi).2 j hj).resolve_left hij
 have hN':∀i,i<n->∀d,eP l.toArray i=some d->d<a.tmps.size:=fun i hi d hdd=>by
  have:=hN i hi;rw[hdd]at this;simpa using this
 have hlk:∀i,i<n->i∉ks->∀k∈ks,∀d,eP l.toArray k=some d->d∉xe l.toArray i:=by
  intro i hi hik k hk d hdd;have:=(hF.2 i hi).resolve_left hik k hk;rw[hdd]at this;simpa using this
 have HF:=toFix (P:=P) (w:=w) (R:=fun a'=>∀v β,AllBlocks l.toArray w ks zs a' v β->wpList P l.toArray Q (l.drop n) a' v) hns hd (fun i hi=>(hF.1 i hi).1) hN' hlk hkn (l.take n) 0 a [] rfl (fun j hj=>by
  rw[htl]at hj;simp[hj]) (by rw[htl];exact am5 n) (fun p hp=>by cases hp) hq (fun τ hτ v β hb=>hf τ hτ v β hb)
 have H:=dD.lex (md:=.any) (g:=l.toArray.size-n) hns hs hc hn (l.take n) 0 _ (yI a []) (fun j hj=>by
  rw[htl]at hj;simp[hj]) (by rw[htl];exact am5 n) inv0 (fun i hi=>absurd hi (Nat.not_lt_zero _)) (by rw[htl];exact hlex) HF
 have H2:=dD.sound (w:=w) (Q:=Q) (g:=l.toArray.size-n) (zs:=zs) (L:=fun s' a'=>Region.seqB .any l.toArray (l.toArray.size-n) n s'=true/\(∀i,i<n->s'.getD i false=true)/\∀v β,AllBlocks l.toArray w ks zs a' v β->wpList P l.toArray Q (l.drop n) a' v) (fun k hk=>⟨hkn k hk,hz k hk⟩) hd hN' (fun s a' v β hb hL=>by
  have:=wpAny_of_seq (md:=.any) (Q':=Q) (l.drop n) n s a' v (fun j=>by simp[List.getElem?_drop]) (by rw[hdl];exact hL.1)
   (hL.2.2 v β ⟨hb.low,fun i hi d hdd=>hb.box i hi (hL.2.1 i (hkn i hi)) d hdd,fun i hi j hj hij=>hb.two i hi j hj (hL.2.1 i (hkn i hi)) (hL.2.1 j (hkn j hj)) hij⟩)
  rwa[hdl]at this) _ _ _ {w with drawn:=w.drawn+1} (fun _=>0) rfl (by simp) ⟨⟨rfl,rfl,rfl,am4 _,fun _ _=>rfl⟩,fun i _ hl=>(by rw[getD_replicate_false]at hl;cases hl),fun i _ j _ hl=>(by rw[getD_replicate_false]at hl;cases hl)⟩ H
 rw[htl,show n+(l.toArray.size-n)=l.toArray.size by omega]at H2;exact wp_region_any hm H2
theorem aeL {l:List Oper}:∀ {j:Nat} {τ:List (Option Tmp×Value)},(∀i,j<=i->i∉ks)->kz w ops ks l j τ->τ=[]:=by
 induction l with
 |nil=>intro j τ _ h;exact h
 |cons o l ih=>
  intro j τ hk h;unfold kz at h;rw[if_neg (hk j ano)]at h;exact ih (fun i hi=>hk i (by omega)) h
theorem ah4 {k:Nat}{l:List Oper}(hk:k∈ks):∀ {j:Nat} {τ:List (Option Tmp×Value)},j<=k->(∀i,j<=i->i<k->i∉ks)->k<j+l.length->kz w ops ks l j τ->
 ∃o b τ',l[k-j]? =some o/\w.heap.size<=b/\τ=(o.dst,ptrTo b)::τ'/\kz w ops ks (l.drop (k-j+1)) (k+1) τ':=by
 induction l with
 |nil=>intro j τ h1 _ h2 _;simp at h2;omega
 |cons o l ih=>
  intro j τ h1 h3 h2 h;unfold kz at h;by_cases e:j=k
  ·subst e
   rw[if_pos hk]at h;obtain⟨b,τ',hb,e2,h⟩:=h;exact⟨o,b,τ',by rw[Nat.sub_self];rfl,hb,e2,by rw[Nat.sub_self];exact h⟩
  ·rw[if_neg (h3 j ano (by omega))]at h
   rw[amT]at h2;obtain⟨o',b,τ',h4,h5,h6,h7⟩:=ih (by omega) (fun i hi=>h3 i (by omega)) (by omega) h;refine⟨o',b,τ',?_,h5,h6,?_⟩
   ·rw[show k-j=(k-(j+1))+1 by omega,List.getElem?_cons_succ];exact h4
   ·rw[show k-j+1=(k-(j+1)+1)+1 by omega,List.drop_succ_cons];exact h7
theorem ah8 {a:Act}{d b c:Nat}(h:(a.put (some d) (ptrTo b)).tmps.getD d undef=ptrTo c):b=c:=by
 by_cases hd:d<a.tmps.size
 ·rw[wH hd]at h
  unfold ptrTo at h;injection h with h
  injection h with h
  injection h
 ·rw[show (a.put (some d) (ptrTo b)).tmps.getD d undef=undef by simp[Act.put,hd]]at h
  unfold ptrTo undef at h;cases h
theorem gm {id:Nat}{Q:Exit->Act->World->Prop}{a:Act}{l:List Oper}(n k d:Nat)(zs:Array Value)(hm:P.follows .mixedOrders =true)(hB:Region.lexTailB .any l.toArray n=true)
 (hF:afO l.toArray n [k]=true) (hkn:k<n) (hdk:eP l.toArray k=some d) (hN:((List.range n).all fun i=>(eP l.toArray i).all fun d=>decide (d<a.tmps.size))=true) (hz:abp P l.toArray k zs)
 (h:∃af,pE w (fun S W=>wpQuiet P l.toArray (fun w'=>∃u:S,w'=W u) (fun a'=>a'=af) (ib [k] (l.take n) 0) a)/\
  ∀b v,w.heap.size<=b->Below w.heap.size w v->Bx v b zs->wpList P l.toArray Q (l.drop n) (af.put (some d) (ptrTo b)) v):(Code.region id l.toArray true).wp P Q a w:=by
 obtain⟨af,h1,h2⟩:=h;have hn:n<l.length:=by
  simp only[Region.lexTailB,amC,decide_eq_true_eq]at hB;exact hB.1.1.1.2
 refine qM n [k] (fun _=>zs) hm hB hF (by intro x hx;obtain rfl:=List.mem_singleton.1 hx;exact hkn) hN (by intro x hx;obtain rfl:=List.mem_singleton.1 hx;exact hz) ⟨af,h1,?_⟩;intro τ hτ v β hb;obtain⟨o,b,τ',ho,hb0,rfl,hτ'⟩:=ah4 (List.mem_singleton.2 rfl) (Nat.zero_le k) (fun i _ hi h=>by have:=List.mem_singleton.1 h;omega) (by rw[amO];omega) hτ;obtain rfl:=aeL (fun i hi h=>by have:=List.mem_singleton.1 h;omega) hτ';have hod:o.dst=some d:=by
  rw[<-hdk];unfold eP;rw[Nat.sub_zero,amZ,if_pos hkn]at ho;rw[List.getElem?_toArray,ho];rfl
 rw[hod]at hb⊢
 obtain⟨e1,e2,e3⟩:=hb.box k (List.mem_singleton.2 rfl) d hdk;have e:=ah8 (a:=af) e1;rw[<-e]at e2;exact h2 b v hb0 hb.low e2
end
theorem Ret.fresh {w0 w:World}{f:FuncId}{args:Array Value}{V:Value}{S:Type}{W:S->World}(h:Ret f args V)(hs:St w0 w)(hk:∀u,Below w.heap.size w (W u))(hc:∀u w'',Below (W u).heap.size (W u) w''->∃u',w''=W u'){u:S}:
 Calls prog f args (W u) fun e w''=>e= .returned V/\∃u',w''=W u':=
 (h (W u) (hs.gl.below (hk u))).mono fun _ w' ⟨he,hb⟩=>⟨he,hc u w' hb⟩
theorem Bx.in {w:World}{b:Nat}{cs:Array Value}(h:Bx w b cs){S:Type}{W:S->World}(hk:∀u,Below w.heap.size w (W u)){i:Nat}{v:Value}(hi:cs[i]? =some v)(u:S):(W u).cell? ⟨b,i,none⟩=some v:=(h.on (hk u)).cell hi
end
section
open Go.RowKit Go.Shelf Dec QQ
theorem own_ne {w:World}{base n size:Nat}{T:TypeId}{v:Value}{xs:List Value}(h:w.ownsRow base T size v n xs){b:Nat}{o:Obj}(hb:w.heap[b]? =some o)(ho:∀cur,o≠ .cells cur T (0,0)):some b≠v.ownBlock:=by
 rcases h.2 with ⟨rfl,_⟩|⟨g,cap,cur,rfl,_,hg,_⟩
 ·simp[Value.ownBlock]
 ·intro e
  have:b=g:=by simpa[Value.ownBlock]using e
  subst this;rw[hg]at hb;injection hb with hb
  exact ho cur hb.symm
theorem aP {w w':World}{base n size b:Nat}{T:TypeId}{v:Value}{xs:List Value}{o:Obj}(h:w.ownsRow base T size v n xs)(hb:w.heap[b]? =some o)(ho:∀cur,o≠ .cells cur T (0,0))(hg:w.grownBy w' (some b)):w'.ownsRow base T size v n xs:=by
 have hne:=own_ne h hb ho;refine⟨h.1,?_⟩;rcases h.2 with h2|⟨g,cap,cur,e1,e2,e3,r⟩
 ·exact .inl h2
 ·refine .inr ⟨g,cap,cur,e1,e2,(hg.block g (amA.1 e3).1 ?_).trans e3,r⟩
  rw[e1]at hne;intro e;exact hne (by rw[<-e];rfl)
structure RoundP (base Bo l0:Nat) (T E:TypeId) (rec:Loop) (W1:World) (o1 o2:Obj) (v:Value) (k:Nat) (xs:List Value) (w5:World) (v':Value) (xs':List Value):Prop where
 lp:W1.heap[l0]? =some (.loop rec)
 bo:Boxed W1 Bo T v
 own:W1.ownsRow base E 7 v k xs
 own':w5.ownsRow base E 7 v' (k+1) xs'
 grown:World.grownBy (((W1.alloc o1).putObj l0 (.loop {rec with state:=.busy})).alloc o2) w5 v.ownBlock
 te:T≠E
 ne:Bo≠l0
section
variable {base Bo l0 k:Nat} {T E:TypeId} {rec:Loop} {W1 w5:World} {o1 o2:Obj} {v v':Value} {xs xs':List Value}
theorem RoundP.own3 (h:RoundP base Bo l0 T E rec W1 o1 o2 v k xs w5 v' xs'):World.ownsRow (((W1.alloc o1).putObj l0 (.loop {rec with state:=.busy})).alloc o2) base E 7 v k xs:=
 World.ownsRow.alloc (ownsRow_putObj (World.ownsRow.alloc h.own o1) _ ((Below.heap_alloc _ _ _ (amA.1 h.lp).1).trans h.lp) rfl) o2
theorem RoundP.far5 (h:RoundP base Bo l0 T E rec W1 o1 o2 v k xs w5 v' xs'){b:Nat}{o:Obj}(hb:W1.heap[b]? =some o)(h1:b≠l0)(h3:∀cur,o≠ .cells cur E (0,0)):w5.heap[b]? =some o:=by
 have hlt:=(amA.1 hb).1;have e1:(W1.alloc o1).heap[b]? =some o:=(Below.heap_alloc _ _ _ hlt).trans hb;have e2:((W1.alloc o1).putObj l0 (.loop {rec with state:=.busy})).heap[b]? =some o:=(World.putObj_heap_other h1).trans e1;have e3:(((W1.alloc o1).putObj l0 (.loop {rec with state:=.busy})).alloc o2).heap[b]? =some o:=(Below.heap_alloc _ _ _ (amA.1 e2).1).trans e2;exact(h.grown.block b (amA.1 e3).1 (own_ne h.own3 e3 h3)).trans e3
theorem RoundP.bo5 (h:RoundP base Bo l0 T E rec W1 o1 o2 v k xs w5 v' xs'):Boxed w5 Bo T v:=h.far5 h.bo h.ne (fun cur e=>h.te (by injection e))
theorem RoundP.lp5 (h:RoundP base Bo l0 T E rec W1 o1 o2 v k xs w5 v' xs'):w5.heap[l0]? =some (.loop {rec with state:=.busy}):=by
 have hlt:=(amA.1 h.lp).1;have e1:(W1.alloc o1).heap[l0]? =some (.loop rec):=(Below.heap_alloc _ _ _ hlt).trans h.lp;have e2:((W1.alloc o1).putObj l0 (.loop {rec with state:=.busy})).heap[l0]? =some (.loop {rec with state:=.busy}):=World.putObj_heap_same (amA.1 e1).1;have e3:(((W1.alloc o1).putObj l0 (.loop {rec with state:=.busy})).alloc o2).heap[l0]? =some (.loop {rec with state:=.busy}):=(Below.heap_alloc _ _ _ (amA.1 e2).1).trans e2;exact(h.grown.block l0 (amA.1 e3).1 (own_ne h.own3 e3 (fun cur e=>by cases e))).trans e3
theorem RoundP.lp6 (h:RoundP base Bo l0 T E rec W1 o1 o2 v k xs w5 v' xs')(x:Value):(w5.setCell ⟨Bo,0,none⟩ x).heap[l0]? =some (.loop {rec with state:=.busy}):=(amR _ _ _ _ h.ne.symm).trans h.lp5
theorem RoundP.far (h:RoundP base Bo l0 T E rec W1 o1 o2 v k xs w5 v' xs')(o3:Obj){b:Nat}{o:Obj}(hb:W1.heap[b]? =some o)(h1:b≠l0)(h2:b≠Bo)(h3:∀cur,o≠ .cells cur E (0,0)):((w5.setCell ⟨Bo,0,none⟩ v').putObj l0 o3).heap[b]? =some o:=
 (World.putObj_heap_other h1).trans ((amR _ _ _ _ h2).trans (h.far5 hb h1 h3))
theorem RoundP.below (h:RoundP base Bo l0 T E rec W1 o1 o2 v k xs w5 v' xs'){w:World}(hw:Below w.heap.size w W1)(hb:base=w.heap.size)(h1:w.heap.size<=l0)(h2:w.heap.size<=Bo)(o3:Obj):Below w.heap.size w ((w5.setCell ⟨Bo,0,none⟩ v').putObj l0 o3):=by
 subst hb;have b1:=hw.alloc hw.size o1;have b2:=aI b1 h1 (.loop {rec with state:=.busy});have b3:=b2.alloc b2.size o2;have b4:=b3.grown h.grown b3.size (wM h.own3);exact aI (b4.setCell (p:=⟨Bo,0,none⟩) h2 v') h1 o3
theorem RoundP.row (h:RoundP base Bo l0 T E rec W1 o1 o2 v k xs w5 v' xs')(o3:Obj):((w5.setCell ⟨Bo,0,none⟩ v').putObj l0 o3).ownsRow base E 7 v' (k+1) xs':=
 ownsRow_putObj (aP h.own' h.bo5 (fun cur e=>h.te (by injection e)) (grownBy_setCell' _ _ _)) o3 (h.lp6 v') rfl
theorem RoundP.box (h:RoundP base Bo l0 T E rec W1 o1 o2 v k xs w5 v' xs')(o3:Obj):Boxed ((w5.setCell ⟨Bo,0,none⟩ v').putObj l0 o3) Bo T v':=dQ (h.bo5.set v') h.ne o3
theorem RoundP.loop (h:RoundP base Bo l0 T E rec W1 o1 o2 v k xs w5 v' xs')(o3:Obj):((w5.setCell ⟨Bo,0,none⟩ v').putObj l0 o3).heap[l0]? =some o3:=World.putObj_heap_same (amA.1 (h.lp6 v')).1
end
theorem agL (w:World)(T:TypeId)(cs:List Value):∀j u,cs[j]? =some u->(w.alloc (.cells cs.toArray T)).cell? ((⟨w.heap.size,0,none⟩:Addr).add j)=some u:=by
 intro j u hu;have h:=bJ w (.cells cs.toArray T);rw[show (⟨w.heap.size,0,none⟩:Addr).add j=⟨w.heap.size,j,none⟩by unfold Addr.add;by_cases h:j=0<;>simp[h]];unfold World.cell?;rw[h];simp[hu]
theorem fD {w:World}{A:Option Addr}{vs:List Value}{m n:Nat}(h:Row w A vs)(hl:vs.length=n*m)(h0:0<m):Reads w w.heap.size m A n vs:=by
 refine⟨hl,fun hn=>?_⟩;have hp:0<vs.length:=by rw[hl];exact Nat.mul_pos hn h0
 obtain⟨b,o,hA,hB,_⟩:=h 0 _ (amB hp);refine⟨_,hA,hB,fun j u hu=>?_⟩;obtain⟨b',o',hA',_,hc⟩:=h j u hu;rw[hA]at hA';injection hA' with e
 injection e with e1 e2
 subst e1 e2;rw[show (⟨b,o,none⟩:Addr).add j=⟨b,o+j,none⟩by unfold Addr.add;by_cases h:j=0<;>simp[h]];exact hc
theorem ahV {w:World}{vs:List Value}{m n:Nat}(h:Row w none vs)(hl:vs.length=n*m)(h0:0<m):n=0:=by
 rcases Nat.eq_zero_or_pos n with e|e
 ·exact e
 ·have hp:0<vs.length:=by rw[hl];exact Nat.mul_pos e h0
  obtain⟨b,o,hA,_⟩:=h 0 _ (amB hp);cases hA
theorem aeX (w:World)(T:TypeId)(m:Nat):World.ownsRow (w.alloc (.cells #[] T)) w.heap.size T m (.slice (some ⟨w.heap.size,0,none⟩) 0 0) 0 []:=by
 refine⟨by simp,.inr ⟨w.heap.size,0, #[],rfl,am4 _,bJ w _,am4 _,by unfold maxLen;omega,by simp,by simp⟩⟩
theorem fE {w:World}{base n m:Nat}{T:TypeId}{v:Value}{xs:List Value}(h:w.ownsRow base T m v n xs):∀k,v.ownBlock=some k->base<=k:=by
 intro k hk;rcases h.2 with ⟨rfl,_⟩|⟨g,cap,cur,rfl,hb,_⟩
 ·cases hk
 ·injection hk with hk
  subst hk;exact hb
theorem xD {α:Type}{cs:α->List Value}(h:∀a,∀u∈cs a,u.oneCell'=true)(l:List α):∀u∈av cs l,u.oneCell'=true:=by
 intro u hu;obtain⟨a,_,hu⟩:=List.mem_flatMap.1 hu;exact h a u hu
end
section
open Go.RowKit Go.Shelf Dec QQ
attribute [local go_sem] Oper.semAt_some
def RetJ (I:World->Prop)(f:FuncId)(args:Array Value)(V:Value):Prop:=∀w,Gl w->I w->Calls prog f args w fun e w'=>e= .returned V/\Below w.heap.size w w'
def StaysJ (I:World->Prop):Prop:=∀w w',I w->Below w.heap.size w w'->I w'
theorem RetJ.step {I:World->Prop}{w0 w:World}{f:FuncId}{args:Array Value}{V:Value}{Q:Ending->World->Prop}(h:RetJ I f args V)(hs:St w0 w)(hi:I w)(k:∀w',St w0 w'->Below w.heap.size w w'->Q (.returned V) w'):Calls prog f args w Q:=
 (h w hs.gl hi).mono fun _ w' ⟨he,hb⟩=>he▸k w' (hs.on hb) hb
theorem indexL {A:Option Addr}{n c:Nat}{l:List Lt}{f:FuncId}{cap:Array Value}{p:Lt->Bool}{I:World->Prop}(hI:StaysJ I)(hn:l.length=n)(hm:n<=4611686018427387904)(hcf:∀(args:Array Value) (u:World),(callFunc f args).run prog u= .ok (.enter f args) u)
 (KF:Hid (∀s∈l,RetJ I f (#[ltV s]++cap) (.bool (p s)))):
 RetJ (fun w=>Row w A (av aa l)/\I w) 94 #[.slice A n c,.func (.func f) #[] cap] (.int .i64 (ab7 p l)):=by
 intro w hg hi;have hs:=St.refl hg;have HN:=amy hn;have Hi:=amy hi;have HI:=amy hI;clear hn hi hI
 go_enter func94,ntmps94
 go_wp2_with fail
 go_loopw [8] (fun s wr=>∃k:Nat,k<=n/\s= .int .i64 (k:Int)/\St w wr/\Hid (Row wr A (av aa l)/\I wr)/\Hid (∀i,i<k->∀t,l[i]? =some t->p t=false)) (fun s _=>(n-intOf s).toNat)
 case atStart=>exact⟨0,by omega,rfl,hs,Hi,fun i h=>by omega⟩
 case round=>
  obtain⟨k,hk,rfl,hs,H,HP⟩:=hrel;by_cases hkn:k=n
  ·subst hkn
   have q:decide ((k:Int)<(k:Int))=false:=am1 (by omega);have HE:=amy (zz (p:=p) (l:=l) (fun i hi t ht=>HP.o i (by rw[HN.o]at hi;exact hi) t ht));clear HP
   go_wp2_with fail
   go_ret
   exact⟨by rw[HE.o];rfl,hs.2⟩
  ·have hkl:k<n:=by omega
   have q:decide ((k:Int)<(n:Int))=true:=am2 (by omega);have qn:decide (k<n)=true:=am2 hkl;obtain⟨d,hd⟩:∃d,l[k]? =some d:=⟨l[k]'(by rw[HN.o];exact hkl),by simp⟩;obtain⟨b,o,hA,hb,hcells⟩:=dV (cs:=aa) (m:=7) aJ (by decide) H.o.1 hd;subst hA;have KK:=KF.o d (amI hd);have HD:=amy hd;clear hd hkn;obtain⟨pv,hpv⟩:=eX (p d);rw[hpv]at KK;have HPV:=amy hpv;clear hpv;obtain⟨x0,x1,x2,x3,x4,x5,x6⟩:=dI hcells;clear hcells;dsimp only[ltV,ltA]at KK;cases pv with
   |true=>
    have HE:=amy (afJ HD.o HPV.o HP.o)
    go_wp2_with fail
    refine KK.step hs H.o.2 ?_;intro w2 hs hb
    go_wp2_with fail
    go_ret
    exact⟨by rw[HE.o];rfl,hs.2⟩
   |false=>
    go_wp2_with fail
    refine KK.step hs H.o.2 ?_;intro w2 hs hb;have H2:Hid (Row w2 (some ⟨b,o,none⟩) (av aa l)/\I w2):=⟨H.o.1.on hb,HI.o _ _ H.o.2 hb⟩
    go_wp2_with fail
    go_roundw
    case rel=>
     refine⟨k+1,by omega,by go_num,hs,H2,?_⟩;intro i hi t ht;by_cases e:i=k
     ·subst e
      rw[HD.o]at ht;cases ht;exact HPV.o
     ·exact HP.o i (by omega) t ht
    case measure=>simp[intOf];omega
theorem afT {b:Nat}{id:BA}(x:Lt):RetJ (fun w=>Bx w b #[.string id]) 95 #[ltV x,.pointer (some ⟨b,0,none⟩)] (.bool (eqB x.id id)):=by
 intro w hg hi;have hs:=(St.refl hg).alloc (.cells (ltA x) 62);have X:=Bx.new w (ltA x) 62;have hB:=hi.alloc (.cells (ltA x) 62);dsimp only[ltV,ltA]at*
 have x0:=X.c 0 (.string x.id) rfl;have b0:=hB.c 0 (.string id) rfl
 go_enter func95,ntmps95
 go_wp2_with fail
 go_ret
 exact⟨rfl,hs.2⟩
def afv (l:List Lt)(id:BA):Int:=ab7 (fun x=>eqB x.id id) l
theorem rY {A:Option Addr}{n c:Nat}{l:List Lt}{id:BA}(hn:l.length=n)(hm:n<=1000000):
 RetJ (fun w=>Row w A (av aa l)) 41 #[.slice A n c,.string id] (.tuple #[.int .i64 (max (afv l id) 0),.bool (l.any fun x=>eqB x.id id)]):=by
 intro w hg hi;have hs:=(St.refl hg).alloc (.cells #[.string id] 9);have X:=Bx.new w #[.string id] 9;have HX:=amy X;have HR:=amy hi;have K:=amy (indexL (A:=A) (n:=n) (c:=c) (l:=l) (f:=95) (cap:= #[.pointer (some ⟨w.heap.size,0,none⟩)]) (p:=fun x=>eqB x.id id) (I:=fun u=>Bx u w.heap.size #[.string id]) (fun _ _ h hb=>h.on hb) hn (by omega) (fun _ _=>rfl) (fun s _=>afT s));have HV:Hid (decide (0<=ab7 (fun x=>eqB x.id id) l)=l.any fun x=>eqB x.id id):=ab6 _ _;unfold afv;have hz: -1<=ab7 (fun x=>eqB x.id id) l:=by
  unfold ab7;split<;>omega
 generalize (l.any fun x=>eqB x.id id)=bb at*
 generalize ab7 (fun x=>eqB x.id id) l=i at*
 clear X hi hn
 go_enter func41,ntmps41
 go_wp2_with fail
 refine(K.o).step hs ⟨HR.o.on anp,HX.o⟩ ?_;intro w2 hs hb;clear K HX HR hb
 go_wp2_with fail
 go_ret2
 exact⟨by rw[HV.o];rfl,hs.2⟩
theorem aaV:(prog.info? 62).map (fun i=>(i.zero,i.size,i.bytes))=some (some (.agg #[.string ⟨#[]⟩,.string ⟨#[]⟩,.int .i64 0,.int .i64 0,.string ⟨#[]⟩,.string ⟨#[]⟩,.string ⟨#[]⟩]),7,96):=by kernel_rfl
theorem dh (p:Lt):∀u∈aa p,u.oneCell'=true:=by
 intro u hu;simp[aa]at hu;rcases hu with rfl|rfl|rfl|rfl|rfl|rfl|rfl<;>rfl
theorem acr {A:Option Addr}{n c:Nat}{l:List Lt}(hn:l.length=n)(hm:n<=1000000)(w:World)(hr:Row w A (av aa l)):
 Calls prog 34 #[.slice A n c] w fun e w'=>∃v,e= .returned v/\dw aa 62 7 w.heap.size w' v n l/\Below w.heap.size w w':=by
 have hlen:(av aa l).length =n*7:=by rw[sF aJ,hn,ank]
 have HN:=amy hn;have HL:=amy hlen;cases A with
 |none=>
  have h0:n=0:=ahV hr hlen (by decide);subst h0;have hnil:l=[]:=List.length_eq_zero_iff.1 hn;subst hnil;clear hn hlen hr;have k:∀u:World,(binOp .eql 22 (.slice none 0 c) (.slice none 0 0)).run prog u= .ok (.bool true) u:=fun u=>Lib.run_eql_slice_nil u _ 62 none _ _ _ _ (by kernel_rfl)
  go_enter func34,ntmps34
  go_wp2_with fail
  go_ret
  exact⟨_,rfl,⟨rfl,World.ownsRow_nil _ _ _ _⟩,am3 _ _⟩
 |some ad=>
  have k:∀u:World,(binOp .eql 22 (.slice (some ad) n c) (.slice none 0 0)).run prog u= .ok (.bool false) u:=fun u=>Lib.run_eql_slice_nil u _ 62 (some ad) _ _ _ _ (by kernel_rfl)
  obtain⟨i0,hi,hz0,hz1,hz2⟩:=info_parts aaV;have Hi:=amy hi;have Hz0:=amy hz0;have Hz1:=amy hz1;have Hz2:=amy hz2;clear hi hz0 hz1 hz2 hn hlen;have HR:=amy (fD (hr.on ((am3 _ w).alloc ano (.cells #[] 62))) HL.o (by decide));have HO:=amy (aeX w 62 7);clear hr
  go_enter func34,ntmps34
  go_wp2_with (at_builtin;refine aB _ rfl (.tmp 5) (.tmp 6) 22 rfl w.heap.size 62 i0 (.agg #[.string ⟨#[]⟩,.string ⟨#[]⟩,.int .i64 0,.int .i64 0,.string ⟨#[]⟩,.string ⟨#[]⟩,.string ⟨#[]⟩]) 7 96 (by kernel_rfl) Hi.o Hz0.o Hz1.o Hz2.o rfl (by omega) (.slice (some ⟨w.heap.size,0,none⟩) 0 0) 0 [] rfl HO.o _ (some ad) n c (av aa l) rfl HR.o (xD dh l) (by unfold maxLen;omega) (by omega) (by simp) ?_;intro v3 w3 hown3 hg3 _;have HO3:=amy hown3;have HG3:=amy hg3;clear hown3 hg3)
  go_ret
  have hb3:Below w.heap.size w w3:=anp.grown HG3.o (by simp) (fun k hk=>by simp[Value.ownBlock]at hk;omega);have ho:=HO3.o;rw[am5,List.nil_append]at ho;exact⟨_,rfl,⟨HN.o,ho⟩,hb3⟩
end
section
open Go.RowKit Go.Shelf Dec QQ
theorem akX:ah (⟨#[49]⟩:BA)=1:=by decide+kernel
end
end Go.Proofs.YtbkhnggmcheelaaGreatDoor
