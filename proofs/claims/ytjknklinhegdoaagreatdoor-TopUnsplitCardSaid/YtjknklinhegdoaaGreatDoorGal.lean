/- The count of draws never falls along a run. No condition. slices.SortFunc at a list of numbers below m + 1, of whatever length, by a comparison that turns nothing old. Condition: fewer than a million numbers. Allocation: the plain law: errors, parts, sizes. No condition. -/
import Derived.Test.YtjknklinhegdoaaGreatDoorAa
import Derived.Calls
import Derived.RunT
import Derived.StepT
import Derived.Below
import Derived.Shelf.SlSortCmp.Whole1
import Derived.Sort.OwnSortedInts
import Derived.Test.YtjknklinhegdoaaGreatDoorGai
import Derived.Test.YtjknklinhegdoaaGreatDoorGak
set_option linter.unusedSimpArgs false
set_option linter.unusedVariables false
namespace Go.Proofs.YtjknklinhegdoaaGreatDoor
open Go Go.RowKit
theorem ae4 {α:Type}:∀(a:Ask α) (w:World),w.drawn≤(w.ask a).2.drawn
 | .done a,w=>Nat.le_refl _
 | .ask what range k,w=>by
  simp only[World.ask];split
  ·exact ae4 _ _
  ·exact ali (Nat.le_succ w.drawn) (ae4 (k _) {w with drawn:=w.drawn+1})
theorem aiZ (w:World)(c:Sys):w.drawn≤(w.sys c).2.drawn :=by
 have h:=ae4 (Kernel.perform c w.os) w;unfold World.sys;split
 ·exact Nat.le_refl _
 ·rename_i he
  rw[he]at h;exact h
theorem akA {p:Program}{w w':World}{at_:Addr}{u:TypeId}{k:Addr}{v:Value}{b:Bool}{l:List Addr}(h:w.viewStore p at_ u k v b= .ok (w',l)):w'.drawn=w.drawn:=by
 unfold World.viewStore at h;simp only[bind,Except.bind,pure,Except.pure,throw,throwThe,MonadExceptOf.throw]at h
 repeat' split at h
 all_goals first
  |(cases h;rfl)
  |cases h
theorem dw_far {p:Program}{w w':World}{a:Addr}{v:Value}{b:Bool}{l:List Addr}(h:w.farStore p a v b= .ok (w',l)):w'.drawn=w.drawn:=by
 unfold World.farStore at h;split at h
 ·split at h
  ·rename_i r hr
   cases h;exact akA hr
  ·cases h
 ·cases h
theorem dw_set (w:World)(a:Addr)(v:Value):(w.setCell a v).drawn =w.drawn:=by unfold World.setCell;rfl
theorem ae2 (w:World)(a:Addr)(n:Nat):(w.freeze a n).drawn =w.drawn:=by
 unfold World.freeze
 repeat' split
 all_goals rfl
def rW {α:Type}:Result α→World
 | .ok _ w=>w
 | .halt _ w=>w
theorem ai0 {α:Type}(p:Program)(e:Sem α)(w:World):w.drawn≤(rW (e.run p w)).drawn :=by
 induction e generalizing w with
 |pure a=>exact Nat.le_refl _
 |load m a k ih=>
  simp only[Sem.run];split
  ·exact ih _ w
  ·split
   ·exact ih _ w
   ·exact Nat.le_refl _
 |store m a v k ih=>
  have hk:w.drawn≤(rW (match w.cell? a with
   |some _=>if w.frozen? a then .halt (.unsupported (.unsafePointer "a write to bytes that a string shares")) w else k.run p (w.setCell a v)
   |none=>match w.farStore p a v (m== .atomic)with
    | .ok (w,_)=>k.run p w
    | .error h=>.halt h w)).drawn :=by
   split
   ·split
    ·exact Nat.le_refl _
    ·exact ali (Nat.le_of_eq (dw_set w a v).symm) (ih (w.setCell a v))
   ·split
    ·rename_i h
     rw[←dw_far h];exact ih _
    ·exact Nat.le_refl _
  cases v<;>simp only[Sem.run]<;>first|exact Nat.le_refl _|exact hk
 |new o k ih=>exact ih _ {w with heap:=w.heap.push o}
 |shape r k ih=>exact ih _ w
 |freeze a n k ih=>exact ali (Nat.le_of_eq (ae2 w a n).symm) (ih (w.freeze a n))
 |frozen a k ih=>exact ih _ w
 |getObj r k ih=>
  simp only[Sem.run];split
  ·exact Nat.le_refl _
  ·exact ih _ w
  ·exact Nat.le_refl _
 |setObj r o k ih=>
  simp only[Sem.run];split
  ·exact Nat.le_refl _
  ·exact ih {w with heap:=w.heap.setIfInBounds r o}
  ·exact Nat.le_refl _
 |choose q k ih=>
  simp only[Sem.run];split
  ·exact ih _ w
  ·exact ali (Nat.le_succ w.drawn) (ih _ {w with drawn:=w.drawn+1})
 |sys c k ih=>exact ali (aiZ w c) (ih _ (w.sys c).2)
 |program k ih=>exact ih _ w
 |mark m k ih=>exact ih w
 |halt h=>exact Nat.le_refl _
theorem eQ {α:Type}{p:Program}{e:Sem α}{w w':World}{a:α}(h:e.run p w= .ok a w'):w.drawn≤w'.drawn:=by have:=ai0 p e w;rw[h]at this;exact this
theorem aQ {α:Type}{p:Program}{e:Sem α}{w w':World}{a:Halt}(h:e.run p w= .halt a w'):w.drawn≤w'.drawn:=by have:=ai0 p e w;rw[h]at this;exact this
def gW:GStep→World
 | .go _ w _=>w
 | .comm _ _ _ _ w _=>w
 | .spawn _ _ w _=>w
 | .count _ w _=>w
 | .timer _ _ w _=>w
 | .alone _ _ w _=>w
 | .newcoro _ _ _ w _=>w
 | .coroswitch _ _ _ w _=>w
 | .collect _ w _=>w
 | .watch _ w _=>w
 | .ended _ w _=>w
@[simp] theorem iT (es:Array Event) (s:GStep):gW (GStep.after es s)=gW s:=by cases s<;>rfl
theorem ym {c:Prop}[Decidable c]{n:Nat}{a b:GStep}(h1:n≤(gW a).drawn)(h2:n≤(gW b).drawn):n≤(gW (if c then a else b)).drawn :=by split<;>assumption
theorem uj (w:World)(fd:Nat)(t:ByteArray)(o:Outcome):w.drawn≤(gW (endWith w fd t o)).drawn :=by
 have h:=aiZ w (.write fd t);unfold endWith;generalize w.sys (.write fd t)=r at*
 obtain⟨x,w'⟩:=r;dsimp only at h⊢
 cases x<;>dsimp only<;>first|exact h|exact ym h h
theorem endWith_ended (w:World)(fd:Nat)(t:ByteArray)(o:Outcome):∃o' w' es,endWith w fd t o= .ended o' w' es:=by
 unfold endWith;generalize w.sys (.write fd t)=r;obtain⟨x,w'⟩:=r;dsimp only;cases x<;>dsimp only<;>(try split)<;>exact⟨_,_,_,rfl⟩
theorem aaa (fr:Frame)(m:String)(w:World):gW (endThrow fr m w)=w:=rfl
theorem jY (p:Program)(fr:Frame)(v:Value)(w:World):gW (endPrinting p fr v w)=w:=by
 unfold endPrinting;dsimp only;split<;>rfl
theorem qK (p:Program)(fr:Frame)(cs:List Frame)(d:Option Dying)(m:String)(w:World):w.drawn≤(gW (endFatal p fr cs d m w)).drawn :=by
 unfold endFatal;dsimp only;split
 ·rename_i h;exact eQ h
 ·rename_i h;exact aQ h
 ·rename_i h;exact aQ h
theorem acA (p:Program)(fr:Frame)(d:Dying)(f:Fatal)(w:World):w.drawn≤(gW (writeOn p fr d f w)).drawn :=by
 unfold writeOn;dsimp only;split
 ·exact Nat.le_refl _
 ·simp only[Sem.runT_eq]
  split<;>rename_i h<;>(have h1:=congrArg Prod.fst h;dsimp only at h1;first|exact eQ h1|exact aQ h1)
theorem dw_die (p:Program)(fr:Frame)(d:Dying)(w:World):w.drawn≤(gW (die p fr d w)).drawn :=by
 unfold die;split
 ·exact acA _ _ _ _ _
 ·split
  ·split
   ·exact Nat.le_refl _
   ·exact uj _ _ _ _
  ·dsimp only
   split
   ·exact Nat.le_refl _
   ·split
    ·rename_i h;exact eQ h
    ·rename_i h;exact aQ h
   ·simp only[Sem.runT_eq,iT]
    split
    ·rename_i h;exact eQ h
    ·rename_i h;exact eQ h
    ·rename_i h;exact aQ h
    ·rename_i h;rw[jY];exact aQ h
    ·exact Nat.le_refl _
   ·exact Nat.le_refl _
theorem kR (p:Program)(main:Bool)(fr:Frame)(cs:List Frame)(d:Option Dying)(v:Value)(w:World):gW (doReturn p main fr cs d v w)=w:=by
 unfold doReturn
 repeat' split
 all_goals rfl
theorem qM (p:Program)(fr:Frame)(cs:List Frame)(dy:Option Dying)(d:Deferred)(w:World):w.drawn≤(gW (callDeferred p fr cs dy d w)).drawn :=by
 unfold callDeferred;refine ym alK ?_;simp only[Sem.runT_eq,iT];generalize hr:(invoke d.target d.args).run p w=r;split
 all_goals first
  |exact eQ hr
  |exact aQ hr
  |(split<;>first|exact eQ hr|exact aQ hr)
  |exact ali (aQ hr) (qK _ _ _ _ _ _)
theorem ae0 (p:Program)(main:Bool)(fr:Frame)(cs:List Frame)(dy:Option Dying)(w:World):w.drawn≤(gW (unwind p main fr cs dy w)).drawn :=by
 unfold unwind;split
 ·simp only[Sem.runT_eq,iT]
  split<;>rename_i h
  ·exact eQ h
  ·exact aQ h
 ·exact qM _ _ _ _ _ _
 ·split
  ·exact Nat.le_refl _
  ·split
   ·exact Nat.le_refl _
   ·split
    ·exact Nat.le_refl _
    ·split
     ·split
      ·exact Nat.le_refl _
      ·split
       ·rename_i h;exact eQ h
       ·rename_i h;exact aQ h
       ·rename_i h;exact aQ h
     ·split
      ·rw[jY];exact Nat.le_refl _
      ·exact Nat.le_refl _
  ·split
   ·rw[kR];exact Nat.le_refl _
   ·simp only[Sem.runT_eq,iT]
    split<;>rename_i h
    ·rw[kR];exact eQ h
    ·exact aQ h
    ·exact aQ h
theorem ahX (p:Program)(fr:Frame)(cs:List Frame)(dy:Option Dying)(g:Nat)(w:World):w.drawn≤(gW (early p fr cs dy g w)).drawn :=by
 unfold early;have hN:∀w':World,w'.drawn=w.drawn→w.drawn≤(gW (match w'.heap[g]? with
  |some (.pending c elem)=>.go {frame:=fr,callers:=cs,status:=.running,dying:=dy} {w' with heap:=w'.heap.setIfInBounds g (.cells c elem)}
  |_=>.ended (.stuck "early: the variable does not wait" (fr.pos p)) w')).drawn :=by
  intro w' h;split<;>exact Nat.le_of_eq h.symm
 dsimp only
 repeat' (first|refine ym ?_ ?_|split)
 all_goals (try dsimp only[gW])
 all_goals first
  |exact Nat.le_refl _
  |exact eQ (by assumption)
  |exact aQ (by assumption)
theorem jO (p:Program)(l:Bool)(fr:Frame)(cs:List Frame)(dy:Option Dying)(s:Sem Next)(w:World):w.drawn≤(gW (stepG.apply p l fr cs dy s w)).drawn :=by
 unfold stepG.apply;have h1:(if l=true then s.runT p w #[]else(s.run p w, #[])).1=s.run p w:=by split<;>simp
 generalize (if l=true then s.runT p w #[]else(s.run p w, #[]))=r0 at*
 obtain⟨r,es⟩:=r0;dsimp only at h1;subst h1;dsimp only;simp only[iT];generalize hr:s.run p w=r at*
 split
 all_goals first
  |exact eQ hr
  |exact aQ hr
  |(split<;>first|exact eQ hr|exact aQ hr)
  |exact ali (aQ hr) (qK _ _ _ _ _ _)
  |exact ali (aQ hr) (ahX _ _ _ _ _ _)
  |exact ym (eQ hr) (eQ hr)
theorem akE (p:Program)(main l:Bool)(fr:Frame)(cs:List Frame)(dy:Option Dying)(w:World):w.drawn≤(gW (stepG.oper p l fr cs dy w)).drawn :=by
 unfold stepG.oper;split
 ·exact Nat.le_refl _
 ·split
  ·exact jO _ _ _ _ _ _ _
  ·exact jO _ _ _ _ _ _ _
theorem akG (p:Program)(main l:Bool)(fr:Frame)(cs:List Frame)(dy:Option Dying)(w:World):w.drawn≤(gW (stepG.exec p main l fr cs dy w)).drawn :=by
 unfold stepG.exec;dsimp only;simp only[Sem.runT_eq,iT];split
 all_goals first
  |exact Nat.le_refl _
  |exact jO _ _ _ _ _ _ _
  |skip
 all_goals (try (rename_i a b c;first|(generalize exitTo a b=o;cases o<;>dsimp only[Option.elim])|(generalize gotoIn a b=o;cases o<;>dsimp only[Option.elim])))
 all_goals (repeat' (first|exact Nat.le_refl _|exact jO _ _ _ _ _ _ _|exact akE _ main _ _ _ _ _|refine ym ?_ ?_|split))
 all_goals (try simp only[iT,kR])
 all_goals (try exact ali (eQ (by assumption)) (jO _ _ _ _ _ _ _))
 all_goals (try (generalize Extern.next _=o;cases o<;>dsimp only[Option.elim]<;>first|exact Nat.le_refl _|exact jO _ _ _ _ _ _ _))
 all_goals (try simp only[gW])
 all_goals (first
  |exact Nat.le_refl _
  |exact eQ (by assumption)
  |exact aQ (by assumption))
theorem ahV (p:Program)(main:Bool)(g:Goroutine)(w:World)(l:Bool):w.drawn≤(gW (stepG p main g w l)).drawn :=by
 unfold stepG;obtain⟨fr,callers,status,dying,offers⟩:=g;dsimp only;split
 ·exact dw_die _ _ _ _
 ·exact akG _ _ _ _ _ _ _
 ·exact ae0 _ _ _ _ _ _
def sW:Stepped→World
 | .next m=>m.world
 | .ended _ w=>w
theorem akH (p:Program)(rest:Rest)(gs:Array Goroutine)(i:Nat)(g:Goroutine)(cases_:Array CommCase)(b:Bool)(sh:CommShape)(w:World):w.drawn≤(sW (communicate p rest gs i g cases_ b sh w).1).drawn :=by
 unfold communicate;dsimp only;split
 ·exact Nat.le_refl _
 ·split
  ·split
   ·unfold waitingAt
    split
    ·rename_i he
     split at he
     ·split at he
      ·cases he;exact Nat.le_refl _
      ·cases he
     ·cases he;exact Nat.le_refl _
    ·exact Nat.le_refl _
   ·exact Nat.le_refl _
  ·split
   ·rename_i h;exact aQ h
   ·rename_i h
    have h0:=eQ h;split
    ·split
     ·rename_i h1;exact ali h0 (aQ h1)
     ·exact h0
    ·exact h0
    ·exact h0
    ·split
     ·exact h0
     ·split
      ·rename_i h1;exact ali h0 (by have:=eQ h1;exact this)
      ·rename_i h1;exact ali h0 (by have:=aQ h1;exact this)
    ·exact h0
    ·exact h0
    ·exact h0
theorem ae1 (p:Program)(gs:Array Goroutine)(rest:Rest)(w:World):w.drawn≤(sW (look p gs rest w)).drawn :=by
 unfold look;split
 ·dsimp only
  split
  ·exact Nat.le_refl _
  ·split
   ·exact Nat.le_refl _
   ·split
    ·rename_i h;have:=eQ h;exact this
    ·rename_i h;exact aQ h
    ·rename_i h;exact aQ h
 ·exact Nat.le_refl _
theorem ahT (m:Machine)(op:TimerOp){v:Value}{m':Machine}(h:timerOp m op= .ok (v,m')):m'.world.drawn=m.world.drawn:=by
 have hn:∀(m1:Machine) (n:Nat) (var:Addr) (f:Nat→Timer→Value×Machine),(∀k t,(f k t).2.world.drawn =n)→timerOp.named m1 var f= .ok (v,m')→m'.world.drawn=n:=by
  intro m1 n var f hf hh;unfold timerOp.named at hh;split at hh
  ·rename_i k hk
   have h1:=hf k (m1.rest.timers.getD k default);rw[Except.ok.inj hh]at h1;exact h1
  ·cases hh
 have hr:∀(m1:Machine) (k:Nat) (t:Timer) (a b:Nat),(retime m1 k t a b).2.world.drawn =m1.world.drawn:=by
  intro m1 k t a b;unfold retime drain;dsimp only;split
  ·split<;>rfl
  ·rfl
 unfold timerOp at h;split at h
 ·split at h
  ·cases h;rfl
  ·split at h
   ·split at h
    ·cases h
    ·cases h;rfl
   ·cases h
 ·exact hn m _ _ _ (fun k t=>hr m _ _ _ _) h
 ·split at h
  ·rename_i h1
   refine(hn _ _ _ _ (fun k t=>hr _ k t _ _) h).trans ?_;unfold timerOp.opened at h1;split at h1
   ·split at h1
    ·cases h1;rfl
    ·cases h1
   ·cases h1;rfl
  ·cases h
 ·cases h;rfl
theorem akC (p:Program)(m:Machine)(i:Nat)(l:Bool):m.world.drawn≤(sW (runT p m i l).1).drawn :=by
 unfold runT;dsimp only;have h:=ahV p (i==0) (m.gs.swapAt! i {(default:Goroutine)with status:=.finished}).1 m.world l;generalize hs:stepG p (i==0) (m.gs.swapAt! i {(default:Goroutine)with status:=.finished}).1 m.world l=s at*
 cases s<;>dsimp only[gW]at h⊢
 all_goals first
  |exact h
  |exact ali h (akH _ _ _ _ _ _ _ _ _)
  |exact ali h (ae1 _ _ _ _)
  |(split<;>exact h)
  |skip
 ·split
  ·rename_i h1
   have:=ahT _ _ h1;exact ali h (Nat.le_of_eq this.symm)
  ·split
   ·rename_i h1
    have h2:=congrArg gW h1;rw[aaa]at h2;exact ali h (Nat.le_of_eq (congrArg World.drawn h2))
   ·exact h
  ·exact h
  ·exact h
theorem ahW (p:Program)(m:Machine)(k:Nat):m.world.drawn≤(sW (serve p m k)).drawn :=by
 unfold serve;split
 ·exact Nat.le_refl _
 ·exact Nat.le_refl _
 ·dsimp only
  split<;>exact Nat.le_refl _
def mW:Move→World
 | .goroutine m _=>m.world
 | .machine s _=>sW s
theorem vT (p:Program)(m:Machine):m.world.drawn≤(mW (askOn p m)).drawn :=by
 have hp:∀(w:World),m.world.drawn≤w.drawn→m.world.drawn≤(mW (match (choose (.sched (runnable m.gs m.world.os.mono).length)).run p w with
  | .halt _ w=>.machine (.ended (.stuck "sched" "") w)
  | .ok k world=>
   if (runnable m.gs m.world.os.mono).length ≤1 then .goroutine {m with world} ((runnable m.gs m.world.os.mono).getD k 0)else
   match (choose (.extern "sched.slice" 65536)).run p world with
   | .halt _ w=>.machine (.ended (.stuck "sched.slice" "") w)
   | .ok n world=>.goroutine {m with world,rest:={m.rest with slice:=if n=0 then none else some ((runnable m.gs m.world.os.mono).getD k 0,n)}} ((runnable m.gs m.world.os.mono).getD k 0))).drawn :=by
  intro w hw;split
  ·rename_i h;exact ali hw (aQ h)
  ·rename_i h
   have h0:=ali hw (eQ h);split
   ·exact h0
   ·split
    ·rename_i h1;exact ali h0 (aQ h1)
    ·rename_i h1;exact ali h0 (eQ h1)
 unfold askOn;dsimp only;split
 ·rename_i h;exact aQ h
 ·rename_i h
  have h0:=eQ h;split
  ·exact ali h0 (ahW p {m with world:= ‹World›} _)
  ·split
   ·split
    ·exact h0
    ·split
     ·exact h0
     ·have h1:=uj ‹World› 2
      have h4:=endWith_ended ‹World› 2;split
      ·rename_i h2
       have h3:=congrArg gW h2;exact ali h0 (ali (h1 _ _) (Nat.le_of_eq (congrArg World.drawn h3)))
      ·rename_i h2
       obtain⟨o',w',es,h5⟩:=h4 _ _;exact absurd h5 (h2 _ _ _)
   ·split
    ·exact hp _ h0
    ·split
     ·rename_i h2;exact ali h0 (aQ h2)
     ·rename_i h2;exact hp _ (ali h0 (eQ h2))
     ·rename_i h2
      have h3:=eQ h2;exact ali h0 h3
     ·rename_i h2
      have h3:=ali h0 (eQ h2);exact hp _ h3
theorem ae3 (p:Program)(m:Machine):m.world.drawn≤(mW (ask p m)).drawn :=by
 unfold ask;split
 ·split
  ·rename_i h;exact aQ h
  ·rename_i h
   have h0:=eQ h;have hl:=ae1 p m.gs m.rest;split
   ·rename_i h1
    have h2:=hl ‹World›;rw[h1]at h2;exact ali (ali h0 h2) (vT _ _)
   ·exact ali h0 (hl _)
  ·rename_i h
   have h1:=vT p {m with world:= ‹World›};exact ali (eQ h) h1
 ·exact vT _ _
theorem akF (p:Program)(m:Machine):m.world.drawn≤(mW (move p m)).drawn :=by
 unfold move;split
 ·split<;>exact Nat.le_refl _
 ·split
  ·split
   ·exact Nat.le_refl _
   ·exact ae3 p {m with rest:={m.rest with slice:=none}}
  ·exact ae3 _ _
theorem akB (p:Program)(m:Machine):m.world.drawn≤(sW (step p m)).drawn :=by
 unfold step stepT;have h:=akF p m;split
 ·rename_i h1
  rw[h1]at h;exact ali h (akC _ _ _ _)
 ·rename_i h1
  rw[h1]at h;exact h
theorem akD (p:Program)(n:Nat):∀m:Machine,m.world.drawn≤(sW (runN p n m)).drawn :=by
 induction n with
 |zero=>intro m;exact Nat.le_refl _
 |succ n ih=>
  intro m;have h:=akB p m;simp only[runN];split
  ·rename_i h1
   rw[h1]at h;exact ali h (ih _)
  ·exact h
theorem ahU {P:Program}{m m':Machine}(h:Steps P m m'):m.world.drawn≤m'.world.drawn:=by
 obtain⟨n,h⟩:=h;have:=akD P n m;rw[h]at this;exact this
theorem ahY {P:Program}{f:FuncId}{args:Array Value}{w:World}{V:Value}{R:World→Prop}(h:Calls P f args w fun e w'=>e= .returned V∧R w'):Calls P f args w fun e w'=>e= .returned V∧R w'∧w.drawn≤w'.drawn:=by
 intro cs;obtain⟨e,w',fr,⟨he,hr⟩,hc,h1,h2⟩:=h cs;subst he;exact⟨_,w',fr,⟨rfl,hr,ahU hc⟩,hc,h1,h2⟩
end Go.Proofs.YtjknklinhegdoaaGreatDoor
namespace Go.Proofs.YtjknklinhegdoaaGreatDoor
open Go.RowKit Go.Shelf Go.Sort
section
variable {α:Type} [Inhabited α] {enc:α→Value}
theorem xV {w:World}{g n:Nat}{os:Array Obj}{cur:Array Value}{e:TypeId}{fr:Nat×Nat}(d:Array α)(hb:w.heap[g]? =some (.cells cur e fr)):
 (grow (putRow enc (Sort.ahead w n) g 0 d) os).heap[g]? =some (.cells (putCells enc 0 d cur) e fr):=by
 have hg:g<w.heap.size:=(alc.1 hb).1;rw[heap_grow_old _ _ (by simpa using hg)];simp[putRow,mapBlock,Sort.ahead,Array.getElem?_modify,hb,onCells]
theorem jC {w:World}{g n:Nat}{os:Array Obj}(d:Array α):w.grownBy (grow (putRow enc (Sort.ahead w n) g 0 d) os) (some g):=by
 refine⟨rfl,rfl,rfl,by simp,fun k hk hne=>?_⟩;rw[heap_grow_old _ _ (by simpa using hk)];have:g≠k:=fun e=>hne (by rw[e])
 simp[putRow,mapBlock,Sort.ahead,Array.getElem?_modify,this]
theorem xg (cur:Array Value)(d:Array α)(h:d.size=cur.size):putCells enc 0 d cur=d.map enc:=by
 apply Array.ext_getElem?;intro j;by_cases hj:j<d.size
 ·simp[putCells,hj,show j<cur.size by omega]
 ·rw[Array.getElem?_eq_none (by simp[putCells];omega),Array.getElem?_eq_none (by simp;omega)]
end
theorem akk {W W':World}(hb:RowKit.Below W.heap.size W W')(hd:W.drawn≤W'.drawn):∃q os,W'=grow (W.drewN q) os:=by
 refine⟨W'.drawn-W.drawn,W'.heap.extract W.heap.size W'.heap.size,?_⟩;obtain⟨heap,tape,drawn,os,output⟩:=W;obtain⟨heap',tape',drawn',os',output'⟩:=W';have h1:=hb.os;have h2:=hb.tape;have h3:=hb.output;have h4:=hb.size;have h5:=hb.block;dsimp only at*
 subst h1 h2 h3;have e1:heap'=heap++heap'.extract heap.size heap'.size:=by
  apply Array.ext_getElem?;intro i;by_cases hi:i<heap.size
  ·rw[h5 i hi,Array.getElem?_append_left hi]
  ·rw[Array.getElem?_append_right (by omega),Array.getElem?_extract]
   by_cases hl:i<heap'.size
   ·rw[if_pos (by omega),show heap.size+(i-heap.size)=i by omega]
   ·rw[if_neg (by omega),Array.getElem?_eq_none (by omega)]
 have e2:drawn+(drawn'-drawn)=drawn':=by omega
 unfold grow World.drewN;simp only[e2];congr 1
section
variable {m:Nat}
theorem akz:OneCell (ac3 (m:=m)):=fun x=>rfl
theorem agG {blk n:Nat}{g:FuncId}{cb:Array Value}{cf:Fin (m+1)→Fin (m+1)→Int}{d:Array (Fin (m+1))}{w0 w:World}(hcf:∀(args:Array Value) (u:World),(callFunc g args).run Tryz.prog u= .ok (.enter g args) u)
 (hO:SWO (ltC cf)) (hcmp:CmpK w0 blk g cb cf) (hn:d.size=n) (hm:n≤1000000) (S:SoW w0 blk d w):
 Calls Tryz.prog 264 #[.slice (some ⟨blk,0,none⟩) n n,.func (.func g) #[] cb] w fun e w'=>∃d':Array (Fin (m+1)),e= .returned (.tuple #[])∧d'.toList.Perm d.toList∧d'.size=n∧(∀i j,i<j→j<n→ltC cf d'[j]! d'[i]! =false)∧SoW w0 blk d' w':=by
 have hH:Holds ac3 w blk 0 d:=fun j hj=>by
  rw[Nat.zero_add];exact⟨S.cell hj,S.frozen j⟩
 have hL:CmpLays1 Tryz.prog g cb ac3 cf blk 0 d.size w:=by
  intro k os dk hs x y;have hgr:w0.grownBy (sortWorld ac3 w blk 0 k dk os) (some blk):=S.gr.trans (jC (n:=k) dk);have h1:=hcmp _ hgr x y;refine(ahY h1).mono ?_;rintro e w' ⟨he,hb,hd⟩;exact⟨he,akk hb hd⟩
 have:=Any.slices_SortFunc Tryz.sortI ac3 akz cf hO g cb blk 0 n d w hcf hL hH S.lt (by omega);rw[hn]at this;refine this.mono ?_;rintro e w' ⟨rfl,d',k,os,hp,hs,rfl⟩;obtain⟨p1,p2,p3⟩:=hp;have e1:d'.extract 0 n=d':=Array.extract_eq_self_of_le (by omega);have e2:d.extract 0 n=d:=Array.extract_eq_self_of_le (by omega);rw[e1,e2]at p3;refine⟨d',rfl,p3,by omega,fun i j hij hj=>hs i j (Nat.zero_le _) hij hj,S.gr.trans (jC d'),?_⟩;have:=xV (enc:=ac3) (n:=k) (os:=os) d' S.row;rw[xg _ _ (by rw[Array.size_map];omega)]at this;exact this
end
end Go.Proofs.YtjknklinhegdoaaGreatDoor
namespace SP
theorem lt_ge (a b:Int):a<b∨b≤a:=by omega
def at0 (l:List Int)(i:Nat):Int:=l.getD i 0
theorem gU {l:List Int}{i:Nat}{x:Int}(h:l[i]? =some x):at0 l i=x:=by simp[at0,List.getD_eq_getElem?_getD,h]
theorem iK {l:List Int}{i:Nat}(h:i<l.length):l[i]? =some (at0 l i):=by simp[at0,List.getD_eq_getElem?_getD,ald h]
def iJ (r:List Int)(k i:Nat):Bool:=decide (at0 r i<at0 r k)||(decide (at0 r k=at0 r i)&&decide (k<i))
theorem dO {r:List Int}{k i:Nat}:iJ r k i=true↔at0 r i<at0 r k∨(at0 r k=at0 r i∧k<i):=by simp[iJ]
theorem nP (r:List Int)(i:Nat):iJ r i i=false:=by
 rw[←Bool.not_eq_true,dO];omega
theorem kU {r:List Int}{k i:Nat}(h:iJ r k i=true):iJ r i k=false:=by
 rw[←Bool.not_eq_true,dO];rw[dO]at h;omega
theorem jc {r:List Int}{k i:Nat}(h:k≠i):iJ r k i=true∨iJ r i k=true:=by
 rw[dO,dO];omega
theorem aao {r:List Int}{a b c:Nat}(h:iJ r a b=true)(h2:iJ r b c=true):iJ r a c=true:=by
 rw[dO]at*;omega
def rk (r:List Int)(i:Nat):Nat:=(List.range r.length).countP (fun k=>iJ r k i)
def Ord (r:List Int)(l:List Nat):Prop:=l.Perm (List.range r.length)∧l.Pairwise (fun a b=>iJ r a b=true)
theorem cut_at {l:List Nat}{j i:Nat}(h:l[j]? =some i):l=l.take j++i::l.drop (j+1):=by
 obtain⟨hj,e⟩:=alj.1 h;rw[←e, ←List.drop_eq_getElem_cons hj,List.take_append_drop]
theorem rk_at {r:List Int}{l:List Nat}(h:Ord r l){j i:Nat}(hj:l[j]? =some i):rk r i=j:=by
 have hjl:j<l.length:=(alj.1 hj).1;unfold rk;rw[←h.1.countP_eq];have hs:=h.2;rw[cut_at hj]at hs⊢
 rw[List.pairwise_append,List.pairwise_cons]at hs;obtain⟨_,⟨h2,_⟩,h3⟩:=hs;rw[List.countP_append,List.countP_cons,nP];have e1:(l.take j).countP (fun k=>iJ r k i)=(l.take j).length :=List.countP_eq_length.2 (fun a ha=>h3 a ha i (by simp));have e2:(l.drop (j+1)).countP (fun k=>iJ r k i)=0:=List.countP_eq_zero.2 (fun a ha=>by rw[kU (h2 a ha)];simp);rw[e1,e2,alr];simp;omega
theorem ajH {r:List Int}{l:List Nat}(h:Ord r l):l.length=r.length:=by rw[h.1.length_eq,List.length_range]
theorem ad7 {r:List Int}{l:List Nat}(h:Ord r l){i:Nat}:i∈l↔i<r.length:=by rw[h.1.mem_iff,List.mem_range]
theorem ad6 {r:List Int}{l:List Nat}(h:Ord r l){i:Nat}(hi:i<r.length):l[rk r i]? =some i:=by
 obtain⟨j,hj,e⟩:=List.mem_iff_getElem.1 ((ad7 h).2 hi);have:l[j]? =some i:=by rw[ald hj,e]
 rw[rk_at h this];exact this
theorem ord_ex (r:List Int):∃l,Ord r l:=by
 refine⟨(List.range r.length).mergeSort (fun a b=> !iJ r b a),List.mergeSort_perm _ _,?_⟩;have h1:=List.pairwise_mergeSort (le:=fun a b=> !iJ r b a) (fun a b c h h2=>by
  simp only[Bool.not_eq_true', ←Bool.not_eq_true,dO]at*;omega) (fun a b=>by
  rcases Nat.lt_trichotomy a b with h|h|h
  ·rcases jc (r:=r) (k:=a) (i:=b) (by omega)with h'|h'<;>rw[kU h']<;>simp
  ·subst h;simp[nP]
  ·rcases jc (r:=r) (k:=a) (i:=b) (by omega)with h'|h'<;>rw[kU h']<;>simp) (List.range r.length)
 have h2:((List.range r.length).mergeSort (fun a b=> !iJ r b a)).Pairwise (· ≠ ·):=
  (List.mergeSort_perm _ _).symm.pairwise List.nodup_range (fun h=>h.symm)
 exact(h1.and h2).imp (fun{a b} h=>by
  have h3:=h.1;rcases jc (r:=r) h.2 with h'|h'
  ·exact h'
  ·rw[h']at h3;simp at h3)
theorem rk_inj {r:List Int}{i k:Nat}(hi:i<r.length)(hk:k<r.length)(e:rk r i=rk r k):i=k:=by
 obtain⟨l,h⟩:=ord_ex r;have h1:=ad6 h hi;rw[e,ad6 h hk]at h1;injection h1 with h1
 exact h1.symm
theorem zM (r:List Int):(List.range r.length).map (at0 r)=r:=by
 apply List.ext_getElem?;intro i;rw[als];by_cases h:i<r.length
 ·rw[List.getElem?_range h,iK h];rfl
 ·rw[alB (by rw[List.length_range];omega),alB (by omega)];rfl
def qL (T:Int)(ws:List Int):List Int:=ws.map fun w=>(T*w).fdiv ws.sum
def rL (T:Int)(ws:List Int):List Int:=ws.map fun w=>(T*w).fmod ws.sum
def mis (T:Int)(ws:List Int):Int:=T-(qL T ws).sum
def bon (T:Int)(ws:List Int)(i:Nat):Int:=if (rk (rL T ws) i:Int)<mis T ws then 1 else 0
def wI (T:Int)(ws:List Int):List Int:=(List.range ws.length).map fun i=>at0 (qL T ws) i+bon T ws i
def wP (T:Int)(ws:List Int):List Int:=if T<0 then(wI (-T) ws).map (fun x=> -x)else wI T ws
structure WOk (ws:List Int):Prop where
 nn:∀w∈ws,0≤w
 pos:0<ws.sum
theorem wZ (T:Int)(ws:List Int):(qL T ws).length =ws.length:=by simp[qL]
theorem aaM (T:Int)(ws:List Int):(rL T ws).length =ws.length:=by simp[rL]
theorem ag6 (T:Int)(ws:List Int):(wI T ws).length =ws.length:=by simp[wI]
theorem dI (T:Int)(ws:List Int):(wP T ws).length =ws.length:=by unfold wP;split<;>simp[wI]
theorem agZ {T:Int}{ws:List Int}{i:Nat}(h:i<ws.length):at0 (qL T ws) i=(T*at0 ws i).fdiv ws.sum:=gU (by rw[qL,als,iK h];rfl)
theorem rL_at {T:Int}{ws:List Int}{i:Nat}(h:i<ws.length):at0 (rL T ws) i=(T*at0 ws i).fmod ws.sum:=gU (by rw[rL,als,iK h];rfl)
theorem adV {T:Int}{ws:List Int}{i:Nat}(h:i<ws.length):at0 (wI T ws) i=(T*at0 ws i).fdiv ws.sum+bon T ws i:=gU (by rw[wI,als,List.getElem?_range h];show some (at0 (qL T ws) i+bon T ws i)=_;rw[agZ h])
theorem yV {α:Type}(f g:α→Int)(l:List α):(l.map (fun x=>f x+g x)).sum =(l.map f).sum +(l.map g).sum :=by
 induction l with
 |nil=>rfl
 |cons x l ih=>simp only[List.map_cons,List.sum_cons,ih];omega
theorem pQ {α:Type}(f:α→Int)(S:Int)(l:List α):(l.map (fun x=>S*f x)).sum =S*(l.map f).sum :=by
 induction l with
 |nil=>simp
 |cons x l ih=>simp only[List.map_cons,List.sum_cons,ih,Int.mul_add]
theorem fdm (a S:Int):S*a.fdiv S+a.fmod S=a:=Int.mul_fdiv_add_fmod a S
theorem qG (a:Int){S:Int}(h:0<S):0≤a.fmod S∧a.fmod S<S:=⟨Int.fmod_nonneg_of_pos a h,Int.fmod_lt_of_pos a h⟩
theorem agV (T:Int){ws:List Int}:(rL T ws).sum =ws.sum*mis T ws:=by
 have h:ws.sum*(qL T ws).sum +(rL T ws).sum =T*ws.sum:=by
  unfold qL rL;rw[←pQ, ←yV];rw[List.map_congr_left (f:=fun x=>ws.sum*(T*x).fdiv ws.sum+(T*x).fmod ws.sum) (g:=fun w=>T*id w) (fun w _=>fdm _ _),pQ,List.map_id]
 unfold mis;rw[Int.mul_sub,Int.mul_comm ws.sum T];omega
theorem pX (T:Int){ws:List Int}(h:WOk ws):∀x∈rL T ws,0≤x∧x<ws.sum:=by
 intro x hx;obtain⟨w,_,rfl⟩:=alq.1 hx;exact qG _ h.pos
theorem wM {S:Int}(_hS:0<S)(l:List Int)(h:∀x∈l,0≤x∧x<S):0≤l.sum∧l.sum≤S*(l.countP (fun x=>decide (0<x)):Int)∧(0<l.countP (fun x=>decide (0<x))→l.sum<S*(l.countP (fun x=>decide (0<x)):Int)):=by
 induction l with
 |nil=>simp
 |cons x l ih=>
  obtain⟨h1,h2,h3⟩:=ih (fun y hy=>h y (by simp[hy]));have hx:=h x (by simp);rw[List.sum_cons,List.countP_cons];generalize l.countP (fun x=>decide (0<x))=c at*
  by_cases h0:0<x
  ·simp only[h0,decide_true,if_true]
   have e:S*((c+1:Nat):Int)=S*(c:Int)+S:=by rw[Int.natCast_add,Int.mul_add];simp
   rw[e];exact⟨by omega,by omega,fun _=>by omega⟩
  ·have:x=0:=by omega
   subst this;simp only[h0,decide_false];simp only[alu,if_false,Nat.add_zero,Int.zero_add];exact⟨h1,h2,h3⟩
theorem tK (T:Int){ws:List Int}(h:WOk ws):0≤mis T ws∧mis T ws≤((rL T ws).countP (fun x=>decide (0<x)):Int):=by
 obtain⟨h1,h2,_⟩:=wM h.pos (rL T ws) (pX T h);rw[agV]at h1 h2;have hp:=h.pos;constructor
 ·rcases lt_ge (mis T ws) 0 with hm|hm
  ·have:=Int.mul_neg_of_pos_of_neg hp hm
   omega
  ·exact hm
 ·exact Int.le_of_mul_le_mul_left h2 hp
theorem mis_le (T:Int){ws:List Int}(h:WOk ws):0≤mis T ws∧mis T ws≤(ws.length:Int):=by
 have:=tK T h;have h2:=List.countP_le_length (p:=fun x=>decide ((0:Int)<x)) (l:=rL T ws);rw[aaM]at h2;omega
theorem aff (r:List Int)(p:Int→Bool):(List.range r.length).countP (fun k=>p (at0 r k))=r.countP p:=by
 have:=congrArg (List.countP p) (zM r);rw[List.countP_map]at this;exact this
theorem aiv (T:Int){ws:List Int}(h:WOk ws){i:Nat}(h0:at0 (rL T ws) i=0):bon T ws i=0:=by
 have h1:=tK T h;have h2:(rL T ws).countP (fun x=>decide (0<x))≤rk (rL T ws) i:=by
  rw[←aff];unfold rk;apply List.countP_mono_left;intro k _ hk;rw[dO,h0];left;simpa using hk
 unfold bon;rw[if_neg (by omega)]
theorem yG (T:Int)(ws:List Int)(i:Nat):bon T ws i=0∨bon T ws i=1:=by unfold bon;split<;>simp
theorem xn (T:Int){ws:List Int}(h:WOk ws){i:Nat}(hi:i<ws.length): -ws.sum<ws.sum*at0 (wI T ws) i-T*at0 ws i∧ws.sum*at0 (wI T ws) i-T*at0 ws i<ws.sum:=by
 rw[adV hi,Int.mul_add];have e:=fdm (T*at0 ws i) ws.sum;have hb:=qG (T*at0 ws i) h.pos;have hz:=aiv T h (i:=i);rw[rL_at hi]at hz;rcases yG T ws i with hc|hc
 ·rw[hc,Int.mul_zero];omega
 ·have:(T*at0 ws i).fmod ws.sum≠0:=fun e=>by have:=hz e;omega
  rw[hc,Int.mul_one];omega
theorem afY (l:List Int)(i:Nat):at0 (l.map (fun x=> -x)) i= -at0 l i:=by
 by_cases h:i<l.length
 ·exact gU (by rw[als,iK h];rfl)
 ·unfold at0
  rw[List.getD_eq_getElem?_getD,alB (by simp;omega),List.getD_eq_getElem?_getD,alB (by omega)];rfl
theorem adq (T:Int){ws:List Int}(h:WOk ws){i:Nat}(hi:i<ws.length): -ws.sum<ws.sum*at0 (wP T ws) i-T*at0 ws i∧ws.sum*at0 (wP T ws) i-T*at0 ws i<ws.sum:=by
 unfold wP;split
 ·rw[afY]
  have:=xn (-T) h hi;rw[Int.neg_mul]at this;rw[Int.mul_neg];omega
 ·exact xn T h hi
theorem uD (ws:List Int){k:Nat}(hk:k<ws.length):(ws.take (k+1)).sum =(ws.take k).sum +at0 ws k:=by
 rw[List.take_add_one,iK hk,List.sum_append];simp
end SP
namespace Go.Proofs.YtjknklinhegdoaaGreatDoor
open Go.RowKit Go.Shelf Dec QQ SP
def iv (ws:List ByteArray):List Int:=ws.map aj
theorem aP (ws:List ByteArray):(iv ws).length =ws.length:=by simp[iv]
theorem zT {ws:List ByteArray}{i:Nat}{s:ByteArray}(h:ws[i]? =some s):at0 (iv ws) i=aj s:=gU (by rw[iv,als,h];rfl)
theorem qC {ws:List ByteArray}{k:Nat}{s:ByteArray}(h:ws[k]? =some s):((iv ws).take (k+1)).sum =((iv ws).take k).sum +aj s:=by
 rw[uD _ (by rw[aP];exact(alj.1 h).1),zT h]
def aiI (s:ByteArray):Bool:=(chk s !=0)||decide (aj s<0)
theorem sw {s:ByteArray}:aiI s=false↔chk s=0∧0≤aj s:=by
 unfold aiI;simp
def alE (t:ByteArray)(ws:List ByteArray):Int:=if ws.length=0 then 11 else if 1000<ws.length then 4 else if chk t≠0∨ws.any aiI=true then 1 else if (iv ws).sum =0 then 10 else 0
structure AlOk (t:ByteArray) (ws:List ByteArray):Prop where
 len0:0<ws.length
 len:ws.length≤1000
 ct:chk t=0
 cw:∀w∈ws,chk w=0∧0≤aj w
 ok:WOk (iv ws)
theorem adi {l:List Int}(h:∀x∈l,0≤x):0≤l.sum:=by
 induction l with
 |nil=>simp
 |cons x l ih=>rw[List.sum_cons];have:=ih (fun y hy=>h y (by simp[hy]));have:=h x (by simp);omega
theorem wF {t:ByteArray}{ws:List ByteArray}:alE t ws=0↔AlOk t ws:=by
 constructor
 ·intro h
  unfold alE at h;split at h
  ·cases h
  ·rename_i h1
   split at h
   ·cases h
   ·rename_i h2
    split at h
    ·cases h
    ·rename_i h3
     split at h
     ·cases h
     ·rename_i h4
      rw[not_or,Decidable.not_not]at h3;have hw:∀w∈ws,chk w=0∧0≤aj w:=fun w hw=>sw.1 (by
       have:=h3.2;rw[Bool.not_eq_true,List.any_eq_false]at this;simpa using this w hw)
      have hn:∀x∈iv ws,0≤x:=fun x hx=>by
       obtain⟨w,hw',rfl⟩:=alq.1 hx;exact(hw w hw').2
      exact⟨by omega,by omega,h3.1,hw,hn,by have:=adi hn;omega⟩
 ·intro h
  unfold alE;rw[if_neg (by have:=h.len0;omega),if_neg (by have:=h.len;omega),if_neg,if_neg]
  ·have:=h.ok.pos;omega
  ·rw[not_or,Decidable.not_not]
   refine⟨h.ct,?_⟩;rw[Bool.not_eq_true,List.any_eq_false];intro w hw;rw[sw.2 (h.cw w hw)];decide
def alS (t:ByteArray)(ws:List ByteArray):List Int:=if alE t ws=0 then wP (aj t) (iv ws)else []
theorem ajc {K:Nat}{l:List Int}(h:∀x∈l,Fit K x):l.sum.natAbs≤l.length*10^K:=by
 induction l with
 |nil=>simp
 |cons x l ih=>
  have h1:=ih (fun y hy=>h y (by simp[hy]));have h2:x.natAbs<10^K:=h x (by simp);rw[List.sum_cons,aly,Nat.add_mul,Nat.one_mul];have:=Int.natAbs_add_le x l.sum;omega
theorem agw {K:Nat}{l:List Int}(h:∀x∈l,Fit K x):l.sum.natAbs+l.length≤l.length*10^K:=by
 induction l with
 |nil=>simp
 |cons x l ih=>
  have h1:=ih (fun y hy=>h y (by simp[hy]));have h2:x.natAbs<10^K:=h x (by simp);rw[List.sum_cons,aly,Nat.add_mul,Nat.one_mul];have:=Int.natAbs_add_le x l.sum;omega
theorem kw {K:Nat}{l:List Int}(h:∀x∈l,Fit K x)(hn:l.length≤1000):Fit (K+3) l.sum:=by
 have h1:=ajc h;have h2:l.length*10^K≤1000*10^K:=Nat.mul_le_mul_right _ hn;have h3:(10:Nat)^(K+3)=10^K*1000:=by rw[Nat.pow_add]
 have h4:=agw h;have h5:0<(10:Nat)^K:=Nat.pow_pos (by omega);show _<_;rw[h3];cases l with
 |nil=>simp;omega
 |cons x l=>rw[aly]at*;omega
theorem lU {k:Nat}{ws:List ByteArray}(h:∀s∈ws,s.size≤k):∀x∈iv ws,Fit k x:=by
 intro x hx;obtain⟨s,hs,rfl⟩:=alq.1 hx;exact Fit.val (h s hs)
theorem jH {k m:Nat}{ws:List ByteArray}(h:∀s∈ws,s.size≤k)(hn:ws.length≤1000):Fit (k+3) ((iv ws).take m).sum :=
 kw (fun x hx=>lU h x (List.mem_of_mem_take hx)) (by rw[alr,aP];omega)
theorem ac8 {k:Nat}{ws:List ByteArray}(h:∀s∈ws,s.size≤k)(hn:ws.length≤1000):Fit (k+3) (iv ws).sum :=by
 have:=jH (m:=ws.length) h hn;rwa[aln (by rw[aP];omega)]at this
end Go.Proofs.YtjknklinhegdoaaGreatDoor
