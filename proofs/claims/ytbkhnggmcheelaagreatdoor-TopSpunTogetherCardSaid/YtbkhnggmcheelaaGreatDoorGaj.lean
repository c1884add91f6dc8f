/- TopSpunTogether: slices. Conditions: bounded sizes; variables as laid. -/
import Derived.Shelf.SlSortCmp.Whole1
import Derived.Sort.OwnSortedInts
import Derived.Test.YtbkhnggmcheelaaGreatDoorGah
set_option linter.unusedSimpArgs false
set_option linter.unusedVariables false
set_option maxHeartbeats 4000000
set_option maxRecDepth 100000
namespace SP
end SP
namespace Go.Proofs.YtbkhnggmcheelaaGreatDoor
open Proofs.Tryz
section
open Go.RowKit Go.Shelf Go.Sort
def ltC {α:Type}(cf:α->α->Int)(x y:α):Bool:=decide (cf x y<0)
section
variable {m:Nat}
def adU (x:Fin (m+1)):Value:=.int .i64 (x.val:Int)
structure SoW (w0:World) (blk:Nat) (dk:Array (Fin (m+1))) (W:World):Prop where
 gr:w0.grownBy W (some blk)
 row:W.heap[blk]? =some (.cells (dk.map adU) 3 (0,0))
variable {w0 W W':World} {blk:Nat} {dk:Array (Fin (m+1))}
theorem SoW.lt (h:SoW w0 blk dk W):blk<W.heap.size:=(amA.1 h.row).1
theorem SoW.cell (h:SoW w0 blk dk W){i:Nat}(hi:i<dk.size):W.cell? ⟨blk,i,none⟩=some (.int .i64 (dk[i]!.val :Int)):=by
 simp[World.cell?,h.row,hi,adU]
theorem SoW.frozen (h:SoW w0 blk dk W)(i:Nat):W.frozen? ⟨blk,i,none⟩=false:=by simp[World.frozen?,h.row]
end
def CmpK {m:Nat}(w0:World)(blk:Nat)(g:FuncId)(cb:Array Value)(cf:Fin (m+1)->Fin (m+1)->Int):Prop:=
 ∀W,w0.grownBy W (some blk)->∀x y:Fin (m+1),Calls prog g (#[.int .i64 (x.val:Int),.int .i64 (y.val:Int)]++cb) W fun e w'=>e= .returned (.int .i64 (cf x y))/\Below W.heap.size W w'
end
section
open Go.RowKit Go.Shelf Go.Sort SP
theorem zx (x:Int)(w:World):Calls prog 272 #[.int .i64 x] w fun e w'=>e= .returned (.bool false)/\w'=w:=by
 go_enter func272,ntmps272
 go_wp2_with fail
 go_ret
 exact⟨by simp,rfl⟩
theorem adF (x y:Int)(w:World):Calls prog 259 #[.int .i64 x,.int .i64 y] w fun e w'=>e= .returned (.int .i64 (dW x y))/\w'=w:=by
 have K1:=zx x w;have K2:=zx y w;have e:dW x y=if x<y then-1 else if x=y then 0 else 1:=rfl
 rcases Int.lt_trichotomy x y with h|h|h
 ·rw[e,if_pos h]
  have q:decide (x<y)=true:=am2 h;clear e h
  go_enter func259,ntmps259
  go_wp2_with fail
  refine K1.mono ?_;rintro e w1 ⟨rfl,rfl⟩
  go_wp2_with fail
  refine K2.mono ?_;rintro e w1 ⟨rfl,rfl⟩
  go_wp2_with fail
  go_ret
  exact⟨rfl,rfl⟩
 ·subst h
  rw[e,if_neg (by omega),if_pos rfl];have q:decide (x<x)=false:=am1 (by omega);clear e
  go_enter func259,ntmps259
  go_wp2_with fail
  refine K1.mono ?_;rintro e w1 ⟨rfl,rfl⟩
  go_wp2_with fail
  refine K2.mono ?_;rintro e w1 ⟨rfl,rfl⟩
  go_wp2_with fail
  go_ret
  exact⟨rfl,rfl⟩
 ·rw[e,if_neg (by omega),if_neg (by omega)]
  have q:decide (x<y)=false:=am1 (by omega);have q2:decide (y<x)=true:=am2 h;clear e h
  go_enter func259,ntmps259
  go_wp2_with fail
  refine K1.mono ?_;rintro e w1 ⟨rfl,rfl⟩
  go_wp2_with fail
  refine K2.mono ?_;rintro e w1 ⟨rfl,rfl⟩
  go_wp2_with fail
  go_ret
  exact⟨rfl,rfl⟩
theorem agk (x y:Int)(b:Nat)(w:World)(h0:w.cell? ⟨b,0,none⟩=some (.int .i64 x))(h1:w.cell? ⟨b,1,none⟩=some (.int .i64 y)):
 Calls prog 227 #[.slice (some ⟨b,0,none⟩) 2 2] w fun e w'=>e= .returned (.int .i64 (if x=0 then y else x))/\w'=w:=by
 by_cases hx:x=0
 ·subst hx
  rw[if_pos rfl];by_cases hy:y=0
  ·subst hy
   go_enter func227,ntmps227
   go_wp2_with fail
   refine wp_loop_rounds 3 ?_;rw[rounds_succ]
   go_wp2_with fail
   rw[rounds_succ]
   go_wp2_with fail
   rw[rounds_succ]
   go_wp2_with fail
   go_ret
   exact⟨rfl,rfl⟩
  ·have q:(y !=0)=true:=by simpa using hy
   clear hy
   go_enter func227,ntmps227
   go_wp2_with fail
   refine wp_loop_rounds 3 ?_;rw[rounds_succ]
   go_wp2_with fail
   rw[rounds_succ]
   go_wp2_with fail
   go_ret
   exact⟨rfl,rfl⟩
 ·have q:(x !=0)=true:=by simpa using hx
  rw[if_neg hx];clear hx
  go_enter func227,ntmps227
  go_wp2_with fail
  refine wp_loop_rounds 3 ?_;rw[rounds_succ]
  go_wp2_with fail
  go_ret
  exact⟨rfl,rfl⟩
end
section
open Go Go.RowKit
theorem af4 {α:Type}:∀(a:Ask α) (w:World),w.drawn<=(w.ask a).2.drawn
 | .done a,w=>am4 _
 | .ask what range k,w=>by
  simp only[World.ask];split
  ·exact af4 _ _
  ·exact amG (Nat.le_succ w.drawn) (af4 (k _) {w with drawn:=w.drawn+1})
theorem aj7 (w:World)(c:Sys):w.drawn<=(w.sys c).2.drawn :=by
 have h:=af4 (Kernel.perform c w.os) w;unfold World.sys;split
 ·exact am4 _
 ·rename_i he
  rw[he]at h;exact h
theorem alW {p:Program}{w w':World}{at_:Addr}{u:TypeId}{k:Addr}{v:Value}{b:Bool}{l:List Addr}(h:w.viewStore p at_ u k v b= .ok (w',l)):w'.drawn=w.drawn:=by
 unfold World.viewStore at h;simp only[bind,Except.bind,pure,Except.pure,throw,throwThe,MonadExceptOf.throw]at h
 repeat' split at h
 all_goals first
  |(cases h;rfl)
  |cases h
theorem dw_far {p:Program}{w w':World}{a:Addr}{v:Value}{b:Bool}{l:List Addr}(h:w.farStore p a v b= .ok (w',l)):w'.drawn=w.drawn:=by
 unfold World.farStore at h;split at h
 ·split at h
  ·rename_i r hr
   cases h;exact alW hr
  ·cases h
 ·cases h
theorem dw_set (w:World)(a:Addr)(v:Value):(w.setCell a v).drawn =w.drawn:=by unfold World.setCell;rfl
theorem af2 (w:World)(a:Addr)(n:Nat):(w.freeze a n).drawn =w.drawn:=by
 unfold World.freeze
 repeat' split
 all_goals rfl
def rW {α:Type}:Result α->World
 | .ok _ w=>w
 | .halt _ w=>w
theorem aj8 {α:Type}(p:Program)(e:Sem α)(w:World):w.drawn<=(rW (e.run p w)).drawn :=by
 induction e generalizing w with
 |pure a=>exact am4 _
 |load m a k ih=>
  simp only[Sem.run];split
  ·exact ih _ w
  ·split
   ·exact ih _ w
   ·exact am4 _
 |store m a v k ih=>
  have hk:w.drawn<=(rW (match w.cell? a with
   |some _=>if w.frozen? a then .halt (.unsupported (.unsafePointer "a write to bytes that a string shares")) w else k.run p (w.setCell a v)
   |none=>match w.farStore p a v (m== .atomic)with
    | .ok (w,_)=>k.run p w
    | .error h=>.halt h w)).drawn :=by
   split
   ·split
    ·exact am4 _
    ·exact amG (Nat.le_of_eq (dw_set w a v).symm) (ih (w.setCell a v))
   ·split
    ·rename_i h
     rw[<-dw_far h];exact ih _
    ·exact am4 _
  cases v<;>simp only[Sem.run]<;>first|exact am4 _|exact hk
 |new o k ih=>exact ih _ {w with heap:=w.heap.push o}
 |shape r k ih=>exact ih _ w
 |freeze a n k ih=>exact amG (Nat.le_of_eq (af2 w a n).symm) (ih (w.freeze a n))
 |frozen a k ih=>exact ih _ w
 |getObj r k ih=>
  simp only[Sem.run];split
  ·exact am4 _
  ·exact ih _ w
  ·exact am4 _
 |setObj r o k ih=>
  simp only[Sem.run];split
  ·exact am4 _
  ·exact ih {w with heap:=w.heap.setIfInBounds r o}
  ·exact am4 _
 |choose q k ih=>
  simp only[Sem.run];split
  ·exact ih _ w
  ·exact amG (Nat.le_succ w.drawn) (ih _ {w with drawn:=w.drawn+1})
 |sys c k ih=>exact amG (aj7 w c) (ih _ (w.sys c).2)
 |program k ih=>exact ih _ w
 |mark m k ih=>exact ih w
 |halt h=>exact am4 _
theorem fJ {α:Type}{p:Program}{e:Sem α}{w w':World}{a:α}(h:e.run p w= .ok a w'):w.drawn<=w'.drawn:=by have:=aj8 p e w;rw[h]at this;exact this
theorem aV {α:Type}{p:Program}{e:Sem α}{w w':World}{a:Halt}(h:e.run p w= .halt a w'):w.drawn<=w'.drawn:=by have:=aj8 p e w;rw[h]at this;exact this
def gW:GStep->World
 | .go _ w _=>w
 | .comm _ _ _ _ w _=>w
 | .spawn _ _ w _=>w
 | .count _ w _=>w
 | .timer _ _ w _=>w
 | .alone _ _ w _=>w
 | .newcoro _ _ _ w _=>w
 | .coroswitch _ _ _ w _=>w
 | .collect _ w _=>w
 | .watch _ w _=>w
 | .ended _ w _=>w
@[simp] theorem jw (es:Array Event) (s:GStep):gW (GStep.after es s)=gW s:=by cases s<;>rfl
theorem zL {c:Prop}[Decidable c]{n:Nat}{a b:GStep}(h1:n<=(gW a).drawn)(h2:n<=(gW b).drawn):n<=(gW (if c then a else b)).drawn :=by split<;>assumption
theorem vC (w:World)(fd:Nat)(t:BA)(o:Outcome):w.drawn<=(gW (endWith w fd t o)).drawn :=by
 have h:=aj7 w (.write fd t);unfold endWith;generalize w.sys (.write fd t)=r at*
 obtain⟨x,w'⟩:=r;dsimp only at h⊢
 cases x<;>dsimp only<;>first|exact h|exact zL h h
theorem endWith_ended (w:World)(fd:Nat)(t:BA)(o:Outcome):∃o' w' es,endWith w fd t o= .ended o' w' es:=by
 unfold endWith;generalize w.sys (.write fd t)=r;obtain⟨x,w'⟩:=r;dsimp only;cases x<;>dsimp only<;>(try split)<;>exact⟨_,_,_,rfl⟩
theorem aa2 (fr:Frame)(m:String)(w:World):gW (endThrow fr m w)=w:=rfl
theorem kX (p:Program)(fr:Frame)(v:Value)(w:World):gW (endPrinting p fr v w)=w:=by
 unfold endPrinting;dsimp only;split<;>rfl
theorem sH (p:Program)(fr:Frame)(cs:List Frame)(d:Option Dying)(m:String)(w:World):w.drawn<=(gW (endFatal p fr cs d m w)).drawn :=by
 unfold endFatal;dsimp only;split
 ·rename_i h;exact fJ h
 ·rename_i h;exact aV h
 ·rename_i h;exact aV h
theorem ads (p:Program)(fr:Frame)(d:Dying)(f:Fatal)(w:World):w.drawn<=(gW (writeOn p fr d f w)).drawn :=by
 unfold writeOn;dsimp only;split
 ·exact am4 _
 ·simp only[Sem.runT_eq]
  split<;>rename_i h<;>(have h1:=congrArg Prod.fst h;dsimp only at h1;first|exact fJ h1|exact aV h1)
theorem dw_die (p:Program)(fr:Frame)(d:Dying)(w:World):w.drawn<=(gW (die p fr d w)).drawn :=by
 unfold die;split
 ·exact ads _ _ _ _ _
 ·split
  ·split
   ·exact am4 _
   ·exact vC _ _ _ _
  ·dsimp only
   split
   ·exact am4 _
   ·split
    ·rename_i h;exact fJ h
    ·rename_i h;exact aV h
   ·simp only[Sem.runT_eq,jw]
    split
    ·rename_i h;exact fJ h
    ·rename_i h;exact fJ h
    ·rename_i h;exact aV h
    ·rename_i h;rw[kX];exact aV h
    ·exact am4 _
   ·exact am4 _
theorem lT (p:Program)(main:Bool)(fr:Frame)(cs:List Frame)(d:Option Dying)(v:Value)(w:World):gW (doReturn p main fr cs d v w)=w:=by
 unfold doReturn
 repeat' split
 all_goals rfl
theorem sI (p:Program)(fr:Frame)(cs:List Frame)(dy:Option Dying)(d:Deferred)(w:World):w.drawn<=(gW (callDeferred p fr cs dy d w)).drawn :=by
 unfold callDeferred;refine zL ano ?_;simp only[Sem.runT_eq,jw];generalize hr:(invoke d.target d.args).run p w=r;split
 all_goals first
  |exact fJ hr
  |exact aV hr
  |(split<;>first|exact fJ hr|exact aV hr)
  |exact amG (aV hr) (sH _ _ _ _ _ _)
theorem af0 (p:Program)(main:Bool)(fr:Frame)(cs:List Frame)(dy:Option Dying)(w:World):w.drawn<=(gW (unwind p main fr cs dy w)).drawn :=by
 unfold unwind;split
 ·simp only[Sem.runT_eq,jw]
  split<;>rename_i h
  ·exact fJ h
  ·exact aV h
 ·exact sI _ _ _ _ _ _
 ·split
  ·exact am4 _
  ·split
   ·exact am4 _
   ·split
    ·exact am4 _
    ·split
     ·split
      ·exact am4 _
      ·split
       ·rename_i h;exact fJ h
       ·rename_i h;exact aV h
       ·rename_i h;exact aV h
     ·split
      ·rw[kX];exact am4 _
      ·exact am4 _
  ·split
   ·rw[lT];exact am4 _
   ·simp only[Sem.runT_eq,jw]
    split<;>rename_i h
    ·rw[lT];exact fJ h
    ·exact aV h
    ·exact aV h
theorem ai5 (p:Program)(fr:Frame)(cs:List Frame)(dy:Option Dying)(g:Nat)(w:World):w.drawn<=(gW (early p fr cs dy g w)).drawn :=by
 unfold early;have hN:∀w':World,w'.drawn=w.drawn->w.drawn<=(gW (match w'.heap[g]? with
  |some (.pending c elem)=>.go {frame:=fr,callers:=cs,status:=.running,dying:=dy} {w' with heap:=w'.heap.setIfInBounds g (.cells c elem)}
  |_=>.ended (.stuck "early: the variable does not wait" (fr.pos p)) w')).drawn :=by
  intro w' h;split<;>exact Nat.le_of_eq h.symm
 dsimp only
 repeat' (first|refine zL ?_ ?_|split)
 all_goals (try dsimp only[gW])
 all_goals first
  |exact am4 _
  |exact fJ (by assumption)
  |exact aV (by assumption)
theorem kJ (p:Program)(l:Bool)(fr:Frame)(cs:List Frame)(dy:Option Dying)(s:Sem Next)(w:World):w.drawn<=(gW (stepG.apply p l fr cs dy s w)).drawn :=by
 unfold stepG.apply;have h1:(if l=true then s.runT p w #[]else(s.run p w, #[])).1=s.run p w:=by split<;>simp
 generalize (if l=true then s.runT p w #[]else(s.run p w, #[]))=r0 at*
 obtain⟨r,es⟩:=r0;dsimp only at h1;subst h1;dsimp only;simp only[jw];generalize hr:s.run p w=r at*
 split
 all_goals first
  |exact fJ hr
  |exact aV hr
  |(split<;>first|exact fJ hr|exact aV hr)
  |exact amG (aV hr) (sH _ _ _ _ _ _)
  |exact amG (aV hr) (ai5 _ _ _ _ _ _)
  |exact zL (fJ hr) (fJ hr)
theorem al0 (p:Program)(main l:Bool)(fr:Frame)(cs:List Frame)(dy:Option Dying)(w:World):w.drawn<=(gW (stepG.oper p l fr cs dy w)).drawn :=by
 unfold stepG.oper;split
 ·exact am4 _
 ·split
  ·exact kJ _ _ _ _ _ _ _
  ·exact kJ _ _ _ _ _ _ _
theorem al2 (p:Program)(main l:Bool)(fr:Frame)(cs:List Frame)(dy:Option Dying)(w:World):w.drawn<=(gW (stepG.exec p main l fr cs dy w)).drawn :=by
 unfold stepG.exec;dsimp only;simp only[Sem.runT_eq,jw];split
 all_goals first
  |exact am4 _
  |exact kJ _ _ _ _ _ _ _
  |skip
 all_goals (try (rename_i a b c;first|(generalize exitTo a b=o;cases o<;>dsimp only[Option.elim])|(generalize gotoIn a b=o;cases o<;>dsimp only[Option.elim])))
 all_goals (repeat' (first|exact am4 _|exact kJ _ _ _ _ _ _ _|exact al0 _ main _ _ _ _ _|refine zL ?_ ?_|split))
 all_goals (try simp only[jw,lT])
 all_goals (try exact amG (fJ (by assumption)) (kJ _ _ _ _ _ _ _))
 all_goals (try (generalize Extern.next _=o;cases o<;>dsimp only[Option.elim]<;>first|exact am4 _|exact kJ _ _ _ _ _ _ _))
 all_goals (try simp only[gW])
 all_goals (first
  |exact am4 _
  |exact fJ (by assumption)
  |exact aV (by assumption))
theorem ai3 (p:Program)(main:Bool)(g:Goroutine)(w:World)(l:Bool):w.drawn<=(gW (stepG p main g w l)).drawn :=by
 unfold stepG;obtain⟨fr,callers,status,dying,offers⟩:=g;dsimp only;split
 ·exact dw_die _ _ _ _
 ·exact al2 _ _ _ _ _ _ _
 ·exact af0 _ _ _ _ _ _
def sW:Stepped->World
 | .next m=>m.world
 | .ended _ w=>w
theorem al3 (p:Program)(rest:Rest)(gs:Array Goroutine)(i:Nat)(g:Goroutine)(cases_:Array CommCase)(b:Bool)(sh:CommShape)(w:World):w.drawn<=(sW (communicate p rest gs i g cases_ b sh w).1).drawn :=by
 unfold communicate;dsimp only;split
 ·exact am4 _
 ·split
  ·split
   ·unfold waitingAt
    split
    ·rename_i he
     split at he
     ·split at he
      ·cases he;exact am4 _
      ·cases he
     ·cases he;exact am4 _
    ·exact am4 _
   ·exact am4 _
  ·split
   ·rename_i h;exact aV h
   ·rename_i h
    have h0:=fJ h;split
    ·split
     ·rename_i h1;exact amG h0 (aV h1)
     ·exact h0
    ·exact h0
    ·exact h0
    ·split
     ·exact h0
     ·split
      ·rename_i h1;exact amG h0 (by have:=fJ h1;exact this)
      ·rename_i h1;exact amG h0 (by have:=aV h1;exact this)
    ·exact h0
    ·exact h0
    ·exact h0
theorem af1 (p:Program)(gs:Array Goroutine)(rest:Rest)(w:World):w.drawn<=(sW (look p gs rest w)).drawn :=by
 unfold look;split
 ·dsimp only
  split
  ·exact am4 _
  ·split
   ·exact am4 _
   ·split
    ·rename_i h;have:=fJ h;exact this
    ·rename_i h;exact aV h
    ·rename_i h;exact aV h
 ·exact am4 _
theorem ai1 (m:Machine)(op:TimerOp){v:Value}{m':Machine}(h:timerOp m op= .ok (v,m')):m'.world.drawn=m.world.drawn:=by
 have hn:∀(m1:Machine) (n:Nat) (var:Addr) (f:Nat->Timer->Value×Machine),(∀k t,(f k t).2.world.drawn =n)->timerOp.named m1 var f= .ok (v,m')->m'.world.drawn=n:=by
  intro m1 n var f hf hh;unfold timerOp.named at hh;split at hh
  ·rename_i k hk
   have h1:=hf k (m1.rest.timers.getD k default);rw[Except.ok.inj hh]at h1;exact h1
  ·cases hh
 have hr:∀(m1:Machine) (k:Nat) (t:Timer) (a b:Nat),(retime m1 k t a b).2.world.drawn =m1.world.drawn:=by
  intro m1 k t a b;unfold retime drain;dsimp only;split
  ·split<;>rfl
  ·rfl
 unfold timerOp at h;split at h
 ·split at h
  ·cases h;rfl
  ·split at h
   ·split at h
    ·cases h
    ·cases h;rfl
   ·cases h
 ·exact hn m _ _ _ (fun k t=>hr m _ _ _ _) h
 ·split at h
  ·rename_i h1
   refine(hn _ _ _ _ (fun k t=>hr _ k t _ _) h).trans ?_;unfold timerOp.opened at h1;split at h1
   ·split at h1
    ·cases h1;rfl
    ·cases h1
   ·cases h1;rfl
  ·cases h
 ·cases h;rfl
theorem alY (p:Program)(m:Machine)(i:Nat)(l:Bool):m.world.drawn<=(sW (runT p m i l).1).drawn :=by
 unfold runT;dsimp only;have h:=ai3 p (i==0) (m.gs.swapAt! i {(default:Goroutine)with status:=.finished}).1 m.world l;generalize hs:stepG p (i==0) (m.gs.swapAt! i {(default:Goroutine)with status:=.finished}).1 m.world l=s at*
 cases s<;>dsimp only[gW]at h⊢
 all_goals first
  |exact h
  |exact amG h (al3 _ _ _ _ _ _ _ _ _)
  |exact amG h (af1 _ _ _ _)
  |(split<;>exact h)
  |skip
 ·split
  ·rename_i h1
   have:=ai1 _ _ h1;exact amG h (Nat.le_of_eq this.symm)
  ·split
   ·rename_i h1
    have h2:=congrArg gW h1;rw[aa2]at h2;exact amG h (Nat.le_of_eq (congrArg World.drawn h2))
   ·exact h
  ·exact h
  ·exact h
theorem ai4 (p:Program)(m:Machine)(k:Nat):m.world.drawn<=(sW (serve p m k)).drawn :=by
 unfold serve;split
 ·exact am4 _
 ·exact am4 _
 ·dsimp only
  split<;>exact am4 _
def mW:Move->World
 | .goroutine m _=>m.world
 | .machine s _=>sW s
theorem xI (p:Program)(m:Machine):m.world.drawn<=(mW (askOn p m)).drawn :=by
 have hp:∀(w:World),m.world.drawn<=w.drawn->m.world.drawn<=(mW (match (choose (.sched (runnable m.gs m.world.os.mono).length)).run p w with
  | .halt _ w=>.machine (.ended (.stuck "sched" "") w)
  | .ok k world=>
   if (runnable m.gs m.world.os.mono).length <=1 then .goroutine {m with world} ((runnable m.gs m.world.os.mono).getD k 0)else
   match (choose (.extern "sched.slice" 65536)).run p world with
   | .halt _ w=>.machine (.ended (.stuck "sched.slice" "") w)
   | .ok n world=>.goroutine {m with world,rest:={m.rest with slice:=if n=0 then none else some ((runnable m.gs m.world.os.mono).getD k 0,n)}} ((runnable m.gs m.world.os.mono).getD k 0))).drawn :=by
  intro w hw;split
  ·rename_i h;exact amG hw (aV h)
  ·rename_i h
   have h0:=amG hw (fJ h);split
   ·exact h0
   ·split
    ·rename_i h1;exact amG h0 (aV h1)
    ·rename_i h1;exact amG h0 (fJ h1)
 unfold askOn;dsimp only;split
 ·rename_i h;exact aV h
 ·rename_i h
  have h0:=fJ h;split
  ·exact amG h0 (ai4 p {m with world:= ‹World›} _)
  ·split
   ·split
    ·exact h0
    ·split
     ·exact h0
     ·have h1:=vC ‹World› 2
      have h4:=endWith_ended ‹World› 2;split
      ·rename_i h2
       have h3:=congrArg gW h2;exact amG h0 (amG (h1 _ _) (Nat.le_of_eq (congrArg World.drawn h3)))
      ·rename_i h2
       obtain⟨o',w',es,h5⟩:=h4 _ _;exact absurd h5 (h2 _ _ _)
   ·split
    ·exact hp _ h0
    ·split
     ·rename_i h2;exact amG h0 (aV h2)
     ·rename_i h2;exact hp _ (amG h0 (fJ h2))
     ·rename_i h2
      have h3:=fJ h2;exact amG h0 h3
     ·rename_i h2
      have h3:=amG h0 (fJ h2);exact hp _ h3
theorem af3 (p:Program)(m:Machine):m.world.drawn<=(mW (ask p m)).drawn :=by
 unfold ask;split
 ·split
  ·rename_i h;exact aV h
  ·rename_i h
   have h0:=fJ h;have hl:=af1 p m.gs m.rest;split
   ·rename_i h1
    have h2:=hl ‹World›;rw[h1]at h2;exact amG (amG h0 h2) (xI _ _)
   ·exact amG h0 (hl _)
  ·rename_i h
   have h1:=xI p {m with world:= ‹World›};exact amG (fJ h) h1
 ·exact xI _ _
theorem al1 (p:Program)(m:Machine):m.world.drawn<=(mW (move p m)).drawn :=by
 unfold move;split
 ·split<;>exact am4 _
 ·split
  ·split
   ·exact am4 _
   ·exact af3 p {m with rest:={m.rest with slice:=none}}
  ·exact af3 _ _
theorem alX (p:Program)(m:Machine):m.world.drawn<=(sW (step p m)).drawn :=by
 unfold step stepT;have h:=al1 p m;split
 ·rename_i h1
  rw[h1]at h;exact amG h (alY _ _ _ _)
 ·rename_i h1
  rw[h1]at h;exact h
theorem alZ (p:Program)(n:Nat):∀m:Machine,m.world.drawn<=(sW (runN p n m)).drawn :=by
 induction n with
 |zero=>intro m;exact am4 _
 |succ n ih=>
  intro m;have h:=alX p m;simp only[runN];split
  ·rename_i h1
   rw[h1]at h;exact amG h (ih _)
  ·exact h
theorem ai2 {P:Program}{m m':Machine}(h:Steps P m m'):m.world.drawn<=m'.world.drawn:=by
 obtain⟨n,h⟩:=h;have:=alZ P n m;rw[h]at this;exact this
theorem ai6 {P:Program}{f:FuncId}{args:Array Value}{w:World}{V:Value}{R:World->Prop}(h:Calls P f args w fun e w'=>e= .returned V/\R w'):Calls P f args w fun e w'=>e= .returned V/\R w'/\w.drawn<=w'.drawn:=by
 intro cs;obtain⟨e,w',fr,⟨he,hr⟩,hc,h1,h2⟩:=h cs;subst he;exact⟨_,w',fr,⟨rfl,hr,ai2 hc⟩,hc,h1,h2⟩
end
section
open Go.RowKit Go.Shelf Go.Sort
section
variable {α:Type} [Inhabited α] {enc:α->Value}
theorem zA {w:World}{g n:Nat}{os:Array Obj}{cur:Array Value}{e:TypeId}{fr:Nat×Nat}(d:Array α)(hb:w.heap[g]? =some (.cells cur e fr)):
 (grow (putRow enc (Sort.ahead w n) g 0 d) os).heap[g]? =some (.cells (putCells enc 0 d cur) e fr):=by
 have hg:g<w.heap.size:=(amA.1 hb).1;rw[heap_grow_old _ _ (by simpa using hg)];simp[putRow,mapBlock,Sort.ahead,Array.getElem?_modify,hb,onCells]
theorem ku {w:World}{g n:Nat}{os:Array Obj}(d:Array α):w.grownBy (grow (putRow enc (Sort.ahead w n) g 0 d) os) (some g):=by
 refine⟨rfl,rfl,rfl,by simp,fun k hk hne=>?_⟩;rw[heap_grow_old _ _ (by simpa using hk)];have:g≠k:=fun e=>hne (by rw[e])
 simp[putRow,mapBlock,Sort.ahead,Array.getElem?_modify,this]
theorem yJ (cur:Array Value)(d:Array α)(h:d.size=cur.size):putCells enc 0 d cur=d.map enc:=by
 apply Array.ext_getElem?;intro j;by_cases hj:j<d.size
 ·simp[putCells,hj,show j<cur.size by omega]
 ·rw[Array.getElem?_eq_none (by simp[putCells];omega),Array.getElem?_eq_none (by simp;omega)]
end
theorem alz {W W':World}(hb:RowKit.Below W.heap.size W W')(hd:W.drawn<=W'.drawn):∃q os,W'=grow (W.drewN q) os:=by
 refine⟨W'.drawn-W.drawn,W'.heap.extract W.heap.size W'.heap.size,?_⟩;obtain⟨heap,tape,drawn,os,output⟩:=W;obtain⟨heap',tape',drawn',os',output'⟩:=W';have h1:=hb.os;have h2:=hb.tape;have h3:=hb.output;have h4:=hb.size;have h5:=hb.block;dsimp only at*
 subst h1 h2 h3;have e1:heap'=heap++heap'.extract heap.size heap'.size:=by
  apply Array.ext_getElem?;intro i;by_cases hi:i<heap.size
  ·rw[h5 i hi,Array.getElem?_append_left hi]
  ·rw[Array.getElem?_append_right (by omega),Array.getElem?_extract]
   by_cases hl:i<heap'.size
   ·rw[if_pos (by omega),show heap.size+(i-heap.size)=i by omega]
   ·rw[if_neg (by omega),Array.getElem?_eq_none (by omega)]
 have e2:drawn+(drawn'-drawn)=drawn':=by omega
 unfold grow World.drewN;simp only[e2];congr 1
section
variable {m:Nat}
theorem alV:OneCell (adU (m:=m)):=fun x=>rfl
theorem ahK {blk n:Nat}{g:FuncId}{cb:Array Value}{cf:Fin (m+1)->Fin (m+1)->Int}{d:Array (Fin (m+1))}{w0 w:World}(hcf:∀(args:Array Value) (u:World),(callFunc g args).run prog u= .ok (.enter g args) u)
 (hO:SWO (ltC cf)) (hcmp:CmpK w0 blk g cb cf) (hn:d.size=n) (hm:n<=1000000) (S:SoW w0 blk d w):
 Calls prog 257 #[.slice (some ⟨blk,0,none⟩) n n,.func (.func g) #[] cb] w fun e w'=>∃d':Array (Fin (m+1)),e= .returned (.tuple #[])/\d'.toList.Perm d.toList/\d'.size=n/\(∀i j,i<j->j<n->ltC cf d'[j]! d'[i]! =false)/\SoW w0 blk d' w':=by
 have hH:Holds adU w blk 0 d:=fun j hj=>by
  rw[am5];exact⟨S.cell hj,S.frozen j⟩
 have hL:CmpLays1 prog g cb adU cf blk 0 d.size w:=by
  intro k os dk hs x y;have hgr:w0.grownBy (sortWorld adU w blk 0 k dk os) (some blk):=S.gr.trans (ku (n:=k) dk);have h1:=hcmp _ hgr x y;refine(ai6 h1).mono ?_;rintro e w' ⟨he,hb,hd⟩;exact⟨he,alz hb hd⟩
 have:=Any.slices_SortFunc sortI adU alV cf hO g cb blk 0 n d w hcf hL hH S.lt (by omega);rw[hn]at this;refine this.mono ?_;rintro e w' ⟨rfl,d',k,os,hp,hs,rfl⟩;obtain⟨p1,p2,p3⟩:=hp;have e1:d'.extract 0 n=d':=Array.extract_eq_self_of_le (by omega);have e2:d.extract 0 n=d:=Array.extract_eq_self_of_le (by omega);rw[e1,e2]at p3;refine⟨d',rfl,p3,by omega,fun i j hij hj=>hs i j (Nat.zero_le _) hij hj,S.gr.trans (ku d'),?_⟩;have:=zA (enc:=adU) (n:=k) (os:=os) d' S.row;rw[yJ _ _ (by rw[Array.size_map];omega)]at this;exact this
end
end
end Go.Proofs.YtbkhnggmcheelaaGreatDoor
namespace SP
theorem lt_ge (a b:Int):a<b\/b<=a:=by omega
def at0 (l:List Int)(i:Nat):Int:=l.getD i 0
theorem iE {l:List Int}{i:Nat}{x:Int}(h:l[i]? =some x):at0 l i=x:=by simp[at0,List.getD_eq_getElem?_getD,h]
theorem iF {l:List Int}{i:Nat}(h:i<l.length):l[i]? =some (at0 l i):=by simp[at0,List.getD_eq_getElem?_getD,amB h]
def jg (r:List Int)(k i:Nat):Bool:=decide (at0 r i<at0 r k)||(decide (at0 r k=at0 r i)&&decide (k<i))
theorem ek {r:List Int}{k i:Nat}:jg r k i=true↔at0 r i<at0 r k\/(at0 r k=at0 r i/\k<i):=by simp[jg]
theorem pg (r:List Int)(i:Nat):jg r i i=false:=by
 rw[<-Bool.not_eq_true,ek];omega
theorem lX {r:List Int}{k i:Nat}(h:jg r k i=true):jg r i k=false:=by
 rw[<-Bool.not_eq_true,ek];rw[ek]at h;omega
theorem jH {r:List Int}{k i:Nat}(h:k≠i):jg r k i=true\/jg r i k=true:=by
 rw[ek,ek];omega
theorem abg {r:List Int}{a b c:Nat}(h:jg r a b=true)(h2:jg r b c=true):jg r a c=true:=by
 rw[ek]at*;omega
def rk (r:List Int)(i:Nat):Nat:=(List.range r.length).countP (fun k=>jg r k i)
def Ord (r:List Int)(l:List Nat):Prop:=l.Perm (List.range r.length)/\l.Pairwise (fun a b=>jg r a b=true)
theorem cut_at {l:List Nat}{j i:Nat}(h:l[j]? =some i):l=l.take j++i::l.drop (j+1):=by
 obtain⟨hj,e⟩:=amH.1 h;rw[<-e, <-List.drop_eq_getElem_cons hj,List.take_append_drop]
theorem rk_at {r:List Int}{l:List Nat}(h:Ord r l){j i:Nat}(hj:l[j]? =some i):rk r i=j:=by
 have hjl:j<l.length:=(amH.1 hj).1;unfold rk;rw[<-h.1.countP_eq];have hs:=h.2;rw[cut_at hj]at hs⊢
 rw[List.pairwise_append,List.pairwise_cons]at hs;obtain⟨_,⟨h2,_⟩,h3⟩:=hs;rw[List.countP_append,List.countP_cons,pg];have e1:(l.take j).countP (fun k=>jg r k i)=(l.take j).length :=List.countP_eq_length.2 (fun a ha=>h3 a ha i (by simp));have e2:(l.drop (j+1)).countP (fun k=>jg r k i)=0:=List.countP_eq_zero.2 (fun a ha=>by rw[lX (h2 a ha)];simp);rw[e1,e2,amO];simp;omega
theorem akT {r:List Int}{l:List Nat}(h:Ord r l):l.length=r.length:=by rw[h.1.length_eq,List.length_range]
theorem aeZ {r:List Int}{l:List Nat}(h:Ord r l){i:Nat}:i∈l↔i<r.length:=by rw[h.1.mem_iff,List.mem_range]
theorem aeY {r:List Int}{l:List Nat}(h:Ord r l){i:Nat}(hi:i<r.length):l[rk r i]? =some i:=by
 obtain⟨j,hj,e⟩:=List.mem_iff_getElem.1 ((aeZ h).2 hi);have:l[j]? =some i:=by rw[amB hj,e]
 rw[rk_at h this];exact this
theorem ord_ex (r:List Int):∃l,Ord r l:=by
 refine⟨(List.range r.length).mergeSort (fun a b=> !jg r b a),List.mergeSort_perm _ _,?_⟩;have h1:=List.pairwise_mergeSort (le:=fun a b=> !jg r b a) (fun a b c h h2=>by
  simp only[Bool.not_eq_true', <-Bool.not_eq_true,ek]at*;omega) (fun a b=>by
  rcases Nat.lt_trichotomy a b with h|h|h
  ·rcases jH (r:=r) (k:=a) (i:=b) (by omega)with h'|h'<;>rw[lX h']<;>simp
  ·subst h;simp[pg]
  ·rcases jH (r:=r) (k:=a) (i:=b) (by omega)with h'|h'<;>rw[lX h']<;>simp) (List.range r.length)
 have h2:((List.range r.length).mergeSort (fun a b=> !jg r b a)).Pairwise (· ≠ ·):=
  (List.mergeSort_perm _ _).symm.pairwise List.nodup_range (fun h=>h.symm)
 exact(h1.and h2).imp (fun{a b} h=>by
  have h3:=h.1;rcases jH (r:=r) h.2 with h'|h'
  ·exact h'
  ·rw[h']at h3;simp at h3)
theorem rk_inj {r:List Int}{i k:Nat}(hi:i<r.length)(hk:k<r.length)(e:rk r i=rk r k):i=k:=by
 obtain⟨l,h⟩:=ord_ex r;have h1:=aeY h hi;rw[e,aeY h hk]at h1;injection h1 with h1
 exact h1.symm
theorem aaO (r:List Int):(List.range r.length).map (at0 r)=r:=by
 apply anl;intro i;rw[amP];by_cases h:i<r.length
 ·rw[List.getElem?_range h,iF h];rfl
 ·rw[amW (by rw[List.length_range];omega),amW (by omega)];rfl
def qL (T:Int)(ws:List Int):List Int:=ws.map fun w=>(T*w).fdiv ws.sum
def rL (T:Int)(ws:List Int):List Int:=ws.map fun w=>(T*w).fmod ws.sum
def mis (T:Int)(ws:List Int):Int:=T-(qL T ws).sum
def bon (T:Int)(ws:List Int)(i:Nat):Int:=if (rk (rL T ws) i:Int)<mis T ws then 1 else 0
def wK (T:Int)(ws:List Int):List Int:=(List.range ws.length).map fun i=>at0 (qL T ws) i+bon T ws i
def tV (T:Int)(ws:List Int):List Int:=if T<0 then(wK (-T) ws).map (fun x=> -x)else wK T ws
structure WOk (ws:List Int):Prop where
 nn:∀w∈ws,0<=w
 pos:0<ws.sum
theorem yG (T:Int)(ws:List Int):(qL T ws).length =ws.length:=by simp[qL]
theorem abF (T:Int)(ws:List Int):(rL T ws).length =ws.length:=by simp[rL]
theorem abJ (T:Int)(ws:List Int):(wK T ws).length =ws.length:=by simp[wK]
theorem dz (T:Int)(ws:List Int):(tV T ws).length =ws.length:=by unfold tV;split<;>simp[wK]
theorem ah3 {T:Int}{ws:List Int}{i:Nat}(h:i<ws.length):at0 (qL T ws) i=(T*at0 ws i).fdiv ws.sum:=iE (by rw[qL,amP,iF h];rfl)
theorem rL_at {T:Int}{ws:List Int}{i:Nat}(h:i<ws.length):at0 (rL T ws) i=(T*at0 ws i).fmod ws.sum:=iE (by rw[rL,amP,iF h];rfl)
theorem aax {T:Int}{ws:List Int}{i:Nat}(h:i<ws.length):at0 (wK T ws) i=(T*at0 ws i).fdiv ws.sum+bon T ws i:=iE (by rw[wK,amP,List.getElem?_range h];show some (at0 (qL T ws) i+bon T ws i)=_;rw[ah3 h])
theorem aah {α:Type}(f g:α->Int)(l:List α):(l.map (fun x=>f x+g x)).sum =(l.map f).sum +(l.map g).sum :=by
 induction l with
 |nil=>rfl
 |cons x l ih=>simp only[ann,List.sum_cons,ih];omega
theorem qV {α:Type}(f:α->Int)(S:Int)(l:List α):(l.map (fun x=>S*f x)).sum =S*(l.map f).sum :=by
 induction l with
 |nil=>simp
 |cons x l ih=>simp only[ann,List.sum_cons,ih,Int.mul_add]
theorem fdm (a S:Int):S*a.fdiv S+a.fmod S=a:=Int.mul_fdiv_add_fmod a S
theorem lQ (a:Int){S:Int}(h:0<S):0<=a.fmod S/\a.fmod S<S:=⟨Int.fmod_nonneg_of_pos a h,Int.fmod_lt_of_pos a h⟩
theorem ahZ (T:Int){ws:List Int}:(rL T ws).sum =ws.sum*mis T ws:=by
 have h:ws.sum*(qL T ws).sum +(rL T ws).sum =T*ws.sum:=by
  unfold qL rL;rw[<-qV, <-aah];rw[List.map_congr_left (f:=fun x=>ws.sum*(T*x).fdiv ws.sum+(T*x).fmod ws.sum) (g:=fun w=>T*id w) (fun w _=>fdm _ _),qV,List.map_id]
 unfold mis;rw[Int.mul_sub,Int.mul_comm ws.sum T];omega
theorem ru (T:Int){ws:List Int}(h:WOk ws):∀x∈rL T ws,0<=x/\x<ws.sum:=by
 intro x hx;obtain⟨w,_,rfl⟩:=amN.1 hx;exact lQ _ h.pos
theorem yh {S:Int}(_hS:0<S)(l:List Int)(h:∀x∈l,0<=x/\x<S):0<=l.sum/\l.sum<=S*(l.countP (fun x=>decide (0<x)):Int)/\(0<l.countP (fun x=>decide (0<x))->l.sum<S*(l.countP (fun x=>decide (0<x)):Int)):=by
 induction l with
 |nil=>simp
 |cons x l ih=>
  obtain⟨h1,h2,h3⟩:=ih (fun y hy=>h y (by simp[hy]));have hx:=h x (by simp);rw[List.sum_cons,List.countP_cons];generalize l.countP (fun x=>decide (0<x))=c at*
  by_cases h0:0<x
  ·simp only[h0,decide_true,if_true]
   have e:S*((c+1:Nat):Int)=S*(c:Int)+S:=by rw[Int.natCast_add,Int.mul_add];simp
   rw[e];exact⟨by omega,by omega,fun _=>by omega⟩
  ·have:x=0:=by omega
   subst this;simp only[h0,decide_false];simp only[amQ,if_false,Nat.add_zero,Int.zero_add];exact⟨h1,h2,h3⟩
theorem uP (T:Int){ws:List Int}(h:WOk ws):0<=mis T ws/\mis T ws<=((rL T ws).countP (fun x=>decide (0<x)):Int):=by
 obtain⟨h1,h2,_⟩:=yh h.pos (rL T ws) (ru T h);rw[ahZ]at h1 h2;have hp:=h.pos;constructor
 ·rcases lt_ge (mis T ws) 0 with hm|hm
  ·have:=Int.mul_neg_of_pos_of_neg hp hm
   omega
  ·exact hm
 ·exact Int.le_of_mul_le_mul_left h2 hp
theorem mis_le (T:Int){ws:List Int}(h:WOk ws):0<=mis T ws/\mis T ws<=(ws.length:Int):=by
 have:=uP T h;have h2:=List.countP_le_length (p:=fun x=>decide ((0:Int)<x)) (l:=rL T ws);rw[abF]at h2;omega
theorem agf (r:List Int)(p:Int->Bool):(List.range r.length).countP (fun k=>p (at0 r k))=r.countP p:=by
 have:=congrArg (List.countP p) (aaO r);rw[List.countP_map]at this;exact this
theorem ajE (T:Int){ws:List Int}(h:WOk ws){i:Nat}(h0:at0 (rL T ws) i=0):bon T ws i=0:=by
 have h1:=uP T h;have h2:(rL T ws).countP (fun x=>decide (0<x))<=rk (rL T ws) i:=by
  rw[<-agf];unfold rk;apply List.countP_mono_left;intro k _ hk;rw[ek,h0];left;simpa using hk
 unfold bon;rw[if_neg (by omega)]
theorem sV (T:Int)(ws:List Int)(i:Nat):bon T ws i=0\/bon T ws i=1:=by unfold bon;split<;>simp
theorem yM (T:Int){ws:List Int}(h:WOk ws){i:Nat}(hi:i<ws.length): -ws.sum<ws.sum*at0 (wK T ws) i-T*at0 ws i/\ws.sum*at0 (wK T ws) i-T*at0 ws i<ws.sum:=by
 rw[aax hi,Int.mul_add];have e:=fdm (T*at0 ws i) ws.sum;have hb:=lQ (T*at0 ws i) h.pos;have hz:=ajE T h (i:=i);rw[rL_at hi]at hz;rcases sV T ws i with hc|hc
 ·rw[hc,Int.mul_zero];omega
 ·have:(T*at0 ws i).fmod ws.sum≠0:=fun e=>by have:=hz e;omega
  rw[hc,Int.mul_one];omega
theorem ag0 (l:List Int)(i:Nat):at0 (l.map (fun x=> -x)) i= -at0 l i:=by
 by_cases h:i<l.length
 ·exact iE (by rw[amP,iF h];rfl)
 ·unfold at0
  rw[List.getD_eq_getElem?_getD,amW (by simp;omega),List.getD_eq_getElem?_getD,amW (by omega)];rfl
theorem aej (T:Int){ws:List Int}(h:WOk ws){i:Nat}(hi:i<ws.length): -ws.sum<ws.sum*at0 (tV T ws) i-T*at0 ws i/\ws.sum*at0 (tV T ws) i-T*at0 ws i<ws.sum:=by
 unfold tV;split
 ·rw[ag0]
  have:=yM (-T) h hi;rw[Int.neg_mul]at this;rw[Int.mul_neg];omega
 ·exact yM T h hi
theorem alL {a S:Int}(ha:0<=a)(hS:0<S):0<=a.fdiv S:=by
 have h1:=fdm a S;have h2:=lQ a hS;rcases lt_ge (a.fdiv S) 0 with h|h
 ·have h3:S*a.fdiv S<=S*(-1):=Int.mul_le_mul_of_nonneg_left (by omega) (by omega)
  omega
 ·exact h
theorem akI {T:Int}{ws:List Int}(h:WOk ws)(hT:0<=T){i:Nat}(hi:i<ws.length):0<=at0 (wK T ws) i:=by
 rw[aax hi];have h1:=alL (Int.mul_nonneg hT (h.nn _ (amI (iF hi)))) h.pos;rcases sV T ws i with e|e<;>omega
theorem vX (ws:List Int){k:Nat}(hk:k<ws.length):(ws.take (k+1)).sum =(ws.take k).sum +at0 ws k:=by
 rw[ani,iF hk,List.sum_append];simp
end SP
namespace Go.Proofs.YtbkhnggmcheelaaGreatDoor
open Proofs.Tryz
section
open Go.RowKit Go.Shelf Dec QQ SP
def iv (ws:List BA):List Int:=ws.map ah
theorem aQ (ws:List BA):(iv ws).length =ws.length:=by simp[iv]
theorem afD {ws:List BA}{i:Nat}{s:BA}(h:ws[i]? =some s):at0 (iv ws) i=ah s:=iE (by rw[iv,amP,h];rfl)
theorem si {ws:List BA}{k:Nat}{s:BA}(h:ws[k]? =some s):((iv ws).take (k+1)).sum =((iv ws).take k).sum +ah s:=by
 rw[vX _ (by rw[aQ];exact(amH.1 h).1),afD h]
def ajP (s:BA):Bool:=(chk s !=0)||decide (ah s<0)
theorem uo {s:BA}:ajP s=false↔chk s=0/\0<=ah s:=by
 unfold ajP;simp
def alE (t:BA)(ws:List BA):Int:=if ws.length=0 then 11 else if 1000<ws.length then 4 else if chk t≠0\/ws.any ajP=true then 1 else if (iv ws).sum =0 then 10 else 0
structure AlOk (t:BA) (ws:List BA):Prop where
 len0:0<ws.length
 len:ws.length<=1000
 ct:chk t=0
 cw:∀w∈ws,chk w=0/\0<=ah w
 ok:WOk (iv ws)
theorem aea {l:List Int}(h:∀x∈l,0<=x):0<=l.sum:=by
 induction l with
 |nil=>simp
 |cons x l ih=>rw[List.sum_cons];have:=ih (fun y hy=>h y (by simp[hy]));have:=h x (by simp);omega
theorem qH {t:BA}{ws:List BA}:alE t ws=0↔AlOk t ws:=by
 constructor
 ·intro h
  unfold alE at h;split at h
  ·cases h
  ·rename_i h1
   split at h
   ·cases h
   ·rename_i h2
    split at h
    ·cases h
    ·rename_i h3
     split at h
     ·cases h
     ·rename_i h4
      rw[not_or,Decidable.not_not]at h3;have hw:∀w∈ws,chk w=0/\0<=ah w:=fun w hw=>uo.1 (by
       have:=h3.2;rw[Bool.not_eq_true,List.any_eq_false]at this;simpa using this w hw)
      have hn:∀x∈iv ws,0<=x:=fun x hx=>by
       obtain⟨w,hw',rfl⟩:=amN.1 hx;exact(hw w hw').2
      exact⟨by omega,by omega,h3.1,hw,hn,by have:=aea hn;omega⟩
 ·intro h
  unfold alE;rw[if_neg (by have:=h.len0;omega),if_neg (by have:=h.len;omega),if_neg,if_neg]
  ·have:=h.ok.pos;omega
  ·rw[not_or,Decidable.not_not]
   refine⟨h.ct,?_⟩;rw[Bool.not_eq_true,List.any_eq_false];intro w hw;rw[uo.2 (h.cw w hw)];decide
def alS (t:BA)(ws:List BA):List Int:=if alE t ws=0 then tV (ah t) (iv ws)else []
theorem akk {K:Nat}{l:List Int}(h:∀x∈l,Fit K x):l.sum.natAbs<=l.length*10^K:=by
 induction l with
 |nil=>simp
 |cons x l ih=>
  have h1:=ih (fun y hy=>h y (by simp[hy]));have h2:x.natAbs<10^K:=h x (by simp);rw[List.sum_cons,amT,Nat.add_mul,Nat.one_mul];have:=Int.natAbs_add_le x l.sum;omega
theorem ahx {K:Nat}{l:List Int}(h:∀x∈l,Fit K x):l.sum.natAbs+l.length<=l.length*10^K:=by
 induction l with
 |nil=>simp
 |cons x l ih=>
  have h1:=ih (fun y hy=>h y (by simp[hy]));have h2:x.natAbs<10^K:=h x (by simp);rw[List.sum_cons,amT,Nat.add_mul,Nat.one_mul];have:=Int.natAbs_add_le x l.sum;omega
theorem iH {K:Nat}{l:List Int}(h:∀x∈l,Fit K x)(hn:l.length<=1000):Fit (K+3) l.sum:=by
 have h1:=akk h;have h2:l.length*10^K<=1000*10^K:=Nat.mul_le_mul_right _ hn;have h3:(10:Nat)^(K+3)=10^K*1000:=by rw[Nat.pow_add]
 have h4:=ahx h;have h5:0<(10:Nat)^K:=Nat.pow_pos (by omega);show _<_;rw[h3];cases l with
 |nil=>simp;omega
 |cons x l=>rw[amT]at*;omega
theorem jM {k:Nat}{ws:List BA}(h:∀s∈ws,s.size<=k):∀x∈iv ws,Fit k x:=by
 intro x hx;obtain⟨s,hs,rfl⟩:=amN.1 hx;exact Fit.val (h s hs)
theorem mE {k m:Nat}{ws:List BA}(h:∀s∈ws,s.size<=k)(hn:ws.length<=1000):Fit (k+3) ((iv ws).take m).sum :=
 iH (fun x hx=>jM h x (am7 hx)) (by rw[amO,aQ];omega)
theorem adZ {k:Nat}{ws:List BA}(h:∀s∈ws,s.size<=k)(hn:ws.length<=1000):Fit (k+3) (iv ws).sum :=by
 have:=mE (m:=ws.length) h hn;rwa[amK (by rw[aQ];omega)]at this
end
section
open Go.RowKit Go.Shelf Dec QQ SP
theorem amb (z:Int):decide (dW z 0<0)=decide (z<0):=by
 unfold dW;rw[ang];split
 ·omega
 ·split<;>omega
theorem abU {a:BA}(ha:a.size<=1000000):Ret 232 #[.string a] (.bool (decide (ah a<0))):=by
 intro w hg;have hs:=St.refl hg;have K:=aab (Vs.arg ha) Vs.nil;rw[<-amb];generalize dW (ah a) 0=ci at*
 go_enter func232,ntmps232
 go_wp2_with fail
 refine K.step hs ?_;intro w1 hs hb
 go_wp2_with fail
 go_ret
 exact⟨rfl,hs.2⟩
theorem xZ {A:Option Addr}{n c k0:Nat}{ws:List BA}(hn:ws.length=n)(h12:n<=1000)(hk0:k0<=5000)(hz:∀s∈ws,s.size<=k0):
 iO (fun w=>Row w A (ws.map sv)) 233 #[.slice A n c] (.string (ae (iv ws).sum)):=by
 intro w hg hi;have hs:=St.refl hg;have HN:=amy hn;have HI:=amy hi;have HZ:=amy hz;have HF:Hid (∀k,Fit (k0+3) ((iv ws).take k).sum):=fun k=>mE hz (by omega)
 obtain⟨r1,hr1⟩:∃v,ae (iv ws).sum =v:=⟨_,rfl⟩;rw[hr1];have HR1:=amy hr1;have HZ0:Hid (ae ((iv ws).take 0).sum =⟨#[]⟩):=sU;clear hn hi hz hr1
 go_enter func233,ntmps233
 go_wp2_with fail
 go_loopw [8,3] (fun s a wr=>∃k:Nat,k<=n/\s= .int .i64 (k:Int)/\a= .string (ae ((iv ws).take k).sum)/\St w wr) (fun s _ _=>(n-intOf s).toNat)
 case atStart=>exact⟨0,by omega,rfl,by rw[HZ0.o],hs⟩
 case round=>
  obtain⟨k,hk,rfl,rfl,hs⟩:=hrel;by_cases hkn:k=n
  ·subst hkn
   have q:decide ((k:Int)<(k:Int))=false:=am1 (by omega);have e1:ae ((iv ws).take k).sum =r1:=by rw[amK (by rw[aQ,HN.o];omega)];exact HR1.o
   rw[e1];clear e1
   go_wp2_with fail
   go_ret
   exact⟨rfl,hs.2⟩
  ·have hkl:k<n:=by omega
   have q:decide ((k:Int)<(n:Int))=true:=am2 (by omega);have qn:decide (k<n)=true:=am2 hkl;obtain⟨s,hd⟩:∃s,ws[k]? =some s:=⟨ws[k]'(by rw[HN.o];exact hkl),by simp⟩;obtain⟨b,o,hA,hb,hc⟩:=(HI.o.on hs.2) k (sv s) (by rw[amP,hd];rfl);subst hA;have zs:=HZ.o s (amI hd);have K:=abq (Vs.can (HF.o k) (by omega)) (Vs.arg (s:=s) (by omega));rw[<-si hd]at K;unfold sv at hc;generalize ae ((iv ws).take k).sum =a at*
   obtain⟨a',ha'⟩:∃v,ae ((iv ws).take (k+1)).sum =v:=⟨_,rfl⟩;rw[ha']at K;have HA':=amy ha';clear hd ha' hkn zs
   go_wp2_with fail
   refine K.step hs ?_;intro w1 hs hb1
   go_wp2_with fail
   go_roundw
   case rel=>exact⟨k+1,by omega,by go_num,by rw[HA'.o],hs⟩
   case measure=>simp[intOf];omega
theorem ajy {s:BA}(hz:s.size<=1000000):Ret 231 #[.string s] (.bool (ajP s)):=by
 intro w hg;have hs:=St.refl hg;have K1:=amv hz;have K2:=abU hz;unfold ajP;generalize decide (ah s<0)=v2 at*
 by_cases h:chk s=0
 ·rw[h]at K1⊢
  go_enter func231,ntmps231
  go_wp2_with fail
  refine K1.step hs ?_;intro w1 hs hb
  go_wp2_with fail
  refine K2.step hs ?_;intro w2 hs hb
  go_wp2_with fail
  go_ret
  exact⟨by simp,hs.2⟩
 ·have q:(chk s !=0)=true:=by simpa using h
  rw[q];generalize chk s=e at*
  clear h
  go_enter func231,ntmps231
  go_wp2_with fail
  refine K1.step hs ?_;intro w1 hs hb
  go_wp2_with fail
  go_ret
  exact⟨by simp,hs.2⟩
theorem ag9 {A:Option Addr}{n c k0:Nat}{t:BA}{ws:List BA}(hn:ws.length=n)(h12:n<=1000\/1000<n)(hm:n<=4611686018427387904)(hk0:k0<=5000)(ht:t.size<=k0)(hz:∀s∈ws,s.size<=k0):
 iO (fun w=>Row w A (ws.map sv)) 178 #[.string t,.slice A n c] (.int .i64 (alE t ws)):=by
 intro w hg hi;have hs:=St.refl hg;have K1:=amv (a:=t) (by omega);have K2:=zQ (A:=A) (c:=c) (cap:= #[]) (f:=231) (p:=ajP) (l:=ws) (I:=fun _=>True) (fun _ _ _ _=>trivial) hn hm (fun _ _=>rfl) (fun s hs=>(ajy (amG (hz s hs) (by omega))).i _);have Hi:=amy hi;have HE:Hid (alE t ws=if ws.length=0 then 11 else if 1000<ws.length then 4 else if chk t≠0\/ws.any ajP=true then 1 else if (iv ws).sum =0 then 10 else 0):=rfl;rw[hn]at HE;clear hi;by_cases h0:n=0
 ·rw[HE.o,if_pos h0]
  subst h0;clear HE K1 K2
  go_enter func178,ntmps178
  go_wp2_with fail
  go_ret
  exact⟨rfl,hs.2⟩
 ·have q0:((n:Int)==0)=false:=beq_eq_false_iff_ne.2 (by omega)
  by_cases h1:1000<n
  ·rw[HE.o,if_neg h0,if_pos h1]
   have q1:decide ((1000:Int)<(n:Int))=true:=am2 (by omega);clear HE K1 K2 h0
   go_enter func178,ntmps178
   go_wp2_with fail
   go_ret
   exact⟨rfl,hs.2⟩
  ·have q1:decide ((1000:Int)<(n:Int))=false:=am1 (by omega)
   have K3:=xZ (A:=A) (c:=c) hn (by omega) hk0 hz;have q3:=nil_eq (iv ws).sum;have e:=HE.o;rw[if_neg h0,if_neg h1]at e;rw[e];clear e HE h12;by_cases h2:chk t=0
   ·rw[h2]at K1
    cases h3:ws.any ajP with
    |true=>
     rw[h3]at K2;rw[if_pos (.inr rfl)];clear h3 h0 h1 hn hz q3 K3 h2
     go_enter func178,ntmps178
     go_wp2_with fail
     refine K1.step hs ?_;intro w1 hs hb
     go_wp2_with fail
     refine K2.step hs ⟨Hi.o.on hs.2,trivial⟩ ?_;intro w2 hs hb
     go_wp2_with fail
     go_ret
     exact⟨rfl,hs.2⟩
    |false=>
     rw[h3]at K2;rw[if_neg (by rw[h2];simp)];obtain⟨bz,hbz⟩:∃x,decide ((iv ws).sum =0)=x:=⟨_,rfl⟩;rw[hbz]at q3;have HB:=amy hbz;generalize ae (iv ws).sum =cs at*
     clear h3 h0 h1 hn hz h2 hbz;cases bz with
     |true=>
      rw[if_pos (of_decide_eq_true HB.o)]
      go_enter func178,ntmps178
      go_wp2_with fail
      refine K1.step hs ?_;intro w1 hs hb
      go_wp2_with fail
      refine K2.step hs ⟨Hi.o.on hs.2,trivial⟩ ?_;intro w2 hs hb
      go_wp2_with fail
      refine K3.step hs (Hi.o.on hs.2) ?_;intro w3 hs hb
      go_wp2_with fail
      go_ret
      exact⟨rfl,hs.2⟩
     |false=>
      rw[if_neg (of_decide_eq_false HB.o)]
      go_enter func178,ntmps178
      go_wp2_with fail
      refine K1.step hs ?_;intro w1 hs hb
      go_wp2_with fail
      refine K2.step hs ⟨Hi.o.on hs.2,trivial⟩ ?_;intro w2 hs hb
      go_wp2_with fail
      refine K3.step hs (Hi.o.on hs.2) ?_;intro w3 hs hb
      go_wp2_with fail
      go_ret
      exact⟨rfl,hs.2⟩
   ·have q2:(chk t !=0)=true:=by simpa using h2
    rw[if_pos (.inl h2)];generalize chk t=e at*
    clear h2 h0 h1 hn hz q3 K3 K2
    go_enter func178,ntmps178
    go_wp2_with fail
    refine K1.step hs ?_;intro w1 hs hb
    go_wp2_with fail
    go_ret
    exact⟨rfl,hs.2⟩
end
end Go.Proofs.YtbkhnggmcheelaaGreatDoor
