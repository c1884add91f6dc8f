/- TopSpunTogether: A reckoner of closed runs. Conditions: bounded sizes; variables as laid. -/
import Derived.RangeFuncNested
import Derived.Test.YtbkhnggmcheelaaGreatDoorEvb
set_option linter.unusedSectionVars false
set_option linter.unusedSimpArgs false
set_option linter.unusedVariables false
namespace Go.Proofs.Q.Ev
section
open Go Go.RowKit
variable [Sym]
inductive AExit where
 |normal
 |exit (id:Nat)
 |ret
structure CSt where
 st:FSt
 df:List Nat
abbrev amw:=Option (AExit×CSt)
def iter (f:CSt->amw):Nat->CSt->amw
 |0,_=>none
 |k+1,s=>match f s with
  |some (.normal,s')=>iter f k s'
  |r=>r
section
variable (cx:Cx) (cf:bZ) (lf nt:Nat)
def zK (rnd:Option Nat)(ps:Array Tmp)(assign body:Code)(s:CSt):Option (Nat×CSt):=
 match rnd with
 |none=>bif Nat.blt (s.st.nx+1) lim then
  some (s.st.nx+1,⟨⟨s.st.tm,(s.st.H.set s.st.nx .defd).set (s.st.nx+1) (.loop .ready none s.st.tm nt ps.toList assign body s.st.nx),s.st.nx+2⟩,s.st.nx::s.df⟩)else none
 |some l0=>match s.st.H.get l0 with
  |some (.loop _ _ _ _ _ _ _ d)=>bif Nat.blt s.st.nx lim then
   some (s.st.nx,⟨⟨s.st.tm,s.st.H.set s.st.nx (.loop .ready none s.st.tm nt ps.toList assign body d),s.st.nx+1⟩,s.df⟩)else none
  |_=>none
def isFn (cx:Cx):AV->Bool
 | .func f _=>(cx.fn f).isSome
 |_=>false
def yF (rnd:Option Nat)(f:Operand)(ps:Array Tmp)(assign body:Code)(s:CSt):amw:=
 match zK nt rnd ps assign body s with
 |some (l,s1)=>bif isFn cx (ev s.st.tm f)then(match cf (ev s.st.tm f) [.yield l] s1.st.H s1.st.nx with
  |some (_,H',nx')=>bif Nat.ble s1.st.nx nx'&&Nat.blt l lim then(match H'.get l with
   |some (.loop stt pend _ _ _ _ _ _)=>
    let s2:CSt:=⟨⟨s.st.tm,H'.del l,nx'⟩,s1.df⟩
    match stt with
    | .busy =>none
    |_=>match pend with
     |none=>some (.normal,s2)
     |some .ret =>some (.ret,s2)
     |some (.exit id)=>some (.exit id,s2)
     |_=>none
   |_=>none)else none
  |none=>none)else none
 |none=>none
def run (rnd:Option Nat):Code->CSt->amw
 | .skip,s=>some (.normal,s)
 | .label _,s=>some (.normal,s)
 | .seq a b,s=>match run rnd a s with
  |some (.normal,s')=>run rnd b s'
  |r=>r
 | .cond c a b,s=>match ev s.st.tm c with
  | .lit (.bool true)=>run rnd a s
  | .lit (.bool false)=>run rnd b s
  |_=>none
 | .block id c,s=>match run rnd c s with
  |some (.exit i,s')=>bif Nat.beq i id then some (.normal,s')else some (.exit i,s')
  |r=>r
 | .loop c,s=>iter (run rnd c) lf s
 | .exit id,s=>some (.exit id,s)
 | .ret,s=>some (.ret,s)
 | .region _ ops draw,s=>match (bif draw then nS cx cf nt ops s.st else uE cx cf nt ops ops.toList s.st)with
  |some st'=>some (.normal,⟨st',s.df⟩)
  |none=>none
 | .rangeFunc f ps assign body,s=>yF cx cf nt rnd f ps assign body s
 |_,_=>none
end
def qU:List Nat->Heap->Option Heap
 | [],H=>some H
 |d::l,H=>match H.get d with
  |some .defd =>bif Nat.blt d lim then qU l (H.del d)else none
  |_=>none
def ah0 (cx:Cx)(st:FSt):List ResultVar->Option (List AV)
 | []=>some []
 | .tmp t::l=>match st.tm.get t,ah0 cx st l with
  |some v,some vs=>some (v::vs)
  |_,_=>none
 | .cell a t::l=>match st.tm.get a with
  |some (.ptr n o)=>match st.H.get n,cx.ti t with
   |some (.cells cs _ _),some i=>match pick (abm i.desc) i.size cs o with
    |some v=>match ah0 cx st l with
     |some vs=>some (v::vs)
     |none=>none
    |none=>none
   |_,_=>none
  |_=>none
def adQ:List AV->Nat->Tr AV->Tr AV
 | [],_,tm=>tm
 |v::l,k,tm=>adQ l (k+1) (tm.set k v)
def agR (cx:Cx)(cf:bZ)(lf:Nat)(f:FuncId)(args:List AV)(H:Heap)(nx:Nat):Res:=
 match cx.fn f with
 |some fi=>bif Nat.ble args.length fi.nt&&Nat.blt fi.nt lim then(match run cx cf lf fi.nt none fi.body ⟨⟨adQ args 0 .leaf,H,nx⟩,[]⟩with
  |some (.exit _,_)=>none
  |some (_,s)=>match qU s.df s.st.H with
   |some H'=>match ah0 cx ⟨s.st.tm,H',s.st.nx⟩ fi.res with
    |some [v]=>some (v,H',s.st.nx)
    |some vs=>some (.tup vs,H',s.st.nx)
    |none=>none
   |none=>none
  |none=>none)else none
 |none=>none
def abI:List Tmp->List AV->Nat->Tr AV->Option (Tr AV)
 | [],[],_,tm=>some tm
 |p::ps,v::vs,nt,tm=>match ahn nt tm (some p) v with
  |some tm'=>abI ps vs nt tm'
  |none=>none
 |_,_,_,_=>none
def lu (H:Heap)(l:Nat)(stt:LoopState)(pend:Option Code):Option Heap:=
 match H.get l with
 |some (.loop _ _ tm nt ps assign body d)=>some (H.set l (.loop stt pend tm nt ps assign body d))
 |_=>none
def aez (cx:Cx)(cf:bZ)(lf:Nat)(l:Nat)(args:List AV)(H:Heap)(nx:Nat):Res:=
 match H.get l with
 |some (.loop _ _ tm nt ps assign body _)=>bif Nat.blt l lim then(match abI ps args nt tm with
  |some tm'=>match run cx cf lf nt (some l) assign ⟨⟨tm',H,nx⟩,[]⟩with
   |some (.normal,s1)=>match s1.st.H.get l,lu s1.st.H l .busy none with
    |some (.loop .ready none _ _ _ _ _ _),some H2=>match run cx cf lf nt (some l) body ⟨⟨s1.st.tm,H2,s1.st.nx⟩,s1.df⟩with
     |some (.normal,s2)=>match lu s2.st.H l .ready none with
      |some H3=>some (.lit (.bool true),H3,s2.st.nx)
      |none=>none
     |some (.exit id,s2)=>match lu s2.st.H l .done (some (.exit id))with
      |some H3=>some (.lit (.bool false),H3,s2.st.nx)
      |none=>none
     |some (.ret,s2)=>match lu s2.st.H l .done (some .ret)with
      |some H3=>some (.lit (.bool false),H3,s2.st.nx)
      |none=>none
     |none=>none
    |_,_=>none
   |_=>none
  |none=>none)else none
 |_=>none
def xW (cx:Cx)(orc:bZ)(lf:Nat):Nat->bZ
 |0=>orc
 |k+1=>fun fv args H nx=>match orc fv args H nx with
  |some r=>some r
  |none=>match fv with
   | .func f cap=>agR cx (xW cx orc lf k) lf f (args++cap) H nx
   | .yield l=>aez cx (xW cx orc lf k) lf l args H nx
   |_=>none
end
section
open Go Go.RowKit
variable [Sym]
def wY (E:Env)(d:Nat):Deferred:={target:=.collected (E d).b,args:= #[]}
structure CRel (S:Nat->Prop) (w0:World) (nt:Nat) (E:Env) (D:Nat->Prop) (s:CSt) (a:Act) (w:World):Prop where
 rel:Rel S w0 nt E D s.st a.tmps w
 df:a.defers=s.df.map (wY E)
 din:∀d∈s.df,D d
def toX:AExit->Exit
 | .normal =>.normal
 | .exit id=>.exit id
 | .ret =>.ret
section
variable {cx:Cx} {cf:bZ} {G:World->Prop} {S:Nat->Prop} {w0:World} {lf nt:Nat} {rnd:Option Nat}
theorem qD {E E':Env}{D:Nat->Prop}(he:∀n,D n->E' n=E n){df:List Nat}(hd:∀d∈df,D d):df.map (wY E')=df.map (wY E):=
 List.map_congr_left fun d hm=>by unfold wY;rw[he d (hd d hm)]
theorem sj {f:CSt->amw}(hf:∀s x s',f s=some (x,s')->s.st.nx<=s'.st.nx):∀(k:Nat) (s:CSt) (x:AExit) (s':CSt),iter f k s=some (x,s')->s.st.nx<=s'.st.nx
 |0,_,_,_,h=>by cases h
 |k+1,s,x,s',h=>by
  unfold iter at h;split at h
  ·rename_i s1 h1
   exact amG (hf _ _ _ h1) (sj hf k s1 x s' h)
  ·exact hf _ _ _ h
theorem vB {ps:Array Tmp}{assign body:Code}{s s1:CSt}{l:Nat}(h:zK nt rnd ps assign body s=some (l,s1)):s.st.nx<=s1.st.nx:=by
 unfold zK at h;split at h
 ·obtain⟨_,h⟩:=ag h;cases h;exact Nat.le_add_right _ _
 ·split at h
  ·obtain⟨_,h⟩:=ag h;cases h;exact Nat.le_add_right _ _
  ·cases h
theorem uG {f:Operand}{ps:Array Tmp}{assign body:Code}{s s':CSt}{x:AExit}(h:yF cx cf nt rnd f ps assign body s=some (x,s')):s.st.nx<=s'.st.nx:=by
 unfold yF at h;split at h
 ·rename_i l s1 h1
  have m1:=vB h1;obtain⟨_,h⟩:=ag h;split at h
  ·rename_i v H' nx' h2
   obtain⟨hb,h⟩:=ag h;simp only[amC,Nat.ble_eq]at hb;split at h
   ·dsimp only at h
    split at h
    ·cases h
    ·split at h<;>cases h<;>exact amG m1 hb.1
   ·cases h
  ·cases h
 ·cases h
theorem kD:∀(c:Code) (s:CSt) (x:AExit) (s':CSt),run cx cf lf nt rnd c s=some (x,s')->s.st.nx<=s'.st.nx:=by
 intro c
 induction c with
 |skip=>intro s x s' h;cases h;exact am4 _
 |label l=>intro s x s' h;cases h;exact am4 _
 |exit id=>intro s x s' h;cases h;exact am4 _
 |ret=>intro s x s' h;cases h;exact am4 _
 |goto l=>intro s x s' h;cases h
 |refuse m=>intro s x s' h;cases h
 |scope c ih=>intro s x s' h;cases h
 |seq a b iha ihb=>
  intro s x s' h;unfold run at h;split at h
  ·rename_i s1 h1
   exact amG (iha _ _ _ h1) (ihb _ _ _ h)
  ·exact iha _ _ _ h
 |cond c a b iha ihb=>
  intro s x s' h;unfold run at h;split at h
  ·exact iha _ _ _ h
  ·exact ihb _ _ _ h
  ·cases h
 |block id c ih=>
  intro s x s' h;unfold run at h;split at h
  ·rename_i i s1 h1
   cases hb:Nat.beq i id<;>rw[hb]at h<;>cases h<;>exact ih _ _ _ h1
  ·exact ih _ _ _ h
 |loop c ih=>
  intro s x s' h;exact sj ih lf s x s' h
 |region id ops draw=>
  intro s x s' h;unfold run at h;split at h
  ·rename_i st' h1
   cases h;cases draw with
   |true=>exact pI h1
   |false=>exact lC _ _ h1
  ·cases h
 |rangeFunc f ps assign body iha ihb=>
  intro s x s' h;exact uG h
end
end
section
open Go Go.RowKit
variable [Sym]
def RO (E:Env)(D:Nat->Prop)(rnd ro:Option Nat):Prop:=
 match rnd with
 |none=>ro=none
 |some l=>ro=some (E l).b /\D l
section
variable {cx:Cx} {cf:bZ} {G:World->Prop} {S:Nat->Prop} {w0 w:World} {lf nt:Nat} {rnd ro:Option Nat} {E E':Env} {D:Nat->Prop}
theorem RO.next {D':Nat->Prop}(h:RO E D rnd ro)(he:∀n,D n->E' n=E n)(hd:∀n,D n->D' n):RO E' D' rnd ro:=by
 cases rnd with
 |none=>exact h
 |some l=>exact⟨by rw[he l h.2];exact h.1,hd l h.2⟩
theorem HW.drew {H:Heap}(h:HW S w0 E D H w):HW S w0 E D H w.drew:=h.step (fun _ h=>h) (fun _ _=>rfl) ⟨h.fr.os,h.fr.tape,h.fr.output,h.fr.size,h.fr.block⟩ (fun _ _ _=>rfl)
theorem CRel.more {D':Nat->Prop}{s:CSt}{a:Act}(h:CRel S w0 nt E D s a w)(hd:∀n,D n->D' n):CRel S w0 nt E D' s a w:=⟨h.rel.more hd,h.df,fun d hm=>hd d (h.din d hm)⟩
abbrev Post (S:Nat->Prop)(w0:World)(nt:Nat)(E:Env)(D:Nat->Prop)(s s':CSt)(a':Act)(w':World):Prop:=
 Dom s.st.H s'.st.H s.st.nx s'.st.nx/\∃E',(∀n,D n->E' n=E n)/\CRel S w0 nt E' (DR D s.st.nx s'.st.nx) s' a' w'
theorem Post.refl {s:CSt}{a:Act}(h:CRel S w0 nt E D s a w):Post S w0 nt E D s s a w:=⟨Dom.refl _ _ _,E,fun _ _=>rfl,h.more DR.le⟩
theorem Post.trans {s s1 s2:CSt}{a1 a2:Act}{w1 w2:World}(m1:s.st.nx<=s1.st.nx)(m2:s1.st.nx<=s2.st.nx)(hd:Dom s.st.H s1.st.H s.st.nx s1.st.nx)(he:∀n,D n->E' n=E n)(h2:Post S w0 nt E' (DR D s.st.nx s1.st.nx) s1 s2 a2 w2):Post S w0 nt E D s s2 a2 w2:=by
 obtain⟨d2,E2,e2,r2⟩:=h2;exact⟨Dom.trans m1 m2 hd d2,E2,fun n hn=>(e2 n (.inl hn)).trans (he n hn),r2.more (DR.trans m1 m2)⟩
def ahl (cx:Cx)(cf:bZ)(S:Nat->Prop)(w0:World)(lf nt:Nat)(rnd:Option Nat)(f:CSt->amw)(c:Code):Prop:=
 ∀(s:CSt) (x:AExit) (s':CSt),f s=some (x,s')->∀(E:Env) (D:Nat->Prop) (a:Act) (w:World) (ro:Option Nat) (Q:Exit->Act->World->Prop),CRel S w0 nt E D s a w->vN D s.st.nx s'.st.nx->RO E D rnd ro->
  (∀a' w',Post S w0 nt E D s s' a' w'->Q (toX x) a' w')->c.wpIn (fence ro) 0 cx.P Q a w
theorem aft {c:Code}{f:CSt->amw}(hm:∀s x s',f s=some (x,s')->s.st.nx<=s'.st.nx)(ih:ahl cx cf S w0 lf nt rnd f c):∀(k:Nat) (s:CSt) (x:AExit) (s':CSt),iter f k s=some (x,s')->
 ∀(E:Env) (D:Nat->Prop) (a:Act) (w:World) (ro:Option Nat) (Q:Exit->Act->World->Prop),CRel S w0 nt E D s a w->vN D s.st.nx s'.st.nx->RO E D rnd ro->(∀a' w',Post S w0 nt E D s s' a' w'->Q (toX x) a' w')->
 ∀(b:Frame) (kk:List Item) (cs:List Frame),b.roundOf=(fence ro).round ->(fence ro).fn b.fn->(fence ro).room (cs.length+1+0)->
  ∃e a' w',Q e a' w'/\ArrivesIn (Machine.fenced cx.P (fence ro)) cx.P (lone (b.atR a (.code c:: .inLoop c::kk)) cs w) b kk cs e a' w'
 |0,_,_,_,h=>by cases h
 |k+1,s,x,s',h=>by
  intro E D a w ro Q hr hf hro hQ b kk cs h1 h2 h3;unfold iter at h;split at h
  ·rename_i s1 hs1
   have m1:=hm _ _ _ hs1;have m2:=sj hm k s1 x s' h;have hw:=ih s .normal s1 hs1 E D a w ro (fun e a' w'=>match e with| .normal =>Post S w0 nt E D s s1 a' w'|_=>False) hr (hf.mono ano m2) hro (fun a' w' hp=>hp);obtain⟨e,a1,w1,hq,harr⟩:=hw b (.inLoop c::kk) cs h1 h2 h3;cases e with
   |normal=>
    obtain⟨d1,E1,e1,r1⟩:=hq;obtain⟨e2,a2,w2,hq2,harr2⟩:=aft hm ih k s1 x s' h E1 _ a1 w1 ro Q r1 (hf.next m1) (hro.next e1 DR.le) (fun a' w' hp=>hQ a' w' (Post.trans (a1:=a1) (w1:=w1) m1 m2 d1 e1 hp)) b kk cs h1 h2 h3;exact⟨e2,a2,w2,hq2,.of_steps (StepsIn.trans harr (.one (fenced_calm h2 h3 rfl) stepR_inLoop)) harr2⟩
   |exit id=>exact hq.elim
   |goto l=>exact hq.elim
   |ret=>exact hq.elim
   |panic ch=>exact hq.elim
   |outgrown=>exact hq.elim
  ·rename_i hne
   have hw:=ih s x s' h E D a w ro Q hr hf hro hQ;have hxn:x≠ .normal :=fun e=>by subst e;exact hne s' h
   have hw2:=ih s x s' h E D a w ro (fun e a' w'=>e=toX x/\Q e a' w') hr hf hro (fun a' w' hp=>⟨rfl,hQ a' w' hp⟩);obtain⟨e,a1,w1,⟨he,hq⟩,harr⟩:=hw2 b (.inLoop c::kk) cs h1 h2 h3;refine⟨e,a1,w1,hq,.pass (x:=.inLoop c) rfl (fun _ _=>.inl ?_) harr⟩;rw[he];cases x<;>first|exact absurd rfl hxn|(simp[toX])
end
end
section
open Go Go.RowKit
variable [Sym]
section
variable {cx:Cx} {cf:bZ} {G:World->Prop} {S:Nat->Prop} {w0 w w':World} {lf nt:Nat} {rnd ro:Option Nat} {E E':Env} {D:Nat->Prop} {H:Heap}
theorem HW.gone (h:HW S w0 E D H w){n:Nat}(hl:n<lim){o:AObj}(hn:H.get n=some o)(hsz:w'.heap.size=w.heap.size)(hos:w'.os=w.os)(ht:w'.tape=w.tape)(hout:w'.output=w.output)
 (hh:∀k,k≠(E n).b ->w'.heap[k]? =w.heap[k]?):HW S w0 E D (H.del n) w':=by
 have key:∀m x,(H.del n).get m=some x->m≠n/\H.get m=some x:=fun m x hm=>by
  rw[iL hl]at hm;split at hm
  ·cases hm
  ·rename_i e;exact⟨e,hm⟩
 refine⟨fun m x hm=>?_,fun m m' o1 o2 hm hm' hne=>h.inj m m' o1 o2 (key _ _ hm).2 (key _ _ hm').2 hne,fun m x hm=>h.own m x (key m x hm).2,fun m x hm=>h.names m x (key m x hm).2,?_⟩
 ·obtain⟨hmn,hm'⟩:=key m x hm
  exact OR.congr (D:=D) (fun _ _=>rfl) (h.names m x hm').1 (h.names m x hm').2 (hh _ (h.inj m n x o hm' hn hmn)) (h.obj m x hm')
 ·exact⟨hos.trans h.fr.os,ht.trans h.fr.tape,hout.trans h.fr.output,by rw[hsz];exact h.fr.size,fun k hk hs=>by
   by_cases e:k=(E n).b
   ·subst e
    rcases h.own n o hn with h1|h1
    ·exact absurd h1 hs
    ·exact absurd hk (Nat.not_lt.2 h1)
   ·rw[hh k e];exact h.fr.block k hk hs⟩
theorem jT {W:World}{l:Nat}{o:Obj}:∀k,k≠l->(W.putObj l o).heap[k]? =W.heap[k]?:=fun _ hk=>World.putObj_heap_other hk
theorem jS (hc:CxOK cx){f:FuncId}{fi:FI}(hf:cx.fn f=some fi)(args:Array Value):(callFunc f args).run cx.P w= .ok (.enter f args) w:=by
 obtain⟨F,h1,h2,_,_,h5⟩:=hc.fn f fi hf;unfold callFunc;simp only[amF,run_program,amz,h1,h5,amQ,if_false,h2,Option.isNone_some];rfl
theorem dK (hc:CxOK cx){f:FuncId}{fi:FI}(hf:cx.fn f=some fi)(cap args:Array Value):(do let d<-Deferred.ofValue (.func (.func f) #[] cap) args;invoke d.target d.args:Sem Next).run cx.P w= .ok (.enter f (args++cap)) w:=by
 unfold Deferred.ofValue;simp only[amF,amM,amz,invoke,Array.empty_append];exact jS hc hf _
theorem ai0 {ps:Array Tmp}{assign body:Code}{s s1:CSt}{l:Nat}{a:Act}(he:zK nt rnd ps assign body s=some (l,s1))(h:CRel S w0 nt E D s a w)(hf:vN D s.st.nx s1.st.nx)(hro:RO E D rnd ro)(fn:FuncId):
 ∃lr mark w1,(Instr.enterLoop fn a.tmps ps assign body (fence ro).round).run cx.P w= .ok (lr,mark) w1/\Dom s.st.H s1.st.H s.st.nx s1.st.nx/\s1.st.tm=s.st.tm/\
  ∃E1,(∀n,D n->E1 n=E n)/\(E1 l).b =lr/\DR D s.st.nx s1.st.nx l/\CRel S w0 nt E1 (DR D s.st.nx s1.st.nx) s1 {a with defers:=mark++a.defers} w1:=by
 unfold zK at he;split at he
 ·obtain⟨hb,he⟩:=ag he
  cases he;have hro':ro=none:=hro;subst hro';have hb':s.st.nx+1<lim:=by simpa[anh]using hb
  dsimp only at hf⊢
  have f0:¬D s.st.nx:=hf _ ano (by omega);have f1:¬D (s.st.nx+1):=hf _ (by omega) (by omega);refine⟨_,_,_,run_enterLoop_outer fn a.tmps ps assign body,((Dom.refl _ _ _).set (by omega) (.inr ⟨am4 _,by omega⟩) _).set (by omega) (.inr ⟨by omega,by omega⟩) _,rfl,?_⟩;have h1:=h.rel.hw.new (n:=s.st.nx) f0 (by omega) (o:=.defd) (x:=.deferred (some [])) (s:=0) trivial (by
   show (w.heap.push _)[(setE E s.st.nx ⟨w.heap.size,0⟩ s.st.nx).b]? =_;rw[ay,Array.getElem?_push_size])
  have e1:∀m,D m->setE E s.st.nx ⟨w.heap.size,0⟩ m=E m:=fun m hm=>aU _ (by intro e;subst e;exact f0 hm)
  have hn1:¬D1 D s.st.nx (s.st.nx+1):=fun hh=>by
   rcases hh with hh|hh
   ·exact f1 hh
   ·omega
  have e2:∀m,D1 D s.st.nx m->setE (setE E s.st.nx ⟨w.heap.size,0⟩) (s.st.nx+1) ⟨(w.alloc (.deferred (some []))).heap.size,0⟩ m=setE E s.st.nx ⟨w.heap.size,0⟩ m:=fun m hm=>aU _ (by intro e;subst e;exact hn1 hm)
  have h2:=h1.new (n:=s.st.nx+1) hn1 (by omega) (o:=.loop .ready none s.st.tm nt ps.toList assign body s.st.nx) (x:=.loop {state:=.ready,pending:=none,fn,tmps:=a.tmps,params:=ps,assign,body,defers:=w.heap.size}) (s:=0)
   ⟨TIn.mono (fun n hn=>.inl hn) h.rel.tin,.inr rfl⟩ (by
    refine⟨a.tmps,fn,?_,?_⟩
    ·show ((w.alloc (.deferred (some []))).heap.push _)[(setE _ (s.st.nx+1) _ (s.st.nx+1)).b]? =_
     rw[ay,Array.getElem?_push_size,e2 _ (.inr rfl),ay]
    ·exact iA (D:=D) (fun m hm=>(e2 m (.inl hm)).trans (e1 m hm)) h.rel.tin h.rel.tm)
  have hsub:∀m,D1 (D1 D s.st.nx) (s.st.nx+1) m->DR D s.st.nx (s.st.nx+2) m:=fun m hm=>by
   rcases hm with (hm|hm)|hm
   ·exact .inl hm
   ·subst hm;exact .inr ⟨am4 _,by omega⟩
   ·subst hm;exact .inr ⟨by omega,by omega⟩
  have eA:∀m,D m->setE (setE E s.st.nx ⟨w.heap.size,0⟩) (s.st.nx+1) ⟨(w.alloc (.deferred (some []))).heap.size,0⟩ m=E m:=fun m hm=>(e2 m (.inl hm)).trans (e1 m hm)
  refine⟨_,eA,by rw[ay];simp,.inr ⟨by omega,by omega⟩,⟨⟨h2.more hsub,iA eA h.rel.tin h.rel.tm,TIn.mono DR.le h.rel.tin⟩,?_,fun d hd=>?_⟩⟩
  ·show _++a.defers=wY _ s.st.nx::s.df.map (wY _)
   rw[h.df,qD eA h.din];show [_]++_=_;unfold wY;rw[e2 _ (.inr rfl),ay];rfl
  ·rcases anf.1 hd with e|e
   ·subst e;exact .inr ⟨am4 _,by omega⟩
   ·exact .inl (h.din d e)
 ·rename_i l0
  obtain⟨hro1,hro2⟩:ro=some (E l0).b /\D l0:=hro;subst hro1;split at he
  ·rename_i st0 pd0 tm0 nt0 ps0 as0 bd0 d0 hl0
   obtain⟨hb,he⟩:=ag he;cases he;have hb':s.st.nx<lim:=by simpa[anh]using hb
   dsimp only at hf⊢
   have f0:¬D s.st.nx:=hf _ ano (by omega);obtain⟨tmps0,fn0,hheap,_⟩:=h.rel.hw.obj _ _ hl0;have hd0:D d0:=(h.rel.hw.names _ _ hl0).2.2;refine⟨_,_,_,run_enterLoop_inner hheap fn a.tmps ps assign body,(Dom.refl _ _ _).set (by omega) (.inr ⟨am4 _,by omega⟩) _,rfl,?_⟩;have e1:∀m,D m->setE E s.st.nx ⟨w.heap.size,0⟩ m=E m:=fun m hm=>aU _ (by intro e;subst e;exact f0 hm)
   have h1:=h.rel.hw.new (n:=s.st.nx) f0 (by omega) (o:=.loop .ready none s.st.tm nt ps.toList assign body d0) (x:=.loop {state:=.ready,pending:=none,fn,tmps:=a.tmps,params:=ps,assign,body,defers:=(E d0).b}) (s:=0)
    ⟨h.rel.tin,hd0⟩ (by
     refine⟨a.tmps,fn,?_,?_⟩
     ·show (w.heap.push _)[(setE _ s.st.nx _ s.st.nx).b]? =_
      rw[ay,Array.getElem?_push_size,e1 _ hd0]
     ·exact iA e1 h.rel.tin h.rel.tm)
   have hsub:∀m,D1 D s.st.nx m->DR D s.st.nx (s.st.nx+1) m:=ajO;refine⟨_,e1,by rw[ay],.inr ⟨by omega,by omega⟩,⟨⟨h1.more hsub,iA e1 h.rel.tin h.rel.tm,TIn.mono DR.le h.rel.tin⟩,?_,fun d hd=>.inl (h.din d hd)⟩⟩;show []++a.defers=s.df.map (wY _);rw[h.df,qD e1 h.din];rfl
  ·cases he
theorem ah2 (hc:CxOK cx)(hG:∀w,Fr S w0 w->G w)(hcf:bU cx G cf){f:Operand}{ps:Array Tmp}{assign body:Code}:ahl cx cf S w0 lf nt rnd (yF cx cf nt rnd f ps assign body) (.rangeFunc f ps assign body):=by
 intro s x s' he E D a w ro Q h hf hro hQ;have hmono:=uG he;unfold yF at he;split at he
 ·rename_i l s1 h1
  have m1:=vB h1;have hfn:=(ag he).1;replace he:=(ag he).2;split at he
  ·rename_i v H' nx' h2
   have hb:=(ag he).1;replace he:=(ag he).2;simp only[amC,Nat.ble_eq,anh]at hb;have hs'nx:s'.st.nx=nx':=by
    split at he
    ·dsimp only at he
     split at he
     ·cases he
     ·split at he<;>cases he<;>rfl
    ·cases he
   rw[hs'nx]at hf;refine wpIn_rangeFunc fun fn _=>?_
   obtain⟨lr,mark,w1,hrun,hd1,htm,E1,e1,hlr,hDl,hr1⟩:=ai0 (cx:=cx) h1 h (hf.mono ano hb.1) hro fn;have hfin:=alT h.rel.tin f;have hfc:=fun hne=>oM h.rel.tm f hne
   generalize hfv:ev s.st.tm f=fv at*
   obtain⟨g,cap,rfl⟩:∃g cap,fv= .func g cap:=by
    unfold isFn at hfn;split at hfn
    ·exact⟨_,_,rfl⟩
    ·cases hfn
   obtain⟨fi,hfi⟩:∃fi,cx.fn g=some fi:=Option.isSome_iff_exists.1 hfn;obtain⟨mcall,nxt,hnx,hpost⟩:=hcf S w0 hG ro _ _ _ _ _ _ _ h2 E1 (DR D s.st.nx s1.st.nx) w1 hr1.rel.hw (Ev.In.mono DR.le _ hfin) (fun u hu=>by simp at hu;subst hu;exact hDl) (hf.next m1);have hfe:a.eval f= .func (.func g) #[] (fT E1 cap).toArray :=by
    rw[hfc (by simp), <-bL e1 _ hfin];rfl
   have hy:([AV.yield l].map (aj E1)).toArray = #[.func (.yield lr) #[] #[]]:=by
    show #[aj E1 (.yield l)]=_;simp only[aj,hlr]
   have hinv:=dK (w:=w1) hc hfi (fT E1 cap).toArray #[.func (.yield lr) #[] #[]];rw[hy,show aj E1 (.func g cap)= .func (.func g) #[] (fT E1 cap).toArray from rfl,hinv]at hnx;cases hnx;refine⟨lr,mark,w1,⟨.fn (.func g) (fT E1 cap).toArray, #[.func (.yield lr) #[] #[]]⟩,w1,g, #[.func (.yield lr) #[] #[]]++(fT E1 cap).toArray,w1,hrun,?_,fun _ _=>jy ro _,?_,fun hd=>(by rw[lS]at hd;cases hd),?_⟩
   ·have hargs:(#[Operand.const (.func (.yield lr) #[] #[])]:Array Operand).map a.eval= #[.func (.yield lr) #[] #[]]:=by simp[Act.eval]
    unfold resolve rangeCall;simp only[hargs,hfe,Deferred.ofValue,Array.empty_append];rfl
   ·show (callFunc g _).run cx.P w1=_
    exact jS hc hfi _
   ·refine CallsIn.mono hpost ?_
    rintro e w3 ⟨u,rfl,dcall,E3,rfl,e3,h3,_⟩;split at he
    ·rename_i stt pend tm0 nt0 ps0 as0 bd0 d0 hl
     obtain⟨tmps0,fn0,hheap,_⟩:=h3.obj _ _ hl;have hlr3:(E3 l).b =lr:=by rw[e3 l hDl];exact hlr
     rw[hlr3]at hheap;dsimp only at he;have hnb:stt≠ .busy :=by intro e;subst e;cases he
     have hend:=run_endLoop (P:=cx.P) hheap (by exact hnb);have hsubD:∀n,DR (DR D s.st.nx s1.st.nx) s1.st.nx nx' n->DR D s.st.nx nx' n:=DR.trans m1 hb.1;have h4:HW S w0 E3 (DR D s.st.nx nx') (H'.del l) (w3.putObj lr (.loop {state:=.exhausted,pending:=pend,fn:=fn0,tmps:=tmps0,params:=ps0.toArray,assign:=as0,body:=bd0,defers:=(E3 d0).b})):=
      (HW.gone (w':=w3.putObj lr (.loop {state:=.exhausted,pending:=pend,fn:=fn0,tmps:=tmps0,params:=ps0.toArray,assign:=as0,body:=bd0,defers:=(E3 d0).b})) h3 hb.2 hl (by simp) rfl rfl rfl (fun k hk=>jT k (by rw[<-hlr3];exact hk))).more hsubD
     have eE:∀n,D n->E3 n=E n:=fun n hn=>(e3 n (.inl hn)).trans (e1 n hn)
     have hcr:CRel S w0 nt E3 (DR D s.st.nx nx') ⟨⟨s.st.tm,H'.del l,nx'⟩,s1.df⟩ {a with defers:=mark++a.defers} (w3.putObj lr (.loop {state:=.exhausted,pending:=pend,fn:=fn0,tmps:=tmps0,params:=ps0.toArray,assign:=as0,body:=bd0,defers:=(E3 d0).b})):=
      ⟨⟨h4,iA eE h.rel.tin h.rel.tm,TIn.mono DR.le h.rel.tin⟩,by rw[hr1.df];exact(qD (D:=DR D s.st.nx s1.st.nx) e3 hr1.din).symm,fun d hd=>hsubD d (.inl (hr1.din d hd))⟩
     have hdom:Dom s.st.H (H'.del l) s.st.nx nx':=(Dom.trans m1 hb.1 hd1 dcall).del hb.2;refine⟨pend,_,hend,?_⟩;split at he
     ·exact absurd rfl hnb
     ·split at he
      ·cases he
       exact hQ _ _ ⟨hdom,E3,eE,hcr⟩
      ·cases he
       exact wpIn_ret (hQ _ _ ⟨hdom,E3,eE,hcr⟩)
      ·cases he
       exact wpIn_exit (hQ _ _ ⟨hdom,E3,eE,hcr⟩)
      ·cases he
    ·cases he
  ·cases he
 ·cases he
end
end
section
open Go Go.RowKit
variable [Sym]
section
variable {cx:Cx} {cf:bZ} {G:World->Prop} {S:Nat->Prop} {w0 w w':World} {lf nt:Nat} {rnd ro:Option Nat} {E E':Env} {D:Nat->Prop} {H:Heap}
theorem aex (hc:CxOK cx)(hG:∀w,Fr S w0 w->G w)(hcf:bU cx G cf):∀c:Code,ahl cx cf S w0 lf nt rnd (run cx cf lf nt rnd c) c:=by
 intro c
 induction c with
 |skip=>intro s x s' h E D a w ro Q hr hf hro hQ;cases h;exact wpIn_skip (hQ a w (Post.refl hr))
 |label l=>intro s x s' h E D a w ro Q hr hf hro hQ;cases h;exact wpIn_label (hQ a w (Post.refl hr))
 |exit id=>intro s x s' h E D a w ro Q hr hf hro hQ;cases h;exact wpIn_exit (hQ a w (Post.refl hr))
 |ret=>intro s x s' h E D a w ro Q hr hf hro hQ;cases h;exact wpIn_ret (hQ a w (Post.refl hr))
 |goto l=>intro s x s' h;cases h
 |refuse m=>intro s x s' h;cases h
 |scope c ih=>intro s x s' h;cases h
 |seq p q ihp ihq=>
  intro s x s' h E D a w ro Q hr hf hro hQ;unfold run at h;split at h
  ·rename_i s1 h1
   have m1:=kD _ _ _ _ h1;have m2:=kD _ _ _ _ h;refine wpIn_seq (ihp s .normal s1 h1 E D a w ro _ hr (hf.mono ano m2) hro (fun a1 w1 hp=>?_));obtain⟨d1,E1,e1,r1⟩:=hp;exact ihq s1 x s' h E1 _ a1 w1 ro Q r1 (hf.next m1) (hro.next e1 DR.le) (fun a' w' hp=>hQ a' w' (Post.trans (a1:=a1) (w1:=w1) m1 m2 d1 e1 hp))
  ·rename_i hne
   refine wpIn_seq (ihp s x s' h E D a w ro _ hr hf hro (fun a1 w1 hp=>?_));cases x with
   |normal=>exact absurd h (hne s')
   |exit id=>exact hQ a1 w1 hp
   |ret=>exact hQ a1 w1 hp
 |cond c p q ihp ihq=>
  intro s x s' h E D a w ro Q hr hf hro hQ;unfold run at h;have hcv:=fun hne=>oM hr.rel.tm c hne
  split at h
  ·rename_i e
   rw[e]at hcv;exact wpIn_cond (t:=true) (hcv (by simp[undef])) (ihp s x s' h E D a w ro Q hr hf hro hQ)
  ·rename_i e
   rw[e]at hcv;exact wpIn_cond (t:=false) (hcv (by simp[undef])) (ihq s x s' h E D a w ro Q hr hf hro hQ)
  ·cases h
 |block id c ih=>
  intro s x s' h E D a w ro Q hr hf hro hQ;unfold run at h;split at h
  ·rename_i i s1 h1
   cases hb:Nat.beq i id with
   |true=>
    rw[hb]at h;cases h;have:i=id:=amE hb;subst this;refine wpIn_block (ih s (.exit i) _ h1 E D a w ro _ hr hf hro (fun a1 w1 hp=>?_));show (if i=i then Q .normal a1 w1 else Q (.exit i) a1 w1);rw[if_pos rfl];exact hQ a1 w1 hp
   |false=>
    rw[hb]at h;cases h;refine wpIn_block (ih s (.exit i) _ h1 E D a w ro _ hr hf hro (fun a1 w1 hp=>?_));show (if i=id then Q .normal a1 w1 else Q (.exit i) a1 w1);rw[if_neg (fun e=>by subst e;rw[Nat.beq_refl]at hb;cases hb)];exact hQ a1 w1 hp
  ·rename_i hne
   refine wpIn_block (ih s x s' h E D a w ro _ hr hf hro (fun a1 w1 hp=>?_));cases x with
   |normal=>exact hQ a1 w1 hp
   |exit id'=>exact absurd h (hne id' s')
   |ret=>exact hQ a1 w1 hp
 |loop c ih=>
  intro s x s' h E D a w ro Q hr hf hro hQ;intro b k cs h1 h2 h3;obtain⟨e,a',w',hq,harr⟩:=aft (kD c) ih lf s x s' h E D a w ro Q hr hf hro hQ b k cs h1 h2 h3;exact⟨e,a',w',hq,.of_steps (.one (fenced_calm h2 h3 rfl) stepR_loop) harr⟩
 |region id ops draw=>
  intro s x s' h E D a w ro Q hr hf hro hQ;unfold run at h;split at h
  ·rename_i st' h1
   cases h;have fin:Dom s.st.H st'.H s.st.nx st'.nx->∀E' a' w',a'.defers=a.defers->(∀n,D n->E' n=E n)->Rel S w0 nt E' (DR D s.st.nx st'.nx) st' a'.tmps w'->Q .normal a' w':=fun hd E' a' w' ed e1 hr'=>
    hQ a' w' ⟨hd,E',e1,⟨hr',by rw[ed,hr.df,qD e1 hr.din],fun d hm=>.inl (hr.din d hm)⟩⟩
   cases draw with
   |true=>exact wpIn_region_any hc.mixed (uF hc hG hcf ⟨hr.rel.hw.drew,hr.rel.tm,hr.rel.tin⟩ h1 hf fin)
   |false=>
    refine wpIn_region ?_;have:=yE (ops:=ops) hc (hcf S w0 hG) (ro:=ro) ops.toList 0 s.st E D a w (fun j=>by rw[am5,amV]) hr.rel h1 hf fin;rw[List.range_eq_range'];simpa using this
  ·cases h
 |rangeFunc f ps assign body iha ihb=>exact ah2 hc hG hcf
theorem ad9 {fn:Func}{tmps:Array Value}{R:Ending->World->Prop}{lo hi:Nat}{H0:Heap}:∀(df:List Nat) (H H':Heap) (w:World),qU df H=some H'->HW S w0 E D H w->Dom H0 H lo hi->
 (∀w',HW S w0 E D H' w'->Dom H0 H' lo hi->LeavesInM Fence.wide 0 cx.P fn tmps R [] .returning w')->LeavesInM Fence.wide 0 cx.P fn tmps R (df.map (wY E)) .returning w
 | [],H,H',w,h,hw,hd,hk=>by cases h;exact hk w hw hd
 |d::l,H,H',w,h,hw,hd,hk=>by
  unfold qU at h;split at h
  ·rename_i hg
   obtain⟨hb,h⟩:=ag h;have hl:d<lim:=by simpa[anh]using hb
   have hheap:w.heap[(E d).b]? =some (.deferred (some [])):=hw.obj d _ hg;have htake:=run_takeDeferred (P:=cx.P) hheap;refine⟨by simp,.inl ⟨(E d).b,_,rfl,htake,?_⟩⟩;exact ad9 l (H.del d) H' _ h (HW.gone (w':=w.putObj (E d).b (.deferred none)) hw hl hg (by simp) rfl rfl rfl (fun k hk=>jT k hk)) (hd.del hl) hk
  ·cases h
def resF (tmps:Array Value):ResultVar->Sem Value
 | .tmp t=>pure (tmps.getD t undef)
 | .cell a t=>do loadVar t (<-asAddr (tmps.getD a undef))
theorem uD (fn:Func)(tmps:Array Value):results fn tmps=(do let vs<-fn.results.mapM (resF tmps);pure (if h:vs.size=1 then vs[0]else .tuple vs)):=by
 unfold results;congr 1
theorem abD (hc:CxOK cx){st:FSt}{tmps:Array Value}(h:Rel S w0 nt E D st tmps w):∀(l:List ResultVar) (vs:List AV),ah0 cx st l=some vs->
 (l.mapM (resF tmps)).run cx.P w= .ok (vs.map (aj E)) w/\∀v∈vs,v.In D
 | [],vs,hv=>by cases hv;exact⟨rfl,by simp⟩
 | .tmp t::l,vs,hv=>by
  unfold ah0 at hv;split at hv
  ·rename_i v0 us hv0 hu
   cases hv;obtain⟨h1,h2⟩:=abD hc h l us hu;refine⟨?_,fun v hm=>?_⟩
   ·have hr0:(resF tmps (.tmp t)).run cx.P w= .ok (tmps.getD t undef) w:=rfl
    simp only[List.mapM_cons,amF,hr0,amM,amz];rw[h1];simp only[amz,ann,h.tm.2 t _ hv0]
   ·rcases anf.1 hm with e|e
    ·subst e;exact h.tin t _ hv0
    ·exact h2 v e
  ·cases hv
 | .cell a t::l,vs,hv=>by
  unfold ah0 at hv;split at hv
  ·rename_i n o ea
   have ha:=h.tm.2 a _ ea;split at hv
   ·rename_i cs T ex i hn hi
    split at hv
    ·rename_i v hp
     split at hv
     ·rename_i us hu
      cases hv;obtain⟨h1,h2⟩:=abD hc h l us hu;obtain⟨h3,h4⟩:=afu hc h.hw hi hn hp;refine⟨?_,fun v hm=>?_⟩
      ·have hasA:(asAddr (tmps.getD a undef)).run cx.P w= .ok ⟨(E n).b,o,none⟩ w:=by rw[ha];rfl
       have hr0:(resF tmps (.cell a t)).run cx.P w= .ok (aj E v) w:=by
        show (do loadVar t (<-asAddr (tmps.getD a undef)):Sem Value).run cx.P w=_;simp only[amF,hasA,amz,h3]
       simp only[List.mapM_cons,amF,hr0,amM,amz];rw[h1];simp only[amz,ann]
      ·rcases anf.1 hm with e|e
       ·subst e;exact h4
       ·exact h2 v e
     ·cases hv
    ·cases hv
   ·cases hv
  ·cases hv
theorem pX:∀(args:List AV) (k:Nat) (tm:Tr AV) (i:Nat),k+args.length<=lim->(adQ args k tm).get i=if k<=i/\i<k+args.length then args[i-k]? else tm.get i
 | [],k,tm,i,_=>by simp[adQ];intro _ _;omega
 |v::l,k,tm,i,h=>by
  simp only[amT]at h;unfold adQ;rw[pX l (k+1) _ i (by omega),aZ (by omega)];by_cases h1:k+1<=i/\i<k+1+l.length
  ·rw[if_pos h1,if_pos (by simp;omega),show i-k=(i-(k+1))+1 by omega,List.getElem?_cons_succ]
  ·rw[if_neg h1]
   by_cases h2:i=k
   ·subst h2;rw[if_pos rfl,if_pos (by simp),Nat.sub_self];rfl
   ·rw[if_neg h2,if_neg (by simp;omega)]
theorem ad4 {args:List AV}(hin:∀u∈args,u.In D)(hl:args.length<=lim):TIn D (adQ args 0 .leaf):=fun i v hv=>by
 rw[pX args 0 .leaf i (by omega)]at hv;split at hv
 ·exact hin v (amI hv)
 ·cases hv
theorem agQ (hc:CxOK cx)(hG:∀w,Fr S w0 w->G w)(hcf:bU cx G cf){f:FuncId}{args:List AV}{nx hi:Nat}{v:AV}{H':Heap}(he:agR cx cf lf f args H nx=some (v,H',hi))(h:HW S w0 E D H w)(hin:∀u∈args,u.In D)(hf:vN D nx hi):
 nx<=hi/\(∃fi,cx.fn f=some fi)/\∀(ro:Option Nat),CallsIn (fence ro) 0 cx.P f (args.map (aj E)).toArray w fun e w'=>∃u,e= .returned u/\Dom H H' nx hi/\∃E',u=aj E' v/\(∀n,D n->E' n=E n)/\HW S w0 E' (DR D nx hi) H' w'/\v.In (DR D nx hi):=by
 unfold agR at he;split at he
 ·rename_i fi hfi
  have hb:=(ag he).1;replace he:=(ag he).2;simp only[amC,Nat.ble_eq,anh]at hb;obtain⟨F,hF1,hF2,hF3,hF4,hF5⟩:=hc.fn f fi hfi;have key:∃x s H1 vs,run cx cf lf fi.nt none fi.body ⟨⟨adQ args 0 .leaf,H,nx⟩,[]⟩=some (x,s)/\(∀i,x≠ .exit i)/\qU s.df s.st.H=some H1/\ah0 cx ⟨s.st.tm,H1,s.st.nx⟩ fi.res=some vs/\H1=H'/\s.st.nx=hi/\v=(match vs with| [u]=>u|us=>.tup us):=by
   split at he
   ·cases he
   ·rename_i x s hne hrun
    split at he
    ·rename_i H1 hH1
     split at he
     ·rename_i u hr
      cases he;exact⟨x,s,H',[v],hrun,fun i e=>by subst e;exact hne i rfl,hH1,hr,rfl,rfl,rfl⟩
     ·rename_i us hne2 hr
      cases he;refine⟨x,s,H',us,hrun,fun i e=>by subst e;exact hne i rfl,hH1,hr,rfl,rfl,?_⟩;split
      ·rename_i u;exact(hne2 u rfl).elim
      ·rfl
     ·cases he
    ·cases he
   ·cases he
  obtain⟨x,s,H1,vs,hrun,hx,hH1,hres,rfl,rfl,hv⟩:=key;have hmono:=kD _ _ _ _ hrun;refine⟨hmono,⟨fi,hfi⟩,fun ro=>?_⟩;have hcin:CallsIn Fence.wide 0 cx.P f (args.map (aj E)).toArray w fun e w'=>∃u,e= .returned u/\Dom H H1 nx s.st.nx/\∃E',u=aj E' v/\(∀n,D n->E' n=E n)/\HW S w0 E' (DR D nx s.st.nx) H1 w'/\v.In (DR D nx s.st.nx):=by
   refine callsIn_of_wp_marks hF1 hF2 trivial ?_;have htm:TM E fi.nt (adQ args 0 .leaf) ((args.map (aj E)).toArray ++Array.replicate (F.ntmps-(args.map (aj E)).toArray.size) undef):=by
    refine⟨by simp[hF3];omega,fun i u hu=>?_⟩;rw[pX args 0 .leaf i (by omega)]at hu;split at hu
    ·rename_i hlt
     rw[Nat.sub_zero]at hu;rw[Array.getD_eq_getD_getElem?,Array.getElem?_append_left (by simp;omega)];simp[hu]
    ·cases hu
   have hrel:CRel S w0 fi.nt E D ⟨⟨adQ args 0 .leaf,H,nx⟩,[]⟩ {tmps:=(args.map (aj E)).toArray ++Array.replicate (F.ntmps-(args.map (aj E)).toArray.size) undef,defers:=[]} w:=
    ⟨⟨h,htm,ad4 hin (by omega)⟩,rfl,by simp⟩
   refine aex (rnd:=none) hc hG hcf fi.body _ x s hrun E D _ w none _ hrel hf rfl (fun a' w' hp=>?_);obtain⟨hd,E1,e1,r1⟩:=hp;have leave:LeavesInM Fence.wide 0 cx.P F a'.tmps (fun e w'=>∃u,e= .returned u/\Dom H H1 nx s.st.nx/\∃E',u=aj E' v/\(∀n,D n->E' n=E n)/\HW S w0 E' (DR D nx s.st.nx) H1 w'/\v.In (DR D nx s.st.nx)) a'.defers .returning w':=by
    rw[r1.df];refine ad9 (H0:=H) (lo:=nx) (hi:=s.st.nx) s.df _ _ w' hH1 r1.rel.hw hd (fun w2 hw2 hd2=>?_);obtain⟨q1,q2⟩:=abD (st:=⟨s.st.tm,H1,s.st.nx⟩) (nt:=fi.nt) hc ⟨hw2,r1.rel.tm,r1.rel.tin⟩ fi.res vs hres;refine⟨aj E1 v,?_,⟨_,rfl,hd2,E1,rfl,e1,hw2,?_⟩⟩
    ·rw[uD,Array.mapM_eq_mapM_toList,hF4]
     simp only[amF,Sem.run_map];rw[q1];simp only[amz];rw[hv];cases vs with
     |nil=>rfl
     |cons u us=>
      cases us with
      |nil=>rfl
      |cons u2 us=>
       show Result.ok (if h:((u::u2::us).map (aj E1)).toArray.size =1 then _ else Value.tuple _) w2=_;rw[dif_neg (by simp)];simp only[aj,bE]
    ·rw[hv]
     split
     ·exact q2 _ (by simp)
     ·exact eO.2 q2
   cases x with
   |normal=>exact leave
   |ret=>exact leave
   |exit i=>exact absurd rfl (hx i)
  cases ro with
  |none=>exact hcin
  |some l=>exact hcin.inRound l
 ·cases he
end
end
section
open Go Go.RowKit
variable [Sym]
section
variable {cx:Cx} {cf:bZ} {G:World->Prop} {S:Nat->Prop} {w0 w w':World} {lf nt:Nat} {rnd ro:Option Nat} {E E':Env} {D:Nat->Prop} {H:Heap}
theorem yK:∀(ps:List Tmp) (args:List AV) (tm tm':Tr AV) (tmps:Array Value),abI ps args nt tm=some tm'->TM E nt tm tmps->TIn D tm->(∀u∈args,u.In D)->
 ps.length=args.length/\TM E nt tm' ((ps.zip (args.map (aj E))).foldl (fun tmps (t,a)=>tmps.setIfInBounds t a) tmps)/\TIn D tm'
 | [],[],tm,tm',tmps,h,ht,hi,_=>by cases h;exact⟨rfl,ht,hi⟩
 |p::ps,v::vs,tm,tm',tmps,h,ht,hi,hin=>by
  unfold abI at h;split at h
  ·rename_i tm1 h1
   have t1:TM E nt tm1 (tmps.setIfInBounds p (aj E v)):=abv (a:={tmps:=tmps,defers:=[]}) ht h1;obtain⟨e1,e2,e3⟩:=yK ps vs tm1 tm' _ h t1 (vW hi (hin v amJ) h1) (fun u hu=>hin u (amL _ hu));exact⟨by simp[e1],e2,e3⟩
  ·cases h
 | [],_::_,_,_,_,h,_,_,_=>by cases h
 |_::_,[],_,_,_,h,_,_,_=>by cases h
theorem xH (ro:Option Nat)(l:Nat):(fence ro).inRound l=fence (some l):=by cases ro<;>rfl
theorem uz (h:HW S w0 E D H w){l:Nat}{stt:LoopState}{pend:Option Code}{H':Heap}(hl:l<lim)(he:lu H l stt pend=some H'){lo hi:Nat}{H0:Heap}(hd:Dom H0 H lo hi):
 ∃r:Loop,w.heap[(E l).b]? =some (.loop r)/\HW S w0 E D H' (w.putObj (E l).b (.loop {r with state:=stt,pending:=pend}))/\Dom H0 H' lo hi:=by
 unfold lu at he;split at he
 ·rename_i st0 pd0 tm nt ps as bd d hg
  cases he;obtain⟨tmps,fn,hheap,htm⟩:=h.obj _ _ hg;obtain⟨hDl,hin1,hin2⟩:=h.names _ _ hg;have hlt:=(h.obj _ _ hg).lt;refine⟨_,hheap,h.turn hl hg (o':=.loop stt pend tm nt ps as bd d) ⟨hin1,hin2⟩ (by simp) rfl rfl rfl (fun k hk=>jT k hk) ⟨tmps,fn,World.putObj_heap_same hlt,htm⟩,hd.set hl (hd l _ hg) _⟩
 ·cases he
theorem ahW (hc:CxOK cx)(hG:∀w,Fr S w0 w->G w)(hcf:bU cx G cf){l:Nat}{args:List AV}{nx hi:Nat}{v:AV}{H':Heap}(he:aez cx cf lf l args H nx=some (v,H',hi))(h:HW S w0 E D H w)(hin:∀u∈args,u.In D)(hf:vN D nx hi):
 nx<=hi/\akg cx.P ro (.func (.yield (E l).b) #[] #[]) (args.map (aj E)).toArray w fun u w'=>Dom H H' nx hi/\∃E',u=aj E' v/\(∀n,D n->E' n=E n)/\HW S w0 E' (DR D nx hi) H' w'/\v.In (DR D nx hi):=by
 unfold aez at he;split at he
 ·rename_i st0 pd0 tm nt ps assign body d hg
  have hb:=(ag he).1;replace he:=(ag he).2;have hl:l<lim:=by simpa[anh]using hb
  obtain⟨tmps,fn,hheap,htm⟩:=h.obj _ _ hg;obtain⟨hDl,hin1,hin2⟩:=h.names _ _ hg;split at he
  ·rename_i tm' hput
   obtain⟨hlen,ht',hti'⟩:=yK ps args tm tm' tmps hput htm hin1 hin;split at he
   ·rename_i s1 hrun1
    split at he
    ·rename_i tm1 nt1 ps1 as1 bd1 d1 H2 hg1 hset1
     have m1:nx<=s1.st.nx:=kD _ _ _ _ hrun1;have key:∃x s2 jump b,run cx cf lf nt (some l) body ⟨⟨s1.st.tm,H2,s1.st.nx⟩,s1.df⟩=some (x,s2)/\lu s2.st.H l (if jump.isNone then .ready else .done) jump=some H'/\s2.st.nx=hi/\v= .lit (.bool b)/\b=jump.isNone/\
      (match x with| .normal =>jump=none| .exit id=>jump=some (.exit id)| .ret =>jump=some .ret):=by
      split at he
      ·rename_i s2 hrun2
       split at he
       ·rename_i H3 h3;cases he;exact⟨.normal,s2,none,true,hrun2,h3,rfl,rfl,rfl,rfl⟩
       ·cases he
      ·rename_i id s2 hrun2
       split at he
       ·rename_i H3 h3;cases he;exact⟨.exit id,s2,some (.exit id),false,hrun2,h3,rfl,rfl,rfl,rfl⟩
       ·cases he
      ·rename_i s2 hrun2
       split at he
       ·rename_i H3 h3;cases he;exact⟨.ret,s2,some .ret,false,hrun2,h3,rfl,rfl,rfl,rfl⟩
       ·cases he
      ·cases he
     obtain⟨x,s2,jump,bb,hrun2,hset2,rfl,rfl,hbj,hj⟩:=key;have m2:s1.st.nx<=s2.st.nx:=kD _ (⟨⟨s1.st.tm,H2,s1.st.nx⟩,s1.df⟩:CSt) _ _ hrun2;refine⟨amG m1 m2,?_⟩;have hsz:((args.map (aj E)).toArray).size =ps.toArray.size:=by simp[hlen]
     have hy:=run_yield (P:=cx.P) (args:=(args.map (aj E)).toArray) hheap hsz;refine⟨_,by
      unfold Deferred.ofValue;simp only[amF,amM,amz,invoke,Array.empty_append];exact hy,?_⟩
     refine roundIn_of_wpIn (jy ro _) ?_;rw[xH];have htmps:(ps.toArray.zip (args.map (aj E)).toArray).foldl (fun tmps (t,a)=>tmps.setIfInBounds t a) tmps=(ps.zip (args.map (aj E))).foldl (fun tmps (t,a)=>tmps.setIfInBounds t a) tmps:=by
      rw[<-Array.foldl_toList];simp
     rw[htmps];refine aex (rnd:=some l) (nt:=nt) hc hG hcf assign ⟨⟨tm',H,nx⟩,[]⟩ .normal s1 hrun1 E D _ w (some (E l).b) _ ⟨⟨h,ht',hti'⟩,rfl,by simp⟩ (hf.mono ano m2) ⟨rfl,hDl⟩ (fun a1 w1 hp=>?_);obtain⟨dd1,E1,e1,r1⟩:=hp;have hE1l:(E1 l).b =(E l).b :=by rw[e1 l hDl]
     obtain⟨r,hr1,hw2,dd2⟩:=uz r1.rel.hw hl hset1 dd1;obtain⟨tmps1,fn1,hheap1,_⟩:=r1.rel.hw.obj _ _ hg1;rw[hheap1]at hr1;cases hr1;rw[hE1l]at hheap1 hw2;refine⟨_,run_beginRound hheap1 rfl,?_⟩;refine aex (rnd:=some l) (nt:=nt) hc hG hcf body ⟨⟨s1.st.tm,H2,s1.st.nx⟩,s1.df⟩ x s2 hrun2 E1 _ a1 _ (some (E l).b) _ ⟨⟨hw2,r1.rel.tm,r1.rel.tin⟩,r1.df,r1.din⟩ (hf.next m1) ⟨by rw[hE1l],.inl hDl⟩ (fun a2 w2 hp=>?_);obtain⟨dd3,E2,e2,r2⟩:=hp;have hE2l:(E2 l).b =(E l).b :=by rw[e2 l (.inl hDl)];exact hE1l
     obtain⟨r',hr',hw3,dd4⟩:=uz r2.rel.hw hl hset2 (Dom.trans m1 m2 dd2 dd3);rw[hE2l]at hr' hw3;have hend:=run_endRound (P:=cx.P) jump hr';have fin:∃v w',(Instr.endRound (E l).b jump).run cx.P w2= .ok v w'/\∃u,Ending.returned v= .returned u/\(Dom H H' nx s2.st.nx/\∃E',u=aj E' (.lit (.bool bb))/\(∀n,D n->E' n=E n)/\HW S w0 E' (DR D nx s2.st.nx) H' w'/\(AV.lit (.bool bb)).In (DR D nx s2.st.nx)):=
      ⟨_,_,hend,_,rfl,dd4,E2,by rw[hbj];rfl,fun n hn=>(e2 n (.inl hn)).trans (e1 n hn),hw3.more (DR.trans m1 m2),trivial⟩
     cases x with
     |normal=>cases hj;exact fin
     |exit id=>cases hj;exact fin
     |ret=>cases hj;exact fin
    ·cases he
   ·cases he
  ·cases he
 ·cases he
theorem qF (hc:CxOK cx){orc:bZ}(ho:bU cx G orc):∀k,bU cx G (xW cx orc lf k)
 |0=>ho
 |k+1=>by
  intro S w0 hG ro fv args H nx v H' hi he E D w h hfv hin hf;simp only[xW]at he;split at he
  ·rename_i r hr
   cases he;exact ho S w0 hG ro fv args H nx v H' hi hr E D w h hfv hin hf
  ·split at he
   ·rename_i f cap _
    have hin2:∀u∈args++cap,u.In D:=fun u hu=>by
     rcases ane.1 hu with h1|h1
     ·exact hin u h1
     ·exact eO.1 hfv u h1
    obtain⟨m,⟨fi,hfi⟩,hcall⟩:=agQ hc hG (qF hc ho k) he h hin2 hf;refine⟨m,.enter f ((args.map (aj E)).toArray ++(fT E cap).toArray),dK hc hfi _ _,?_⟩;have hargs:((args.map (aj E)).toArray ++(fT E cap).toArray)=((args++cap).map (aj E)).toArray :=by rw[bE];simp
    rw[hargs];exact hcall ro
   ·rename_i l _
    exact ahW hc hG (qF hc ho k) he h hin hf
   ·cases he
end
end
section
open Go Go.RowKit
variable [Sym]
def mkTI (P:Program)(t:Nat):Option TI:=
 match P.underlying t,P.info? t with
 |some d,some inf=>match inf.zero with
  |some z=>some ⟨d,inf.size,inf.bytes,z⟩
  |none=>none
 |_,_=>none
def mkFI (P:Program)(f:Nat):Option FI:=
 match P.funcs[f]? with
 |some F=>match F.body with
  |some b=>bif F.name== "runtime.NumGoroutine" then none else some ⟨F.ntmps,b,F.results.toList⟩
  |none=>none
 |none=>none
def cxR (P:Program)(rB:BinOp->TypeId->AV->AV->Option AV)(rC:TypeId->TypeId->AV->Option AV):Cx:=⟨P,mkTI P,mkFI P,rB,rC⟩
def aad (P:Program):Cx:=cxR P (fun _ _ _ _=>none) (fun _ _ _=>none)
theorem cxR_ok {P:Program}(hm:P.follows .mixedOrders =true){rB:BinOp->TypeId->AV->AV->Option AV}{rC:TypeId->TypeId->AV->Option AV}
 (hB:∀op t a b v,rB op t a b=some v->(∀D,v.In D)/\∀(E:Env) (x y:Operand) (w:World),(do eqGuard op t x y (aj E a) (aj E b);Go.binOp op t (aj E a) (aj E b):Sem Value).run P w= .ok (aj E v) w)
 (hC:∀s d a v,rC s d a=some v->(∀D,v.In D)/\∀(E:Env) (w:World),(convert s d (aj E a)).run P w= .ok (aj E v) w):CxOK (cxR P rB rC) where
 ti:=fun t i h=>by
  have h':mkTI P t=some i:=h;unfold mkTI at h';split at h'
  ·rename_i d inf h1 h2
   split at h'
   ·rename_i z hz
    cases h';exact⟨h1,inf,h2,rfl,rfl,hz⟩
   ·cases h'
  ·cases h'
 fn:=fun f i h=>by
  have h':mkFI P f=some i:=h;unfold mkFI at h';split at h'
  ·rename_i F h1
   split at h'
   ·rename_i b hb
    cases hn:F.name== "runtime.NumGoroutine" with
    |true=>rw[hn]at h';cases h'
    |false=>rw[hn]at h';cases h';exact⟨F,h1,hb,rfl,rfl,hn⟩
   ·cases h'
  ·cases h'
 mixed:=hm
 rB:=hB
 rC:=hC
theorem oQ {P:Program}(hm:P.follows .mixedOrders =true):CxOK (aad P):=cxR_ok hm (fun _ _ _ _ _ h=>by cases h) (fun _ _ _ _ h=>by cases h)
def ak4:bZ:=fun _ _ _ _=>none
theorem abR {cx:Cx}{G:World->Prop}:bU cx G ak4:=fun _ _ _ _ _ _ _ _ _ _ _ h=>by cases h
theorem abb {cx:Cx}{G:World->Prop}{orc:bZ}(hc:CxOK cx)(ho:bU cx G orc){f:FuncId}{args:List Value}{v:Value}{lf k nx hi:Nat}{H':Heap}
 (hfi:(cx.fn f).isSome =true) (he:xW cx orc lf k (.func f []) (args.map .lit) .leaf nx=some (.lit v,H',hi)) (w:World) (hG:∀w',Below w.heap.size w w'->G w'):Calls cx.P f args.toArray w fun e w'=>e= .returned v/\Below w.heap.size w w':=by
 let E:Env:=fun _=>⟨0,0⟩
 have h0:HW (fun _=>False) w E (fun _=>False) .leaf w:=⟨fun n o h=>(by cases h),fun n m o o' h=>(by cases h),fun n o h=>(by cases h),fun n o h=>(by cases h),Fr.refl _ _⟩;obtain⟨_,nxt,hrun,hpost⟩:=qF (lf:=lf) hc ho k (fun _=>False) w (fun w' hf=>hG w' hf.below) none _ _ _ _ _ _ _ he E (fun _=>False) w h0 (by trivial) (fun u hu=>by obtain⟨x,_,rfl⟩:=amN.1 hu;trivial) (fun _ _ _ h=>h);have hargs:((args.map AV.lit).map (aj E)).toArray =args.toArray:=by rw[jf]
 obtain⟨fi,hfi⟩:=Option.isSome_iff_exists.1 hfi;have hinv:=dK (w:=w) hc hfi #[] args.toArray;rw[hargs,show aj E (.func f [])= .func (.func f) #[] #[]from rfl,hinv]at hrun;cases hrun;have hpost':CallsIn Fence.wide 0 cx.P f (args.toArray++ #[]) w _:=hpost;rw[Array.append_empty]at hpost';refine(callsIn_wide.1 hpost').mono ?_;rintro e w' ⟨u,rfl,_,E',rfl,_,h',_⟩;exact⟨rfl,h'.fr.below⟩
end
section
open Go Go.RowKit
variable [Sym]
def alf:AV->Option Value
 | .lit v=>some v
 | .agg l=>match uV l with
  |some vs=>some (.agg vs.toArray)
  |none=>none
 |_=>none
def acw:List AV->Option (List Value)
 | []=>some []
 |v::l=>match alf v,acw l with
  |some u,some vs=>some (u::vs)
  |_,_=>none
theorem adg {E:Env}{v:AV}{u:Value}(h:alf v=some u):aj E v=u:=by
 unfold alf at h;split at h
 ·cases h;rfl
 ·split at h
  ·rename_i vs hvs
   cases h;show Value.agg (fT E _).toArray =_;rw[bE,jv hvs]
  ·cases h
 ·cases h
theorem tC {E:Env}:∀ {l:List AV} {vs:List Value},acw l=some vs->l.map (aj E)=vs
 | [],vs,h=>by cases h;rfl
 |v::l,vs,h=>by
  unfold acw at h;split at h
  ·rename_i u vs' h1 h2
   cases h;rw[ann,adg h1,tC h2]
  ·cases h
def aaS:Value->AV
 | .agg c=>.agg (c.toList.map .lit)
 |v=>.lit v
def xh:Value->AV
 | .tuple c=>.tup (c.toList.map aaS)
 |v=>aaS v
theorem uW {E:Env}(v:Value):aj E (aaS v)=v:=by
 unfold aaS;split
 ·rename_i c
  show Value.agg (fT E _).toArray =_;rw[bE,jf]
 ·rfl
theorem adh {E:Env}(v:Value):aj E (xh v)=v:=by
 unfold xh;split
 ·rename_i c
  show Value.tuple (fT E _).toArray =_;rw[bE,List.map_map,show (aj E∘aaS)=id from funext fun v=>uW v,List.map_id]
 ·exact uW v
theorem abZ {D:Nat->Prop}(v:Value):(aaS v).In D:=by
 unfold aaS;split
 ·exact eO.2 fun u hu=>by obtain⟨x,_,rfl⟩:=amN.1 hu;trivial
 ·trivial
theorem aiz {D:Nat->Prop}(v:Value):(xh v).In D:=by
 unfold xh;split
 ·exact eO.2 fun u hu=>by obtain⟨x,_,rfl⟩:=amN.1 hu;exact abZ x
 ·exact abZ v
abbrev Tbl:=FuncId->List Value->Option Value
def ad8 (tbl:Tbl):bZ:=fun fv args H nx=>match fv with
 | .func f []=>match acw args with
  |some vs=>match tbl f vs with
   |some v=>some (xh v,H,nx)
   |none=>none
  |none=>none
 |_=>none
def adO (P:Program)(G:World->Prop)(tbl:Tbl):Prop:=∀f vs v,tbl f vs=some v->∀w,G w->
 ((callFunc f vs.toArray).run P w= .ok (.enter f vs.toArray) w/\Calls P f vs.toArray w fun e w'=>e= .returned v/\Below w.heap.size w w')\/(callFunc f vs.toArray).run P w= .ok (.value v) w
theorem alU {P:Program}(hm:P.follows .mixedOrders =true){f:FuncId}(hf:(mkFI P f).isSome =true)(args:Array Value)(w:World):(callFunc f args).run P w= .ok (.enter f args) w:=by
 obtain⟨fi,hfi⟩:=Option.isSome_iff_exists.1 hf;exact jS (cx:=aad P) (oQ hm) hfi args
theorem HW.later {S:Nat->Prop}{w0 w w':World}{E:Env}{D:Nat->Prop}{H:Heap}(h:HW S w0 E D H w)(hb:Below w.heap.size w w'):HW S w0 E D H w':=
 h.step (fun _ x=>x) (fun _ _=>rfl) (h.fr.on hb) fun n o hn=>hb.block _ (h.obj n o hn).lt
theorem ad7 {cx:Cx}{G:World->Prop}{tbl:Tbl}(ht:adO cx.P G tbl):bU cx G (ad8 tbl):=by
 intro S w0 hG ro fv args H nx v H' hi he E D w h hfv hin hfree;unfold ad8 at he;split at he
 ·rename_i f
  split at he
  ·rename_i vs hvs
   split at he
   ·rename_i u hu
    cases he;have hargs:(args.map (aj E)).toArray =vs.toArray:=by rw[tC hvs]
    have hinv:(do let d<-Deferred.ofValue (aj E (.func f [])) (args.map (aj E)).toArray;invoke d.target d.args:Sem Next).run cx.P w=(callFunc f vs.toArray).run cx.P w:=by
     rw[hargs];show (do let d<-Deferred.ofValue (.func (.func f) #[] #[]) vs.toArray;invoke d.target d.args:Sem Next).run cx.P w=_;unfold Deferred.ofValue;simp only[amF,amM,amz,invoke,Array.empty_append,Array.append_empty]
    have post:∀w',Below w.heap.size w w'->Dom H H nx nx/\∃E',u=aj E' (xh u)/\(∀n,D n->E' n=E n)/\HW S w0 E' (DR D nx nx) H w'/\(xh u).In (DR D nx nx):=fun w' hb=>
     ⟨Dom.refl _ _ _,E,(adh u).symm,fun _ _=>rfl,(h.later hb).more DR.le,aiz u⟩
    refine⟨am4 _,?_⟩;rcases ht f vs u hu w (hG w h.fr)with ⟨h1,h2⟩|h1
    ·refine⟨_,hinv.trans h1,?_⟩
     have h3:CallsIn Fence.wide 0 cx.P f vs.toArray w fun e w'=>∃v,e= .returned v/\(Dom H H nx nx/\∃E',v=aj E' (xh u)/\(∀n,D n->E' n=E n)/\HW S w0 E' (DR D nx nx) H w'/\(xh u).In (DR D nx nx)):=by
      refine callsIn_wide.2 (h2.mono ?_);rintro e w' ⟨rfl,hb⟩;exact⟨u,rfl,post w' hb⟩
     cases ro with
     |none=>exact h3
     |some l=>exact h3.inRound l
    ·exact⟨_,hinv.trans h1,post w (am3 _ _)⟩
   ·cases he
  ·cases he
 ·cases he
def akV (a b:Tbl):Tbl:=fun f vs=>match a f vs with
 |some v=>some v
 |none=>b f vs
theorem aig {P:Program}{G:World->Prop}{a b:Tbl}(ha:adO P G a)(hb:adO P G b):adO P G (akV a b):=by
 intro f vs v h;unfold akV at h;split at h
 ·rename_i u hu
  cases h;exact ha f vs v hu
 ·exact hb f vs v h
def akW (a b:bZ):bZ:=fun fv args H nx=>match a fv args H nx with
 |some r=>some r
 |none=>b fv args H nx
theorem aih {cx:Cx}{G:World->Prop}{a b:bZ}(ha:bU cx G a)(hb:bU cx G b):bU cx G (akW a b):=by
 intro S w0 hG ro fv args H nx v H' hi he;unfold akW at he;split at he
 ·rename_i r hr
  cases he;exact ha S w0 hG ro fv args H nx v H' hi hr
 ·exact hb S w0 hG ro fv args H nx v H' hi he
end
section
open Go Go.RowKit
open Go.ChangeMaps (setBlock)
variable [Sym]
structure It where
 n:Nat
 m:Option Nat
 es:List (Value×AV)
 cur:Option (Value×AV)
 left:List (Value×AV)
structure RSt where
 st:FSt
 it:Option It
structure BSt where
 c:CSt
 it:Option It
def splits {α:Type}:List α->List (α×List α)
 | []=>[]
 |e::l=>(e,l)::(splits l).map fun p=>(p.1,e::p.2)
theorem yl {α:Type}:∀(l:List α) (i:Nat) (e:α),l[i]? =some e->(e,l.eraseIdx i)∈splits l
 | [],i,e,h=>by simp at h
 |a::l,0,e,h=>by simp at h;subst h;exact amJ
 |a::l,i+1,e,h=>by
  refine amL _ (amN.2 ⟨(e,l.eraseIdx i),yl l i e (by simpa using h),rfl⟩)
def zH {α β:Type}(f:α->Option (List β)):List α->Option (List β)
 | []=>some []
 |a::l=>match f a with
  |some x=>match zH f l with
   |some y=>some (x++y)
   |none=>none
  |none=>none
theorem jc {α β:Type}{f:α->Option (List β)}:∀ {l:List α} {out:List β},zH f l=some out->∀a∈l,∃x,f a=some x/\∀b∈x,b∈out
 |a::l,out,h,a',ha=>by
  unfold zH at h;split at h
  ·rename_i x hx
   split at h
   ·rename_i y hy
    cases h;rcases anf.1 ha with e|e
    ·subst e;exact⟨x,hx,fun b hb=>List.mem_append_left _ hb⟩
    ·obtain⟨z,h1,h2⟩:=jc hy a' e
     exact⟨z,h1,fun b hb=>List.mem_append_right _ (h2 b hb)⟩
   ·cases h
  ·cases h
section
variable (cx:Cx) (cf:bZ) (lf nt hi:Nat)
def opI (ρ:Operand->AV)(s:RSt)(o:Op):Option (List (AV×Heap×Nat×Option It)):=
 match o with
 | .range t x=>match s.it,cx.ti t with
  |none,some {desc:=.map _ _, ..}=>match ρ x with
   | .lit (.map none)=>some [(.ptr s.st.nx 0,s.st.H,s.st.nx+1,some ⟨s.st.nx,none,[],none,[]⟩)]
   | .map m=>match s.st.H.get m with
    |some (.map es)=>bif Nat.blt m lim then some [(.ptr s.st.nx 0,s.st.H.del m,s.st.nx+1,some ⟨s.st.nx,some m,es,none,es⟩)]else none
    |_=>none
   |_=>none
  |_,_=>none
 | .next x false=>match s.it,ρ x with
  |some i,.ptr n 0=>bif Nat.beq n i.n then(match i.m with
   |none=>some [(.tup [.lit (.bool false)],s.st.H,s.st.nx,none)]
   |some m=>bif Nat.blt m lim then(match i.left with
    | []=>some [(.tup [.lit (.bool false)],s.st.H.set m (.map i.es),s.st.nx,none)]
    |l=>some ((splits l).map fun p=>(.tup [.lit (.bool true),.lit p.1.1,p.1.2],s.st.H,s.st.nx,some {i with cur:=some p.1,left:=p.2})))else none)else none
  |_,_=>none
 | .entry x=>match s.it,ρ x with
  |some i,.ptr n 0=>bif Nat.beq n i.n then(match i.m,i.cur with
   |some _,some p=>some [(.tup [.lit p.1,p.2],s.st.H,s.st.nx,s.it)]
   |_,_=>none)else none
  |_,_=>none
 |_=>none
def ako (ops:Array Oper)(s:RSt)(o:Oper):Option (List RSt):=
 match opI cx (ev s.st.tm) s o.op with
 |some l=>bif ((fF ops o).all fun t=>(s.st.tm.get t).isSome)&&o.guard.isNone then zH (fun p=>match ahn nt s.st.tm o.dst p.1 with
  |some tm'=>bif Nat.ble s.st.nx p.2.2.1&&Nat.ble p.2.2.1 hi then some [⟨⟨tm',p.2.1,p.2.2.1⟩,p.2.2.2⟩]else none
  |none=>none) l else none
 |none=>match uu cx cf nt ops s.st o with
  |some st'=>bif Nat.ble st'.nx hi then some [⟨st',s.it⟩]else none
  |none=>none
def regB (ops:Array Oper):List Oper->RSt->Option (List RSt)
 | [],s=>some [s]
 |o::l,s=>match ako cx cf nt hi ops s o with
  |some outs=>zH (regB ops l) outs
  |none=>none
abbrev BRes:=Option (List (AExit×BSt))
def aiB (f:BSt->BRes):Nat->BSt->BRes
 |0,_=>none
 |k+1,s=>match f s with
  |some outs=>zH (fun p=>match p.1 with
   | .normal =>aiB f k p.2
   |x=>some [(x,p.2)]) outs
  |none=>none
def adR:Code->BSt->BRes
 | .skip,s=>some [(.normal,s)]
 | .label _,s=>some [(.normal,s)]
 | .seq a b,s=>match adR a s with
  |some outs=>zH (fun p=>match p.1 with
   | .normal =>adR b p.2
   |x=>some [(x,p.2)]) outs
  |none=>none
 | .cond c a b,s=>match ev s.c.st.tm c with
  | .lit (.bool true)=>adR a s
  | .lit (.bool false)=>adR b s
  |_=>none
 | .block id c,s=>match adR c s with
  |some outs=>some (outs.map fun p=>match p.1 with
   | .exit i=>bif Nat.beq i id then(.normal,p.2)else(.exit i,p.2)
   |x=>(x,p.2))
  |none=>none
 | .loop c,s=>aiB (adR c) lf s
 | .exit id,s=>some [(.exit id,s)]
 | .ret,s=>some [(.ret,s)]
 | .region _ ops draw,s=>bif draw then(match nS cx cf nt ops s.c.st with
   |some st'=>bif Nat.ble st'.nx hi then some [(.normal,⟨⟨st',s.c.df⟩,s.it⟩)]else none
   |none=>none)
  else(match regB cx cf nt hi ops ops.toList ⟨s.c.st,s.it⟩with
   |some l=>some (l.map fun r=>(.normal,⟨⟨r.st,s.c.df⟩,r.it⟩))
   |none=>none)
 |_,_=>none
end
structure ItR (S:Nat->Prop) (w0:World) (E:Env) (D:Nat->Prop) (H:Heap) (w:World) (i:It):Prop where
 dn:D i.n
 new:w0.heap.size<=(E i.n).b
 lt:(E i.n).b <w.heap.size
 off:∀x o,H.get x=some o->(E x).b ≠(E i.n).b
 body:match i.m with
  |none=>∃a s b,w.heap[(E i.n).b]? =some (.mapIter none a s b)
  |some m=>D m/\(E m).b ≠(E i.n).b /\(S (E m).b \/w0.heap.size<=(E m).b)/\(∀x o,H.get x=some o->(E x).b ≠(E m).b)/\(∀e∈i.es,e.2.In D)/\(∀e∈i.left,e∈i.es)/\(∀e,i.cur=some e->e∈i.es)/\
   ∃ents clk since seen c0,w.heap[(E m).b]? =some (.map ents clk)/\amo E i.es ents clk/\w.heap[(E i.n).b]? =some (.mapIter (some (E m).b) since seen c0)/\(∀x∈ents.toList,x.born<since)/\since<=c0/\since<=clk/\
    ((leftOf ents seen).toList.map fun e=>(e.key,e.val)).Perm (i.left.map fun e=>(e.1,aj E e.2))/\
    ∀c,i.cur=some c->∃(e:MapEntry) (seen':Array Nat),seen=seen'.push e.born/\c0=clk/\e∈ents.toList/\e.key=c.1/\e.val=aj E c.2
def ItO (S:Nat->Prop)(w0:World)(E:Env)(D:Nat->Prop)(H:Heap)(w:World):Option It->Prop
 |none=>True
 |some i=>ItR S w0 E D H w i
section
variable {cx:Cx} {cf:bZ} {G:World->Prop} {S:Nat->Prop} {w0 w w':World} {lf nt hi:Nat} {E E':Env} {D D':Nat->Prop} {H H':Heap}
theorem HW.weak (h:HW S w0 E D H w)(hs:∀n o,H'.get n=some o->H.get n=some o):HW S w0 E D H' w:=
 ⟨fun n o hn=>h.obj n o (hs n o hn),fun n m o o' hn hm hne=>h.inj n m o o' (hs n o hn) (hs m o' hm) hne,fun n o hn=>h.own n o (hs n o hn),fun n o hn=>h.names n o (hs n o hn),h.fr⟩
theorem HW.self (h:HW S w0 E D H w):HW (Sof E H) w E D H w:=h.toF.sub (fun _ _ hn=>hn)
theorem HW.rebase (h:HW S w0 E D H w)(h':HW (Sof E H) w E' D' H' w'):HW S w0 E' D' H' w':=
 ⟨h'.obj,h'.inj,fun n o hn=>by
  rcases h'.own n o hn with ⟨x,o',hx,e⟩|h1
  ·rw[<-e];exact h.own x o' hx
  ·exact .inr (amG h.fr.size h1),h'.names,h.toF.fr_sub (fun _ _ hn=>hn) h'.fr⟩
theorem ItR.stay {i:It}(h:ItR S w0 E D H w i)(hle:w.heap.size<=w'.heap.size)(hd:∀n,D n->D' n)(he:∀n,D n->E' n=E n)(hn:w'.heap[(E i.n).b]? =w.heap[(E i.n).b]?)(hm:∀m,i.m=some m->w'.heap[(E m).b]? =w.heap[(E m).b]?)
 (ho:∀x o,H'.get x=some o->(∃y o',H.get y=some o'/\(E' x).b =(E y).b)\/w.heap.size<=(E' x).b):ItR S w0 E' D' H' w' i:=by
 have hlt:=h.lt;obtain⟨h1,h2,h3,h4,h5⟩:=h;refine⟨hd _ h1,by rw[he _ h1];exact h2,by rw[he _ h1];exact amS h3 hle,fun x o hx=>?_,?_⟩
 ·rw[he _ h1]
  rcases ho x o hx with ⟨y,o',hy,e⟩|h6
  ·rw[e];exact h4 y o' hy
  ·omega
 ·split at h5
  ·obtain⟨a,s,b,h5⟩:=h5
   exact⟨a,s,b,by rw[he _ h1,hn];exact h5⟩
  ·rename_i m hmm
   obtain⟨d1,d2,d3,d4,d5,d6,d7,ents,clk,since,seen,c0,e1,e2,e3,e4,e5,e6,e7,e8⟩:=h5;have hmlt:(E m).b <w.heap.size:=(amA.1 e1).1;have hcv:∀e∈i.es,aj E' e.2=aj E e.2:=fun e hm=>bL he _ (d5 e hm)
   refine⟨hd _ d1,by rw[he _ d1,he _ h1];exact d2,by rw[he _ d1];exact d3,fun x o hx=>?_,fun e hm=>Ev.In.mono hd _ (d5 e hm),d6,d7,ents,clk,since,seen,c0,by rw[he _ d1,hm m hmm];exact e1,?_,by rw[he _ h1,he _ d1,hn];exact e3,e4,e5,e6,?_,fun c hc=>?_⟩
   ·rw[he _ d1]
    rcases ho x o hx with ⟨y,o',hy,e⟩|h6
    ·rw[e];exact d4 y o' hy
    ·omega
   ·obtain⟨q1,q2,q3,q4⟩:=e2
    exact⟨by rw[show (i.es.map fun e=>(e.1,aj E' e.2))=(i.es.map fun e=>(e.1,aj E e.2))from List.map_congr_left fun e hm=>by rw[hcv e hm]];exact q1,q2,q3,q4⟩
   ·rw[show (i.left.map fun e=>(e.1,aj E' e.2))=(i.left.map fun e=>(e.1,aj E e.2))from List.map_congr_left fun e hm=>by rw[hcv e (d6 e hm)]];exact e7
   ·obtain⟨e,seen',r1,r2,r3,r4,r5⟩:=e8 c hc
    exact⟨e,seen',r1,r2,r3,r4,by rw[hcv c (d7 c hc)];exact r5⟩
theorem ItO.frame {it:Option It}(h:HW S w0 E D H w)(hi':ItO S w0 E D H w it)(h':HW (Sof E H) w E' D' H' w')(hd:∀n,D n->D' n)(he:∀n,D n->E' n=E n):ItO S w0 E' D' H' w' it:=by
 cases it with
 |none=>trivial
 |some i=>
  have hi2:ItR S w0 E D H w i:=hi';refine hi2.stay h'.fr.size hd he (h'.fr.block _ hi2.lt ?_) (fun m hm=>?_) (fun x o hx=>?_)
  ·rintro⟨n,o,hn,e⟩;exact hi2.off n o hn e
  ·have hb:=hi2.body
   rw[hm]at hb;obtain⟨d1,d2,d3,d4,d5,d6,d7,ents,clk,since,seen,c0,e1,_⟩:=hb;refine h'.fr.block _ (amA.1 e1).1 ?_;rintro⟨n,o,hn,e⟩;exact d4 n o hn e
  ·rcases h'.own x o hx with ⟨n,o',hn,e⟩|h1
   ·exact .inl ⟨n,o',hn,e.symm⟩
   ·exact .inr h1
theorem aj1 (hG:∀w,Fr S w0 w->G w)(h:HW S w0 E D H w):∀w',Fr (Sof E H) w w'->G w':=fun w' hf=>hG w' (h.toF.fr_sub (fun _ _ hn=>hn) hf)
end
end
section
open Go Go.RowKit
open Go.ChangeMaps (setBlock)
variable [Sym]
theorem yR {α:Type}{f:MapEntry->α}{g:MapEntry}:∀ {L:List MapEntry},(L.map (·.born)).Nodup ->g∈L->(L.map f).Perm (f g::((L.filter fun x=> !(x.born==g.born)).map f))
 |x::L,hn,hg=>by
  have hn':x.born∉L.map (·.born)/\(L.map (·.born)).Nodup :=List.nodup_cons.1 hn;rcases anf.1 hg with e|hg'
  ·subst e
   have:L.filter (fun x=> !(x.born==g.born))=L:=List.filter_eq_self.2 fun y hy=>by
    have:y.born≠g.born:=fun e=>hn'.1 (amN.2 ⟨y,hy,e⟩)
    simp[this]
   rw[List.filter_cons,show (!(g.born==g.born))=false by simp,this];exact List.Perm.refl _
  ·have hne:x.born≠g.born:=fun e=>hn'.1 (amN.2 ⟨g,hg',e.symm⟩)
   rw[List.filter_cons,show (!(x.born==g.born))=true by simp[hne]];simp only[if_true,ann];exact((yR hn'.2 hg').cons _).trans (List.Perm.swap _ _ _)
theorem uJ {α:Type}:∀(l:List α) (j:Nat) (p:α),l[j]? =some p->l.Perm (p::l.eraseIdx j)
 | [],j,p,h=>by simp at h
 |a::l,0,p,h=>by simp at h;subst h;exact List.Perm.refl _
 |a::l,j+1,p,h=>((uJ l j p (by simpa using h)).cons a).trans (List.Perm.swap _ _ _)
theorem afz {ents:Array MapEntry}{seen:Array Nat}{g:MapEntry}:(leftOf ents (seen.push g.born)).toList =(leftOf ents seen).toList.filter fun x=> !(x.born==g.born):=by
 unfold leftOf;rw[Array.toList_filter,Array.toList_filter,List.filter_filter];refine List.filter_congr fun x _=>?_
 rw[Bool.eq_iff_iff];simp;constructor
 ·intro h;exact⟨h.2,h.1⟩
 ·intro h;exact⟨h.2,h.1⟩
section
variable {cx:Cx} {cf:bZ} {G:World->Prop} {S:Nat->Prop} {w0 w w':World} {lf nt hi:Nat} {E E':Env} {D D':Nat->Prop} {H H':Heap} {ρ:Operand->AV} {r:Operand->Value}
theorem HW.setAt (h:HW S w0 E D H w){b:Nat}{o:Obj}(hb:w0.heap.size<=b)(hoff:∀n ob,H.get n=some ob->(E n).b ≠b):HW S w0 E D H (setBlock w b o):=
 h.step (fun _ x=>x) (fun _ _=>rfl) ⟨h.fr.os,h.fr.tape,h.fr.output,by show w0.heap.size<=(w.heap.setIfInBounds b o).size;rw[Array.size_setIfInBounds];exact h.fr.size,fun k hk hs=>by
  show (w.heap.setIfInBounds b o)[k]? =_;rw[Array.getElem?_setIfInBounds_ne (by omega)];exact h.fr.block k hk hs⟩ (fun n ob hn=>by
  show (w.heap.setIfInBounds b o)[(E n).b]? =_;rw[Array.getElem?_setIfInBounds_ne (fun e=>hoff n ob hn e.symm)])
theorem opI_ok (hc:CxOK cx){s:RSt}{o:Oper}{l:List (AV×Heap×Nat×Option It)}(h:HW S w0 E D s.st.H w)(hit:ItO S w0 E D s.st.H w s.it)(hr:∀x,r x=aj E (ρ x))(hin:∀x,(ρ x).In D)(hfree:vN D s.st.nx hi)(he:opI cx ρ s o.op=some l)(hle:∀p∈l,s.st.nx<=p.2.2.1/\p.2.2.1<=hi):
 ∃p∈l,∃E' D' w',(execOp r o).run cx.P w= .ok (.value (aj E' p.1)) w'/\(∀n,D n->D' n)/\(∀n,D n->E' n=E n)/\vN D' p.2.2.1 hi/\HW S w0 E' D' p.2.1 w'/\ItO S w0 E' D' p.2.1 w' p.2.2.2/\p.1.In D':=by
 obtain⟨dst,op,ty,pos,after,guard⟩:=o;obtain⟨st,it⟩:=s;dsimp only at*
 unfold opI at he;split at he
 ·
  rename_i t x;split at he
  ·rename_i kt et sz by' z hit0 ht
   have hsem:∀(v:Value) (w2:World),(Instr.range t (r x)).run cx.P w= .ok v w2->(execOp r ⟨dst,.range t x,ty,pos,after,guard⟩).run cx.P w= .ok (.value v) w2:=fun v w2 hv=>by
    show (do pure (.value (<-Instr.range t (r x))):Sem Next).run cx.P w=_;rw[amF,hv];rfl
   have hund:cx.P.underlying t=some (.map kt et):=(hc.ti t _ ht).1;have hnew:∀(l':AV×Heap×Nat×Option It),l'.2.2.1=st.nx+1->l'∈l->st.nx<hi:=fun l' e hm=>by have:=(hle l' hm).2;omega
   split at he
   ·rename_i hx
    cases he;have hlt:=hnew _ rfl amJ;have hnD:¬D st.nx:=hfree _ ano hlt;have e1:∀m,D m->setE E st.nx ⟨w.heap.size,0⟩ m=E m:=fun m hm=>aU _ (by intro e;subst e;exact hnD hm)
    have hb:Below w.heap.size w (w.alloc (.mapIter none 0 #[] 0)):=anp;have hw:HW S w0 (setE E st.nx ⟨w.heap.size,0⟩) (D1 D st.nx) st.H (w.alloc (.mapIter none 0 #[] 0)):=h.step (fun m hm=>.inl hm) e1 (h.fr.on hb) (fun m o' hm=>hb.block _ (h.obj m o' hm).lt);refine⟨_,amJ,setE E st.nx ⟨w.heap.size,0⟩,D1 D st.nx,w.alloc (.mapIter none 0 #[] 0),hsem _ _ ?_,fun m hm=>.inl hm,e1,fun n h1 h2 h3=>?_,hw,?_,.inr rfl⟩
    ·rw[hr x,hx]
     simp only[aj,ay];exact run_range_nilMap w t kt et hund
    ·rcases h3 with h3|h3
     ·exact hfree n (by dsimp only at h1;omega) h2 h3
     ·dsimp only at h1;omega
    ·refine⟨.inr rfl,?_,?_,fun y o' hy=>?_,⟨0, #[],0,?_⟩⟩
     ·dsimp only;rw[ay];exact h.fr.size
     ·dsimp only;rw[ay];simp
     ·dsimp only
      rw[ay,e1 y (h.names y o' hy).1];have:=(h.obj y o' hy).lt;show (E y).b ≠w.heap.size;omega
     ·dsimp only;rw[ay];exact heap_alloc_new w _
   ·rename_i m hx
    split at he
    ·rename_i es hes
     obtain⟨hb0,he⟩:=ag he;have hml:m<lim:=by simpa[anh]using hb0
     cases he;have hlt:=hnew _ rfl amJ;have hnD:¬D st.nx:=hfree _ ano hlt;obtain⟨ents,clk,hob,hmap⟩:=h.obj m _ hes;have hmlt:=(h.obj m _ hes).lt;have hmD:=(h.names m _ hes).1;have e1:∀n,D n->setE E st.nx ⟨w.heap.size,0⟩ n=E n:=fun n hm=>aU _ (by intro e;subst e;exact hnD hm)
     have hb:Below w.heap.size w (w.alloc (.mapIter (some (E m).b) clk #[] clk)):=anp;have hwd:HW S w0 E D (st.H.del m) w:=h.weak fun n o hn=>by
      rw[iL hml]at hn;split at hn
      ·cases hn
      ·exact hn
     have hw:HW S w0 (setE E st.nx ⟨w.heap.size,0⟩) (D1 D st.nx) (st.H.del m) (w.alloc (.mapIter (some (E m).b) clk #[] clk)):=hwd.step (fun m hm=>.inl hm) e1 (h.fr.on hb) (fun n o' hn=>hb.block _ (hwd.obj n o' hn).lt);refine⟨_,amJ,setE E st.nx ⟨w.heap.size,0⟩,D1 D st.nx,w.alloc (.mapIter (some (E m).b) clk #[] clk),hsem _ _ ?_,fun m hm=>.inl hm,e1,fun n h1 h2 h3=>?_,hw,?_,.inr rfl⟩
     ·rw[hr x,hx]
      simp only[aj,ay];exact run_range_map w t kt et _ ents clk hund hob
     ·rcases h3 with h3|h3
      ·exact hfree n (by dsimp only at h1;omega) h2 h3
      ·dsimp only at h1;omega
     ·have eN:(setE E st.nx ⟨w.heap.size,0⟩ st.nx).b =w.heap.size:=by rw[ay]
      refine⟨.inr rfl,?_,?_,fun y o' hy=>?_,?_⟩
      ·dsimp only;rw[eN];exact h.fr.size
      ·dsimp only;rw[eN];simp
      ·dsimp only at hy⊢
       rw[eN,e1 y (hwd.names y o' hy).1];have:=(hwd.obj y o' hy).lt;omega
      ·dsimp only
       rw[e1 m hmD,eN];have hev:∀e∈es,aj (setE E st.nx ⟨w.heap.size,0⟩) e.2=aj E e.2:=fun e hm=>bL e1 _ ((h.names m _ hes).2 e hm)
       refine⟨.inl hmD,by omega,h.own m _ hes,fun y o' hy=>?_,fun e hm=>Ev.In.mono (fun n hn=>.inl hn) _ ((h.names m _ hes).2 e hm),fun _ hm=>hm,(fun _ hc'=>by cases hc'),ents,clk,clk, #[],clk,?_,?_,heap_alloc_new w _,hmap.2.1,am4 _,am4 _,?_,(fun c hc'=>by cases hc')⟩
       ·rw[e1 y (hwd.names y o' hy).1]
        rw[iL hml]at hy;split at hy
        ·cases hy
        ·rename_i hne;exact h.inj y m o' _ hy hes hne
       ·rw[Below.heap_alloc _ _ _ hmlt];exact hob
       ·exact⟨by rw[show (es.map fun e=>(e.1,aj (setE E st.nx ⟨w.heap.size,0⟩) e.2))=(es.map fun e=>(e.1,aj E e.2))from List.map_congr_left fun e hm=>by rw[hev e hm]];exact hmap.1,hmap.2⟩
       ·have:(leftOf ents #[]).toList =ents.toList:=by unfold leftOf;simp
        rw[this,show (es.map fun e=>(e.1,aj (setE E st.nx ⟨w.heap.size,0⟩) e.2))=(es.map fun e=>(e.1,aj E e.2))from List.map_congr_left fun e hm=>by rw[hev e hm]];exact hmap.1
    ·cases he
   ·cases he
  ·cases he
 ·
  rename_i x;split at he
  ·rename_i i n hit0 hx
   subst hit0;have hb0:=(ag he).1;replace he:=(ag he).2;have hn:n=i.n:=amE hb0;subst hn;have hI:ItR S w0 E D st.H w i:=hit;have hsem:∀(v:Value) (w2:World),(Instr.next (.pointer (some ⟨(E i.n).b,0,none⟩)) false ty).run cx.P w= .ok v w2->(execOp r ⟨dst,.next x false,ty,pos,after,guard⟩).run cx.P w= .ok (.value v) w2:=fun v w2 hv=>by
    show (do pure (.value (<-Instr.next (r x) false ty)):Sem Next).run cx.P w=_;rw[hr x,hx,amF,show aj E (.ptr i.n 0)= .pointer (some ⟨(E i.n).b,0,none⟩)from rfl,hv];rfl
   have hbody:=hI.body;split at he
   ·rename_i hm
    rw[hm]at hbody;obtain⟨a,sn,b,hob⟩:=hbody;cases he;refine⟨_,amJ,E,D,w,hsem _ _ ?_,fun _ x=>x,fun _ _=>rfl,hfree,h,trivial,⟨trivial,trivial⟩⟩;simp only[Instr.next,getObj,amF,Sem.run,hob,Result.andThen];rfl
   ·rename_i m hm
    have hb1:=(ag he).1;replace he:=(ag he).2;have hml:m<lim:=by simpa[anh]using hb1
    rw[hm]at hbody;obtain⟨d1,d2,d3,d4,d5,d6,d7,ents,clk,since,seen,c0,e1,e2,e3,e4,e5,e6,e7,e8⟩:=hbody;have hrun:=run_next_at (P:=cx.P) w ty (E i.n).b (E m).b since c0 seen ents clk e3 e1 e4 e5;have hlen:=e7.length_eq;simp only[am6]at hlen;split at he
    ·rename_i hleft
     cases he;rcases hrun with ⟨h0,hrun⟩|⟨e,hem,_⟩
     ·refine⟨_,amJ,E,D,w,hsem _ _ hrun,fun _ x=>x,fun _ _=>rfl,hfree,?_,trivial,⟨trivial,trivial⟩⟩
      have key:∀k ob,(st.H.set m (.map i.es)).get k=some ob->(k=m/\ob= .map i.es)\/(k≠m/\st.H.get k=some ob):=fun k ob hk=>by
       rw[aZ hml]at hk;split at hk
       ·rename_i e;cases hk;exact .inl ⟨e,rfl⟩
       ·rename_i e;exact .inr ⟨e,hk⟩
      refine⟨fun k ob hk=>?_,fun k k' o1 o2 hk hk' hne=>?_,fun k ob hk=>?_,fun k ob hk=>?_,h.fr⟩
      ·rcases key k ob hk with ⟨rfl,rfl⟩|⟨_,hk'⟩
       ·exact⟨ents,clk,e1,e2⟩
       ·exact h.obj k ob hk'
      ·rcases key k o1 hk with ⟨rfl,rfl⟩|⟨q1,q2⟩<;>rcases key k' o2 hk' with ⟨rfl,rfl⟩|⟨q3,q4⟩
       ·exact absurd rfl hne
       ·exact fun e=>d4 k' o2 q4 e.symm
       ·exact d4 k o1 q2
       ·exact h.inj k k' o1 o2 q2 q4 hne
      ·rcases key k ob hk with ⟨rfl,rfl⟩|⟨_,hk'⟩
       ·exact d3
       ·exact h.own k ob hk'
      ·rcases key k ob hk with ⟨rfl,rfl⟩|⟨_,hk'⟩
       ·exact⟨d1,d5⟩
       ·exact h.names k ob hk'
     ·rw[hleft]at hlen
      have:(leftOf ents seen).toList =[]:=amX hlen;rw[this]at hem;cases hem
    ·rename_i hleft
     cases he;rcases hrun with ⟨h0,_⟩|⟨e,hem,w1,hal,hrun⟩
     ·exfalso
      have:(leftOf ents seen).toList.length =0:=by simpa using h0
      rw[this]at hlen;exact hleft (amX hlen.symm)
     ·
      have hmem:(e.key,e.val)∈i.left.map fun e=>(e.1,aj E e.2):=e7.subset (amN.2 ⟨e,hem,rfl⟩)
      obtain⟨p,hp,hpe⟩:=amN.1 hmem;obtain⟨j,hj⟩:=List.mem_iff_getElem?.1 hp;injection hpe with k1 k2
      have hents:e∈ents.toList:=by unfold leftOf at hem;simp at hem;simpa using hem.1
      have hw1:w1.heap=w.heap:=by rcases hal with rfl|rfl<;>rfl
      have hHW1:HW S w0 E D st.H w1:=by
       rcases hal with rfl|rfl
       ·exact h
       ·exact h.drew
      refine⟨_,amN.2 ⟨(p,i.left.eraseIdx j),yl _ _ _ hj,rfl⟩,E,D,setBlock w1 (E i.n).b (.mapIter (some (E m).b) since (seen.push e.born) clk),hsem _ _ ?_,fun _ x=>x,fun _ _=>rfl,hfree,hHW1.setAt hI.new (fun n ob hn=>hI.off n ob hn),?_,⟨trivial,trivial,d5 p (d6 p hp),trivial⟩⟩
      ·rw[hrun]
       dsimp only;simp only[aj,fT];rw[<-k1, <-k2]
      ·have hset:(setBlock w1 (E i.n).b (.mapIter (some (E m).b) since (seen.push e.born) clk)).heap =w.heap.setIfInBounds (E i.n).b (.mapIter (some (E m).b) since (seen.push e.born) clk):=by
        show w1.heap.setIfInBounds _ _=_;rw[hw1]
       refine⟨hI.dn,hI.new,?_,hI.off,?_⟩
       ·rw[hset,Array.size_setIfInBounds];exact hI.lt
       ·dsimp only
        rw[hm];dsimp only;refine⟨d1,d2,d3,d4,d5,fun q hq=>d6 q (List.mem_of_mem_eraseIdx hq),fun q hq=>?_,ents,clk,since,seen.push e.born,clk,?_,e2,?_,e4,e6,e6,?_,fun c hc'=>?_⟩
        ·cases hq;exact d6 p hp
        ·rw[hset,Array.getElem?_setIfInBounds_ne (Ne.symm d2)];exact e1
        ·rw[hset,Array.getElem?_setIfInBounds_self_of_lt hI.lt]
        ·rw[afz]
         have hborn:((leftOf ents seen).toList.map (·.born)).Nodup :=by
          unfold leftOf;rw[Array.toList_filter];exact(List.filter_sublist.map _).nodup e2.2.2.1
         have t1:=(yR (f:=fun e:MapEntry=>(e.key,e.val)) hborn hem);have hjl:=(amH.1 hj);have t2:i.left.Perm (p::i.left.eraseIdx j):=by
          exact uJ i.left j p hj
         have t3:=(t1.symm.trans e7).trans (t2.map fun e=>(e.1,aj E e.2));rw[ann,k1,k2]at t3;exact t3.cons_inv
        ·cases hc'
         exact⟨e,seen,rfl,rfl,hents,k1.symm,k2.symm⟩
  ·cases he
 ·
  rename_i x;split at he
  ·rename_i i n hit0 hx
   subst hit0;have hb0:=(ag he).1;replace he:=(ag he).2;have hn:n=i.n:=amE hb0;subst hn;have hI:ItR S w0 E D st.H w i:=hit;have hbody:=hI.body;split at he
   ·rename_i m p hm hp
    cases he;rw[hm]at hbody;obtain⟨d1,d2,d3,d4,d5,d6,d7,ents,clk,since,seen,c0,e1,e2,e3,e4,e5,e6,e7,e8⟩:=hbody;obtain⟨e,seen',r1,r2,r3,r4,r5⟩:=e8 p hp;subst r1 r2;refine⟨_,amJ,E,D,w,?_,fun _ x=>x,fun _ _=>rfl,hfree,h,hit,⟨trivial,d5 p (d7 p hp),trivial⟩⟩;show (do pure (.value (<-Instr.entry (r x))):Sem Next).run cx.P w=_;rw[hr x,hx,amF,show aj E (.ptr i.n 0)= .pointer (some ⟨(E i.n).b,0,none⟩)from rfl,run_entry_at w (E i.n).b (E m).b since seen' ents c0 e e3 e1 r3 e2.2.2.1];simp only[amz,amM,aj,fT,r4,r5]
   ·cases he
  ·cases he
 ·cases he
end
end
section
open Go Go.RowKit
variable [Sym]
section
variable {cx:Cx} {cf:bZ} {G:World->Prop} {S:Nat->Prop} {w0 w:World} {lf nt hi:Nat} {E:Env} {D:Nat->Prop} {ops:Array Oper}
structure SR (S:Nat->Prop) (w0:World) (nt hi:Nat) (E:Env) (D:Nat->Prop) (s:RSt) (tmps:Array Value) (w:World):Prop where
 rel:Rel S w0 nt E D s.st tmps w
 it:ItO S w0 E D s.st.H w s.it
 free:vN D s.st.nx hi
abbrev NextR (S:Nat->Prop)(w0:World)(nt hi:Nat)(df:List Deferred)(E:Env)(D:Nat->Prop)(s':RSt)(K:Act->World->Prop):Prop:=
 ∀E' D' a' w',a'.defers=df->(∀n,D n->D' n)->(∀n,D n->E' n=E n)->SR S w0 nt hi E' D' s' a'.tmps w'->K a' w'
theorem ahG (hc:CxOK cx)(hG:∀w,Fr S w0 w->G w)(hcf:bU cx G cf){s:RSt}{outs:List RSt}{o:Oper}{a:Act}(h:SR S w0 nt hi E D s a.tmps w)(he:ako cx cf nt hi ops s o=some outs){i:Nat}(hi':ops[i]? =some o)
 {K:Act->World->Prop} {Q:Exit->Act->World->Prop} (hK:∀s'∈outs,NextR S w0 nt hi a.defers E D s' K):wpOpIn (fence none) 0 cx.P ops Q i K a w:=by
 unfold ako at he;split at he
 ·rename_i l hl
  obtain⟨hb,he⟩:=ag he;simp only[amC]at hb;have hpres:∀t∈fF ops o,(s.st.tm.get t).isSome =true:=amU.1 hb.1;have hgn:o.guard=none:=by
   cases hg:o.guard with
   |none=>rfl
   |some p=>rw[hg]at hb;cases hb.2
  unfold wpOpIn;simp only[hi'];rw[qO (E:=E) (fun t ht=>⟨_,dJ (hpres t ht),h.rel.tm.2 t _ (dJ (hpres t ht))⟩),hgn];simp only[tQ,if_true];have hstep:∀p∈l,∃tm',ahn nt s.st.tm o.dst p.1=some tm'/\s.st.nx<=p.2.2.1/\p.2.2.1<=hi/\(⟨⟨tm',p.2.1,p.2.2.1⟩,p.2.2.2⟩:RSt)∈outs:=fun p hp=>by
   obtain⟨x,hx,hx2⟩:=jc he p hp;split at hx
   ·rename_i tm' htm
    obtain⟨hb2,hx⟩:=ag hx;simp only[amC,Nat.ble_eq]at hb2;cases hx;exact⟨tm',htm,hb2.1,hb2.2,hx2 _ amJ⟩
   ·cases hx
  obtain⟨p,hp,E',D',w',hrun,hd,hE,hfree,hw,hit,hin⟩:=opI_ok (ρ:=ev s.st.tm) (r:=fun x=>aj E (ev s.st.tm x)) (o:=o) hc h.rel.hw h.it (fun _=>rfl) (fun x=>alT h.rel.tin x) h.free hl (fun p hp=>by obtain⟨_,_,h1,h2,_⟩:=hstep p hp;exact⟨h1,h2⟩);obtain⟨tm',htm,h1,h2,hmem⟩:=hstep p hp;have hnd:∀c,o.op≠ .defer c:=fun c e=>by rw[e]at hl;cases hl
  refine⟨fun f _=>jy none f,?_⟩;rw[Oper.semAt_eq _ _ _ hnd,execOp_congr o (fun cs b e=>by rw[e]at hl;cases hl) (fun x hx=>aa1 h.rel.tm x (fun t e=>by subst e;exact hpres t (eU hx))),hrun,Oper.uponIn_value];refine hK _ hmem E' D' _ w' ?_ hd hE ⟨⟨hw,abv (iA (D:=D) hE h.rel.tin h.rel.tm) htm,vW (TIn.mono hd h.rel.tin) hin htm⟩,hit,hfree⟩;cases o.dst<;>rfl
 ·split at he
  ·rename_i st' hst
   obtain⟨hb,he⟩:=ag he;have hle:st'.nx<=hi:=Nat.le_of_ble_eq_true hb;cases he;have hself:Rel (Sof E s.st.H) w nt E D s.st a.tmps w:=⟨h.rel.hw.self,h.rel.tm,h.rel.tin⟩;refine yj hc (hcf _ _ (aj1 hG h.rel.hw)) hself hst (h.free.mono ano hle) hi' (fun _ E' a' w' hdf hE hr'=>?_);exact hK _ amJ E' _ a' w' hdf DR.le hE ⟨⟨h.rel.hw.rebase hr'.hw,hr'.tm,hr'.tin⟩,h.it.frame h.rel.hw hr'.hw DR.le hE,h.free.next (lq hst)⟩
  ·cases he
theorem aeC (hc:CxOK cx)(hG:∀w,Fr S w0 w->G w)(hcf:bU cx G cf){Q:Exit->Act->World->Prop}:∀(l:List Oper) (k:Nat) (s:RSt) (outs:List RSt) (E:Env) (D:Nat->Prop) (a:Act) (w:World),(∀j,l[j]? =ops[k+j]?)->SR S w0 nt hi E D s a.tmps w->regB cx cf nt hi ops l s=some outs->
 (∀s'∈outs,NextR S w0 nt hi a.defers E D s' (Q .normal))->wpOpsIn (fence none) 0 cx.P ops Q (List.range' k l.length) a w
 | [],k,s,outs,E,D,a,w,hl,h,he,hQ=>by
  cases he;exact hQ s amJ E D a w rfl (fun _ x=>x) (fun _ _=>rfl) h
 |o::l,k,s,outs,E,D,a,w,hl,h,he,hQ=>by
  unfold regB at he;split at he
  ·rename_i mid hmid
   rw[amT,List.range'_succ,wpOpsIn_cons];refine ahG hc hG hcf h hmid (by have:=hl 0;simpa using this.symm) (fun s1 hs1 E1 D1 a1 w1 hdf hd hE hr1=>?_);obtain⟨x,hx,hsub⟩:=jc he s1 hs1;refine aeC hc hG hcf l (k+1) s1 x E1 D1 a1 w1 (fun j=>by have:=hl (j+1);rw[List.getElem?_cons_succ]at this;rw[this];congr 1;omega) hr1 hx (fun s' hs' E2 D2 a2 w2 hdf2 hd2 hE2 hr2=>?_);exact hQ s' (hsub s' hs') E2 D2 a2 w2 (hdf2.trans hdf) (fun n hn=>hd2 n (hd n hn)) (fun n hn=>(hE2 n (hd n hn)).trans (hE n hn)) hr2
  ·cases he
abbrev BR (S:Nat->Prop)(w0:World)(nt hi:Nat)(E:Env)(D:Nat->Prop)(s:BSt)(a:Act)(w:World):Prop:=SR S w0 nt hi E D ⟨s.c.st,s.it⟩ a.tmps w/\a.defers=[]/\s.c.df=[]
def CodeB (cx:Cx)(S:Nat->Prop)(w0:World)(nt hi:Nat)(f:BSt->BRes)(c:Code):Prop:=
 ∀(s:BSt) (outs:List (AExit×BSt)),f s=some outs->∀(E:Env) (D:Nat->Prop) (a:Act) (w:World) (Q:Exit->Act->World->Prop),BR S w0 nt hi E D s a w->
  (∀p∈outs,∀E' D' a' w',(∀n,D n->D' n)->(∀n,D n->E' n=E n)->BR S w0 nt hi E' D' p.2 a' w'->Q (toX p.1) a' w')->c.wpIn (fence none) 0 cx.P Q a w
theorem ab3 {c:Code}{f:BSt->BRes}(ih:CodeB cx S w0 nt hi f c):∀(k:Nat) (s:BSt) (outs:List (AExit×BSt)),aiB f k s=some outs->
 ∀(E:Env) (D:Nat->Prop) (a:Act) (w:World) (Q:Exit->Act->World->Prop),BR S w0 nt hi E D s a w->(∀p∈outs,∀E' D' a' w',(∀n,D n->D' n)->(∀n,D n->E' n=E n)->BR S w0 nt hi E' D' p.2 a' w'->Q (toX p.1) a' w')->
 ∀(b:Frame) (kk:List Item) (cs:List Frame),b.roundOf=(fence none).round ->(fence none).fn b.fn->(fence none).room (cs.length+1+0)->
  ∃e a' w',Q e a' w'/\ArrivesIn (Machine.fenced cx.P (fence none)) cx.P (lone (b.atR a (.code c:: .inLoop c::kk)) cs w) b kk cs e a' w'
 |0,_,_,h=>by cases h
 |k+1,s,outs,h=>by
  intro E D a w Q hr hQ b kk cs h1 h2 h3;unfold aiB at h;split at h
  ·rename_i mid hmid
   have hw:=ih s mid hmid E D a w (fun e a' w'=>∃p∈mid,e=toX p.1/\∃E' D',(∀n,D n->D' n)/\(∀n,D n->E' n=E n)/\BR S w0 nt hi E' D' p.2 a' w') hr (fun p hp E' D' a' w' q1 q2 q3=>⟨p,hp,rfl,E',D',q1,q2,q3⟩);obtain⟨e,a1,w1,⟨p,hp,he,E1,D1,q1,q2,q3⟩,harr⟩:=hw b (.inLoop c::kk) cs h1 h2 h3;obtain⟨x,hx,hsub⟩:=jc h p hp;obtain⟨ex,s1⟩:=p;cases ex with
   |normal=>
    subst he;dsimp only at hx;obtain⟨e2,a2,w2,hq2,harr2⟩:=ab3 ih k s1 x hx E1 D1 a1 w1 Q q3 (fun p' hp' E' D' a' w' r1 r2 r3=>hQ p' (hsub p' hp') E' D' a' w' (fun n hn=>r1 n (q1 n hn)) (fun n hn=>(r2 n (q1 n hn)).trans (q2 n hn)) r3) b kk cs h1 h2 h3;exact⟨e2,a2,w2,hq2,.of_steps (StepsIn.trans harr (.one (fenced_calm h2 h3 rfl) stepR_inLoop)) harr2⟩
   |exit id=>
    dsimp only at hx;cases hx;subst he;exact⟨_,a1,w1,hQ _ (hsub _ amJ) E1 D1 a1 w1 q1 q2 q3,.pass (x:=.inLoop c) rfl (fun _ _=>.inl (by simp[toX])) harr⟩
   |ret=>
    dsimp only at hx;cases hx;subst he;exact⟨_,a1,w1,hQ _ (hsub _ amJ) E1 D1 a1 w1 q1 q2 q3,.pass (x:=.inLoop c) rfl (fun _ _=>.inl (by simp[toX])) harr⟩
  ·cases h
theorem akx (hc:CxOK cx)(hG:∀w,Fr S w0 w->G w)(hcf:bU cx G cf):∀c:Code,CodeB cx S w0 nt hi (adR cx cf lf nt hi c) c:=by
 intro c;have same:∀ {s:BSt} {x:AExit} {outs:List (AExit×BSt)},some [(x,s)]=some outs->(x,s)∈outs:=fun h=>by cases h;exact amJ
 induction c with
 |skip=>intro s outs h E D a w Q hr hQ;exact wpIn_skip (hQ _ (same h) E D a w (fun _ x=>x) (fun _ _=>rfl) hr)
 |label l=>intro s outs h E D a w Q hr hQ;exact wpIn_label (hQ _ (same h) E D a w (fun _ x=>x) (fun _ _=>rfl) hr)
 |exit id=>intro s outs h E D a w Q hr hQ;exact wpIn_exit (hQ _ (same h) E D a w (fun _ x=>x) (fun _ _=>rfl) hr)
 |ret=>intro s outs h E D a w Q hr hQ;exact wpIn_ret (hQ _ (same h) E D a w (fun _ x=>x) (fun _ _=>rfl) hr)
 |goto l=>intro s outs h;cases h
 |refuse m=>intro s outs h;cases h
 |scope c ih=>intro s outs h;cases h
 |rangeFunc f ps assign body iha ihb=>intro s outs h;cases h
 |seq p q ihp ihq=>
  intro s outs h E D a w Q hr hQ;unfold adR at h;split at h
  ·rename_i mid hmid
   refine wpIn_seq (ihp s mid hmid E D a w _ hr (fun p1 hp1 E1 D1 a1 w1 q1 q2 q3=>?_));obtain⟨x,hx,hsub⟩:=jc h p1 hp1;obtain⟨ex,s1⟩:=p1;cases ex with
   |normal=>
    dsimp only at hx;exact ihq s1 x hx E1 D1 a1 w1 Q q3 (fun p' hp' E' D' a' w' r1 r2 r3=>hQ p' (hsub p' hp') E' D' a' w' (fun n hn=>r1 n (q1 n hn)) (fun n hn=>(r2 n (q1 n hn)).trans (q2 n hn)) r3)
   |exit id=>dsimp only at hx;cases hx;exact hQ _ (hsub _ amJ) E1 D1 a1 w1 q1 q2 q3
   |ret=>dsimp only at hx;cases hx;exact hQ _ (hsub _ amJ) E1 D1 a1 w1 q1 q2 q3
  ·cases h
 |cond c p q ihp ihq=>
  intro s outs h E D a w Q hr hQ;unfold adR at h;have hcv:=fun hne=>oM hr.1.rel.tm c hne
  split at h
  ·rename_i e
   replace e:ev s.c.st.tm c= .lit (.bool true):=e;dsimp only at hcv;rw[e]at hcv;exact wpIn_cond (t:=true) (hcv (by simp[undef])) (ihp s outs h E D a w Q hr hQ)
  ·rename_i e
   replace e:ev s.c.st.tm c= .lit (.bool false):=e;dsimp only at hcv;rw[e]at hcv;exact wpIn_cond (t:=false) (hcv (by simp[undef])) (ihq s outs h E D a w Q hr hQ)
  ·cases h
 |block id c ih=>
  intro s outs h E D a w Q hr hQ;unfold adR at h;split at h
  ·rename_i mid hmid
   cases h;refine wpIn_block (ih s mid hmid E D a w _ hr (fun p hp E' D' a' w' q1 q2 q3=>?_));have hm:=hQ _ (amN.2 ⟨p,hp,rfl⟩);obtain⟨ex,s1⟩:=p;cases ex with
   |normal=>exact hm E' D' a' w' q1 q2 q3
   |ret=>exact hm E' D' a' w' q1 q2 q3
   |exit i=>
    dsimp only at hm;show (if i=id then Q .normal a' w' else Q (.exit i) a' w');cases hb:Nat.beq i id with
    |true=>
     rw[hb]at hm;rw[if_pos (amE hb)];exact hm E' D' a' w' q1 q2 q3
    |false=>
     rw[hb]at hm;rw[if_neg (fun e=>by subst e;rw[Nat.beq_refl]at hb;cases hb)];exact hm E' D' a' w' q1 q2 q3
  ·cases h
 |loop c ih=>
  intro s outs h E D a w Q hr hQ;intro b k cs h1 h2 h3;obtain⟨e,a',w',hq,harr⟩:=ab3 ih lf s outs h E D a w Q hr hQ b k cs h1 h2 h3;exact⟨e,a',w',hq,.of_steps (.one (fenced_calm h2 h3 rfl) stepR_loop) harr⟩
 |region id ops draw=>
  intro s outs h E D a w Q hr hQ;unfold adR at h;cases draw with
  |true=>
   simp only[cond_true]at h;split at h
   ·rename_i st' hst
    obtain⟨hb,h⟩:=ag h;have hle:st'.nx<=hi:=Nat.le_of_ble_eq_true hb;cases h;have hself:Rel (Sof E s.c.st.H) w nt E D s.c.st a.tmps w.drew:=⟨hr.1.rel.hw.self.drew,hr.1.rel.tm,hr.1.rel.tin⟩;refine wpIn_region_any hc.mixed (uF hc (aj1 hG hr.1.rel.hw) hcf hself hst (hr.1.free.mono ano hle) (fun _ E' a' w' hdf hE hr'=>?_));exact hQ _ amJ E' _ a' w' DR.le hE ⟨⟨⟨hr.1.rel.hw.rebase hr'.hw,hr'.tm,hr'.tin⟩,hr.1.it.frame hr.1.rel.hw hr'.hw DR.le hE,hr.1.free.next (pI hst)⟩,hdf.trans hr.2.1,hr.2.2⟩
   ·cases h
  |false=>
   simp only[cond_false]at h;split at h
   ·rename_i l hl
    cases h;refine wpIn_region ?_;have:=aeC (ops:=ops) hc hG hcf (Q:=Q) ops.toList 0 ⟨s.c.st,s.it⟩ l E D a w (fun j=>by rw[am5,amV]) hr.1 hl (fun s' hs' E' D' a' w' hdf hd hE hr'=>hQ _ (amN.2 ⟨s',hs',rfl⟩) E' D' a' w' hd hE ⟨hr',hdf.trans hr.2.1,hr.2.2⟩);rw[List.range_eq_range'];simpa using this
   ·cases h
mutual
def abC:List (Value×AV)->List (Value×AV)->Bool
 | [],[]=>true
 |a::l,b::m=>ahR a.1 b.1&&(mH a.2 b.2&&abC l m)
 |_,_=>false
end
theorem yz:∀ {l m:List (Value×AV)},abC l m=true->l=m
 | [],[],_=>rfl
 |a::l,b::m,h=>by
  simp only[abC,amC]at h;rw[show a=b from Prod.ext (abA h.1) (qa h.2.1),yz h.2.2]
def aew (a b:AObj):Bool:=
 match a,b with
 | .map l,.map m=>abC l m
 |a,b=>aar a b
theorem aev {a b:AObj}(h:aew a b=true):a=b:=by
 unfold aew at h;split at h
 ·rw[yz h]
 ·exact abB h
def finB (cx:Cx)(res:List ResultVar)(p:AExit×BSt):Option (List (AV×Heap)):=
 match p.1,p.2.it with
 | .exit _,_=>none
 |_,none=>match ah0 cx p.2.c.st res with
  |some [v]=>some [(v,p.2.c.st.H)]
  |_=>none
 |_,_=>none
def amf (cx:Cx)(cf:bZ)(lf hi:Nat)(f:FuncId)(args:List AV)(H:Heap)(nx:Nat):Option (List (AV×Heap)):=
 match cx.fn f with
 |some fi=>bif Nat.ble args.length fi.nt&&(Nat.blt fi.nt lim&&Nat.ble nx hi)then(match adR cx cf lf fi.nt hi fi.body ⟨⟨⟨adQ args 0 .leaf,H,nx⟩,[]⟩,none⟩with
  |some outs=>zH (finB cx fi.res) outs
  |none=>none)else none
 |none=>none
def acU (Hr H':Heap):List Nat->Bool
 | []=>true
 |n::l=>(match Hr.get n with
  |some a=>match H'.get n with
   |some b=>aew a b
   |none=>false
  |none=>true)&&acU Hr H' l
theorem uB {Hr H':Heap}:∀ {l:List Nat},acU Hr H' l=true->∀n∈l,∀o,Hr.get n=some o->H'.get n=some o
 |m::l,h,n,hn,o,ho=>by
  simp only[acU,amC]at h;rcases anf.1 hn with e|e
  ·subst e
   have h1:=h.1;rw[ho]at h1;dsimp only at h1;split at h1
   ·rename_i b hb
    rw[hb,aev h1]
   ·cases h1
  ·exact uB h.2 n e o ho
def ajD (cx:Cx)(cf:bZ)(lf room:Nat)(fs:List Nat):bZ:=fun fv args H nx=>
 match fv with
 | .func f cap=>bif ade f fs then
   let as:=args++cap
   let nr:=reach H 100000 (kU as) []
   let Hr:=kV (uN H nr)
   match amf cx cf lf (nx+room) f as Hr nx with
   |some ((v,H0)::l)=>bif (acU Hr H0 nr&&l.all fun p=>mH v p.1&&acU Hr p.2 nr)&&v.names.all fun n=>(Hr.get n).isSome then some (v,H,nx+room)else none
   |_=>none
  else none
 |_=>none
end
section
variable {cx:Cx} {cf:bZ} {G:World->Prop} {S:Nat->Prop} {w0 w:World} {lf hi:Nat} {E:Env} {D:Nat->Prop} {H:Heap}
mutual
theorem wW {P:Nat->Prop}:∀(v:AV),(∀n∈v.names,P n)->v.In P
 | .lit _,_=>trivial
 | .sym _,_=>trivial
 | .ptr n o,h=>h n (by simp[AV.names])
 | .slice n o l c,h=>h n (by simp[AV.names])
 | .map n,h=>h n (by simp[AV.names])
 | .yield n,h=>h n (by simp[AV.names])
 | .rptr n o,h=>h n (by simp[AV.names])
 | .rsl n l,h=>h n (by simp[AV.names])
 | .func f l,h=>mV l h
 | .agg l,h=>mV l h
 | .tup l,h=>mV l h
 | .iface t v,h=>wW v h
theorem mV {P:Nat->Prop}:∀(l:List AV),(∀n∈kU l,P n)->InL P l
 | [],_=>trivial
 |v::l,h=>⟨wW v fun n hn=>h n (List.mem_append_left _ hn),mV l fun n hn=>h n (List.mem_append_right _ hn)⟩
end
theorem ajB (hc:CxOK cx)(hG:∀w,Fr S w0 w->G w)(hcf:bU cx G cf){f:FuncId}{args:List AV}{nx:Nat}{outs:List (AV×Heap)}(he:amf cx cf lf hi f args H nx=some outs)(h:HW S w0 E D H w)(hin:∀u∈args,u.In D)(hf:vN D nx hi):
 nx<=hi/\(∃fi,cx.fn f=some fi)/\CallsIn Fence.wide 0 cx.P f (args.map (aj E)).toArray w fun e w'=>∃u,e= .returned u/\∃p∈outs,∃E' D',u=aj E' p.1/\(∀n,D n->D' n)/\(∀n,D n->E' n=E n)/\HW S w0 E' D' p.2 w':=by
 unfold amf at he;split at he
 ·rename_i fi hfi
  have hb:=(ag he).1;replace he:=(ag he).2;simp only[amC,Nat.ble_eq,anh]at hb;obtain⟨F,hF1,hF2,hF3,hF4,hF5⟩:=hc.fn f fi hfi;split at he
  ·rename_i mid hmid
   refine⟨hb.2.2,⟨fi,hfi⟩,?_⟩;refine callsIn_of_wp_marks hF1 hF2 trivial ?_;have htm:TM E fi.nt (adQ args 0 .leaf) ((args.map (aj E)).toArray ++Array.replicate (F.ntmps-(args.map (aj E)).toArray.size) undef):=by
    refine⟨by simp[hF3];omega,fun i u hu=>?_⟩;rw[pX args 0 .leaf i (by omega)]at hu;split at hu
    ·rename_i hlt
     rw[Nat.sub_zero]at hu;rw[Array.getD_eq_getD_getElem?,Array.getElem?_append_left (by simp;omega)];simp[hu]
    ·cases hu
   have hbr:BR S w0 fi.nt hi E D ⟨⟨⟨adQ args 0 .leaf,H,nx⟩,[]⟩,none⟩ {tmps:=(args.map (aj E)).toArray ++Array.replicate (F.ntmps-(args.map (aj E)).toArray.size) undef,defers:=[]} w:=
    ⟨⟨⟨h,htm,ad4 hin (by omega)⟩,trivial,hf⟩,rfl,rfl⟩
   refine akx hc hG hcf fi.body _ mid hmid E D _ w _ hbr (fun p hp E1 D1 a' w' hd hE hr=>?_);obtain⟨x,hx,hsub⟩:=jc he p hp;have leave:∀vs v,ah0 cx p.2.c.st fi.res=some vs->vs=[v]->(v,p.2.c.st.H)∈outs->LeavesInM Fence.wide 0 cx.P F a'.tmps (fun e w'=>∃u,e= .returned u/\∃p∈outs,∃E' D',u=aj E' p.1/\(∀n,D n->D' n)/\(∀n,D n->E' n=E n)/\HW S w0 E' D' p.2 w') a'.defers .returning w':=fun vs v hres hv hm=>by
    rw[hr.2.1];obtain⟨q1,q2⟩:=abD hc hr.1.rel fi.res vs hres;refine⟨aj E1 v,?_,⟨_,rfl,(v,p.2.c.st.H),hm,E1,D1,rfl,hd,hE,hr.1.rel.hw⟩⟩;rw[uD,Array.mapM_eq_mapM_toList,hF4];simp only[amF,Sem.run_map];rw[q1];simp only[amz];rw[hv];rfl
   unfold finB at hx;obtain⟨ex,s1⟩:=p;cases ex with
   |exit i=>cases hx
   |normal=>
    dsimp only at hx;split at hx
    ·cases hx
    ·split at hx
     ·rename_i v hres
      cases hx;exact leave _ v hres rfl (hsub _ amJ)
     ·cases hx
    ·cases hx
   |ret=>
    dsimp only at hx;split at hx
    ·cases hx
    ·split at hx
     ·rename_i v hres
      cases hx;exact leave _ v hres rfl (hsub _ amJ)
     ·cases hx
    ·cases hx
  ·cases he
 ·cases he
theorem acu (hc:CxOK cx)(hcf:bU cx G cf){room:Nat}{fs:List Nat}:bU cx G (ajD cx cf lf room fs):=by
 intro S w0 hG ro fv args H nx v H' hi he E D w h hfv hin hfree;unfold ajD at he;split at he
 ·rename_i f cap
  replace he:=(ag he).2;dsimp only at he;generalize hHr:kV (uN H (reach H 100000 (kU (args++cap)) []))=Hr at*
  generalize hnr:reach H 100000 (kU (args++cap)) []=nr at*
  split at he
  ·rename_i v0 H0 l hcall
   obtain⟨hb,he⟩:=ag he;cases he;simp only[amC,amU]at hb;obtain⟨⟨hb1,hb2⟩,hb3⟩:=hb;have hs:∀n ob,Hr.get n=some ob->H.get n=some ob:=fun n ob hn=>(nW (by rw[hHr];exact hn)).2
   have hnr':∀n ob,Hr.get n=some ob->n∈nr:=fun n ob hn=>(nW (by rw[hHr];exact hn)).1
   have hin2:∀u∈args++cap,u.In D:=fun u hu=>by
    rcases ane.1 hu with h1|h1
    ·exact hin u h1
    ·exact eO.1 hfv u h1
   have hsub:HW (Sof E Hr) w E D Hr w:=h.toF.sub hs;obtain⟨hle,⟨fi,hfi⟩,hcalls⟩:=ajB hc (fun w' hf=>hG w' (h.toF.fr_sub hs hf)) hcf hcall hsub hin2 hfree;refine⟨hle,.enter f ((args.map (aj E)).toArray ++(fT E cap).toArray),dK hc hfi _ _,?_⟩;have hargs:((args.map (aj E)).toArray ++(fT E cap).toArray)=((args++cap).map (aj E)).toArray :=by rw[bE];simp
   rw[hargs];have fin:CallsIn Fence.wide 0 cx.P f ((args++cap).map (aj E)).toArray w fun e w'=>∃u,e= .returned u/\(Dom H H nx (nx+room)/\∃E',u=aj E' v/\(∀n,D n->E' n=E n)/\HW S w0 E' (DR D nx (nx+room)) H w'/\v.In (DR D nx (nx+room))):=by
    refine CallsIn.mono hcalls ?_;rintro e w' ⟨u,rfl,p,hp,E1,D1,rfl,hd,hE,hw1⟩;have hvin:v.In D:=wW v fun n hn=>by
     obtain⟨ob,hob⟩:=Option.isSome_iff_exists.1 (hb3 n hn);exact(h.names n ob (hs n ob hob)).1
    have hp2:v=p.1/\acU Hr p.2 nr=true:=by
     rcases anf.1 hp with e|e
     ·subst e;exact⟨rfl,hb1⟩
     ·obtain⟨q1,q2⟩:=hb2 p e
      exact⟨qa q1,q2⟩
    have hwr:HW (Sof E Hr) w E1 D1 Hr w':=hw1.weak fun n o hn=>uB hp2.2 n (hnr' n o hn) o hn
    have hwE:HW (Sof E Hr) w E D Hr w':=
     ⟨fun n o hn=>OR.congr (E:=E1) (E':=E) (D:=D) (fun n hn=>(hE n hn).symm) (hsub.names n o hn).1 (hsub.names n o hn).2 rfl (hwr.obj n o hn),fun n m o o' hn hm hne=>hsub.inj n m o o' hn hm hne,fun n o hn=>.inl ⟨n,o,hn,rfl⟩,fun n o hn=>hsub.names n o hn,hwr.fr⟩
    refine⟨_,rfl,Dom.refl _ _ _,E,?_,fun _ _=>rfl,?_,Ev.In.mono DR.le _ hvin⟩
    ·rw[<-hp2.1];exact bL hE v hvin
    ·refine(h.toF.frame hs hfree (fun _ _=>rfl) (hwE.more DR.le) (Dom.refl _ _ _) (G':=H.get) (fun x=>?_)).toW (fun _=>rfl)
     by_cases hx:∃o,Hr.get x=some o
     ·obtain⟨o,ho⟩:=hx
      exact .inl ⟨.inl ⟨o,ho⟩,by rw[ho];exact hs x o ho⟩
     ·by_cases hrng:nx<=x/\x<nx+room
      ·refine .inl ⟨.inr hrng,?_⟩
       have h1:H.get x=none:=by
        cases hg:H.get x with
        |none=>rfl
        |some o=>exact absurd (h.names x o hg).1 (hfree x hrng.1 hrng.2)
       have h2:Hr.get x=none:=by
        cases hg:Hr.get x with
        |none=>rfl
        |some o=>exact absurd ⟨o,hg⟩ hx
       rw[h1,h2]
      ·exact .inr ⟨hx,hrng,rfl⟩
   cases ro with
   |none=>exact fin
   |some l=>exact fin.inRound l
  ·cases he
 ·cases he
end
end
section
open Go Go.RowKit
variable [Sym]
end
section
open Go Go.RowKit
variable [Sym]
end
end Go.Proofs.Q.Ev
