/- TopSpunTogether: Facts. Conditions: bounded sizes; variables as laid. -/
import Derived.Test.YtbkhnggmcheelaaGreatDoorGaq
set_option linter.unusedSimpArgs false
set_option linter.unusedVariables false
set_option maxHeartbeats 4000000
set_option maxRecDepth 100000
namespace Go.Proofs.YtbkhnggmcheelaaGreatDoor
open Proofs.Tryz
open Go.RowKit Go.Shelf Dec QQ SP
attribute [local go_sem] Oper.semAt_some
attribute [-go_sem] loadVar
attribute [local go_sem] afr
structure Knd where
 word:BA
 cls:Int
 h:Nat->Bool
 code:Bool
def uh (d:Knd)(mv:Value):Array Value:= #[.string d.word,.int .i64 d.cls,.bool (d.h 0),.bool (d.h 1),.bool (d.h 2),.bool (d.h 3),.bool (d.h 4),.bool (d.h 5),.bool (d.h 6),.bool (d.h 7),.bool (d.h 8),.bool (d.h 9),.bool (d.h 10),.bool (d.h 11),.bool (d.h 12),mv,.bool d.code]
def ajY (d:Knd)(mv:Value):Value:=.agg (uh d mv)
def tL (w:World)(mv:Value)(i:Nat)(P Q:Bool):Prop:=∃b1 b2,acB w b1 b2 P Q/\∀u,Below w.heap.size w u->(Instr.lookup 129 mv (.int .i64 (i:Int)) false).run prog u= .ok (.func (.func 171) #[] #[.pointer (some ⟨b1,0,none⟩),.pointer (some ⟨b2,0,none⟩)]) u
theorem tL.on {w w':World}{mv:Value}{i:Nat}{P Q:Bool}(h:tL w mv i P Q)(hb:Below w.heap.size w w'):tL w' mv i P Q:=by
 obtain⟨b1,b2,h1,h2⟩:=h;exact⟨b1,b2,h1.on hb,fun u hu=>h2 u (hb.trans (hu.mono hb.size))⟩
theorem rT {s:BA}(h:s.size<=1000):Ret 114 #[.string s] (.int .i64 (bif aG s then 0 else 23)):=by
 intro w hg;have hs:=St.refl hg;have K:=NmR (s:=s) (by omega);generalize aG s=b at*
 cases b with
 |true=>
  go_enter func114,ntmps114
  go_wp2_with fail
  refine K.step hs ?_;intro w1 hs hb
  go_wp2_with fail
  go_ret
  exact⟨rfl,hs.2⟩
 |false=>
  go_enter func114,ntmps114
  go_wp2_with fail
  refine K.step hs ?_;intro w1 hs hb
  go_wp2_with fail
  go_ret
  exact⟨rfl,hs.2⟩
def cfE (f:Fct)(lp:List Pk)(lo:List Ot)(code P Q:Bool)(i:Nat):Int:=
 match i with
 |0=>bif aG f.ins then 0 else 23
 |1=>bif code then(bif adE f.oth then(bif eqB f.oth f.cur then 18 else 0)else 12)else(bif aG f.oth then(bif eqB f.oth f.ins then 18 else 0)else 23)
 |2=>bif adE f.cur then 0 else 12
 |3=>bif aG f.tgt then 0 else 23
 |10=>yQ f.q lp
 |11=>mQ f.ins lo
 |12=>bif decide (f.cho<0)then 2 else 0
 |_=>pR P Q (fA f i).1 (fA f i).2
structure FcI (f:Fct) (lp:List Pk) (lo:List Ot):Prop where
 le:f.le
 hlp:lp.length=f.np
 hlo:lo.length=f.no
 np:f.np<=100
 no:f.no<=100
 cp:f.np<=f.cp
 zp:∀p∈lp,p.lot.size<=100/\p.q.size<=100
 zo:∀t∈lo,t.le
structure FcW (f:Fct) (lp:List Pk) (lo:List Ot) (w:World):Prop where
 rp:Row w f.P (av dA lp)
 ro:Row w f.O (av eD lo)
theorem FcW.on {f:Fct}{lp:List Pk}{lo:List Ot}{w w':World}(h:FcW f lp lo w)(hb:Below w.heap.size w w'):FcW f lp lo w':=⟨h.rp.on hb,h.ro.on hb⟩
theorem gp {f:Fct}(h:f.le)(i:Nat):(fA f i).1.size <=100/\(fA f i).2.size <=100:=by
 unfold fA;split
 ·exact⟨h.q,Nat.zero_le _⟩
 ·exact⟨h.a,Nat.zero_le _⟩
 ·exact⟨h.fee,Nat.zero_le _⟩
 ·exact⟨h.pn,h.pd⟩
 ·exact⟨h.rn,h.rd⟩
 ·exact⟨h.sn,h.sd⟩
 ·exact⟨by decide,by decide⟩
theorem cf_any (f:Fct){lp:List Pk}{lo:List Ot}(hI:FcI f lp lo)(d:Knd)(mv:Value)(P Q:Bool){i:Nat}{j:Int}(hi:i<13)(hj:j=i):
 iO (fun w=>FcW f lp lo w/\(4<=i->i<=9->tL w mv i P Q)) 54 #[gI f,ajY d mv,.int .i64 j] (.int .i64 (cfE f lp lo d.code P Q i)):=by
 intro w hg hw;have hb2:Below w.heap.size w ((w.alloc (.cells (bK f) 30)).alloc (.cells (uh d mv) 131)):=anp.alloc (by simp) _;have hs:St w ((w.alloc (.cells (bK f) 30)).alloc (.cells (uh d mv) 131)):=⟨hg,hb2⟩;have HX:=amy ((TBx.new w (bK f) 30).alloc (.cells (uh d mv) 131));have HY:Hid (TBx ((w.alloc (.cells (bK f) 30)).alloc (.cells (uh d mv) 131)) (w.heap.size+1) (uh d mv) 131):=by
  have:=TBx.new (w.alloc (.cells (bK f) 30)) (uh d mv) 131;rwa[amD]at this
 have HI:=amy hI;have HW:=amy (hw.1.on hb2);have HL:=amy (fun h1 h2=>(hw.2 h1 h2).on hb2);have HIV:=lt13 hi hj;clear hg hj hi hw hI hb2;dsimp only[gI,ajY]at*
 have xf:=HX.o.bx.fact rfl;have x5:=HX.o.bx.c 5 (.string f.ins) rfl;have x6:=HX.o.bx.c 6 (.string f.oth) rfl;have x7:=HX.o.bx.c 7 (.string f.cur) rfl;have x8:=HX.o.bx.c 8 (.string f.tgt) rfl;have x20:=HX.o.bx.c 20 (.int .i64 f.cho) rfl;have y15:=HY.o.bx.c 15 mv rfl;have y16:=HY.o.bx.c 16 (.bool d.code) rfl;rcases HIV with ⟨rfl,rfl⟩|⟨rfl,rfl⟩|⟨rfl,rfl⟩|⟨rfl,rfl⟩|⟨rfl,rfl⟩|⟨rfl,rfl⟩|⟨rfl,rfl⟩|⟨rfl,rfl⟩|⟨rfl,rfl⟩|⟨rfl,rfl⟩|⟨rfl,rfl⟩|⟨rfl,rfl⟩|⟨rfl,rfl⟩
 ·show Calls _ _ _ _ fun e w'=>e= .returned (.int .i64 (cfE f lp lo d.code P Q 0))/\_
  unfold cfE;simp only[];have K:=rT (s:=f.ins) (by have:=HI.o.le.ins;omega);generalize (bif aG f.ins then(0:Int)else 23)=e1 at*
  go_enter func54,ntmps54
  go_wp2_with fail
  refine K.step hs ?_;intro w1 hs hb
  go_wp2_with fail
  go_ret
  exact⟨rfl,hs.2⟩
 ·show Calls _ _ _ _ fun e w'=>e= .returned (.int .i64 (cfE f lp lo d.code P Q 1))/\_
  unfold cfE;simp only[];obtain⟨dc,hdc⟩:=eX (d.code);rw[hdc]at y16⊢
  clear hdc;cases dc with
  |true=>
   have K:=uX (s:=f.oth) (by have:=HI.o.le.oth;omega);obtain⟨b,hb⟩:=eX (adE f.oth);obtain⟨b2,hb2⟩:=eX (eqB f.oth f.cur);rw[hb]at K⊢
   rw[hb2];have hb3:(f.oth.toList==f.cur.toList)=b2:=hb2;clear hb hb2;cases b<;>cases b2
   all_goals
    go_enter func54,ntmps54
    go_wp2_with fail
    refine K.step hs ?_;intro w1 hs hb;replace HX:=amy (HX.o.on hb);clear x5 x6 x7 x8 x20 xf y15 y16 hb;have x6:=HX.o.bx.c 6 (.string f.oth) rfl;have x7:=HX.o.bx.c 7 (.string f.cur) rfl
    go_wp2_with fail
    go_ret
    exact⟨rfl,hs.2⟩
  |false=>
   have K:=rT (s:=f.oth) (by have:=HI.o.le.oth;omega);obtain⟨b,hb⟩:=eX (aG f.oth);obtain⟨b2,hb2⟩:=eX (eqB f.oth f.ins);rw[hb]at K⊢
   rw[hb2];have hb3:(f.oth.toList==f.ins.toList)=b2:=hb2;clear hb hb2;cases b<;>cases b2
   all_goals
    simp only[cond_true,cond_false]at K
    go_enter func54,ntmps54
    go_wp2_with fail
    refine K.step hs ?_;intro w1 hs hb;replace HX:=amy (HX.o.on hb);clear x5 x6 x7 x8 x20 xf y15 y16 hb;have x6:=HX.o.bx.c 6 (.string f.oth) rfl;have x5:=HX.o.bx.c 5 (.string f.ins) rfl
    go_wp2_with fail
    go_ret
    exact⟨rfl,hs.2⟩
 ·show Calls _ _ _ _ fun e w'=>e= .returned (.int .i64 (cfE f lp lo d.code P Q 2))/\_
  unfold cfE;simp only[];have K:=uX (s:=f.cur) (by have:=HI.o.le.cur;omega);obtain⟨b,hb⟩:=eX (adE f.cur);rw[hb]at K⊢
  clear hb;cases b
  all_goals
   go_enter func54,ntmps54
   go_wp2_with fail
   refine K.step hs ?_;intro w1 hs hb
   go_wp2_with fail
   go_ret
   exact⟨rfl,hs.2⟩
 ·show Calls _ _ _ _ fun e w'=>e= .returned (.int .i64 (cfE f lp lo d.code P Q 3))/\_
  unfold cfE;simp only[];have K:=rT (s:=f.tgt) (by have:=HI.o.le.tgt;omega);generalize (bif aG f.tgt then(0:Int)else 23)=e1 at*
  go_enter func54,ntmps54
  go_wp2_with fail
  refine K.step hs ?_;intro w1 hs hb
  go_wp2_with fail
  go_ret
  exact⟨rfl,hs.2⟩
 ·show Calls _ _ _ _ fun e w'=>e= .returned (.int .i64 (cfE f lp lo d.code P Q 4))/\_
  unfold cfE;simp only[];obtain⟨b1,b2,hl1,hl2⟩:=HL.o (by omega) (by omega);have K:=gZ f (i:=4) (j:=4) (by omega) (by omega);have KL:=jY (a:=(fA f 4).1) (b:=(fA f 4).2) (b1:=b1) (b2:=b2) (P:=P) (Q:=Q) (by have:=(gp HI.o.le 4).1;omega) (by have:=(gp HI.o.le 4).2;omega);dsimp only[gI]at K;generalize pR P Q (fA f 4).1 (fA f 4).2=e1 at*
  generalize (fA f 4).1=v1 at*
  generalize (fA f 4).2=v2 at*
  have HL1:=amy hl1;have HL2:=amy hl2;clear hl1 hl2 HL
  go_enter func54,ntmps54
  go_wp2_with fail
  obtain⟨W2,hW2⟩:=eX ((w.alloc (.cells (bK f) 30)).alloc (.cells (uh d mv) 131));rw[hW2]at HX HY HL1 HL2 hs⊢
  have kf:=HX.o.bx.factK rfl;have k15:=HY.o.bx.k 15 mv rfl;have hlk:∀u:Kept W2,(Instr.lookup 129 mv (.int .i64 4) false).run prog u.W= .ok (.func (.func 171) #[] #[.pointer (some ⟨b1,0,none⟩),.pointer (some ⟨b2,0,none⟩)]) u.W:=fun u=>HL2.o u.W u.low
  have hII:∀u:Kept W2,acB u.W b1 b2 P Q:=fun u=>HL1.o.on u.low
  clear hW2 x5 x6 x7 x8 x20 xf y15 y16;refine ax (by kernel_rfl) (by kernel_rfl) ?_
  repeat (go_big_quiet_step (first|(with_reducible exact K.kept hs)|(with_reducible exact dY KL hs hII)))
  refine wpQuiet_nil ?_;rintro _ ⟨u1,rfl⟩;have hs:=hs.kept u1;clear kf k15 hlk hII
  go_wp2_with fail
  go_ret
  exact⟨rfl,hs.2⟩
 ·show Calls _ _ _ _ fun e w'=>e= .returned (.int .i64 (cfE f lp lo d.code P Q 5))/\_
  unfold cfE;simp only[];obtain⟨b1,b2,hl1,hl2⟩:=HL.o (by omega) (by omega);have K:=gZ f (i:=5) (j:=5) (by omega) (by omega);have KL:=jY (a:=(fA f 5).1) (b:=(fA f 5).2) (b1:=b1) (b2:=b2) (P:=P) (Q:=Q) (by have:=(gp HI.o.le 5).1;omega) (by have:=(gp HI.o.le 5).2;omega);dsimp only[gI]at K;generalize pR P Q (fA f 5).1 (fA f 5).2=e1 at*
  generalize (fA f 5).1=v1 at*
  generalize (fA f 5).2=v2 at*
  have HL1:=amy hl1;have HL2:=amy hl2;clear hl1 hl2 HL
  go_enter func54,ntmps54
  go_wp2_with fail
  obtain⟨W2,hW2⟩:=eX ((w.alloc (.cells (bK f) 30)).alloc (.cells (uh d mv) 131));rw[hW2]at HX HY HL1 HL2 hs⊢
  have kf:=HX.o.bx.factK rfl;have k15:=HY.o.bx.k 15 mv rfl;have hlk:∀u:Kept W2,(Instr.lookup 129 mv (.int .i64 5) false).run prog u.W= .ok (.func (.func 171) #[] #[.pointer (some ⟨b1,0,none⟩),.pointer (some ⟨b2,0,none⟩)]) u.W:=fun u=>HL2.o u.W u.low
  have hII:∀u:Kept W2,acB u.W b1 b2 P Q:=fun u=>HL1.o.on u.low
  clear hW2 x5 x6 x7 x8 x20 xf y15 y16;refine ax (by kernel_rfl) (by kernel_rfl) ?_
  repeat (go_big_quiet_step (first|(with_reducible exact K.kept hs)|(with_reducible exact dY KL hs hII)))
  refine wpQuiet_nil ?_;rintro _ ⟨u1,rfl⟩;have hs:=hs.kept u1;clear kf k15 hlk hII
  go_wp2_with fail
  go_ret
  exact⟨rfl,hs.2⟩
 ·show Calls _ _ _ _ fun e w'=>e= .returned (.int .i64 (cfE f lp lo d.code P Q 6))/\_
  unfold cfE;simp only[];obtain⟨b1,b2,hl1,hl2⟩:=HL.o (by omega) (by omega);have K:=gZ f (i:=6) (j:=6) (by omega) (by omega);have KL:=jY (a:=(fA f 6).1) (b:=(fA f 6).2) (b1:=b1) (b2:=b2) (P:=P) (Q:=Q) (by have:=(gp HI.o.le 6).1;omega) (by have:=(gp HI.o.le 6).2;omega);dsimp only[gI]at K;generalize pR P Q (fA f 6).1 (fA f 6).2=e1 at*
  generalize (fA f 6).1=v1 at*
  generalize (fA f 6).2=v2 at*
  have HL1:=amy hl1;have HL2:=amy hl2;clear hl1 hl2 HL
  go_enter func54,ntmps54
  go_wp2_with fail
  obtain⟨W2,hW2⟩:=eX ((w.alloc (.cells (bK f) 30)).alloc (.cells (uh d mv) 131));rw[hW2]at HX HY HL1 HL2 hs⊢
  have kf:=HX.o.bx.factK rfl;have k15:=HY.o.bx.k 15 mv rfl;have hlk:∀u:Kept W2,(Instr.lookup 129 mv (.int .i64 6) false).run prog u.W= .ok (.func (.func 171) #[] #[.pointer (some ⟨b1,0,none⟩),.pointer (some ⟨b2,0,none⟩)]) u.W:=fun u=>HL2.o u.W u.low
  have hII:∀u:Kept W2,acB u.W b1 b2 P Q:=fun u=>HL1.o.on u.low
  clear hW2 x5 x6 x7 x8 x20 xf y15 y16;refine ax (by kernel_rfl) (by kernel_rfl) ?_
  repeat (go_big_quiet_step (first|(with_reducible exact K.kept hs)|(with_reducible exact dY KL hs hII)))
  refine wpQuiet_nil ?_;rintro _ ⟨u1,rfl⟩;have hs:=hs.kept u1;clear kf k15 hlk hII
  go_wp2_with fail
  go_ret
  exact⟨rfl,hs.2⟩
 ·show Calls _ _ _ _ fun e w'=>e= .returned (.int .i64 (cfE f lp lo d.code P Q 7))/\_
  unfold cfE;simp only[];obtain⟨b1,b2,hl1,hl2⟩:=HL.o (by omega) (by omega);have K:=gZ f (i:=7) (j:=7) (by omega) (by omega);have KL:=jY (a:=(fA f 7).1) (b:=(fA f 7).2) (b1:=b1) (b2:=b2) (P:=P) (Q:=Q) (by have:=(gp HI.o.le 7).1;omega) (by have:=(gp HI.o.le 7).2;omega);dsimp only[gI]at K;generalize pR P Q (fA f 7).1 (fA f 7).2=e1 at*
  generalize (fA f 7).1=v1 at*
  generalize (fA f 7).2=v2 at*
  have HL1:=amy hl1;have HL2:=amy hl2;clear hl1 hl2 HL
  go_enter func54,ntmps54
  go_wp2_with fail
  obtain⟨W2,hW2⟩:=eX ((w.alloc (.cells (bK f) 30)).alloc (.cells (uh d mv) 131));rw[hW2]at HX HY HL1 HL2 hs⊢
  have kf:=HX.o.bx.factK rfl;have k15:=HY.o.bx.k 15 mv rfl;have hlk:∀u:Kept W2,(Instr.lookup 129 mv (.int .i64 7) false).run prog u.W= .ok (.func (.func 171) #[] #[.pointer (some ⟨b1,0,none⟩),.pointer (some ⟨b2,0,none⟩)]) u.W:=fun u=>HL2.o u.W u.low
  have hII:∀u:Kept W2,acB u.W b1 b2 P Q:=fun u=>HL1.o.on u.low
  clear hW2 x5 x6 x7 x8 x20 xf y15 y16;refine ax (by kernel_rfl) (by kernel_rfl) ?_
  repeat (go_big_quiet_step (first|(with_reducible exact K.kept hs)|(with_reducible exact dY KL hs hII)))
  refine wpQuiet_nil ?_;rintro _ ⟨u1,rfl⟩;have hs:=hs.kept u1;clear kf k15 hlk hII
  go_wp2_with fail
  go_ret
  exact⟨rfl,hs.2⟩
 ·show Calls _ _ _ _ fun e w'=>e= .returned (.int .i64 (cfE f lp lo d.code P Q 8))/\_
  unfold cfE;simp only[];obtain⟨b1,b2,hl1,hl2⟩:=HL.o (by omega) (by omega);have K:=gZ f (i:=8) (j:=8) (by omega) (by omega);have KL:=jY (a:=(fA f 8).1) (b:=(fA f 8).2) (b1:=b1) (b2:=b2) (P:=P) (Q:=Q) (by have:=(gp HI.o.le 8).1;omega) (by have:=(gp HI.o.le 8).2;omega);dsimp only[gI]at K;generalize pR P Q (fA f 8).1 (fA f 8).2=e1 at*
  generalize (fA f 8).1=v1 at*
  generalize (fA f 8).2=v2 at*
  have HL1:=amy hl1;have HL2:=amy hl2;clear hl1 hl2 HL
  go_enter func54,ntmps54
  go_wp2_with fail
  obtain⟨W2,hW2⟩:=eX ((w.alloc (.cells (bK f) 30)).alloc (.cells (uh d mv) 131));rw[hW2]at HX HY HL1 HL2 hs⊢
  have kf:=HX.o.bx.factK rfl;have k15:=HY.o.bx.k 15 mv rfl;have hlk:∀u:Kept W2,(Instr.lookup 129 mv (.int .i64 8) false).run prog u.W= .ok (.func (.func 171) #[] #[.pointer (some ⟨b1,0,none⟩),.pointer (some ⟨b2,0,none⟩)]) u.W:=fun u=>HL2.o u.W u.low
  have hII:∀u:Kept W2,acB u.W b1 b2 P Q:=fun u=>HL1.o.on u.low
  clear hW2 x5 x6 x7 x8 x20 xf y15 y16;refine ax (by kernel_rfl) (by kernel_rfl) ?_
  repeat (go_big_quiet_step (first|(with_reducible exact K.kept hs)|(with_reducible exact dY KL hs hII)))
  refine wpQuiet_nil ?_;rintro _ ⟨u1,rfl⟩;have hs:=hs.kept u1;clear kf k15 hlk hII
  go_wp2_with fail
  go_ret
  exact⟨rfl,hs.2⟩
 ·show Calls _ _ _ _ fun e w'=>e= .returned (.int .i64 (cfE f lp lo d.code P Q 9))/\_
  unfold cfE;simp only[];obtain⟨b1,b2,hl1,hl2⟩:=HL.o (by omega) (by omega);have K:=gZ f (i:=9) (j:=9) (by omega) (by omega);have KL:=jY (a:=(fA f 9).1) (b:=(fA f 9).2) (b1:=b1) (b2:=b2) (P:=P) (Q:=Q) (by have:=(gp HI.o.le 9).1;omega) (by have:=(gp HI.o.le 9).2;omega);dsimp only[gI]at K;generalize pR P Q (fA f 9).1 (fA f 9).2=e1 at*
  generalize (fA f 9).1=v1 at*
  generalize (fA f 9).2=v2 at*
  have HL1:=amy hl1;have HL2:=amy hl2;clear hl1 hl2 HL
  go_enter func54,ntmps54
  go_wp2_with fail
  obtain⟨W2,hW2⟩:=eX ((w.alloc (.cells (bK f) 30)).alloc (.cells (uh d mv) 131));rw[hW2]at HX HY HL1 HL2 hs⊢
  have kf:=HX.o.bx.factK rfl;have k15:=HY.o.bx.k 15 mv rfl;have hlk:∀u:Kept W2,(Instr.lookup 129 mv (.int .i64 9) false).run prog u.W= .ok (.func (.func 171) #[] #[.pointer (some ⟨b1,0,none⟩),.pointer (some ⟨b2,0,none⟩)]) u.W:=fun u=>HL2.o u.W u.low
  have hII:∀u:Kept W2,acB u.W b1 b2 P Q:=fun u=>HL1.o.on u.low
  clear hW2 x5 x6 x7 x8 x20 xf y15 y16;refine ax (by kernel_rfl) (by kernel_rfl) ?_
  repeat (go_big_quiet_step (first|(with_reducible exact K.kept hs)|(with_reducible exact dY KL hs hII)))
  refine wpQuiet_nil ?_;rintro _ ⟨u1,rfl⟩;have hs:=hs.kept u1;clear kf k15 hlk hII
  go_wp2_with fail
  go_ret
  exact⟨rfl,hs.2⟩
 ·show Calls _ _ _ _ fun e w'=>e= .returned (.int .i64 (cfE f lp lo d.code P Q 10))/\_
  unfold cfE;simp only[];have K:=aeR f HI.o.le HI.o.hlp HI.o.np HI.o.cp HI.o.zp;dsimp only[gI]at K;generalize yQ f.q lp=e1 at*
  go_enter func54,ntmps54
  go_wp2_with fail
  refine K.step hs HW.o.rp ?_;intro w1 hs hb
  go_wp2_with fail
  go_ret
  exact⟨rfl,hs.2⟩
 ·show Calls _ _ _ _ fun e w'=>e= .returned (.int .i64 (cfE f lp lo d.code P Q 11))/\_
  unfold cfE;simp only[];have K:=aaC f HI.o.le HI.o.hlo HI.o.no HI.o.zo;dsimp only[gI]at K;generalize mQ f.ins lo=e1 at*
  go_enter func54,ntmps54
  go_wp2_with fail
  refine K.step hs HW.o.ro ?_;intro w1 hs hb
  go_wp2_with fail
  go_ret
  exact⟨rfl,hs.2⟩
 ·show Calls _ _ _ _ fun e w'=>e= .returned (.int .i64 (cfE f lp lo d.code P Q 12))/\_
  unfold cfE;simp only[];obtain⟨b,hb⟩:=eX (decide (f.cho<0));rw[hb];cases b
  all_goals
   go_enter func54,ntmps54
   go_wp2_with fail
   go_ret
   exact⟨rfl,hs.2⟩
end Go.Proofs.YtbkhnggmcheelaaGreatDoor
