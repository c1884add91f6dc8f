/- TopSpunTogether: Spinoffs. Conditions: bounded sizes; variables as laid. -/
import Derived.Test.YtbkhnggmcheelaaGreatDoorLm9
set_option linter.unusedSimpArgs false
set_option linter.unusedVariables false
set_option maxHeartbeats 4000000
set_option maxRecDepth 100000
namespace Go.Proofs.YtbkhnggmcheelaaGreatDoor
open Proofs.Tryz
section
open Go.RowKit Go.Shelf Dec QQ SP
abbrev aMv1 (x0 x1 x2 x3 x4:BA):Array Value:= #[.string x0,.string x1,.string x2,.string ⟨#[]⟩,.string ⟨#[]⟩,.string x3,.string x4]
theorem abG {a b s:BA}{x:Rat}{z:Int}{k j:Nat}(h:Vq a b x)(hf:bP k x)(hq:Vs s z)(hz:Fit j z)(h1:1<=j)(hk:k+j<=40000)(hsz:s.size<=40000):Ret 37 #[FV a b,.string s] (.string (ae (pO 1 (x*(z:Rat))))):=by
 intro w hg;have hs:=(St.refl hg).alloc (.cells #[.string a,.string b] 26);have B:=Bx.new w #[.string a,.string b] 26;have K1:=OfF hq (by omega);have K2:=amn h (Vq.fr (q:=(z:Rat)) (k:=j) (ig hz h1) (by omega));have hf2:bP (k+j) (x*(z:Rat)):=bP.mul hf (ig hz h1);have K3:=aaa 1 (Vq.fr hf2 (by omega)) hf2 (by omega);rw[(mJ (by decide) (by decide) _).2]at K3;unfold FR FV at*
 generalize ae (pO 1 (x*(z:Rat)))=c at*
 generalize adS 1=e at*
 generalize frN (x*(z:Rat))=on at*
 generalize frD (x*(z:Rat))=od at*
 generalize frN (z:Rat)=rn at*
 generalize frD (z:Rat)=rd at*
 have k0:=B.k 0 (.string a) rfl;have k1:=B.k 1 (.string b) rfl;clear h hf hq hz hf2
 go_enter func37,ntmps37
 go_wp2_with fail
 refine ax (by kernel_rfl) (by kernel_rfl) ?_
 repeat (go_big_quiet_step (first|(with_reducible exact K1.kept hs)|(with_reducible exact K2.kept hs)|(with_reducible exact K3.kept hs)))
 refine wpQuiet_nil ?_;rintro _ ⟨u,rfl⟩
 go_wp2_with fail
 go_ret
 exact⟨rfl,(hs.kept u).2⟩
theorem yH {s:BA}{z:Int}{j:Nat}(hq:Vs s z)(hz:Fit j z)(h1:1<=j)(hk:j<=30000)(hsz:s.size<=30000):Ret 37 #[FV ⟨#[]⟩ ⟨#[]⟩,.string s] (.string ⟨#[]⟩):=by
 have h:=abG vq0 fit0 hq hz h1 (by omega) (by omega);rw[Rat.zero_mul,show (0:Rat)=((0:Int):Rat)from rfl,show pO 1 ((0:Int):Rat)=0 by rw[qZ (by rw[Rat.num_intCast,Rat.den_intCast];simp),Rat.floor_intCast],show ae 0=⟨#[]⟩by decide+kernel]at h;exact h
theorem adb {s a b:BA}{z n:Int}{r:Rat}{k j:Nat}(hc:chk s=0)(hsv:Vs s z)(h0:0<=z)(hr:Vq a b r)(hrc:vI a b=0)(hf:bP k r)(hr0:0<r)(hz:Fit j z)(h1:1<=j)(hk:k+j<=30000)(hsz:s.size<=30000)(ha:a.size<=30000)(hb:b.size<=30000)(hw:(z:Rat)*r=(n:Rat)):
 Ret 86 #[.string s,FV a b] (.tuple #[.string (ae n),FV ⟨#[]⟩ ⟨#[]⟩,.int .i64 0]):=by
 intro w hg;have hs:=((St.refl hg).alloc (.cells #[.string a,.string b] 26)).alloc (.cells #[.string ⟨#[]⟩,.string ⟨#[]⟩] 26);have B:=(Bx.new w #[.string a,.string b] 26).alloc (.cells #[.string ⟨#[]⟩,.string ⟨#[]⟩] 26);have C:=Bx.new1 w (.cells #[.string a,.string b] 26) #[.string ⟨#[]⟩,.string ⟨#[]⟩] 26;have K1:=amv (a:=s) (by omega);rw[hc]at K1;have K2:=ChkF (a:=a) (b:=b) (by omega) (by omega);rw[hrc]at K2;have K3:=aab hsv Vs.nil;have q3:decide (dW z 0<0)=false:=by rw[lW];exact am1 (by omega)
 have K4:=iY hr hf (by omega);have q4:decide (il r 0<=0)=false:=by
  have:il r 0=1:=by unfold il;rw[if_neg (by grind),if_neg (by grind)]
  rw[this];decide
 have K5:=OfF hsv (by omega);have K6:=amn (Vq.fr (q:=(z:Rat)) (k:=j) (ig hz h1) (by omega)) hr;have hfn:bP (j+k) (n:Rat):=by rw[<-hw];exact bP.mul (ig hz h1) hf
 rw[hw]at K6;have K7:=uO (Vq.fr hfn (by omega)) hfn (by omega) (by omega);rw[Rat.floor_intCast,show (n:Rat)-(n:Rat)=0 by grind,xC]at K7;unfold FR FV at*
 generalize dW z 0=c3 at*
 generalize il r 0=c4 at*
 generalize frN (z:Rat)=zn at*
 generalize frD (z:Rat)=zd at*
 generalize frN (n:Rat)=nn at*
 generalize frD (n:Rat)=nd at*
 generalize ae n=cn at*
 clear hr hrc hf hr0 hz hw hfn hsv hc hg h0
 go_enter func86,ntmps86
 go_wp2_with fail
 refine K1.step hs ?_;intro w1 hs hb;replace B:=B.on hb;replace C:=C.on hb;have x0:=B.c 0 (.string a) rfl;have x1:=B.c 1 (.string b) rfl;clear hb K1
 go_wp2_with fail
 refine K2.step hs ?_;intro w2 hs hb;replace B:=B.on hb;replace C:=C.on hb;clear x0 x1 hb K2
 go_wp2_with fail
 refine K3.step hs ?_;intro w3 hs hb;replace B:=B.on hb;replace C:=C.on hb;have x0:=B.c 0 (.string a) rfl;have x1:=B.c 1 (.string b) rfl;clear hb K3
 go_wp2_with fail
 refine K4.step hs ?_;intro w4 hs hb;replace B:=B.on hb;replace C:=C.on hb;clear x0 x1 hb K4
 go_wp2_with fail
 refine gm 10 8 8 #[.string ⟨#[]⟩,.string ⟨#[]⟩] (by kernel_rfl) (by kernel_rfl) (by kernel_rfl) (by omega) rfl (by kernel_rfl) ⟨_,8,_,rfl,rfl,rfl,fun _ _=>by simp[execOp,go_sem,ptrTo];rfl⟩ ?_;apply Exists.intro;refine⟨fun S W hne hk hcl=>?_,?_⟩
 ·simp only[List.take_succ_cons,List.take_zero,ib,anf,List.not_mem_nil,or_false,Nat.reduceAdd,Nat.reduceEqDiff,reduceIte,am5]
  have k0:=B.in hk (i:=0) (v:=.string a) rfl;have k1:=B.in hk (i:=1) (v:=.string b) rfl
  repeat (go_big_quiet_step (first|(with_reducible exact K5.fresh hs hk hcl)|(with_reducible exact K6.fresh hs hk hcl)|(with_reducible exact K7.fresh hs hk hcl)))
  exact wpQuiet_nil rfl
 intro b10 v hb10 hv hx10;simp only[List.drop_succ_cons,List.drop_zero,ptrTo];have e0:=hx10.c 0 (.string ⟨#[]⟩) rfl;have g0:=hx10.frozen 0;have e1:=hx10.c 1 (.string ⟨#[]⟩) rfl;have g1:=hx10.frozen 1;clear K5 K6 K7 q3 q4
 go_wp2_with fail
 obtain⟨W5,hW5,X5,L5⟩:∃W5,(v.setCell ⟨b10,0,none⟩ (.string ⟨#[]⟩)).setCell ⟨b10,1,none⟩ (.string ⟨#[]⟩)=W5/\Bx W5 b10 #[.string ⟨#[]⟩,.string ⟨#[]⟩]/\Below w4.heap.size w4 W5:=
  ⟨_,rfl,(hx10.set 0 (.string ⟨#[]⟩)).set 1 (.string ⟨#[]⟩),(hv.setCell (p:=⟨b10,0,none⟩) hb10 _).setCell (p:=⟨b10,1,none⟩) hb10 _⟩
 rw[hW5];have hlt:=C.lt;have C5:=C.on L5;have hs5:=hs.on L5;have y0:=X5.c 0 (.string ⟨#[]⟩) rfl;have y1:=X5.c 1 (.string ⟨#[]⟩) rfl;have z0:=C5.c 0 (.string ⟨#[]⟩) rfl;have z1:=C5.c 1 (.string ⟨#[]⟩) rfl;have f0:=C5.frozen 0;have f1:=C5.frozen 1;have hne:¬b10=w.heap.size+1:=by omega
 clear hW5 e0 e1 g0 g1 hx10 hv
 go_region
 all_goals go_wp2_with fail
 all_goals (obtain⟨W,hW,z0,z1,hbe⟩:=mK hs5 (by omega) C5 ⟨#[]⟩ ⟨#[]⟩;rw[hW];exact bodyPost_ret (v:=.tuple #[.string cn,.agg #[.string ⟨#[]⟩,.string ⟨#[]⟩],.int .i64 0]) (by simp[results,results86,go_sem,z0,z1]) rfl ⟨rfl,by first|exact hbe|exact hbe.drew⟩)
theorem ac9 {oth s rn rd vn vd:BA}{z n:Int}{r v:Rat}{k j:Nat}(ho:(oth.toList== [])=false)(hc:chk s=0)(hsv:Vs s z)(h0:0<=z)(hr:Vq rn rd r)(hrc:vI rn rd=0)(hf:bP k r)(hr0:0<r)(hz:Fit j z)(h1:1<=j)(hk:k+j<=30000)(hsz:s.size<=30000)(ha:rn.size<=30000)(hb:rd.size<=30000)(hw:(z:Rat)*r=(n:Rat))(hv:Vq vn vd v):
 Ret 35 #[.agg (aMv1 oth rn rd vn vd),.string s] (.tuple #[.string (ae n),.string ⟨#[]⟩,FV ⟨#[]⟩ ⟨#[]⟩,.int .i64 0]):=by
 intro w hg;have hs:=(((St.refl hg).alloc (.cells (aMv1 oth rn rd vn vd) 47)).alloc (.cells #[.string ⟨#[]⟩,.string ⟨#[]⟩] 26)).alloc (.cells #[.string ⟨#[]⟩,.string ⟨#[]⟩] 26);have B:=((Bx.new w (aMv1 oth rn rd vn vd) 47).alloc (.cells #[.string ⟨#[]⟩,.string ⟨#[]⟩] 26)).alloc (.cells #[.string ⟨#[]⟩,.string ⟨#[]⟩] 26);have C:=(Bx.new1 w (.cells (aMv1 oth rn rd vn vd) 47) #[.string ⟨#[]⟩,.string ⟨#[]⟩] 26).alloc (.cells #[.string ⟨#[]⟩,.string ⟨#[]⟩] 26);have D:=Bx.new1 (w.alloc (.cells (aMv1 oth rn rd vn vd) 47)) (.cells #[.string ⟨#[]⟩,.string ⟨#[]⟩] 26) #[.string ⟨#[]⟩,.string ⟨#[]⟩] 26;rw[amD]at D;have K1:=adb hc hsv h0 hr hrc hf hr0 hz h1 hk hsz ha hb hw;have K2:=yH hsv hz h1 (by omega) hsz;have K3:=amn vq0 hv;rw[Rat.zero_mul,xC]at K3;have K4:=yH (s:=⟨#[49]⟩) (z:=1) (j:=1) ⟨by decide,by decide⟩ (by unfold Fit;decide) (by omega) (by omega) (by decide);have K5:=abq Vs.nil Vs.nil;rw[show ae (0+0)=⟨#[]⟩by decide+kernel]at K5;unfold FV at*
 generalize ae n=cn at*
 clear hr hrc hf hr0 hz hw hsv hc hg h0 hv;have x0:=B.c 0 (.string oth) rfl;have x1:=B.c 1 (.string rn) rfl;have x2:=B.c 2 (.string rd) rfl
 go_enter func35,ntmps35
 go_wp2_with fail
 refine K1.step hs ?_;intro w1 hs hb1;have B:=B.on hb1;have C:=C.on hb1;have D:=D.on hb1;have d0:=D.c 0 (.string ⟨#[]⟩) rfl;have d1:=D.c 1 (.string ⟨#[]⟩) rfl;have f0:=D.frozen 0;have f1:=D.frozen 1;clear x0 x1 x2 hb1 K1
 go_wp2_with fail
 have hlt:=D.lt;obtain⟨W5,hW5,D5,B5,C5,L5⟩:∃W5,(w1.setCell ⟨w.heap.size+1+1,0,none⟩ (.string ⟨#[]⟩)).setCell ⟨w.heap.size+1+1,1,none⟩ (.string ⟨#[]⟩)=W5/\Bx W5 (w.heap.size+1+1) #[.string ⟨#[]⟩,.string ⟨#[]⟩]/\Bx W5 w.heap.size (aMv1 oth rn rd vn vd)/\Bx W5 (w.heap.size+1) #[.string ⟨#[]⟩,.string ⟨#[]⟩]/\St w W5:=
  ⟨_,rfl,(D.set 0 (.string ⟨#[]⟩)).set 1 (.string ⟨#[]⟩),(B.other (by omega) 0 _).other (by omega) 1 _,(C.other (by omega) 0 _).other (by omega) 1 _,(hs.set (by omega) 0 _).set (by omega) 1 _⟩
 rw[hW5];clear hW5 d0 d1 f0 f1 B C D hs;have k3:=B5.k 3 (.string ⟨#[]⟩) rfl;have k4:=B5.k 4 (.string ⟨#[]⟩) rfl;have k5:=B5.k 5 (.string vn) rfl;have k6:=B5.k 6 (.string vd) rfl;have k7:=D5.k 0 (.string ⟨#[]⟩) rfl;have k8:=D5.k 1 (.string ⟨#[]⟩) rfl;refine ax (by kernel_rfl) (by kernel_rfl) ?_
 repeat (go_big_quiet_step (first|(with_reducible exact K2.kept L5)|(with_reducible exact K3.kept L5)|(with_reducible exact K4.kept L5)|(with_reducible exact K5.kept L5)))
 refine wpQuiet_nil ?_;rintro _ ⟨u,rfl⟩;have L6:=L5.kept u;have C6:=C5.kept u;have D6:=D5.kept u;clear k3 k4 k5 k6 k7 k8 K2 K3 K4 K5 B5 C5 D5 L5;generalize u.W=W6 at*
 have y0:=D6.c 0 (.string ⟨#[]⟩) rfl;have y1:=D6.c 1 (.string ⟨#[]⟩) rfl;have z0:=C6.c 0 (.string ⟨#[]⟩) rfl;have z1:=C6.c 1 (.string ⟨#[]⟩) rfl;have f0:=C6.frozen 0;have f1:=C6.frozen 1
 go_wp2_with fail
 go_region
 all_goals go_wp2_with fail
 all_goals (obtain⟨W,hW,z0,z1,hbe⟩:=mK L6 (by omega) C6 ⟨#[]⟩ ⟨#[]⟩;rw[hW];exact bodyPost_ret (v:=.tuple #[.string cn,.string ⟨#[]⟩,.agg #[.string ⟨#[]⟩,.string ⟨#[]⟩],.int .i64 0]) (by simp[results,results35,go_sem,z0,z1]) rfl ⟨rfl,by first|exact hbe|exact hbe.drew⟩)
theorem ada {a b:BA}{C V:Int}{k:Nat}(ha:Vs a C)(hb:Vs b V)(hf:Fit k V)(hfc:Fit k C)(hk:k<=30000):Ret 36 #[.string a,.string ⟨#[]⟩,.string b] (.tuple #[.string ⟨#[]⟩,.string (ae C)]):=by
 intro w hg;have hs:=St.refl hg;have K1:=abq hb Vs.nil;rw[Int.add_zero]at K1;have K2:=ahs (Vs.can hf (by omega)) ha;have hfd:Fit (k+1) (V-C):=by
  have h1:=hf;have h2:=hfc;unfold Fit at*
  rw[anb];omega
 have K3:=aab (Vs.can hfd (by omega)) Vs.nil;have K4:=aab Vs.nil (Vs.can hfd (by omega));have K5:=aab Vs.nil Vs.nil;rw[show dW 0 0=0 by decide]at K5;have K6:=abq ha Vs.nil;rw[Int.add_zero]at K6;have K7:=ahs (Vs.can hfc (by omega)) Vs.nil;rw[Int.sub_zero]at K7;rcases Int.lt_trichotomy (V-C) 0 with h|h|h
 ·have q:decide (dW (V-C) 0<0)=true:=by rw[lW];exact am2 h
  generalize dW (V-C) 0=c at*
  generalize ae (V-C)=g at*
  generalize ae V=cv at*
  generalize ae C=cc at*
  clear ha hb hf hfc hfd h
  go_enter func36,ntmps36
  go_wp2_with fail
  refine K1.step hs ?_;intro w1 hs _
  go_wp2_with fail
  refine K2.step hs ?_;intro w1 hs _
  go_wp2_with fail
  refine K3.step hs ?_;intro w1 hs _
  go_wp2_with fail
  refine K5.step hs ?_;intro w1 hs _
  go_wp2_with fail
  refine K6.step hs ?_;intro w1 hs _
  go_wp2_with fail
  refine K7.step hs ?_;intro w1 hs _
  go_wp2_with fail
  go_ret2
  exact⟨rfl,hs.2⟩
 ·rw[h,show ae 0=⟨#[]⟩by decide+kernel]at K2
  generalize ae V=cv at*
  generalize ae C=cc at*
  clear ha hb hf hfc hfd h K3 K4
  go_enter func36,ntmps36
  go_wp2_with fail
  refine K1.step hs ?_;intro w1 hs _
  go_wp2_with fail
  refine K2.step hs ?_;intro w1 hs _
  go_wp2_with fail
  refine K5.step hs ?_;intro w1 hs _
  go_wp2_with fail
  refine K5.step hs ?_;intro w1 hs _
  go_wp2_with fail
  refine K6.step hs ?_;intro w1 hs _
  go_wp2_with fail
  refine K7.step hs ?_;intro w1 hs _
  go_wp2_with fail
  go_ret2
  exact⟨rfl,hs.2⟩
 ·have q:decide (dW (V-C) 0<0)=false:=by rw[lW];exact am1 (by omega)
  have q2:decide (dW 0 (V-C)<0)=true:=by rw[lW];exact am2 h
  generalize dW (V-C) 0=c at*
  generalize dW 0 (V-C)=d at*
  generalize ae (V-C)=g at*
  generalize ae V=cv at*
  generalize ae C=cc at*
  clear ha hb hf hfc hfd h
  go_enter func36,ntmps36
  go_wp2_with fail
  refine K1.step hs ?_;intro w1 hs _
  go_wp2_with fail
  refine K2.step hs ?_;intro w1 hs _
  go_wp2_with fail
  refine K3.step hs ?_;intro w1 hs _
  go_wp2_with fail
  refine K4.step hs ?_;intro w1 hs _
  go_wp2_with fail
  refine K6.step hs ?_;intro w1 hs _
  go_wp2_with fail
  refine K7.step hs ?_;intro w1 hs _
  go_wp2_with fail
  go_ret2
  exact⟨rfl,hs.2⟩
end
section
open Go.RowKit
section
variable {P:Program} {ops:Array Oper} {md:Region.Mode} {C:World->Prop} {m:Nat}
theorem uk {f:FuncId}{args:Array Value}{w:World}{R:Ending->World->Prop}(h:Calls P f args w R):CallsIn Fence.wide m P f args w R:=callsIn_wide.2 h
theorem tO {i:Nat}{a:Act}{K:Act->Prop}{K':Act->World->Prop}{Q':Exit->Act->World->Prop}{w:World}(hnd:∀o,ops[i]? =some o->∀c,o.op≠ .defer c)(hC:C w)(h:∀a w',C w'->K a->K' a w')(hh:qOp P ops C i K a):
 wpOpIn Fence.wide m P ops Q' i K' a w:=by
 unfold qOp at hh;unfold wpOpIn;split
 ·rename_i ho;simp only[ho]at hh;exact h _ _ hC hh
 ·rename_i o ho
  simp only[ho]at hh;split
  ·rename_i hw
   simp only[hw,if_true]at hh;obtain⟨v,h1,h2⟩:=hh;refine⟨fun f _=>trivial,?_⟩;rw[Oper.semAt_eq _ _ _ (hnd o ho)];have hq:=h1 w hC;unfold Oper.quietAt at hq;generalize (execOp a.eval o).run P w=r at hq⊢
   cases r with
   |ok nx v'=>
    cases nx<;>simp only[Oper.quietUpon]at hq<;>simp only[Oper.uponIn]
    case value u=>
     obtain⟨e1,e2⟩:=hq;subst e1 e2;exact h _ _ hC h2
    case skip=>
     obtain⟨e1,e2⟩:=hq;subst e1 e2;exact h _ _ hC h2
    case enter f args=>
     obtain⟨e1,hc⟩:=hq;subst e1;refine⟨fun hd=>by simp[Fence.wide]at hd,uk (hc.mono fun e w'' ⟨he,hw''⟩=>?_)⟩;subst he;exact h _ _ hw'' h2
   |halt x v'=>simp only[Oper.quietUpon]at hq
  ·rename_i hw
   simp only[hw]at hh;exact⟨fun f _=>trivial,h _ _ hC hh⟩
theorem bY.soundInW {n g:Nat}{L:Array Bool->Act->Prop}{Q:Exit->Act->World->Prop}(hnd:∀(i:Nat) (o:Oper),ops[i]? =some o->∀c,o.op≠ .defer c)(hL:∀s a w,C w->L s a->wpAnyIn Fence.wide m P md ops Q g s a w):
 ∀(f:Nat) (s:Array Bool) (a:Act) (w:World),C w->bY P md ops C n L f s a->wpAnyIn Fence.wide m P md ops Q (f+g) s a w
 |0,s,a,w,hw,h=>by rw[am5];exact hL s a w hw h
 |f+1,s,a,w,hw,h=>by
  rw[Nat.succ_add];exact⟨fun h0=>absurd h0 h.1,fun i hi=>tO (hnd i) hw (fun a' w' hw' h'=>bY.soundInW hnd hL f _ a' w' hw' h') (h.2 i hi).2⟩
theorem jN {id:Nat}{w:World}{Q:Exit->Act->World->Prop}{a:Act}{l:List Oper}(n:Nat)(hm:P.follows .mixedOrders =true)(hB:Region.lexTailB .any l.toArray n=true)(hD:rQ l=true)
 (h:wpQuiet P l.toArray (fun w'=>∃u:Kept w,w'=u.W) (fun a'=>∀w',(∃u:Kept w,w'=u.W)->wpListIn Fence.wide m P l.toArray Q (l.drop n) a' w') (l.take n) a):(Code.region id l.toArray true).wpIn Fence.wide m P Q a w:=by
 simp only[Region.lexTailB,amC,decide_eq_true_eq]at hB;obtain⟨⟨⟨⟨hns,hn⟩,hs⟩,hc⟩,hlex⟩:=hB;have hn':n<l.length:=hn;have htl:(l.take n).length =n:=by rw[amO];omega
 have hdl:(l.drop n).length =l.toArray.size-n:=by rw[am8];rfl
 have inv0:HeadInv .any l.toArray n (Array.replicate l.toArray.size false):=
  ⟨by simp,fun j oj _ hl=>(by rw[getD_replicate_false]at hl;cases hl),fun t _ ht=>getD_in (by simpa using ht) (getD_replicate_false _ _)⟩
 have H:=bY.lex (md:=.any) (g:=l.toArray.size-n) hns hs hc hn (l.take n) 0 _ a (fun j hj=>by
  rw[htl]at hj;simp[hj]) (by rw[htl];exact am5 n) inv0 (by rw[htl];exact hlex) h
 have H2:=bY.soundInW (m:=m) (Q:=Q) (g:=l.toArray.size-n) (jV hD) (fun s a' w' hw hL=>by
  have:=iG (F:=Fence.wide) (m:=m) (md:=.any) (Q':=Q) (l.drop n) n s a' w' (fun j=>by simp[List.getElem?_drop]) (by rw[hdl];exact hL.1) (hL.2 w' hw);rwa[hdl]at this) _ _ _ _ (jZ w) H
 rw[htl,show n+(l.toArray.size-n)=l.toArray.size by omega]at H2;exact wpIn_region_any hm H2
end
end
section
open Go.RowKit Go.Shelf Dec QQ SP
attribute [local go_sem] Oper.semAt_some
def shA (x:Lt)(a b c:BA):Array Value:= #[.string x.id,.string x.ins,.int .i64 x.acq,.int .i64 x.opn,.string x.q,.string x.c,.string x.u,.string a,.string b,.string c]
structure ShI (A:Option Addr) (n c:Nat) (l:List Lt) (ns ps ks:List Int) (bl bn bp bk:Nat) (An Ap Ak:Option Addr) (cn cp ck:Nat) (W:World):Prop where
 gl:Gl W
 xl:TBx W bl #[.slice A n c] 22
 xn:TBx W bn #[.slice An n cn] 153
 xp:TBx W bp #[.slice Ap n cp] 153
 xk:TBx W bk #[.slice Ak n ck] 153
 ro:Row W A (av aa l)
 rn:pW W An ns
 rp:pW W Ap ps
 rk:pW W Ak ks
theorem shr_in {A:Option Addr}{n c:Nat}{l:List Lt}{ns ps ks:List Int}{bl bn bp bk:Nat}{An Ap Ak:Option Addr}{cn cp ck:Nat}(l0:Nat)(hl:l.length=n)(hns:ns.length=n)(hps:ps.length=n)(hks:ks.length=n)(hn:n<=1000)(Inv:Nat->World->Prop)
 (hG:∀k W,Inv k W->ShI A n c l ns ps ks bl bn bp bk An Ap Ak cn cp ck W) (hU:∀k W W',Inv k W->Below W.heap.size W W'->Inv k W')
 (hY:∀k W1 x,k<n->l[k]? =some x->Inv k W1->YieldAt Fence.wide 4 prog l0 #[.agg (shA x (ae ns[k]!) (ae ps[k]!) (ae ks[k]!))] W1 fun e W'=>e= .returned (.bool true)/\Inv (k+1) W')
 (W:World) (h0:Inv 0 W):
 CallsIn Fence.wide 5 prog 92 #[.func (.yield l0) #[] #[],.pointer (some ⟨bl,0,none⟩),.pointer (some ⟨bn,0,none⟩),.pointer (some ⟨bp,0,none⟩),.pointer (some ⟨bk,0,none⟩)] W fun en W'=>(∃v,en= .returned v)/\Inv n W':=by
 have HG:=amy hG;have HU:=amy hU;have HY:=amy hY;have H0:=amy h0;have HL:=amy (And.intro hl (And.intro hns (And.intro hps hks)));clear hG hU hY h0 hl hns hps hks;have x0:=(HG.o 0 W H0.o).xl.bx.c 0 (.slice A n c) rfl;refine callsIn_of_wp func92 rfl trivial ?_ rfl;simp only[ntmps92,List.size_toArray,amT,List.length_nil,Nat.reduceAdd,Nat.reduceSub,Array.replicate_succ,Array.replicate_zero,List.push_toArray,List.append_toArray,List.nil_append,List.cons_append]
 gi_wp2_with fail
 clear x0
 gi_loopw [10] (fun s wr=>∃k:Nat,k<=n/\s= .int .i64 (k:Int)/\Hid (Inv k wr)) (fun s _=>(n-intOf s).toNat)
 case atStart=>exact⟨0,by omega,rfl,H0⟩
 case round=>
  obtain⟨k,hk,rfl,H⟩:=hrel;by_cases hkn:k=n
  ·replace hkn:=hkn.symm
   subst hkn;have q:decide ((n:Int)<(n:Int))=false:=am1 (by omega)
   gi_wp2_with fail
   go_end0
   exact⟨⟨_,rfl⟩,H.o⟩
  have hkl:k<n:=by omega
  have q:decide ((k:Int)<(n:Int))=true:=am2 (by omega);have qn:(k:Int)<(n:Int):=by omega
  have qn2:decide (k<n)=true:=am2 hkl;obtain⟨x,hx⟩:∃x,l[k]? =some x:=⟨l[k]'(by have:=HL.o.1;omega),by simp⟩;obtain⟨b0,o0,e0,l0',hcells⟩:=dV (cs:=aa) (m:=7) aJ (by decide) (HG.o k wr H.o).ro hx;obtain⟨y0,y1,y2,y3,y4,y5,y6⟩:=dI hcells;have HYK:=amy (fun W1=>HY.o k W1 x hkl hx);have ln:k<ns.length:=by have:=HL.o.2.1;omega
  have lp:k<ps.length:=by have:=HL.o.2.2.1;omega
  have lk:k<ks.length:=by have:=HL.o.2.2.2;omega
  rw[getElem!_pos ns k ln,getElem!_pos ps k lp,getElem!_pos ks k lk]at HYK;unfold shA at HYK;have hba:Below wr.heap.size wr (wr.alloc (.cells #[.string x.id,.string x.ins,.int .i64 x.acq,.int .i64 x.opn,.string x.q,.string x.c,.string x.u] 62)):=anp;have BD:=Bx.new wr #[.string x.id,.string x.ins,.int .i64 x.acq,.int .i64 x.opn,.string x.q,.string x.c,.string x.u] 62;have hi:=HU.o k _ _ H.o hba;have hI3:=HG.o k _ hi;obtain⟨b1,o1,e1,l1,c1⟩:=hI3.rn.at ln;obtain⟨b2,o2,e2,l2,c2⟩:=hI3.rp.at lp;obtain⟨b3,o3,e3,l3,c3⟩:=hI3.rk.at lk;generalize ae ns[k]=sn at*
  generalize ae ps[k]=sp at*
  generalize ae ks[k]=sk at*
  subst e0 e1 e2 e3;clear hcells hx hba ln lp lk
  gi_wp2_with fail
  obtain⟨W3,hW3⟩:=eX (wr.alloc (.cells #[.string x.id,.string x.ins,.int .i64 x.acq,.int .i64 x.opn,.string x.q,.string x.c,.string x.u] 62));rw[hW3]at BD hi hI3 l1 c1 l2 c2 l3 c3⊢
  generalize wr.heap.size=bx at*
  clear y0 y1 y2 y3 y4 y5 y6 hW3;have k0:=BD.k 0 (.string x.id) rfl;have k1:=BD.k 1 (.string x.ins) rfl;have k2:=BD.k 2 (.int .i64 x.acq) rfl;have k3:=BD.k 3 (.int .i64 x.opn) rfl;have k4:=BD.k 4 (.string x.q) rfl;have k5:=BD.k 5 (.string x.c) rfl;have k6:=BD.k 6 (.string x.u) rfl;have kn:=hI3.xn.bx.k 0 (.slice (some ⟨b1,o1,none⟩) n cn) rfl;have kp:=hI3.xp.bx.k 0 (.slice (some ⟨b2,o2,none⟩) n cp) rfl;have kk:=hI3.xk.bx.k 0 (.slice (some ⟨b3,o3,none⟩) n ck) rfl;have r1:∀u:Kept W3,u.W.cell? ⟨b1,o1+k,none⟩=some (.string sn):=fun u=>(u.low.cell (p:=⟨b1,o1+k,none⟩) l1).trans c1
  have r2:∀u:Kept W3,u.W.cell? ⟨b2,o2+k,none⟩=some (.string sp):=fun u=>(u.low.cell (p:=⟨b2,o2+k,none⟩) l2).trans c2
  have r3:∀u:Kept W3,u.W.cell? ⟨b3,o3+k,none⟩=some (.string sk):=fun u=>(u.low.cell (p:=⟨b3,o3+k,none⟩) l3).trans c3
  refine jN 15 (by kernel_rfl) (by kernel_rfl) (by kernel_rfl) ?_;simp only[List.take_succ_cons,List.take_zero,List.drop_succ_cons,List.drop_zero]
  repeat (go_big_quiet_step (fail))
  refine wpQuiet_nil ?_;rintro _ ⟨u,rfl⟩;have hi5:=HU.o k _ _ hi u.low;clear k0 k1 k2 k3 k4 k5 k6 kn kp kk r1 r2 r3 c1 c2 c3 hI3 hi BD;generalize u.W=W5 at*
  obtain⟨fn,tmps,assign,body,hy,hR⟩:=HYK.o W5 hi5;have HRR:=amy hR;clear hR
  gi_wp2_with fail
  refine HRR.o.mono ?_;rintro e W6 ⟨rfl,hn6⟩;have HN6:=amy hn6;clear hn6
  gi_wp2_with fail
  go_roundw
  case rel=>exact⟨k+1,by omega,by go_num,HN6⟩
  case measure=>simp[intOf];omega
end
section
open Go.RowKit Go.Shelf Dec QQ SP
theorem ajR {w w':World}{base n s:Nat}{T:TypeId}{v:Value}{xs:List Value}(h:w.ownsRow base T s v n xs)(he:∀g,v.ownBlock=some g->w'.heap[g]? =w.heap[g]?):w'.ownsRow base T s v n xs:=by
 refine⟨h.1,?_⟩;rcases h.2 with h2|⟨g,cap,cur,e1,e2,e3,r⟩
 ·exact .inl h2
 ·exact .inr ⟨g,cap,cur,e1,e2,(he g (by rw[e1];rfl)).trans e3,r⟩
theorem TBx.ne {W:World}{a b:Nat}{cs ds:Array Value}{T U:TypeId}(h:TBx W a cs T)(h':TBx W b ds U)(hne:T≠U\/cs≠ds):a≠b:=by
 rintro rfl;have e:=anj (h.symm.trans h');injection e with e1 e2
 rcases hne with hn|hn
 ·exact hn e2
 ·exact hn e1
structure M1 (w9 w12:World) (bg l0 D:Nat) (rec:Loop) (V:Value) (fl:List Lt) (ex:Int) (mx:Nat) (W:World):Prop where
 low:Below w9.heap.size w9 W
 st:∀g,g<w12.heap.size->g≠w9.heap.size->g≠bg->g≠bg+1->W.heap[g]? =w12.heap[g]?
 sz:w12.heap.size<=W.heap.size
 lp:W.heap[l0]? =some (.loop rec)
 df:W.heap[D]? =some (.deferred (some []))
 fx:∃A c,TBx W bg #[.slice A fl.length c] 22/\W.ownsRow w12.heap.size 62 7 (.slice A fl.length c) fl.length (av aa fl)
 ex:TBx W (bg+1) #[.string (ae ex)] 24
 ou:∃A m c xs,m<=mx/\TBx W w9.heap.size #[V,.slice none 0 0,.slice A m c,.slice none 0 0] 40/\W.ownsRow w12.heap.size 105 6 (.slice A m c) m xs
variable {w9 w12:World} {bg l0 D:Nat} {rec:Loop} {V:Value} {fl:List Lt} {ex:Int} {mx:Nat} {W W':World}
theorem M1.on (h:M1 w9 w12 bg l0 D rec V fl ex mx W)(hb:Below W.heap.size W W'):M1 w9 w12 bg l0 D rec V fl ex mx W':=by
 obtain⟨A,c,h1,h2⟩:=h.fx;obtain⟨B,m,d,xs,hm,h3,h4⟩:=h.ou;exact⟨h.low.trans (hb.mono h.low.size),fun g hg a b c=>(hb.block g (amS hg h.sz)).trans (h.st g hg a b c),amG h.sz hb.size,(hb.block _ (amA.1 h.lp).1).trans h.lp,(hb.block _ (amA.1 h.df).1).trans h.df,⟨A,c,h1.on hb,own_below h2 hb⟩,h.ex.on hb,⟨B,m,d,xs,hm,h3.on hb,own_below h4 hb⟩⟩
theorem M1.put (h:M1 w9 w12 bg l0 D rec V fl ex mx W)(h9:w9.heap.size<bg)(hbg:bg+1<w12.heap.size)(hl:w12.heap.size<=l0)(hD:D≠l0)(rec':Loop):M1 w9 w12 bg l0 D rec' V fl ex mx (W.putObj l0 (.loop rec')):=by
 obtain⟨A,c,h1,h2⟩:=h.fx;obtain⟨B,m,d,xs,hm,h3,h4⟩:=h.ou;refine⟨aI h.low (by omega) _,fun g hg a b c=>(World.putObj_heap_other (by omega)).trans (h.st g hg a b c),by simpa using h.sz,World.putObj_heap_same (amA.1 h.lp).1,(World.putObj_heap_other hD).trans h.df,⟨A,c,h1.put (by omega) _,ownsRow_putObj h2 _ h.lp rfl⟩,h.ex.put (by omega) _,⟨B,m,d,xs,hm,h3.put (by omega) _,ownsRow_putObj h4 _ h.lp rfl⟩⟩
theorem M1.lot (h:M1 w9 w12 bg l0 D rec V fl ex mx W)(h9:w9.heap.size<bg)(hbg:bg+1<w12.heap.size)(hl:w12.heap.size<=l0)(hD:w12.heap.size<=D){A A7:Option Addr}{c c7:Nat}{w7:World}{x:Lt}(h1:TBx W bg #[.slice A fl.length c] 22)(h2:W.ownsRow w12.heap.size 62 7 (.slice A fl.length c) fl.length (av aa fl))
 (hg:W.grownBy w7 (Value.slice A fl.length c).ownBlock) (ho:w7.ownsRow w12.heap.size 62 7 (.slice A7 (fl.length+1) c7) (fl.length+1) (av aa fl++aa x)):
 M1 w9 w12 bg l0 D rec V (fl++ [x]) ex mx (w7.setCell ⟨bg,0,none⟩ (.slice A7 (fl.length+1) c7)):=by
 obtain⟨B,m,d,xs,hm,h3,h4⟩:=h.ou;have hgb:TBx w7 bg #[.slice A fl.length c] 22:=h1.grown h2 hg (by decide);have hl9:w9.heap.size<=w12.heap.size:=by omega
 have hown:∀k,(Value.slice A fl.length c).ownBlock =some k->w12.heap.size<=k:=fE h2;refine⟨(h.low.grown hg h.low.size (fun k hk=>by have:=hown k hk;omega)).setCell (p:=⟨bg,0,none⟩) (by show w9.heap.size<=bg;omega) _,fun g hg' a b c=>(amR _ _ _ _ (by show g≠bg;omega)).trans ((hg.block g (amS hg' h.sz) (fun e=>by have:=hown g e.symm;omega)).trans (h.st g hg' a b c)),?_,(amR _ _ _ _ (by show l0≠bg;omega)).trans ((hg.block l0 (amA.1 h.lp).1 (own_ne h2 h.lp (fun cur e=>by cases e))).trans h.lp),(amR _ _ _ _ (by show D≠bg;omega)).trans ((hg.block D (amA.1 h.df).1 (own_ne h2 h.df (fun cur e=>by cases e))).trans h.df),⟨A7,c7,?_,?_⟩,(h.ex.grown h2 hg (by decide)).other (by omega) _ _,⟨B,m,d,xs,hm,(h3.grown h2 hg (by decide)).other (by omega) _ _,?_⟩⟩
 ·have:=h.sz;have:=hg.size;simp;omega
 ·rw[am0]
  exact hgb.set 0 _
 ·rw[am0]
  have e:av aa (fl++ [x])=av aa fl++aa x:=jd _ _;rw[e];exact aP ho hgb (fun cur e=>by injection e with _ e;revert e;decide) (aD _ _ _ _)
 ·exact aP (rJ h4 h2 hg (.inl (by decide))) hgb (fun cur e=>by injection e with _ e;revert e;decide) (aD _ _ _ _)
theorem M1.step (h:M1 w9 w12 bg l0 D rec V fl ex mx W)(h9:w9.heap.size<bg)(hbg:bg+1<w12.heap.size)(hl:w12.heap.size<=l0)(hD:w12.heap.size<=D){A A7:Option Addr}{m c c7:Nat}{xs ys:List Value}{w7:World}(hm:m<=mx)(h1:TBx W w9.heap.size #[V,.slice none 0 0,.slice A m c,.slice none 0 0] 40)(h2:W.ownsRow w12.heap.size 105 6 (.slice A m c) m xs)
 (hg:W.grownBy w7 (Value.slice A m c).ownBlock) (ho:w7.ownsRow w12.heap.size 105 6 (.slice A7 (m+1) c7) (m+1) ys):
 M1 w9 w12 bg l0 D rec V fl ex (mx+1) (w7.setCell ⟨w9.heap.size,2,none⟩ (.slice A7 (m+1) c7)):=by
 obtain⟨B,d,h3,h4⟩:=h.fx;have hgb:TBx w7 w9.heap.size #[V,.slice none 0 0,.slice A m c,.slice none 0 0] 40:=h1.grown h2 hg (by decide);have hown:∀k,(Value.slice A m c).ownBlock =some k->w12.heap.size<=k:=fE h2;refine⟨(h.low.grown hg h.low.size (fun k hk=>by have:=hown k hk;omega)).setCell (p:=⟨w9.heap.size,2,none⟩) ano _,fun g hg' a b c=>(amR _ _ _ _ (by show g≠w9.heap.size;omega)).trans ((hg.block g (amS hg' h.sz) (fun e=>by have:=hown g e.symm;omega)).trans (h.st g hg' a b c)),?_,(amR _ _ _ _ (by show l0≠w9.heap.size;omega)).trans ((hg.block l0 (amA.1 h.lp).1 (own_ne h2 h.lp (fun cur e=>by cases e))).trans h.lp),(amR _ _ _ _ (by show D≠w9.heap.size;omega)).trans ((hg.block D (amA.1 h.df).1 (own_ne h2 h.df (fun cur e=>by cases e))).trans h.df),⟨B,d,(h3.grown h2 hg (by decide)).other (by omega) _ _,?_⟩,(h.ex.grown h2 hg (by decide)).other (by omega) _ _,⟨A7,m+1,c7,ys,by omega,hgb.set 2 _,?_⟩⟩
 ·have:=h.sz;have:=hg.size;simp;omega
 ·exact aP (rJ h4 h2 hg (.inl (by decide))) hgb (fun cur e=>by injection e with _ e;revert e;decide) (aD _ _ _ _)
 ·exact aP ho hgb (fun cur e=>by injection e with _ e;revert e;decide) (aD _ _ _ _)
end
section
open Go.RowKit
section
variable {F:Fence} {n':Nat} {P:Program} (w:World)
theorem gY {ops:Array Oper}{rest:List Oper}{o:Oper}{a:Act}{Q:Exit->Act->World->Prop}(hgd:o.guard=none)(s x:Operand)(t:TypeId)
 (ho:o.op= .call {callee:=.builtin .append,args:= #[s,x],argTypes:= #[t,t]})
 (base:Nat) (e:TypeId) (i:TypeInfo) (z:Value) (size bytes:Nat) (ht:P.underlying t=some (.slice e)) (hi:P.info? e=some i) (hz:i.zero=some z)
 (hsize:i.size=size) (hby:i.bytes=bytes) (hzs:z.cells.size=size) (hsz:0<size)
 (v:Value) (n:Nat) (xs:List Value) (hs:a.eval s=v) (hown:w.ownsRow base e size v n xs)
 (B:Nat) (A:Option Addr) (m c:Nat) (news:List Value) (hx:a.eval x= .slice A m c) (hr:Reads w B size A m news) (h1:∀u∈news,u.oneCell'=true)
 (h63:n+m<=maxLen) (hbytes:(n+m)*bytes<=140737488355328) (hbase:base<=w.heap.size)
 (h:∀v' w',w'.ownsRow base e size v' (n+m) (xs++news)->w.grownBy w' v.ownBlock->(v'.ownBlock=v.ownBlock\/v'.ownBlock=some w.heap.size)->wpListIn F n' P ops Q rest (a.put o.dst v') w'):wpListIn F n' P ops Q (o::rest) a w:=by
 refine wpListIn_plain hgd fun K hK=>?_
 obtain⟨v',w',hr',h2,h3,h4⟩:=kT (P:=P) w base t o.type e i z size bytes ht hi hz hsize hby hzs hsz v n xs hown B A m c news hr h1 h63 hbytes hbase;unfold Oper.wpIn;refine⟨?_,?_⟩
 ·simp[Oper.about,ho,resolve,Target.leads,amM]
 ·rw[Oper.semAt_plain F _ _ (by rw[ho];intro c hc';cases hc')]
  simp[execOp,ho,resolve,invoke,builtin,hs,hx,hr',Result.andThen];exact hK _ _ (h v' w' h2 h3 h4)
end
end
end Go.Proofs.YtbkhnggmcheelaaGreatDoor
