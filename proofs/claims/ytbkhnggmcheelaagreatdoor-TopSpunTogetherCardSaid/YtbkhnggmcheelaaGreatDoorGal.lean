/- TopSpunTogether: Fractions. Conditions: bounded sizes; variables as laid. -/
import Derived.Test.YtbkhnggmcheelaaGreatDoorGak
set_option linter.unusedSimpArgs false
set_option linter.unusedVariables false
set_option maxHeartbeats 4000000
set_option maxRecDepth 100000
namespace Go.Proofs.YtbkhnggmcheelaaGreatDoor
open Proofs.Tryz
section
open Go.RowKit Go.Shelf Dec
open QQ
theorem PartsF {n d:BA}{q:Rat}(h:Vq n d q):Ret 154 #[FV n d] (.tuple #[.string (ae q.num),.string (ae q.den)]):=by
 intro w hg;have hs:=St.refl hg;obtain⟨v1,v2,f1,f2⟩:=h.vs;have K1:=dZ (n:=n) (d:=d) (by have:=h.2.2;omega);have K2:=ry v1 v2 (by have:=h.2.1;omega) (by have:=xM d;have:=h.2.2;omega) (uj d);rw[nE,h.1]at K2;unfold FV at K1⊢
 generalize ae q.num=rn at*
 generalize ae (q.den:Int)=rd at*
 generalize dn d=e at*
 clear v1 v2 f1 f2
 go_enter func154,ntmps154
 go_wp2_with fail
 refine K1.step (hs.alloc _) ?_;intro w1 hs _
 go_wp2_with fail
 refine K2.step hs ?_;intro w2 hs _
 go_wp2_with fail
 go_ret2
 exact⟨rfl,hs.2⟩
theorem OfR {n:Int}(h0: -9223372036854775808<=n)(h1:n<=9223372036854775807):Ret 194 #[.int .i64 n] (.string (ae n)):=fun w hg=>ake n w h0 h1 hg
@[local go_sem high] theorem ahT {P:Program} (w:World) (ts:Array TypeId) (t:TypeId):(Builtin.max_ ts t #[.int .i64 0,.int .i64 0,.int .i64 0,.int .i64 0,.int .i64 0,.int .i64 0,.int .i64 0]).run P w= .ok (.int .i64 0) w:=by
  rfl
end
section
open Go.RowKit Go.Shelf Dec QQ
theorem adp {k:Nat}{q:Rat}(h:bP k q):Fit k q.floor:=by
 have h1:q.floor=q.num.fdiv (q.den:Int):=by
  rw[jb (by have:=q.den_nz;omega),bO]
 rw[h1];exact xE h.1 (by omega)
theorem Vs.one:Vs ⟨#[49]⟩ 1:=⟨by decide,by decide⟩
theorem Vs.two:Vs ⟨#[50]⟩ 2:=⟨by decide,by decide⟩
theorem aiY {a:BA}{x:Int}(h:Vs a x):Ret 155 #[.string a] (.bool (evB x)):=by
 intro w hg;have hs:=St.refl hg;have K1:=DivA h Vs.two;have e1:aac x 2=(ae (x.fdiv 2),ae (x.fmod 2),0):=by unfold aac;exact if_neg (by decide)
 rw[e1]at K1;have q:((ae (x.fmod 2)).toList == [])=evB x:=by
  rw[nil_eq];unfold evB;rw[ang,Int.fmod_eq_emod_of_nonneg _ (by decide)]
 dsimp only at K1;generalize ae (x.fmod 2)=r at*
 generalize ae (x.fdiv 2)=r2 at*
 generalize evB x=v at*
 clear e1
 go_enter func155,ntmps155
 go_wp2_with fail
 refine K1.step hs ?_;intro w1 hs _
 go_wp2_with fail
 go_ret
 exact⟨rfl,hs.2⟩
def ahY (m:Int)(q:Rat):BA:=if adS m=0 then ae (pO m q)else⟨#[]⟩
theorem qZ {m:Int}{q:Rat}(h:q.num.fmod (q.den:Int)=0):pO m q=q.floor:=akz ((uZ q).1 h)
theorem aeA {m:Int}{q:Rat}(h:q.num.fmod (q.den:Int)≠0){t:Bool}(ht:upB m (il (sD q) (1/2)) (decide (q<0)) (evB q.floor)=t):pO m q=if t=true then q.floor+1 else q.floor:=by
 unfold pO;rw[if_neg (fun e=>h ((uZ q).2 e)),ht]
theorem mJ {m:Int}(h:1<=m)(h6:m<=6)(q:Rat):adS m=0/\ahY m q=ae (pO m q):=by
 have e:adS m=0:=if_neg (by omega);exact⟨e,if_pos e⟩
theorem aaa {n d:BA}{q:Rat}{k:Nat}(_:Int)(h:Vq n d q)(hf:bP k q)(hk:k<=90000):Ret 88 #[FV n d,.int .i64 1] (.tuple #[.string (ahY 1 q),.int .i64 (adS 1)]):=by
 intro w hg;have hs:=(St.refl hg).alloc (.cells #[.string n,.string d] 26);have K1:=PartsF h;have hd:(q.den:Int)≠0:=by have:=q.den_nz;omega
 have fn:Fit k q.num:=hf.1;have fd:Fit k (q.den:Int):=by have:=hf.2;unfold Fit;omega
 have v1:Vs (ae q.num) q.num:=Vs.can fn (by omega);have v2:Vs (ae (q.den:Int)) q.den:=Vs.can fd (by omega);have K2:=DivA v1 v2;have e1:aac q.num (q.den:Int)=(ae (q.num.fdiv q.den),ae (q.num.fmod q.den),0):=by unfold aac;exact if_neg hd
 rw[e1]at K2;dsimp only at K2;have fl:Fit k q.floor:=adp hf;have e2:q.num.fdiv (q.den:Int)=q.floor:=by rw[jb hd,bO]
 rw[e2]at K2;have fr:Fit k (q.num.fmod (q.den:Int)):=by
  have h1:=Int.fmod_nonneg_of_pos q.num (show 0<(q.den:Int)by omega);have h2:=Int.fmod_lt_of_pos q.num (show 0<(q.den:Int)by omega);have:=fd;unfold Fit at this⊢
  omega
 have v3:Vs (ae q.floor) q.floor:=Vs.can fl (by omega);have v4:Vs (ae (q.num.fmod (q.den:Int))) (q.num.fmod (q.den:Int)):=Vs.can fr (by omega);have K3:=abq v3 Vs.one;have K4:=aab v1 Vs.nil;have K5:=abq v4 v4;have fs:Fit (k+1) (q.num.fmod (q.den:Int)+q.num.fmod (q.den:Int)):=by
  have:=fr;unfold Fit at this⊢
  rw[anb];omega
 have K6:=aab (Vs.can fs (by omega)) v2;have e3:dW (q.num.fmod (q.den:Int)+q.num.fmod (q.den:Int)) (q.den:Int)=il (sD q) (1/2):=aiL q;rw[e3]at K6;have K7:=aiY v3;have qn:decide (dW q.num 0<0)=decide (q<0):=by rw[lW,ang];exact ak3 q
 have qr:((ae (q.num.fmod (q.den:Int))).toList == [])=decide (q.num.fmod (q.den:Int)=0):=nil_eq _;unfold FV at*
 generalize dW q.num 0=cn at*
 obtain⟨c,hc⟩:=eX (il (sD q) (1/2));obtain⟨ng,hng⟩:∃c,decide (q<0)=c:=⟨_,rfl⟩;obtain⟨ev,hev⟩:∃c,evB q.floor=c:=⟨_,rfl⟩;rw[hc]at K6;rw[hng]at qn;rw[hev]at K7;obtain⟨t1,q1⟩:∃t,decide (0<c)=t:=⟨_,rfl⟩;obtain⟨t2,q2⟩:∃t,(c==0)=t:=⟨_,rfl⟩;clear h hf hk hd fn fd v1 v2 e1 fl e2 fr v3 v4 fs e3;by_cases hz:q.num.fmod (q.den:Int)=0
 ·rw[am2 hz]at qr
  have HR:Hid (∀m,pO m q=q.floor):=fun m=>qZ hz
  have HM:Hid (∀m:Int,1<=m->m<=6->adS m=0/\ahY m q=ae (q.floor)):=fun m h1 h2=>by rw[<-HR.o m];exact mJ h1 h2 q
  have HO:Hid (∀m:Int,¬(1<=m/\m<=6)->adS m=7/\ahY m q=⟨#[]⟩):=fun m h1=>by
   have e:adS m=7:=if_pos (by omega);exact⟨e,if_neg (by rw[e];decide)⟩
  clear hz hc hng hev HR;generalize ae (q.num.fmod (q.den:Int)+q.num.fmod (q.den:Int))=s2 at*
  generalize ae (q.num.fmod (q.den:Int))=s1 at*
  generalize ae (q.floor+1)=s4 at*
  generalize ae q.floor=s3 at*
  generalize ae q.num=s5 at*
  generalize ae (q.den:Int)=s6 at*
  have HH:=HM.o 1 (by decide) (by decide);rw[HH.1,HH.2];clear HM HO HH
  go_enter func88,ntmps88
  go_wp2_with fail
  refine K1.step hs ?_;intro w1 hs _
  go_wp2_with fail
  refine K2.step hs ?_;intro w1 hs _
  go_wp2_with fail
  refine K4.step hs ?_;intro w1 hs _
  go_wp2_with fail
  refine K5.step hs ?_;intro w1 hs _
  go_wp2_with fail
  refine K6.step hs ?_;intro w1 hs _;cases t1
  ·cases t2
   ·go_wp2_with fail;go_ret2;exact⟨by rfl,hs.2⟩
   ·cases ev
    all_goals (go_wp2_with fail;refine K7.step hs ?_;intro w1 hs _;go_wp2_with fail;go_ret2;exact⟨by rfl,hs.2⟩)
  ·go_wp2_with fail;go_ret2;exact⟨by rfl,hs.2⟩
 ·rw[am1 hz]at qr
  have HR:Hid (∀m t,upB m c ng ev=t->pO m q=if t=true then q.floor+1 else q.floor):=fun m t ht=>aeA hz (by rw[hc,hng,hev];exact ht)
  have HM:Hid (∀m t,1<=m->m<=6->upB m c ng ev=t->adS m=0/\ahY m q=if t=true then ae (q.floor+1)else ae q.floor):=fun m t h1 h2 ht=>by
   have:=mJ h1 h2 q;rw[HR.o m t ht]at this;refine⟨this.1,this.2.trans ?_⟩;cases t<;>rfl
  have HO:Hid (∀m:Int,¬(1<=m/\m<=6)->adS m=7/\ahY m q=⟨#[]⟩):=fun m h1=>by
   have e:adS m=7:=if_pos (by omega);exact⟨e,if_neg (by rw[e];decide)⟩
  clear hz hc hng hev HR;generalize ae (q.num.fmod (q.den:Int)+q.num.fmod (q.den:Int))=s2 at*
  generalize ae (q.num.fmod (q.den:Int))=s1 at*
  generalize ae (q.floor+1)=s4 at*
  generalize ae q.floor=s3 at*
  generalize ae q.num=s5 at*
  generalize ae (q.den:Int)=s6 at*
  have HH:=HM.o 1 _ (by decide) (by decide) rfl;rw[show upB 1 c ng ev=(decide (0<c)||((c==0)&& !ev))from rfl,q1,q2]at HH;rw[HH.1,HH.2];clear HM HO HH
  go_enter func88,ntmps88
  go_wp2_with fail
  refine K1.step hs ?_;intro w1 hs _
  go_wp2_with fail
  refine K2.step hs ?_;intro w1 hs _
  go_wp2_with fail
  refine K3.step hs ?_;intro w1 hs _
  go_wp2_with fail
  refine K4.step hs ?_;intro w1 hs _
  go_wp2_with fail
  refine K5.step hs ?_;intro w1 hs _
  go_wp2_with fail
  refine K6.step hs ?_;intro w1 hs _;cases t1
  ·cases t2
   ·go_wp2_with fail;go_ret2;exact⟨by rfl,hs.2⟩
   ·cases ev
    all_goals (go_wp2_with fail;refine K7.step hs ?_;intro w1 hs _;go_wp2_with fail;go_ret2;exact⟨by rfl,hs.2⟩)
  ·go_wp2_with fail;go_ret2;exact⟨by rfl,hs.2⟩
end
section
open Go.RowKit Go.Shelf Dec QQ SP
theorem vq0:Vq ⟨#[]⟩ ⟨#[]⟩ 0:=⟨rfl,by decide,by decide⟩
theorem vq1:Vq ⟨#[49]⟩ ⟨#[]⟩ 1:=⟨by decide+kernel,by decide,by decide⟩
theorem fit0:bP 1 (0:Rat):=⟨by decide,by decide⟩
theorem fit1:bP 1 (1:Rat):=⟨by decide,by decide⟩
theorem afR {k:Nat}{q:Rat}(h:bP k q):Fit k q.floor:=by
 have h1:q.floor=q.num.fdiv (q.den:Int):=by
  rw[jb (by have:=q.den_nz;omega),bO]
 rw[h1];exact xE h.1 (by omega)
theorem ig {k:Nat}{z:Int}(h:Fit k z)(hk:1<=k):bP k (z:Rat):=bP.int h hk
def FR1:Value:=.agg #[.string ⟨#[49]⟩,.string ⟨#[]⟩]
theorem afP:FR (1:Rat)=FR1:=by
 unfold FR FR1;rw[show frN (1:Rat)=⟨#[49]⟩from by decide+kernel,show frD (1:Rat)=⟨#[]⟩from by decide+kernel]
theorem xC:FR (0:Rat)= .agg #[.string ⟨#[]⟩,.string ⟨#[]⟩]:=by
 unfold FR;rw[show frN (0:Rat)=⟨#[]⟩from by decide+kernel,show frD (0:Rat)=⟨#[]⟩from by decide+kernel]
theorem aiv:Ret 189 #[] (.agg #[.string ⟨#[49]⟩,.string ⟨#[]⟩]):=by
 intro w hg;have hs:=(St.refl hg).alloc (.cells #[.string ⟨#[]⟩,.string ⟨#[]⟩] 26);have B:=Bx.new w #[.string ⟨#[]⟩,.string ⟨#[]⟩] 26;have K1:=OfF (a:=⟨#[49]⟩) (x:=1) ⟨akX,by decide⟩ (by decide);rw[show ((1:Int):Rat)=1 from rfl,afP]at K1;unfold FR1 at K1
 go_enter func189,ntmps189
 go_wp2_with fail
 refine K1.step hs ?_;intro w1 hs hb;replace B:=B.on hb;have e0:=B.c 0 (.string ⟨#[]⟩) rfl;have e1:=B.c 1 (.string ⟨#[]⟩) rfl;have g0:=B.frozen 0;have g1:=B.frozen 1
 go_wp2_with fail
 obtain⟨W,hW,y0,y1,hbe⟩:=mK hs (by omega) B ⟨#[49]⟩ ⟨#[]⟩;rw[hW];exact bodyPost_ret (v:=.agg #[.string ⟨#[49]⟩,.string ⟨#[]⟩]) (by simp[results,results189,go_sem,y0,y1]) rfl ⟨rfl,hbe⟩
theorem iY {a b:BA}{q:Rat}{k:Nat}(h:Vq a b q)(hf:bP k q)(hk:k<=99999):Ret 145 #[FV a b] (.int .i64 (il q 0)):=by
 intro w hg;have hs:=(St.refl hg).alloc (.cells #[.string a,.string b] 26);have B:=Bx.new w #[.string a,.string b] 26;have K:=CmpF h vq0 (k:=k) (by rw[show q-0=q by grind];exact hf) hk;unfold FV at K⊢
 generalize il q 0=c at*
 have x0:=B.c 0 (.string a) rfl;have x1:=B.c 1 (.string b) rfl
 go_enter func145,ntmps145
 go_wp2_with fail
 refine K.step hs ?_;intro w1 hs hb
 go_wp2_with fail
 go_ret
 exact⟨rfl,hs.2⟩
theorem abX {a b:BA}{q:Rat}{k:Nat}(h:Vq a b q)(hf:bP k q)(hk:k<=90000):Ret 139 #[FV a b] (.string (ahY 1 q)):=by
 intro w hg;have hs:=(St.refl hg).alloc (.cells #[.string a,.string b] 26);have B:=Bx.new w #[.string a,.string b] 26;have K:=aaa 1 h hf hk;unfold FV at K⊢
 generalize ahY 1 q=c at*
 generalize adS 1=e at*
 have x0:=B.c 0 (.string a) rfl;have x1:=B.c 1 (.string b) rfl
 go_enter func139,ntmps139
 go_wp2_with fail
 refine K.step hs ?_;intro w1 hs hb
 go_wp2_with fail
 go_ret
 exact⟨rfl,hs.2⟩
theorem wkd_ok {d:Int}(h:sP d=true):∃v:Int,Ret 188 #[.int .i64 d] (.tuple #[.int .i64 v,.int .i64 0]):=by
 unfold sP at h;simp only[amC,decide_eq_true_eq]at h;obtain⟨h1,h2⟩:=h;have KV:Ret 237 #[.int .i64 d] (.bool true):=by
  intro w hg;have hs:=St.refl hg;have q1:decide (-25567<=d)=true:=am2 h1;have q2:decide (d<=84005)=true:=am2 h2
  go_enter func237,ntmps237
  go_wp2_with fail
  go_ret
  exact⟨by simp[h1,h2],hs.2⟩
 refine⟨(d+3+28000)%7,?_⟩;intro w hg;have hs:=St.refl hg;have e1:IntKind.i64.wrap (d+3)=d+3:=by rw[IntKind.wrap_i64];omega
 have e2:IntKind.i64.wrap (d+3+28000)=d+3+28000:=by rw[IntKind.wrap_i64];omega
 go_enter func188,ntmps188
 go_wp2_with fail
 refine KV.step hs ?_;intro w1 hs hb
 go_wp2_with fail
 go_ret2
 exact⟨rfl,hs.2⟩
theorem mZ {A:Option Addr}{n c k0:Nat}{ws:List BA}(hn:ws.length=n)(h12:n<=1000)(hk0:k0<=5000)(hz:∀s∈ws,s.size<=k0):
 iO (fun w=>Row w A (ws.map sv)) 76 #[.slice A n c] (.string (ae (iv ws).sum)):=by
 intro w hg hi;have hs:=St.refl hg;have HN:=amy hn;have HI:=amy hi;have HZ:=amy hz;have HF:Hid (∀k,Fit (k0+3) ((iv ws).take k).sum):=fun k=>mE hz (by omega)
 obtain⟨r1,hr1⟩:∃v,ae (iv ws).sum =v:=⟨_,rfl⟩;rw[hr1];have HR1:=amy hr1;have HZ0:Hid (ae ((iv ws).take 0).sum =⟨#[]⟩):=sU;clear hn hi hz hr1
 go_enter func76,ntmps76
 go_wp2_with fail
 go_loopw [8,3] (fun s a wr=>∃k:Nat,k<=n/\s= .int .i64 (k:Int)/\a= .string (ae ((iv ws).take k).sum)/\St w wr) (fun s _ _=>(n-intOf s).toNat)
 case atStart=>exact⟨0,by omega,rfl,by rw[HZ0.o],hs⟩
 case round=>
  obtain⟨k,hk,rfl,rfl,hs⟩:=hrel;by_cases hkn:k=n
  ·subst hkn
   have q:decide ((k:Int)<(k:Int))=false:=am1 (by omega);have e1:ae ((iv ws).take k).sum =r1:=by rw[amK (by rw[aQ,HN.o];omega)];exact HR1.o
   rw[e1];clear e1
   go_wp2_with fail
   go_ret
   exact⟨rfl,hs.2⟩
  ·have hkl:k<n:=by omega
   have q:decide ((k:Int)<(n:Int))=true:=am2 (by omega);have qn:decide (k<n)=true:=am2 hkl;obtain⟨s,hd⟩:∃s,ws[k]? =some s:=⟨ws[k]'(by rw[HN.o];exact hkl),by simp⟩;obtain⟨b,o,hA,hb,hc⟩:=(HI.o.on hs.2) k (sv s) (by rw[amP,hd];rfl);subst hA;have zs:=HZ.o s (amI hd);have K:=abq (Vs.can (HF.o k) (by omega)) (Vs.arg (s:=s) (by omega));rw[<-si hd]at K;unfold sv at hc;generalize ae ((iv ws).take k).sum =a at*
   obtain⟨a',ha'⟩:∃v,ae ((iv ws).take (k+1)).sum =v:=⟨_,rfl⟩;rw[ha']at K;have HA':=amy ha';clear hd ha' hkn zs
   go_wp2_with fail
   refine K.step hs ?_;intro w1 hs hb1
   go_wp2_with fail
   go_roundw
   case rel=>exact⟨k+1,by omega,by go_num,by rw[HA'.o],hs⟩
   case measure=>simp[intOf];omega
theorem uO {a b:BA}{q:Rat}{k:Nat}(h:Vq a b q)(hf:bP k q)(h1:1<=k)(hk:k<=90000):Ret 138 #[FV a b] (.tuple #[.string (ae q.floor),FR (q-(q.floor:Rat))]):=by
 intro w hg;have hs:=((St.refl hg).alloc (.cells #[.string a,.string b] 26)).alloc (.cells #[.string ⟨#[]⟩,.string ⟨#[]⟩] 26);have B:=(Bx.new w #[.string a,.string b] 26).alloc (.cells #[.string ⟨#[]⟩,.string ⟨#[]⟩] 26);have C:=Bx.new1 w (.cells #[.string a,.string b] 26) #[.string ⟨#[]⟩,.string ⟨#[]⟩] 26;have K1:=FloorF h;have hfl:Fit k q.floor:=afR hf;have K2:=OfF (Vs.can (k:=k) hfl (by omega)) (by have:=hfl.size;omega);have K3:=SubF h (Vq.fr (q:=((q.floor:Int):Rat)) (k:=k) (ig hfl h1) (by omega));unfold FR FV at*
 generalize ae q.floor=fl at*
 generalize frN ((q.floor:Int):Rat)=on at*
 generalize frD ((q.floor:Int):Rat)=od at*
 generalize frN (q-(q.floor:Rat))=rn at*
 generalize frD (q-(q.floor:Rat))=rd at*
 have x0:=B.c 0 (.string a) rfl;have x1:=B.c 1 (.string b) rfl;clear h hf hfl
 go_enter func138,ntmps138
 go_wp2_with fail
 refine K1.step hs ?_;intro w1 hs hb;replace B:=B.on hb;replace C:=C.on hb;clear x0 x1 hb K1
 go_wp2_with fail
 have k0:=B.k 0 (.string a) rfl;have k1:=B.k 1 (.string b) rfl;refine bA 6 (by kernel_rfl) (by kernel_rfl) ?_;simp only[List.take_succ_cons,List.take_zero,List.drop_succ_cons,List.drop_zero]
 repeat (go_big_quiet_step (first|(with_reducible exact K2.kept hs)|(with_reducible exact K3.kept hs)))
 refine wpQuiet_nil ?_;rintro _ ⟨u1,rfl⟩;have hs3:=hs.kept u1;have C1:=C.kept u1;have y0:=C1.c 0 (.string ⟨#[]⟩) rfl;have y1:=C1.c 1 (.string ⟨#[]⟩) rfl;have f0:=C1.frozen 0;have f1:=C1.frozen 1;clear k0 k1
 go_wp2_with fail
 obtain⟨W,hW,z0,z1,hbe⟩:=mK hs3 (by omega) C1 rn rd;rw[hW];exact bodyPost_ret (v:=.tuple #[.string fl,.agg #[.string rn,.string rd]]) (by simp[results,results138,go_sem,z0,z1]) rfl ⟨rfl,hbe⟩
def dX (t:BA)(ws:List BA):List Int:=if alE t ws≠0 then List.replicate ws.length 0 else tV (ah t) (iv ws)
theorem vQ {w:World}{n:Nat}(hn:n<=1000000):dw aO 24 1 w.heap.size (w.alloc (.cells (madeCells #[.string ⟨#[]⟩] n) 24)) (.slice (some ⟨w.heap.size,0,none⟩) n n) n (List.replicate n 0):=by
 refine⟨by simp,by rw[sF uY];simp,.inr ⟨w.heap.size,n,madeCells #[.string ⟨#[]⟩] n,rfl,am4 _,bJ w _,am4 _,by unfold maxLen;omega,by rw[size_madeCells,Nat.mul_one],?_⟩⟩;have e:av aO (List.replicate n (0:Int))=List.replicate n (.string ⟨#[]⟩):=by
  clear hn
  induction n with
  |zero=>rfl
  |succ n ih=>
   rw[List.replicate_succ,List.replicate_succ];show aO 0++av aO _=_;rw[ih];rfl
 rw[e];apply anl;intro i;rw[amZ,Nat.mul_one];by_cases hi:i<n
 ·rw[if_pos hi,amV,List.getElem?_replicate,if_pos hi]
  unfold madeCells;rw[Array.getElem?_map,Array.getElem?_range];simp[hi,Nat.mod_one]
 ·rw[if_neg hi,List.getElem?_replicate,if_neg hi]
theorem qm {A:Option Addr}{n c k0:Nat}{t:BA}{ws:List BA}(hn:ws.length=n)(h12:n<=1000)(hk0:k0<=4000)(ht:t.size<=k0)(hz:∀s∈ws,s.size<=k0)(w:World)(hg:Gl w)(hr:Row w A (ws.map sv)):
 Calls prog 140 #[.string t,.slice A n c] w fun e w'=>∃v,e= .returned v/\dw aO 24 1 w.heap.size w' v n (dX t ws)/\Below w.heap.size w w':=by
 have hs:=St.refl hg;have K:=amy (uw (A:=A) (c:=c) (n:=n) (k0:=k0) (t:=t) (ws:=ws) hn (.inl h12) (by omega) hk0 ht hz w hg hr);obtain⟨i0,hi,hz0,hz1,hz2⟩:=info_parts (P:=prog) (e:=24) (z:=.string ⟨#[]⟩) (size:=1) (bytes:=16) (by kernel_rfl);have HM:∀u:World,(Instr.makeSlice 153 (.int .i64 (n:Int)) (.int .i64 (n:Int))).run prog u= .ok (.slice (some ⟨u.heap.size,0,none⟩) n n) (u.alloc (.cells (madeCells #[.string ⟨#[]⟩] n) 24)):=by
  intro u;have:=run_make u 153 24 i0 (.string ⟨#[]⟩) (by kernel_rfl) hi hz0 .i64 .i64 (n:Int) (n:Int) (by omega) (Int.le_refl _) (by rw[hz2];omega) (by omega);rw[anm,hz1,Nat.mul_one]at this;exact this
 clear hi hz0 hz1 hz2;have HLn:Hid ((tV (ah t) (iv ws)).length =n):=by show _=_;rw[dz,aQ,hn]
 unfold dX;rw[hn];by_cases he:alE t ws=0
 ·have e1:alS t ws=tV (ah t) (iv ws):=if_pos he
  rw[if_neg (by simp[he])];rw[he,e1]at K;generalize tV (ah t) (iv ws)=xs at*
  clear he e1 hr hz ht HM
  go_enter func140,ntmps140
  go_wp2_with fail
  refine K.o.mono ?_;rintro e w1 ⟨v,rfl,ho,hb⟩;have hl:=ho.1;have HO:=amy ho;have HB:=amy hb;clear ho hb K
  go_wp2_with fail
  go_ret
  refine⟨v,rfl,⟨HLn.o,?_⟩,HB.o⟩;have:=HO.o.2;rw[HLn.o]at this;exact this
 ·have q:(alE t ws !=0)=true:=by simpa using he
  rw[if_pos he];generalize alE t ws=ee at*
  generalize alS t ws=xs at*
  clear hr hz ht he
  go_enter func140,ntmps140
  go_wp2_with fail
  refine K.o.mono ?_;rintro e w1 ⟨v,rfl,ho,hb⟩;have HB:=amy hb;clear ho hb K
  go_wp2_with fail
  go_ret
  have:=vQ (w:=w1) (n:=n) (by omega);exact⟨.slice (some ⟨w1.heap.size,0,none⟩) n n,rfl,⟨this.1,aS this.2 HB.o.size⟩,HB.o.alloc HB.o.size _⟩
end
section
open Go.RowKit Go.Shelf Dec QQ SP
structure MapS where
 cause:BA
 day:Int
 ins:BA
 oth:BA
 rn:BA
 rd:BA
 sn:BA
 sd:BA
 pn:BA
 pd:BA
 keep:Bool
def mpA (m:MapS):Array Value:= #[.string m.cause,.int .i64 m.day,.string m.ins,.string m.oth,.string m.rn,.string m.rd,.string m.sn,.string m.sd,.string m.pn,.string m.pd,.bool m.keep]
def mpV (m:MapS):Value:=.agg (mpA m)
def MapS.r (m:MapS):Rat:=bV m.rn m.rd
def MapS.s (m:MapS):Rat:=bV m.sn m.sd
def MapS.p (m:MapS):Rat:=bV m.pn m.pd
structure MOk (m:MapS):Prop where
 cause:aG m.cause=true
 ins:aG m.ins=true
 oth:aG m.oth=true
 day:sP m.day=true
 cr:vI m.rn m.rd=0
 cs:vI m.sn m.sd=0
 cp:vI m.pn m.pd=0
 zr:m.rn.size<=100/\m.rd.size<=100
 zs:m.sn.size<=100/\m.sd.size<=100
 zp:m.pn.size<=100/\m.pd.size<=100
 pr:0<m.r
 ps:0<=m.s/\m.s<=1
 pp:0<=m.p
 kp:m.keep=true->m.oth≠m.ins
 nk:m.keep=false->m.sn=⟨#[49]⟩/\m.sd=⟨#[]⟩
theorem wX {s:BA}(h:aG s=true):s.size<=16:=by
 unfold aG at h;simp only[amC,decide_eq_true_eq]at h;exact h.1.2
theorem aji {p q:Rat}(h:q<p):¬il p q<=0:=by
 unfold il;rw[if_neg (by grind),if_neg (by grind)];decide
theorem acp {p q:Rat}(h:q<=p):¬il p q<0:=by
 unfold il;rw[if_neg (by grind)];split<;>decide
theorem ajj {p q:Rat}(h:p<=q):¬0<il p q:=by
 unfold il;by_cases h1:p<q
 ·rw[if_pos h1];decide
 ·rw[if_neg h1,if_pos (by grind)];decide
theorem ak9 {m:MapS}(h:MOk m):Ret 137 #[mpV m] (.int .i64 0):=by
 intro w hg;have hs:=(St.refl hg).alloc (.cells (mpA m) 76);have X:=Bx.new w (mpA m) 76;have HX:=amy X;clear X;obtain⟨wv,KW0⟩:=wkd_ok h.day;have KW:=amy KW0;clear KW0;have K1:=NmR (s:=m.cause) (by have:=wX h.cause;omega);have K2:=NmR (s:=m.ins) (by have:=wX h.ins;omega);have K3:=NmR (s:=m.oth) (by have:=wX h.oth;omega);rw[h.cause]at K1;rw[h.ins]at K2;rw[h.oth]at K3;have C1:=ChkF (a:=m.rn) (b:=m.rd) (by have:=h.zr;omega) (by have:=h.zr;omega);have C2:=ChkF (a:=m.sn) (b:=m.sd) (by have:=h.zs;omega) (by have:=h.zs;omega);have C3:=ChkF (a:=m.pn) (b:=m.pd) (by have:=h.zp;omega) (by have:=h.zp;omega);rw[h.cr]at C1;rw[h.cs]at C2;rw[h.cp]at C3;have vr:Vq m.rn m.rd m.r:=Vq.arg (by have:=h.zr;omega) (by have:=h.zr;omega);have vs:Vq m.sn m.sd m.s:=Vq.arg (by have:=h.zs;omega) (by have:=h.zs;omega);have vp:Vq m.pn m.pd m.p:=Vq.arg (by have:=h.zp;omega) (by have:=h.zp;omega);have fr:bP 100 m.r:=bP.arg h.zr.1 h.zr.2 (by omega);have fs:bP 100 m.s:=bP.arg h.zs.1 h.zs.2 (by omega);have fp:bP 100 m.p:=bP.arg h.zp.1 h.zp.2 (by omega);have S1:=iY vr fr (by omega);have S2:=iY vs fs (by omega);have S3:=iY vp fp (by omega);have S4:=CmpF vs vq1 (fs.sub (fit1.mono (by omega:1<=100))) (by omega);have KO:=aiv;have g1:=aji h.pr;have g2:=acp h.ps.1;have g3:=ajj h.ps.2;have g4:=acp h.pp;have HK:=amy h.kp;have HNK:=amy h.nk;obtain⟨cause,day,ins,oth,rn,rd,sn,sd,pn,pd,keep⟩:=m;dsimp only[mpV,mpA,MapS.r,MapS.s,MapS.p,FV]at*
 obtain⟨c1,hc1⟩:∃c,il (bV rn rd) 0=c:=⟨_,rfl⟩;rw[hc1]at S1 g1;clear hc1;replace g1:=am1 g1;obtain⟨c2,hc2⟩:∃c,il (bV sn sd) 0=c:=⟨_,rfl⟩;rw[hc2]at S2 g2;clear hc2;replace g2:=am1 g2;obtain⟨c3,hc3⟩:∃c,il (bV sn sd) 1=c:=⟨_,rfl⟩;rw[hc3]at S4 g3;clear hc3;replace g3:=am1 g3;obtain⟨c4,hc4⟩:∃c,il (bV pn pd) 0=c:=⟨_,rfl⟩;rw[hc4]at S3 g4;clear hc4;replace g4:=am1 g4;clear h vr vs vp fr fs fp;have HK1:=amy K1;have HK2:=amy K2;have HK3:=amy K3;have HC1:=amy C1;have HC2:=amy C2;have HC3:=amy C3;clear K1 K2 K3 C1 C2 C3;have x1:=HX.o.c 1 (.int .i64 day) rfl
 go_enter func137,ntmps137
 go_wp2_with fail
 clear x1;refine KW.o.step hs ?_;intro w1 hs hb;replace HX:=amy (HX.o.on hb);clear hb KW;have x0:=HX.o.c 0 (.string cause) rfl
 go_wp2_with fail
 clear x0;refine HK1.o.step hs ?_;intro w2 hs hb;replace HX:=amy (HX.o.on hb);clear hb HK1;have x2:=HX.o.c 2 (.string ins) rfl
 go_wp2_with fail
 clear x2;refine HK2.o.step hs ?_;intro w3 hs hb;replace HX:=amy (HX.o.on hb);clear hb HK2;have x3:=HX.o.c 3 (.string oth) rfl
 go_wp2_with fail
 clear x3;refine HK3.o.step hs ?_;intro w4 hs hb;replace HX:=amy (HX.o.on hb);clear hb HK3;have x4:=HX.o.c 4 (.string rn) rfl;have x5:=HX.o.c 5 (.string rd) rfl
 go_wp2_with fail
 clear x4 x5;refine HC1.o.step hs ?_;intro w5 hs hb;replace HX:=amy (HX.o.on hb);clear hb HC1;have x6:=HX.o.c 6 (.string sn) rfl;have x7:=HX.o.c 7 (.string sd) rfl
 go_wp2_with fail
 clear x6 x7;refine HC2.o.step hs ?_;intro w6 hs hb;replace HX:=amy (HX.o.on hb);clear hb HC2;have x8:=HX.o.c 8 (.string pn) rfl;have x9:=HX.o.c 9 (.string pd) rfl
 go_wp2_with fail
 clear x8 x9;refine HC3.o.step hs ?_;intro w7 hs hb;replace HX:=amy (HX.o.on hb);clear hb HC3
 go_wp2_with fail
 have k4:=HX.o.k 4 (.string rn) rfl;have k5:=HX.o.k 5 (.string rd) rfl;have k6:=HX.o.k 6 (.string sn) rfl;have k7:=HX.o.k 7 (.string sd) rfl;have k8:=HX.o.k 8 (.string pn) rfl;have k9:=HX.o.k 9 (.string pd) rfl;refine ax (by kernel_rfl) (by kernel_rfl) ?_
 repeat (go_big_quiet_step (first|(with_reducible exact S1.kept hs)|(with_reducible exact S2.kept hs)|(with_reducible exact KO.kept hs)|(with_reducible exact S4.kept hs)|(with_reducible exact S3.kept hs)))
 refine wpQuiet_nil ?_;rintro _ ⟨u1,rfl⟩;replace HX:=amy (HX.o.kept u1);have h8:=hs.kept u1;clear k4 k5 k6 k7 k8 k9 S1 S2 S3 S4;generalize u1.W=w8 at*
 have x10:=HX.o.c 10 (.bool keep) rfl;have x2:=HX.o.c 2 (.string ins) rfl;have x3:=HX.o.c 3 (.string oth) rfl;cases keep with
 |true=>
  have q1:(oth.toList==ins.toList)=false:=by
   cases hq:(oth.toList==ins.toList)with
   |false=>rfl
   |true=>exact absurd (dH.1 hq) (HK.o rfl)
  go_wp2_with fail
  have k10:=HX.o.k 10 (.bool true) rfl;refine ax (by kernel_rfl) (by kernel_rfl) ?_
  repeat (go_big_quiet_step (fail))
  refine wpQuiet_nil ?_;rintro _ ⟨u2,rfl⟩;have h9:=h8.kept u2;clear k10
  go_wp2_with fail
  go_ret
  exact⟨rfl,h9.2⟩
 |false=>
  obtain⟨e1,e2⟩:=HNK.o rfl;subst e1 e2
  go_wp2_with fail
  have k10:=HX.o.k 10 (.bool false) rfl;have k6:=HX.o.k 6 (.string ⟨#[49]⟩) rfl;have k7:=HX.o.k 7 (.string ⟨#[]⟩) rfl;refine ax (by kernel_rfl) (by kernel_rfl) ?_
  repeat (go_big_quiet_step (with_reducible exact KO.kept h8))
  refine wpQuiet_nil ?_;rintro _ ⟨u2,rfl⟩;have h9:=h8.kept u2;clear k10 k6 k7
  go_wp2_with fail
  go_ret
  exact⟨rfl,h9.2⟩
theorem oh {A:Option Addr}{n c:Nat}{l:List Lt}{m:MapS}(hn:l.length=n)(hm:n<=1000000)(hz:∀x∈l,x.le 1000)(h:MOk m):iO (fun w=>Row w A (av aa l)) 70 #[.slice A n c,mpV m] (.bool (aN l==0)):=by
 intro w hg hi;have hs:=(St.refl hg).alloc (.cells (mpA m) 76);have X:=Bx.new w (mpA m) 76;have HX:=amy X;have HR:=amy (hi.on ((am3 _ _).alloc ano (.cells (mpA m) 76)));have K1:=amy (qx (A:=A) (c:=c) hn hm hz);have K2:=amy (ak9 h);generalize aN l=e at*
 generalize q0:(e==0)=b at*
 obtain⟨cause,day,ins,oth,rn,rd,sn,sd,pn,pd,keep⟩:=m;dsimp only[mpV,mpA]at*
 clear X h hi hn hz
 go_enter func70,ntmps70
 go_wp2_with fail
 refine K1.o.step hs HR.o ?_;intro w1 hs hb;replace HX:=amy (HX.o.on hb);clear hb K1;cases b with
 |false=>
  go_wp2_with fail
  go_ret
  exact⟨rfl,hs.2⟩
 |true=>
  have x0:=HX.o.c 0 (.string cause) rfl;have x1:=HX.o.c 1 (.int .i64 day) rfl;have x2:=HX.o.c 2 (.string ins) rfl;have x3:=HX.o.c 3 (.string oth) rfl;have x4:=HX.o.c 4 (.string rn) rfl;have x5:=HX.o.c 5 (.string rd) rfl;have x6:=HX.o.c 6 (.string sn) rfl;have x7:=HX.o.c 7 (.string sd) rfl;have x8:=HX.o.c 8 (.string pn) rfl;have x9:=HX.o.c 9 (.string pd) rfl;have x10:=HX.o.c 10 (.bool keep) rfl
  go_wp2_with fail
  refine K2.o.step hs ?_;intro w2 hs hb;clear x0 x1 x2 x3 x4 x5 x6 x7 x8 x9 x10
  go_wp2_with fail
  go_ret
  exact⟨rfl,hs.2⟩
end
section
open Go.RowKit Go.Shelf Dec QQ SP
structure PlS where
 m:MapS
 A:Option Addr
 n:Nat
 c:Nat
 parts:BA
 an:BA
 ad:BA
 AN:Option Addr
 cN:Nat
 AM:Option Addr
 cM:Nat
 AF:Option Addr
 cF:Nat
 AP:Option Addr
 cP:Nat
def plA (p:PlS):Array Value:= #[.string p.m.cause,.int .i64 p.m.day,.string p.m.ins,.string p.m.oth,.string p.m.rn,.string p.m.rd,.string p.m.sn,.string p.m.sd,.string p.m.pn,.string p.m.pd,.bool p.m.keep,.slice p.A p.n p.c,.string p.parts,.string p.an,.string p.ad,.slice p.AN p.n p.cN,.slice p.AM p.n p.cM,.slice p.AF p.n p.cF,.slice p.AP p.n p.cP]
def plV (p:PlS):Value:=.agg (plA p)
theorem dY {I:World->Prop}{f:FuncId}{args:Array Value}{V:Value}{w0 w:World}(h:iO I f args V)(hs:St w0 w)(hI:∀u:Kept w,I u.W){u:Kept w}:Calls prog f args u.W fun e w''=>e= .returned V/\∃u':Kept w,w''=u'.W:=
 (h u.W (hs.gl.below u.low) (hI u)).mono fun _ w' ⟨he,hb⟩=>⟨he,⟨⟨w',u.low.trans (hb.mono u.low.size)⟩,rfl⟩⟩
def idS (cause:BA)(k:Nat):BA:=cause++⟨#[47]⟩++ae (k:Int)
theorem PrtK {k:Nat}(h:1<=k)(hk:k<=1000000):Ret 193 #[.string (ae (k:Int))] (.string (ae (k:Int))):=fun w _=>by
 have hf:Fit 7 (k:Int):=by show (k:Int).natAbs <10^7;omega
 have:=yL (ae (k:Int)) w (by have:=hf.size;omega);rw[aK]at this;unfold prt at this;rw[if_neg (by omega)]at this;exact this
theorem OfK {k:Nat}(hk:k<=1000000):Ret 194 #[.int .i64 (k:Int)] (.string (ae (k:Int))):=fun w hg=>ake (k:Int) w (by omega) (by omega) hg
theorem akN (p:PlS){k:Nat}(hc:p.m.cause.size<=1000)(h:1<=k)(hk:k<=1000000):Ret 144 #[plV p,.int .i64 (k:Int)] (.string (idS p.m.cause k)):=by
 intro w hg;have hs:=(St.refl hg).alloc (.cells (plA p) 155);have X:=Bx.new w (plA p) 155;have K1:=OfK hk;have K2:=PrtK h hk;have hz:(ae (k:Int)).size <=8:=by
  have hf:Fit 7 (k:Int):=by show (k:Int).natAbs <10^7;omega
  exact hf.size
 unfold idS;obtain⟨⟨cause,day,ins,oth,rn,rd,sn,sd,pn,pd,keep⟩,A,n,c,parts,an,ad,AN,cN,AM,cM,AF,cF,AP,cP⟩:=p;dsimp only[plV,plA]at*
 generalize ae (k:Int)=ck at*
 have q1:∀u,(Op.stringOp .add cause ⟨#[47]⟩).run prog u= .ok (.string (cause++⟨#[47]⟩)) u:=fun u=>run_string_add_sum _ _ _ (by show cause.size+1<=_;omega)
 have q2:∀u,(Op.stringOp .add (cause++⟨#[47]⟩) ck).run prog u= .ok (.string (cause++⟨#[47]⟩++ck)) u:=fun u=>run_string_add_sum _ _ _ (by rw[ByteArray.size_append];show cause.size+1+_<=_;omega)
 go_enter func144,ntmps144
 go_wp2_with fail
 have k0:=X.k 0 (.string cause) rfl;refine ax (by kernel_rfl) (by kernel_rfl) ?_
 repeat (go_big_quiet_step (first|(with_reducible exact K1.kept hs)|(with_reducible exact K2.kept hs)))
 refine wpQuiet_nil ?_;rintro _ ⟨u,rfl⟩;have hs1:=hs.kept u
 go_wp2_with fail
 go_ret
 exact⟨rfl,hs1.2⟩
def pW (w:World)(A:Option Addr)(xs:List Int):Prop:=Row w A (av aO xs)
theorem pW.at {w:World}{A:Option Addr}{xs:List Int}(h:pW w A xs){k:Nat}(hk:k<xs.length):∃b o,A=some ⟨b,o,none⟩/\b<w.heap.size/\w.cell? ⟨b,o+k,none⟩=some (.string (ae xs[k])):=by
 obtain⟨b,o,hA,hb,hc⟩:=dV (cs:=aO) (m:=1) uY (by decide) h (amB hk);refine⟨b,o,hA,hb,?_⟩;have:=hc 0 (.string (ae xs[k])) rfl;rw[Nat.mul_one,Nat.add_zero]at this;exact this
theorem pW.on {w w':World}{A:Option Addr}{xs:List Int}(h:pW w A xs)(hb:Below w.heap.size w w'):pW w' A xs:=Row.on h hb
theorem uI (p:PlS){ms fs:List Int}{k K:Nat}(hm:ms.length=p.n)(hf:fs.length=p.n)(hk:k<p.n)(hK:K<=5000)(zm:∀x∈ms,Fit K x)(zf:∀x∈fs,Fit K x)(hn:p.n<=1000000):
 iO (fun w=>pW w p.AM ms/\pW w p.AF fs) 143 #[plV p,.int .i64 (k:Int)] (.string (ae (ms[k]! -fs[k]!))):=by
 intro w hg hi;have hs:=(St.refl hg).alloc (.cells (plA p) 155);have X:=Bx.new w (plA p) 155;have hbA:Below w.heap.size w (w.alloc (.cells (plA p) 155)):=anp;obtain⟨b1,o1,e1,l1,c1⟩:=(hi.1.on hbA).at (k:=k) (by omega);obtain⟨b2,o2,e2,l2,c2⟩:=(hi.2.on hbA).at (k:=k) (by omega);have g1:ms[k]! =ms[k]'(by omega):=getElem!_pos ms k (by omega);have g2:fs[k]! =fs[k]'(by omega):=getElem!_pos fs k (by omega);have f1:=zm _ (List.getElem_mem (by omega:k<ms.length));have f2:=zf _ (List.getElem_mem (by omega:k<fs.length));have KS:=ahs (Vs.can f1 (by omega)) (Vs.can f2 (by omega));rw[g1,g2];generalize ms[k]'(by omega)=x at*
 generalize fs[k]'(by omega)=y at*
 generalize ae (x-y)=r at*
 generalize ae x=sx at*
 generalize ae y=sy at*
 have qk:(k:Int)<(p.n:Int):=by omega
 obtain⟨⟨cause,day,ins,oth,rn,rd,sn,sd,pn,pd,keep⟩,A,n,c,parts,an,ad,AN,cN,AM,cM,AF,cF,AP,cP⟩:=p;dsimp only[plV,plA]at*
 subst e1 e2;clear hi hbA g1 g2 f1 f2 zm zf hm hf
 go_enter func143,ntmps143
 go_wp2_with fail
 have k16:=X.k 16 (.slice (some ⟨b1,o1,none⟩) n cM) rfl;have k17:=X.k 17 (.slice (some ⟨b2,o2,none⟩) n cF) rfl;have d1:∀u:Kept _,u.W.cell? ⟨b1,o1+k,none⟩=some (.string sx):=Kept.cell_of c1;have d2:∀u:Kept _,u.W.cell? ⟨b2,o2+k,none⟩=some (.string sy):=Kept.cell_of c2;clear c1 c2;refine ax (by kernel_rfl) (by kernel_rfl) ?_
 repeat (go_big_quiet_step (with_reducible exact KS.kept hs))
 refine wpQuiet_nil ?_;rintro _ ⟨u,rfl⟩;have hs1:=hs.kept u
 go_wp2_with fail
 go_ret
 exact⟨rfl,hs1.2⟩
theorem acZ (p:PlS)(h1:p.an=⟨#[]⟩)(h2:p.ad=⟨#[]⟩):Ret 74 #[plV p] (.slice none 0 0):=by
 intro w hg;have hs:=(St.refl hg).alloc (.cells (plA p) 155);have X:=Bx.new w (plA p) 155;have K:=iY (a:=⟨#[]⟩) (b:=⟨#[]⟩) (q:=0) (k:=1) vq0 fit0 (by omega);rw[show il 0 0=0 by decide+kernel]at K;unfold FV at*
 obtain⟨⟨cause,day,ins,oth,rn,rd,sn,sd,pn,pd,keep⟩,A,n,c,parts,an,ad,AN,cN,AM,cM,AF,cF,AP,cP⟩:=p;dsimp only[plV,plA]at*
 subst h1 h2;have x13:=X.c 13 (.string ⟨#[]⟩) rfl;have x14:=X.c 14 (.string ⟨#[]⟩) rfl
 go_enter func74,ntmps74
 go_wp2_with fail
 refine K.step hs ?_;intro w1 hs hb
 go_wp2_with fail
 go_ret
 exact⟨rfl,hs.2⟩
theorem nV (p:PlS)(w:World):Calls prog 72 #[plV p] w fun e w'=>e= .returned (.func (.func 142) #[] #[.pointer (some ⟨w.heap.size,0,none⟩)])/\w'=w.alloc (.cells (plA p) 155):=by
 obtain⟨⟨cause,day,ins,oth,rn,rd,sn,sd,pn,pd,keep⟩,A,n,c,parts,an,ad,AN,cN,AM,cM,AF,cF,AP,cP⟩:=p;dsimp only[plV,plA]at*
 go_enter func72,ntmps72
 go_wp2
 go_ret
 exact⟨rfl,rfl⟩
end
end Go.Proofs.YtbkhnggmcheelaaGreatDoor
