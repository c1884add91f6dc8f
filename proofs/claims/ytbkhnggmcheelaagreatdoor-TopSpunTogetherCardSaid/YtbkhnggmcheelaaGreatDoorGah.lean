/- TopSpunTogether: Fraction. Conditions: bounded sizes; variables as laid. -/
import Derived.Test.YtbkhnggmcheelaaGreatDoorGag
set_option linter.unusedSimpArgs false
set_option linter.unusedVariables false
set_option maxHeartbeats 4000000
set_option maxRecDepth 100000
namespace Go.Proofs.YtbkhnggmcheelaaGreatDoor
open Proofs.Tryz
section
open Go.RowKit Go.Shelf Dec QQ
theorem lg (w:World)(T:TypeId)(c0 c1 c2:Array Value):∃W,((w.alloc (.cells c0 T)).alloc (.cells c1 T)).alloc (.cells c2 T)=W/\Bx W w.heap.size c0/\Bx W (w.heap.size+1) c1/\Bx W (w.heap.size+1+1) c2/\Below w.heap.size w W:=
 ⟨_,rfl,((Bx.new w c0 T).alloc _).alloc _,(Bx.new1 w _ c1 T).alloc _,Bx.new2 w _ _ c2 T,(((am3 _ w).alloc ano _).alloc (by simp) _).alloc (by simp;omega) _⟩
theorem idx1 (g:Nat)(u:World):(Instr.index 90 (.agg #[.func (.func 80) #[] #[.pointer (some ⟨g,0,none⟩)],.func (.func 81) #[] #[.pointer (some ⟨g,0,none⟩)],.func (.func 82) #[] #[.pointer (some ⟨g,0,none⟩)],.func (.func 83) #[] #[.pointer (some ⟨g,0,none⟩)]]) (.int .i64 1)).run prog u= .ok (.func (.func 81) #[] #[.pointer (some ⟨g,0,none⟩)]) u:=by kernel_rfl
theorem idx2 (g:Nat)(u:World):(Instr.index 90 (.agg #[.func (.func 80) #[] #[.pointer (some ⟨g,0,none⟩)],.func (.func 81) #[] #[.pointer (some ⟨g,0,none⟩)],.func (.func 82) #[] #[.pointer (some ⟨g,0,none⟩)],.func (.func 83) #[] #[.pointer (some ⟨g,0,none⟩)]]) (.int .i64 2)).run prog u= .ok (.func (.func 82) #[] #[.pointer (some ⟨g,0,none⟩)]) u:=by kernel_rfl
theorem idx3 (g:Nat)(u:World):(Instr.index 90 (.agg #[.func (.func 80) #[] #[.pointer (some ⟨g,0,none⟩)],.func (.func 81) #[] #[.pointer (some ⟨g,0,none⟩)],.func (.func 82) #[] #[.pointer (some ⟨g,0,none⟩)],.func (.func 83) #[] #[.pointer (some ⟨g,0,none⟩)]]) (.int .i64 3)).run prog u= .ok (.func (.func 83) #[] #[.pointer (some ⟨g,0,none⟩)]) u:=by kernel_rfl
theorem ahe {a b c d:BA}{r:Rat}(KA:Hid (∀g w,Gl w->Bx w g #[ug]->Calls prog 30 #[opV 81 g,FV a b,FV c d] w fun e w'=>e= .returned (FR r)/\Below w.heap.size w w')):
 Ret 66 #[FV a b,FV c d] (FR r):=by
 intro w hg;unfold FR at KA⊢
 unfold FV at KA⊢
 generalize frN r=rn at*
 generalize frD r=rd at*
 obtain⟨W,hW,B0,B1,B2,hbw⟩:=lg w 26 #[.string a,.string b] #[.string c,.string d] #[.string ⟨#[]⟩,.string ⟨#[]⟩];have HW:=amy hW;clear hW;have hs:St w W:=⟨hg,hbw⟩;have hi:=idx1;have c0:=B0.c 0 (.string a) rfl;have c1:=B0.c 1 (.string b) rfl;have c2:=B1.c 0 (.string c) rfl;have c3:=B1.c 1 (.string d) rfl;have c4:=B2.c 0 (.string ⟨#[]⟩) rfl;have c5:=B2.c 1 (.string ⟨#[]⟩) rfl;have c6:=B2.frozen 0;have c7:=B2.frozen 1
 go_enter func66,ntmps66
 go_wp2_with fail
 rw[HW.o];clear HW;obtain⟨B,hB⟩:=eX (w.heap.size);have HB:=amy hB;rw[hB]at B0 B1 B2 c0 c1 c2 c3 c4 c5 c6 c7⊢
 clear hB
 go_region_held3 (fun w'=>w'.cell? ⟨B,0,none⟩=some (.string a)/\w'.cell? ⟨B,1,none⟩=some (.string b)/\w'.cell? ⟨B+1,0,none⟩=some (.string c)/\w'.cell? ⟨B+1,1,none⟩=some (.string d))
  (first
   |(go_keep;done)
   |exact⟨((E0.other (by omega) 0 (.string rn)).other (by omega) 1 (.string rd)).cell rfl,((E0.other (by omega) 0 (.string rn)).other (by omega) 1 (.string rd)).cell rfl,((E1.other (by omega) 0 (.string rn)).other (by omega) 1 (.string rd)).cell rfl,((E1.other (by omega) 0 (.string rn)).other (by omega) 1 (.string rd)).cell rfl⟩
   |exact⟨x30,x31,x32,x33⟩
   |exact⟨x20,x21,x22,x23⟩)
  (first
   |(go_at_call 31;refine(iI _).mono ?_;rintro e w2 ⟨g,rfl,hx2,hb2⟩;have hs2:=hs.drew.on hb2;have D0:=B0.drew.on hb2;have D1:=B1.drew.on hb2;have D2:=B2.drew.on hb2;have x20:=D0.c 0 (.string a) rfl;have x21:=D0.c 1 (.string b) rfl;have x22:=D1.c 0 (.string c) rfl;have x23:=D1.c 1 (.string d) rfl;have x24:=D2.c 0 (.string ⟨#[]⟩) rfl;have x25:=D2.c 1 (.string ⟨#[]⟩) rfl;have x26:=D2.frozen 0;have x27:=D2.frozen 1;unfold opsV opV)
   |(go_at_call 30;refine(KA.o g _ hs2.gl hx2).mono ?_;rintro e w3 ⟨rfl,hb3⟩;have hs3:=hs2.on hb3;have E0:=D0.on hb3;have E1:=D1.on hb3;have E2:=D2.on hb3;have x30:=E0.c 0 (.string a) rfl;have x31:=E0.c 1 (.string b) rfl;have x32:=E1.c 0 (.string c) rfl;have x33:=E1.c 1 (.string d) rfl;have x34:=E2.c 0 (.string ⟨#[]⟩) rfl;have x35:=E2.c 1 (.string ⟨#[]⟩) rfl;have x36:=E2.frozen 0;have x37:=E2.frozen 1))
 go_wp2_with fail
 have B6:=(E2.set 0 (.string rn)).set 1 (.string rd);have y0:=B6.c 0 (.string rn) rfl;have y1:=B6.c 1 (.string rd) rfl;have hs4:=(hs3.set (b:=B+1+1) (by have:=HB.o;omega) 0 (.string rn)).set (b:=B+1+1) (by have:=HB.o;omega) 1 (.string rd);exact bodyPost_ret (v:=.agg #[.string rn,.string rd]) (by simp[results,results66,go_sem,y0,y1]) rfl ⟨rfl,hs4.2⟩
theorem ahj {a b c d:BA}{r:Rat}(KA:Hid (∀g w,Gl w->Bx w g #[ug]->Calls prog 30 #[opV 82 g,FV a b,FV c d] w fun e w'=>e= .returned (FR r)/\Below w.heap.size w w')):
 Ret 87 #[FV a b,FV c d] (FR r):=by
 intro w hg;unfold FR at KA⊢
 unfold FV at KA⊢
 generalize frN r=rn at*
 generalize frD r=rd at*
 obtain⟨W,hW,B0,B1,B2,hbw⟩:=lg w 26 #[.string a,.string b] #[.string c,.string d] #[.string ⟨#[]⟩,.string ⟨#[]⟩];have HW:=amy hW;clear hW;have hs:St w W:=⟨hg,hbw⟩;have hi:=idx2;have c0:=B0.c 0 (.string a) rfl;have c1:=B0.c 1 (.string b) rfl;have c2:=B1.c 0 (.string c) rfl;have c3:=B1.c 1 (.string d) rfl;have c4:=B2.c 0 (.string ⟨#[]⟩) rfl;have c5:=B2.c 1 (.string ⟨#[]⟩) rfl;have c6:=B2.frozen 0;have c7:=B2.frozen 1
 go_enter func87,ntmps87
 go_wp2_with fail
 rw[HW.o];clear HW;obtain⟨B,hB⟩:=eX (w.heap.size);have HB:=amy hB;rw[hB]at B0 B1 B2 c0 c1 c2 c3 c4 c5 c6 c7⊢
 clear hB
 go_region_held3 (fun w'=>w'.cell? ⟨B,0,none⟩=some (.string a)/\w'.cell? ⟨B,1,none⟩=some (.string b)/\w'.cell? ⟨B+1,0,none⟩=some (.string c)/\w'.cell? ⟨B+1,1,none⟩=some (.string d))
  (first
   |(go_keep;done)
   |exact⟨((E0.other (by omega) 0 (.string rn)).other (by omega) 1 (.string rd)).cell rfl,((E0.other (by omega) 0 (.string rn)).other (by omega) 1 (.string rd)).cell rfl,((E1.other (by omega) 0 (.string rn)).other (by omega) 1 (.string rd)).cell rfl,((E1.other (by omega) 0 (.string rn)).other (by omega) 1 (.string rd)).cell rfl⟩
   |exact⟨x30,x31,x32,x33⟩
   |exact⟨x20,x21,x22,x23⟩)
  (first
   |(go_at_call 31;refine(iI _).mono ?_;rintro e w2 ⟨g,rfl,hx2,hb2⟩;have hs2:=hs.drew.on hb2;have D0:=B0.drew.on hb2;have D1:=B1.drew.on hb2;have D2:=B2.drew.on hb2;have x20:=D0.c 0 (.string a) rfl;have x21:=D0.c 1 (.string b) rfl;have x22:=D1.c 0 (.string c) rfl;have x23:=D1.c 1 (.string d) rfl;have x24:=D2.c 0 (.string ⟨#[]⟩) rfl;have x25:=D2.c 1 (.string ⟨#[]⟩) rfl;have x26:=D2.frozen 0;have x27:=D2.frozen 1;unfold opsV opV)
   |(go_at_call 30;refine(KA.o g _ hs2.gl hx2).mono ?_;rintro e w3 ⟨rfl,hb3⟩;have hs3:=hs2.on hb3;have E0:=D0.on hb3;have E1:=D1.on hb3;have E2:=D2.on hb3;have x30:=E0.c 0 (.string a) rfl;have x31:=E0.c 1 (.string b) rfl;have x32:=E1.c 0 (.string c) rfl;have x33:=E1.c 1 (.string d) rfl;have x34:=E2.c 0 (.string ⟨#[]⟩) rfl;have x35:=E2.c 1 (.string ⟨#[]⟩) rfl;have x36:=E2.frozen 0;have x37:=E2.frozen 1))
 go_wp2_with fail
 have B6:=(E2.set 0 (.string rn)).set 1 (.string rd);have y0:=B6.c 0 (.string rn) rfl;have y1:=B6.c 1 (.string rd) rfl;have hs4:=(hs3.set (b:=B+1+1) (by have:=HB.o;omega) 0 (.string rn)).set (b:=B+1+1) (by have:=HB.o;omega) 1 (.string rd);exact bodyPost_ret (v:=.agg #[.string rn,.string rd]) (by simp[results,results87,go_sem,y0,y1]) rfl ⟨rfl,hs4.2⟩
theorem ahi {a b c d:BA}{r:Rat}(sc:c.size<=1000000)(hc:ah c≠0)(KA:Hid (∀g w,Gl w->Bx w g #[ug]->Calls prog 30 #[opV 83 g,FV a b,FV c d] w fun e w'=>e= .returned (FR r)/\Below w.heap.size w w')):
 Ret 9 #[FV a b,FV c d] (.tuple #[FR r,.int .i64 0]):=by
 intro w hg;have q:(dW (ah c) 0==0)=false:=by rw[aa9];exact am1 hc
 have KC:=aab (Vs.arg sc) Vs.nil;generalize dW (ah c) 0=cc at*
 unfold FR at KA⊢
 unfold FV at KA⊢
 generalize frN r=rn at*
 generalize frD r=rd at*
 obtain⟨W,hW,B0,B1,B2,hbw⟩:=lg w 26 #[.string a,.string b] #[.string c,.string d] #[.string ⟨#[]⟩,.string ⟨#[]⟩];have HW:=amy hW;clear hW;have hs:St w W:=⟨hg,hbw⟩;have hi:=idx3;have c0:=B0.c 0 (.string a) rfl;have c1:=B0.c 1 (.string b) rfl;have c2:=B1.c 0 (.string c) rfl;have c3:=B1.c 1 (.string d) rfl;have c4:=B2.c 0 (.string ⟨#[]⟩) rfl;have c5:=B2.c 1 (.string ⟨#[]⟩) rfl;have c6:=B2.frozen 0;have c7:=B2.frozen 1
 go_enter func9,ntmps9
 go_wp2_with fail
 rw[HW.o];clear HW;refine KC.step hs ?_;clear c0 c1 c2 c3 c4 c5 c6 c7;intro W1 hs hb;replace B0:=B0.on hb;replace B1:=B1.on hb;replace B2:=B2.on hb;clear hb hbw;have c0:=B0.c 0 (.string a) rfl;have c1:=B0.c 1 (.string b) rfl;have c2:=B1.c 0 (.string c) rfl;have c3:=B1.c 1 (.string d) rfl;have c4:=B2.c 0 (.string ⟨#[]⟩) rfl;have c5:=B2.c 1 (.string ⟨#[]⟩) rfl;have c6:=B2.frozen 0;have c7:=B2.frozen 1
 go_wp2_with fail
 obtain⟨B,hB⟩:=eX (w.heap.size);have HB:=amy hB;rw[hB]at B0 B1 B2 c0 c1 c2 c3 c4 c5 c6 c7⊢
 clear hB
 go_region_held3 (fun w'=>w'.cell? ⟨B,0,none⟩=some (.string a)/\w'.cell? ⟨B,1,none⟩=some (.string b)/\w'.cell? ⟨B+1,0,none⟩=some (.string c)/\w'.cell? ⟨B+1,1,none⟩=some (.string d))
  (first
   |(go_keep;done)
   |exact⟨((E0.other (by omega) 0 (.string rn)).other (by omega) 1 (.string rd)).cell rfl,((E0.other (by omega) 0 (.string rn)).other (by omega) 1 (.string rd)).cell rfl,((E1.other (by omega) 0 (.string rn)).other (by omega) 1 (.string rd)).cell rfl,((E1.other (by omega) 0 (.string rn)).other (by omega) 1 (.string rd)).cell rfl⟩
   |exact⟨x30,x31,x32,x33⟩
   |exact⟨x20,x21,x22,x23⟩)
  (first
   |(go_at_call 31;refine(iI _).mono ?_;rintro e w2 ⟨g,rfl,hx2,hb2⟩;have hs2:=hs.drew.on hb2;have D0:=B0.drew.on hb2;have D1:=B1.drew.on hb2;have D2:=B2.drew.on hb2;have x20:=D0.c 0 (.string a) rfl;have x21:=D0.c 1 (.string b) rfl;have x22:=D1.c 0 (.string c) rfl;have x23:=D1.c 1 (.string d) rfl;have x24:=D2.c 0 (.string ⟨#[]⟩) rfl;have x25:=D2.c 1 (.string ⟨#[]⟩) rfl;have x26:=D2.frozen 0;have x27:=D2.frozen 1;unfold opsV opV)
   |(go_at_call 30;refine(KA.o g _ hs2.gl hx2).mono ?_;rintro e w3 ⟨rfl,hb3⟩;have hs3:=hs2.on hb3;have E0:=D0.on hb3;have E1:=D1.on hb3;have E2:=D2.on hb3;have x30:=E0.c 0 (.string a) rfl;have x31:=E0.c 1 (.string b) rfl;have x32:=E1.c 0 (.string c) rfl;have x33:=E1.c 1 (.string d) rfl;have x34:=E2.c 0 (.string ⟨#[]⟩) rfl;have x35:=E2.c 1 (.string ⟨#[]⟩) rfl;have x36:=E2.frozen 0;have x37:=E2.frozen 1))
 go_wp2_with fail
 have B6:=(E2.set 0 (.string rn)).set 1 (.string rd);have y0:=B6.c 0 (.string rn) rfl;have y1:=B6.c 1 (.string rd) rfl;have hs4:=(hs3.set (b:=B+1+1) (by have:=HB.o;omega) 0 (.string rn)).set (b:=B+1+1) (by have:=HB.o;omega) 1 (.string rd);exact bodyPost_ret (v:=.tuple #[.agg #[.string rn,.string rd],.int .i64 0]) (by simp[results,results9,go_sem,y0,y1]) rfl ⟨rfl,hs4.2⟩
theorem eqlF (a b c d:BA)(u:World):(binOp .eql 26 (.agg #[.string a,.string b]) (.agg #[.string c,.string d])).run prog u= .ok (.bool ((a.toList==c.toList)&&(b.toList==d.toList))) u:=by
 simp[go_sem]
 repeat' split
 all_goals simp_all
theorem neqF (a b c d:BA)(u:World):(binOp .neq 26 (.agg #[.string a,.string b]) (.agg #[.string c,.string d])).run prog u= .ok (.bool (!((a.toList==c.toList)&&(b.toList==d.toList)))) u:=by
 simp[go_sem]
 repeat' split
 all_goals simp_all
theorem Vq.vs {n d:BA}{q:Rat}(h:Vq n d q):Vs n (ah n)/\Vs (dn d) (ah (dn d))/\Fit 100000 (ah n)/\Fit 100001 (ah (dn d)):=by
 have h1:=h.2.1;have h2:=h.2.2;have h3:=xM d;exact⟨Vs.arg (by omega),Vs.arg (by omega),Fit.val (by omega),Fit.val (by omega)⟩
theorem Vs.mul {k m:Nat}{x y:Int}(h:Fit k x)(h2:Fit m y)(hk:k+m<=999999):Vs (ae (x*y)) (x*y):=Vs.can (h.mul h2) hk
theorem ajk (x y:Rat):dW (x-y).num 0=il x y:=ama x y
theorem SubF {a b c d:BA}{p q:Rat}(h1:Vq a b p)(h2:Vq c d q):Ret 66 #[FV a b,FV c d] (FR (p-q)):=by
 obtain⟨va,vb,fa,fb⟩:=h1.vs;obtain⟨vc,vd,fc,fd⟩:=h2.vs;have nb:=uj b;have nd:=uj d;have v1:=Vs.mul fa fd (by omega);have v2:=Vs.mul fc fb (by omega);have f1:Fit 300000 (ah a*ah (dn d)-ah c*ah (dn b)):=(Fit.sub (fa.mul fd) (fc.mul fb)).mono (by omega);have f2:Fit 300000 (ah (dn b)*ah (dn d)):=(fb.mul fd).mono (by omega);have KM:=nu (Vs.can f1 (by omega)) (Vs.can f2 (by omega)) (amG f1.size (by omega)) (amG f2.size (by omega)) (Int.mul_ne_zero nb nd);rw[akD nb nd,nE,nE,h1.1,h2.1]at KM;exact ahe (fun g w hg hx=>abj g w hg hx (by have:=h1.2.2;omega) (by have:=h2.2.2;omega) (fun w hg hx=>aiw va vb vc vd g w hg hx v1 v2) KM)
theorem amn {a b c d:BA}{p q:Rat}(h1:Vq a b p)(h2:Vq c d q):Ret 87 #[FV a b,FV c d] (FR (p*q)):=by
 obtain⟨va,vb,fa,fb⟩:=h1.vs;obtain⟨vc,vd,fc,fd⟩:=h2.vs;have nb:=uj b;have nd:=uj d;have f1:Fit 300000 (ah a*ah c):=(fa.mul fc).mono (by omega);have f2:Fit 300000 (ah (dn b)*ah (dn d)):=(fb.mul fd).mono (by omega);have KM:=nu (Vs.can f1 (by omega)) (Vs.can f2 (by omega)) (amG f1.size (by omega)) (amG f2.size (by omega)) (Int.mul_ne_zero nb nd);rw[aeI nb nd,nE,nE,h1.1,h2.1]at KM;exact ahj (fun g w hg hx=>abh g w hg hx (by have:=h1.2.2;omega) (by have:=h2.2.2;omega) (fun w hg hx=>ahu va vb vc vd g w hg hx) KM)
theorem QuoF {a b c d:BA}{p q:Rat}(h1:Vq a b p)(h2:Vq c d q)(hq:q≠0):Ret 9 #[FV a b,FV c d] (.tuple #[FR (p/q),.int .i64 0]):=by
 obtain⟨va,vb,fa,fb⟩:=h1.vs;obtain⟨vc,vd,fc,fd⟩:=h2.vs;have nb:=uj b;have nd:=uj d;have nc:ah c≠0:=fun e=>hq (by rw[<-h2.1];exact rE.2 e)
 have f1:Fit 300000 (ah a*ah (dn d)):=(fa.mul fd).mono (by omega);have f2:Fit 300000 (ah (dn b)*ah c):=(fb.mul fc).mono (by omega);have KM:=nu (Vs.can f1 (by omega)) (Vs.can f2 (by omega)) (amG f1.size (by omega)) (amG f2.size (by omega)) (Int.mul_ne_zero nb nc);rw[akE nb nc nd,nE,nE,h1.1,h2.1]at KM;exact ahi (by have:=h2.2.1;omega) nc (fun g w hg hx=>adN g w hg hx (by have:=h1.2.2;omega) (by have:=h2.2.2;omega) (fun w hg hx=>akR va vb vc vd g w hg hx) KM)
theorem OfF {a:BA}{x:Int}(h:Vs a x)(s:a.size<=999999):Ret 10 #[.string a] (FR (x:Rat)):=by
 intro w hg;have hs:=St.refl hg;have K1:=nu h (show Vs ⟨#[49]⟩ 1 from⟨by decide,by decide⟩) s (by decide) (by decide);rw[aav]at K1;unfold FR at K1⊢
 generalize frN (x:Rat)=rn at*
 generalize frD (x:Rat)=rd at*
 go_enter func10,ntmps10
 go_wp2_with fail
 refine K1.step (hs.alloc _) ?_;intro w1 hs hb;have B:=(Bx.new w #[.string ⟨#[]⟩,.string ⟨#[]⟩] 26).on hb;have xB0:=B.c 0 (.string ⟨#[]⟩) rfl;have fB0:=B.frozen 0;have xB1:=B.c 1 (.string ⟨#[]⟩) rfl;have fB1:=B.frozen 1
 go_wp2_with fail
 have B6:=(B.set 0 (.string rn)).set 1 (.string rd);have y0:=B6.c 0 (.string rn) rfl;have y1:=B6.c 1 (.string rd) rfl;have hs4:=(hs.set (b:=w.heap.size) ano 0 (.string rn)).set (b:=w.heap.size) ano 1 (.string rd);exact bodyPost_ret (v:=.agg #[.string rn,.string rd]) (by simp[results,results10,go_sem,y0,y1]) rfl ⟨rfl,hs4.2⟩
theorem CmpF {a b c d:BA}{p q:Rat}(h1:Vq a b p)(h2:Vq c d q){k:Nat}(hf:bP k (p-q))(hk:k<=99999):Ret 172 #[FV a b,FV c d] (.int .i64 (il p q)):=by
 intro w hg;have hs:=St.refl hg;have K1:=SubF h1 h2;have v:=Vq.fr hf hk;have K2:=dZ (n:=frN (p-q)) (d:=frD (p-q)) (by have:=v.2.2;omega);have K3:=aab (show Vs (frN (p-q)) (p-q).num from⟨aK _,by have:=v.2.1;omega⟩) Vs.nil;rw[ajk]at K3;unfold FR at K1;unfold FV at K1 K2⊢
 generalize frN (p-q)=rn at*
 generalize dn (frD (p-q))=rm at*
 generalize frD (p-q)=rd at*
 generalize il p q=cc at*
 go_enter func172,ntmps172
 go_wp2_with fail
 refine K1.step ((hs.alloc _).alloc _) ?_;intro w1 hs _
 go_wp2_with fail
 refine K2.step hs ?_;intro w2 hs _
 go_wp2_with fail
 refine K3.step hs ?_;intro w3 hs _
 go_wp2_with fail
 go_ret
 exact⟨rfl,hs.2⟩
def vI (a b:BA):Int:=if a=frN (bV a b)/\b=frD (bV a b)then 0 else 1
theorem toList_inj {s t:BA}(h:s.toList=t.toList):s=t:=by rw[aF,aF]at h;exact bytes_inj h
theorem amd (a b:BA):vI a b=if ((a.toList==(frN (bV a b)).toList)&&(b.toList==(frD (bV a b)).toList))=true then 0 else 1:=by
 unfold vI;congr 1;simp only[amC,beq_iff_eq,eq_iff_iff];exact⟨fun⟨h1,h2⟩=>⟨by rw[<-h1],by rw[<-h2]⟩,fun⟨h1,h2⟩=>⟨toList_inj h1,toList_inj h2⟩⟩
theorem ChkF {a b:BA}(s1:a.size<=100000)(s2:b.size<=100000):Ret 153 #[FV a b] (.int .i64 (vI a b)):=by
 intro w hg;have K1:=dZ (n:=a) (d:=b) (by omega);have h3:=xM b;have K2:=nu (Vs.arg (s:=a) (by omega)) (Vs.arg (s:=dn b) (by omega)) (by omega) (by omega) (uj b);rw[nE]at K2;have he:=amd a b;rw[he];unfold FR at K2;unfold FV at K1⊢
 generalize frN (bV a b)=rn at*
 generalize frD (bV a b)=rd at*
 generalize dn b=b' at*
 clear he h3;have hn:=neqF a b rn rd;generalize ((a.toList==rn.toList)&&(b.toList==rd.toList))=t at*
 have hs:=(St.refl hg).alloc (.cells #[.string a,.string b] 26);have x0:=(Bx.new w #[.string a,.string b] 26).k 0 (.string a) rfl;have x1:=(Bx.new w #[.string a,.string b] 26).k 1 (.string b) rfl;cases t
 all_goals
  go_enter func153,ntmps153
  go_wp2_with fail
  refine ax (by kernel_rfl) (by kernel_rfl) ?_
  repeat (go_big_quiet_step (first|(with_reducible exact K1.kept hs)|(with_reducible exact K2.kept hs)))
  refine wpQuiet_nil ?_;rintro _ ⟨u,rfl⟩
  go_wp2_with fail
  go_ret
  exact⟨rfl,(hs.kept u).2⟩
def Row (w:World)(A:Option Addr)(vs:List Value):Prop:=∀(i:Nat) (v:Value),vs[i]? =some v->∃b o,A=some ⟨b,o,none⟩/\b<w.heap.size/\w.cell? ⟨b,o+i,none⟩=some v
theorem Row.on {w w':World}{A:Option Addr}{vs:List Value}(h:Row w A vs)(hb:Below w.heap.size w w'):Row w' A vs:=by
 intro i v hv;obtain⟨b,o,hA,hB,hc⟩:=h i v hv;exact⟨b,o,hA,amS hB hb.size,(hb.cell (p:=⟨b,o+i,none⟩) hB).trans hc⟩
theorem Row.of {w:World}{b:Nat}{cs:Array Value}(h:Bx w b cs):Row w (some ⟨b,0,none⟩) cs.toList:=by
 intro i v hv;exact⟨b,0,rfl,h.lt,by rw[am5];exact h.cell (by rw[<-amV];exact hv)⟩
def sv (s:BA):Value:=.string s
def iO (I:World->Prop)(f:FuncId)(args:Array Value)(V:Value):Prop:=∀w,Gl w->I w->Calls prog f args w fun e w'=>e= .returned V/\Below w.heap.size w w'
theorem iO.step {I:World->Prop}{f:FuncId}{args:Array Value}{V:Value}{w0 w:World}{Q:Ending->World->Prop}(h:iO I f args V)(hs:St w0 w)(hi:I w)(k:∀w',St w0 w'->Below w.heap.size w w'->Q (.returned V) w'):Calls prog f args w Q:=
 (h w hs.gl hi).mono fun _ w' ⟨he,hb⟩=>he▸k w' (hs.on hb) hb
theorem Ret.i {f:FuncId}{args:Array Value}{V:Value}(h:Ret f args V)(I:World->Prop):iO I f args V:=fun w hg _=>h w hg
def adP (I:World->Prop):Prop:=∀w w':World,I w->Below w.heap.size w w'->I w'
def aj0 (p:BA->Bool)(l:List BA):Int:=match l.findIdx? p with|some i=>i|none=> -1
theorem aiG (p:BA->Bool)(l:List BA):decide (0<=aj0 p l)=l.any p:=by
 unfold aj0;cases h:l.findIdx? p with
 |none=>
  have:=List.findIdx?_eq_none_iff.1 h
  symm
  rw[List.any_eq_false.2 (fun x hx=>by simp[this x hx])];rfl
 |some i=>
  obtain⟨hi,h1,_⟩:=List.findIdx?_eq_some_iff_getElem.1 h;rw[List.any_eq_true.2 ⟨l[i],List.getElem_mem hi,h1⟩];simp
theorem alv {p:BA->Bool}{l:List BA}{k:Nat}{s:BA}(hs:l[k]? =some s)(hp:p s=true)(hn:∀i,i<k->∀t,l[i]? =some t->p t=false):aj0 p l=k:=by
 have hk:k<l.length:=(amH.1 hs).1;have:l.findIdx? p=some k:=by
  rw[List.findIdx?_eq_some_iff_getElem];refine⟨hk,?_,fun j hj=>?_⟩
  ·have:=(amH.1 hs).2
   rw[this];exact hp
  ·have:=hn j hj l[j] (amB (by omega))
   simp[this]
 unfold aj0;rw[this]
theorem afI {p:BA->Bool}{l:List BA}(hn:∀i,i<l.length->∀t,l[i]? =some t->p t=false):aj0 p l= -1:=by
 have:l.findIdx? p=none:=by
  rw[List.findIdx?_eq_none_iff];intro x hx;obtain⟨i,hi,rfl⟩:=List.mem_iff_getElem.1 hx;exact hn i hi _ (amB hi)
 unfold aj0;rw[this]
theorem afH {A:Option Addr}{n c:Nat}{l:List BA}{f:FuncId}{cap:Array Value}{p:BA->Bool}{I:World->Prop}(hI:adP I)(hn:l.length=n)(hm:n<=4611686018427387904)(hcf:∀(args:Array Value) (u:World),(callFunc f args).run prog u= .ok (.enter f args) u)
 (KF:Hid (∀s∈l,iO I f (#[.string s]++cap) (.bool (p s)))):
 iO (fun w=>Row w A (l.map sv)/\I w) 256 #[.slice A n c,.func (.func f) #[] cap] (.int .i64 (aj0 p l)):=by
 intro w hg hi;have hs:=St.refl hg;have HN:=amy hn;have Hi:=amy hi;have HI:=amy hI;clear hn hi hI
 go_enter func256,ntmps256
 go_wp2_with fail
 go_loopw [8] (fun s wr=>∃k:Nat,k<=n/\s= .int .i64 (k:Int)/\St w wr/\Hid (Row wr A (l.map sv)/\I wr)/\Hid (∀i,i<k->∀t,l[i]? =some t->p t=false)) (fun s _=>(n-intOf s).toNat)
 case atStart=>exact⟨0,by omega,rfl,hs,Hi,fun i h=>by omega⟩
 case round=>
  obtain⟨k,hk,rfl,hs,H,HP⟩:=hrel;by_cases hkn:k=n
  ·have q:decide ((k:Int)<(n:Int))=false:=am1 (by omega)
   have HE:=amy (afI (p:=p) (l:=l) (fun i hi t ht=>HP.o i (by rw[HN.o]at hi;omega) t ht))
   go_wp2_with fail
   go_ret
   exact⟨by rw[HE.o];rfl,hs.2⟩
  ·have hkl:k<n:=by omega
   have q:decide ((k:Int)<(n:Int))=true:=am2 (by omega);obtain⟨s,hs0⟩:∃s,l[k]? =some s:=⟨l[k]'(by rw[HN.o];exact hkl),by simp⟩;obtain⟨b,o,hA,hB,hc⟩:=H.o.1 k (.string s) (by rw[amP,hs0];rfl);subst hA;have KK:=KF.o s (amI hs0);have HS:=amy hs0;clear hs0 hkn;obtain⟨pv,hpv⟩:=eX (p s);rw[hpv]at KK;have HPV:=amy hpv;clear hpv;cases pv with
   |true=>
    have HE:=amy (alv HS.o HPV.o HP.o)
    go_wp2_with fail
    refine KK.step hs H.o.2 ?_;intro w2 hs hb
    go_wp2_with fail
    go_ret
    exact⟨by rw[HE.o];rfl,hs.2⟩
   |false=>
    go_wp2_with fail
    refine KK.step hs H.o.2 ?_;intro w2 hs hb;have H2:Hid (Row w2 (some ⟨b,o,none⟩) (l.map sv)/\I w2):=⟨H.o.1.on hb,HI.o _ _ H.o.2 hb⟩
    go_wp2_with fail
    go_roundw
    case rel=>
     refine⟨k+1,by omega,by go_num,hs,H2,?_⟩;intro i hi t ht;by_cases e:i=k
     ·subst e
      rw[HS.o]at ht;cases ht;exact HPV.o
     ·exact HP.o i (by omega) t ht
    case measure=>simp[intOf];omega
theorem zQ {A:Option Addr}{n c:Nat}{l:List BA}{f:FuncId}{cap:Array Value}{p:BA->Bool}{I:World->Prop}(hI:adP I)(hn:l.length=n)(hm:n<=4611686018427387904)(hcf:∀(args:Array Value) (u:World),(callFunc f args).run prog u= .ok (.enter f args) u)
 (KF:Hid (∀s∈l,iO I f (#[.string s]++cap) (.bool (p s)))):
 iO (fun w=>Row w A (l.map sv)/\I w) 230 #[.slice A n c,.func (.func f) #[] cap] (.bool (l.any p)):=by
 intro w hg hi;have hs:=St.refl hg;have K:=afH (A:=A) (c:=c) hI hn hm hcf KF;have e:=aiG p l;generalize aj0 p l=r at*
 generalize l.any p=v at*
 have Hi:=amy hi;clear hn hi hI
 go_enter func230,ntmps230
 go_wp2_with fail
 refine K.step hs Hi.o ?_;intro w1 hs _
 go_wp2_with fail
 go_ret
 exact⟨rfl,hs.2⟩
end
section
open Go.RowKit Go.Shelf Dec QQ
theorem own_below {w w':World}{base n size:Nat}{T:TypeId}{v:Value}{xs:List Value}(h:w.ownsRow base T size v n xs)(hb:Below w.heap.size w w'):w'.ownsRow base T size v n xs:=by
 refine⟨h.1,?_⟩;rcases h.2 with h|⟨g,cap,cur,e1,e2,e3,r⟩
 ·exact .inl h
 ·exact .inr ⟨g,cap,cur,e1,e2,(hb.block g (amA.1 e3).1).trans e3,r⟩
theorem wM {w:World}{base n size:Nat}{T:TypeId}{v:Value}{xs:List Value}(h:w.ownsRow base T size v n xs):∀k,v.ownBlock=some k->base<=k:=by
 intro k hk;rcases h.2 with ⟨rfl,_⟩|⟨g,cap,cur,rfl,hb,_⟩
 ·simp[Value.ownBlock]at hk
 ·simp[Value.ownBlock]at hk;omega
theorem aS {w:World}{base base' n size:Nat}{T:TypeId}{v:Value}{xs:List Value}(h:w.ownsRow base T size v n xs)(hb:base'<=base):w.ownsRow base' T size v n xs:=by
 refine⟨h.1,?_⟩;rcases h.2 with h|⟨g,cap,cur,e1,e2,e3,r⟩
 ·exact .inl h
 ·exact .inr ⟨g,cap,cur,e1,by omega,e3,r⟩
def ab7 {α:Type}(p:α->Bool)(l:List α):Int:=match l.findIdx? p with|some i=>i|none=> -1
theorem ab6 {α:Type}(p:α->Bool)(l:List α):decide (0<=ab7 p l)=l.any p:=by
 unfold ab7;cases h:l.findIdx? p with
 |none=>
  have:=List.findIdx?_eq_none_iff.1 h
  symm
  rw[List.any_eq_false.2 (fun x hx=>by simp[this x hx])];rfl
 |some i=>
  obtain⟨hi,h1,_⟩:=List.findIdx?_eq_some_iff_getElem.1 h;rw[List.any_eq_true.2 ⟨l[i],List.getElem_mem hi,h1⟩];simp
theorem afJ {α:Type}{p:α->Bool}{l:List α}{k:Nat}{s:α}(hs:l[k]? =some s)(hp:p s=true)(hn:∀i,i<k->∀t,l[i]? =some t->p t=false):ab7 p l=k:=by
 have hk:k<l.length:=(amH.1 hs).1;have:l.findIdx? p=some k:=by
  rw[List.findIdx?_eq_some_iff_getElem];refine⟨hk,?_,fun j hj=>?_⟩
  ·have:=(amH.1 hs).2
   rw[this];exact hp
  ·have:=hn j hj l[j] (amB (by omega))
   simp[this]
 unfold ab7;rw[this]
theorem zz {α:Type}{p:α->Bool}{l:List α}(hn:∀i,i<l.length->∀t,l[i]? =some t->p t=false):ab7 p l= -1:=by
 have:l.findIdx? p=none:=by
  rw[List.findIdx?_eq_none_iff];intro x hx;obtain⟨i,hi,rfl⟩:=List.mem_iff_getElem.1 hx;exact hn i hi _ (amB hi)
 unfold ab7;rw[this]
theorem aaR {α:Type}(Q:Nat->α->Prop):∀n:Nat,(∀i,i<n->∃x,Q i x)->∃l:List α,l.length=n/\∀i x,l[i]? =some x->Q i x:=by
 intro n
 induction n with
 |zero=>intro _;exact⟨[],rfl,fun i x h=>by simp at h⟩
 |succ n ih=>
  intro h;obtain⟨l,hl,hq⟩:=ih (fun i hi=>h i (by omega));obtain⟨x,hx⟩:=h n (by omega);refine⟨l++ [x],by simp[hl],fun i y hy=>?_⟩;by_cases hi:i<n
  ·rw[List.getElem?_append_left (by omega)]at hy;exact hq i y hy
  ·rw[List.getElem?_append_right (by omega)]at hy
   have:i-l.length=0:=by
    rcases Nat.eq_zero_or_pos (i-l.length)with h0|h0
    ·exact h0
    ·have hlt:=(amH.1 hy).1;simp at hlt;omega
   rw[this]at hy;simp at hy;subst hy;obtain rfl:i=n:=by omega
   exact hx
theorem ajw {s:BA}:chk s=0↔s=ae (ah s):=by
 unfold chk;split
 ·rename_i h;exact⟨fun _=>h,fun _=>rfl⟩
 ·rename_i h;exact⟨fun e=>by omega,fun e=>absurd e h⟩
theorem DivA {a b:BA}{x y:Int}(h1:Vs a x)(h2:Vs b y):Ret 150 #[.string a,.string b] (.tuple #[.string (aac x y).1,.string (aac x y).2.1,.int .i64 (aac x y).2.2]):=fun w hg=>DivV h1 h2 w hg
def nil:BA:=⟨#[]⟩
end
section
open Go.RowKit Go.Shelf Dec QQ
def av {α:Type}(cs:α->List Value)(l:List α):List Value:=l.flatMap cs
section
variable {α:Type} {cs:α->List Value} {m:Nat}
theorem sF (hm:∀a,(cs a).length =m)(l:List α):(av cs l).length =m*l.length:=by
 induction l with
 |nil=>simp[av]
 |cons d l ih=>
  show (cs d++av cs l).length =_;rw[am0,hm,ih,amT,Nat.mul_add,Nat.mul_one,Nat.add_comm]
theorem acd (hm:∀a,(cs a).length =m){l:List α}{k j:Nat}{d:α}{x:Value}(h:l[k]? =some d)(hj:(cs d)[j]? =some x):(av cs l)[k*m+j]? =some x:=by
 induction l generalizing k with
 |nil=>simp at h
 |cons e l ih=>
  have hjm:j<m:=by rw[<-hm d];exact(amH.1 hj).1
  cases k with
  |zero=>
   simp at h;subst h;show (cs e++av cs l)[0*m+j]? =some x;rw[List.getElem?_append_left (by rw[hm];omega),Nat.zero_mul,am5];exact hj
  |succ k=>
   simp at h;show (cs e++av cs l)[(k+1)*m+j]? =some x;have e1:(k+1)*m=k*m+m:=by rw[Nat.succ_mul]
   rw[List.getElem?_append_right (by rw[hm];omega),hm,show (k+1)*m+j-m=k*m+j by omega];exact ih h
theorem jd (l:List α)(r:α):av cs (l++ [r])=av cs l++cs r:=by simp[av]
theorem ve (hm:∀a,(cs a).length =m)(l:List α)(k:Nat):av cs (l.take k)=(av cs l).take (m*k):=by
 induction l generalizing k with
 |nil=>simp[av]
 |cons d l ih=>
  cases k with
  |zero=>simp[av]
  |succ k=>
   show cs d++av cs (l.take k)=(cs d++av cs l).take (m*(k+1));have e1:m*(k+1)=m+m*k:=by rw[Nat.mul_succ,Nat.add_comm]
   rw[ih,List.take_append,hm,show m*(k+1)-m=m*k by omega,amK (l:=cs d) (by rw[hm];omega)]
theorem dV (hm:∀a,(cs a).length =m)(h0:0<m){w:World}{A:Option Addr}{l:List α}{k:Nat}{d:α}(h:Row w A (av cs l))(hk:l[k]? =some d):
 ∃b o,A=some ⟨b,o,none⟩/\b<w.heap.size/\∀j x,(cs d)[j]? =some x->w.cell? ⟨b,o+(k*m+j),none⟩=some x:=by
 obtain⟨x,hx⟩:∃x,(cs d)[0]? =some x:=⟨(cs d)[0]'(by rw[hm];exact h0),by simp⟩;obtain⟨b,o,hA,hb,_⟩:=h _ _ (acd hm hk hx);refine⟨b,o,hA,hb,fun j y hy=>?_⟩;obtain⟨b',o',hA',_,hc⟩:=h _ _ (acd hm hk hy);rw[hA]at hA';injection hA' with hA'
 injection hA' with h1 h2
 subst h1 h2;exact hc
def dw (cs:α->List Value)(T:TypeId)(m:Nat)(base:Nat)(w:World)(v:Value)(n:Nat)(xs:List α):Prop:=xs.length=n/\w.ownsRow base T m v n (av cs xs)
theorem dw.row {T:TypeId}{base n:Nat}{w:World}{v:Value}{xs:List α}(h:dw cs T m base w v n xs):∃A c,v= .slice A n c/\Row w A (av cs xs):=by
 rcases h.2.2 with ⟨rfl,h0⟩|⟨g,cap,cur,rfl,e2,e3,e4,e5,e6,e7⟩
 ·subst h0
  have:xs=[]:=List.length_eq_zero_iff.1 h.1;subst this;exact⟨none,0,rfl,fun i v hv=>by simp[av]at hv⟩
 ·refine⟨_,_,rfl,fun i v hv=>⟨g,0,rfl,(amA.1 e3).1,?_⟩⟩
  have hl:=(amH.1 hv).1;rw[<-e7]at hv;have h2:i<n*m:=by rw[amZ]at hv;split at hv;assumption;cases hv
  rw[amZ,if_pos h2,amV]at hv;rw[am5];simp[World.cell?,e3,hv]
theorem dw.on {T:TypeId}{base n:Nat}{w w':World}{v:Value}{xs:List α}(h:dw cs T m base w v n xs)(hb:Below w.heap.size w w'):dw cs T m base w' v n xs:=⟨h.1,own_below h.2 hb⟩
end
end
section
open Go.RowKit Go.Shelf Dec QQ
open Go.Maps (Keyed IsMap)
theorem dI {w:World}{b o k:Nat}{d:Lt}(h:∀j x,(aa d)[j]? =some x->w.cell? ⟨b,o+(k*7+j),none⟩=some x):
 w.cell? ⟨b,o+k*7,none⟩=some (.string d.id)/\w.cell? ⟨b,o+k*7+1,none⟩=some (.string d.ins)/\w.cell? ⟨b,o+k*7+2,none⟩=some (.int .i64 d.acq)/\w.cell? ⟨b,o+k*7+3,none⟩=some (.int .i64 d.opn)/\w.cell? ⟨b,o+k*7+4,none⟩=some (.string d.q)/\w.cell? ⟨b,o+k*7+5,none⟩=some (.string d.c)/\w.cell? ⟨b,o+k*7+6,none⟩=some (.string d.u):=
 ⟨h 0 _ rfl,h 1 _ rfl,h 2 _ rfl,h 3 _ rfl,h 4 _ rfl,h 5 _ rfl,h 6 _ rfl⟩
def aaq:List BA->DataW Unit
 | []=>.map []
 |s::l=>(aaq l).put (.string s.data.toList) (.lit (.bool true))
theorem aby:∀l:List BA,IsMap (aaq l)
 | []=>⟨[],rfl⟩
 |s::l=>by
  obtain⟨es,h⟩:=aby l;unfold aaq;rw[h];exact⟨_,rfl⟩
theorem aeq:∀(l:List BA) (s:BA),(aaq l).atKey (.string s.data.toList) (.lit (.bool false))= .lit (.bool (l.any fun i=>eqB i s))
 | [],s=>rfl
 |i::l,s=>by
  unfold aaq;by_cases h:i=s
  ·subst h
   rw[Go.Maps.atKey_put_same (k:=.string i.data.toList) (aby l) (by trivial)];have:eqB i i=true:=dH.2 rfl;simp[this]
  ·rw[Go.Maps.atKey_put_other (by
    intro e;injection e with e
    exact h (bytes_inj e).symm),aeq l s]
   have:eqB i s=false:=by
    cases hq:eqB i s with
    |false=>rfl
    |true=>exact absurd (dH.1 hq) h
   simp[this]
def Seen (w:World)(b n:Nat)(l:List BA):Prop:=w.ownsMap prog 9 (plainElem prog 4) b n (aaq l)
theorem aep {w:World}{b n:Nat}{l:List BA}(h:Seen w b n l){s:BA}(hz:s.size<=1000000):
 (Instr.lookup 166 (.map (some b)) (.string s) false).run prog w= .ok (.bool (l.any fun i=>eqB i s)) w:=by
 have K:Keyed prog 9:=Go.Maps.string_keyed (by kernel_rfl);obtain⟨v,ps,hrun,hv⟩:=h.lookup K (t:=166) (e:=4) (by kernel_rfl) (z:=.bool false) (zeroValue4 w) (plainElem_bool (by kernel_rfl) false) (WideMaps.keyOf_string_mk (by kernel_rfl) (amG hz (by decide)));rw[aeq]at hv;rw[hrun];have:v= .bool (l.any fun i=>eqB i s):=by
  unfold plainElem at hv;rw[show prog.underlying 4=some .bool by kernel_rfl]at hv;cases v<;>simp at hv;rw[hv.1]
 rw[this]
theorem Seen.on {w w':World}{b n:Nat}{l:List BA}(h:Seen w b n l)(hb:Below w.heap.size w w'):Seen w' b n l:=by
 have hlt:=World.ownsMap.lt h;obtain⟨es,clock,h0,F,hs,hD⟩:=h;exact⟨es,clock,(hb.block b hlt).trans h0,F,hs,hD⟩
def mG (l:List Lt)(k:Nat):List BA:=((l.take k).map (·.id)).reverse
theorem uA {l:List Lt}{k:Nat}{d:Lt}(h:l[k]? =some d):mG l (k+1)=d.id::mG l k:=by
 unfold mG;rw[ani,h];simp
theorem zY (sn:List BA)(x:Lt)(l:List Lt):adW sn (x::l)=bif nN x !=0 then nN x else bif sn.any (fun i=>eqB i x.id)then 5 else adW (x.id::sn) l:=rfl
theorem sJ {α:Type}{l:List α}{k:Nat}{d:α}(h:l[k]? =some d):l.drop k=d::l.drop (k+1):=by
 obtain⟨h1,h2⟩:=amH.1 h;rw[List.drop_eq_getElem_cons h1,h2]
theorem qx {A:Option Addr}{n c:Nat}{l:List Lt}(hn:l.length=n)(hm:n<=1000000)(hz:∀x∈l,x.le 1000):iO (fun w=>Row w A (av aa l)) 33 #[.slice A n c] (.int .i64 (aN l)):=by
 intro w hg hi;have hs:=St.refl hg;have HN:=amy hn;have HR:=amy hi;have HZ:=amy hz;by_cases hbig:1000<n
 ·have q:decide ((1000:Int)<(n:Int))=true:=am2 (by omega)
  have e:aN l=4:=by unfold aN;rw[hn,am2 hbig];rfl
  rw[e]
  go_enter func33,ntmps33
  go_wp2_with fail
  go_ret
  exact⟨rfl,hs.2⟩
 have q:decide ((1000:Int)<(n:Int))=false:=am1 (by omega);have e:aN l=adW [] l:=by unfold aN;rw[hn,am1 hbig];rfl
 rw[e];obtain⟨r,hr⟩:=eX (adW [] l);rw[hr];have HE:=amy hr;clear hr e hn hi hz
 go_enter func33,ntmps33
 have hmm:= @run_makeMap prog
 go_wp2_with fail
 replace hs:=hs.alloc (.map #[] 0);have HS0:Hid (Seen (w.alloc (.map #[] 0)) w.heap.size 0 (mG l 0)):=World.ownsMap_made w _ _ _
 go_loopw [13] (fun s wr=>∃k:Nat,k<=n/\s= .int .i64 (k:Int)/\St w wr/\Hid (Seen wr w.heap.size k (mG l k))/\Hid (adW (mG l k) (l.drop k)=r)) (fun s _=>(n-intOf s).toNat)
 case atStart=>exact⟨0,by omega,rfl,hs,HS0,HE⟩
 case round=>
  obtain⟨k,hk,rfl,hs,HS,HK⟩:=hrel;clear HS0 HE;by_cases hkn:k=n
  ·subst hkn
   have q1:decide ((k:Int)<(k:Int))=false:=am1 (by omega);have e0:r=0:=by
    have:=HK.o;rw[List.drop_eq_nil_of_le (by rw[HN.o];exact am4 _)]at this;exact this.symm
   subst e0
   go_wp2_with fail
   go_ret
   exact⟨rfl,hs.2⟩
  ·have hkl:k<n:=by omega
   have q1:decide ((k:Int)<(n:Int))=true:=am2 (by omega);have qn:decide (k<n)=true:=am2 hkl;obtain⟨d,hd⟩:∃d,l[k]? =some d:=⟨l[k]'(by rw[HN.o];exact hkl),by simp⟩;obtain⟨b,o,hA,hb,hcells⟩:=dV (cs:=aa) (m:=7) aJ (by decide) (HR.o.on hs.2) hd;subst hA;have KK:=amy (ab2 (HZ.o d (amI hd)));have hidz:d.id.size<=1000000:=amG (HZ.o d (amI hd)).id (by decide);obtain⟨x0,x1,x2,x3,x4,x5,x6⟩:=dI hcells;have HK':Hid ((bif nN d !=0 then nN d else bif (mG l k).any (fun i=>eqB i d.id)then 5 else adW (mG l (k+1)) (l.drop (k+1)))=r):=by
    have:=HK.o;rw[sJ hd,zY]at this;show _=r;rw[uA hd];exact this
   have HKS:=amy (uA hd);dsimp only[ltV,ltA]at KK;generalize nN d=e at*
   clear hd hcells HK hkn
   go_wp2_with fail
   have X:=Bx.new wr #[.string d.id,.string d.ins,.int .i64 d.acq,.int .i64 d.opn,.string d.q,.string d.c,.string d.u] 62;have hbA:Below wr.heap.size wr (wr.alloc (.cells #[.string d.id,.string d.ins,.int .i64 d.acq,.int .i64 d.opn,.string d.q,.string d.c,.string d.u] 62)):=anp;have hlt:=World.ownsMap.lt HS.o;replace HS:=amy (HS.o.on hbA);replace hs:=hs.on hbA;have HX:=amy X;clear X hbA x0 x1 x2 x3 x4 x5 x6;refine KK.o.step hs ?_;intro w2 hs hb2;replace HS:=amy (HS.o.on hb2);replace HX:=amy (HX.o.on hb2);clear hb2 KK;cases hq:(e !=0)with
   |true=>
    have e1:e=r:=by have:=HK'.o;rw[hq]at this;exact this
    subst e1
    go_wp2_with fail
    go_ret
    exact⟨rfl,hs.2⟩
   |false=>
    have hl:=aep HS.o hidz;have HK2:Hid ((bif (mG l k).any (fun i=>eqB i d.id)then 5 else adW (mG l (k+1)) (l.drop (k+1)))=r):=by have:=HK'.o;rw[hq]at this;exact this
    generalize hbb:((mG l k).any fun i=>eqB i d.id)=bb at*
    have x0:=HX.o.c 0 (.string d.id) rfl;clear HK' hbb;cases bb with
    |true=>
     have e1:r=5:=HK2.o.symm;subst e1
     go_wp2_with fail
     go_ret
     exact⟨rfl,hs.2⟩
    |false=>
     have HK3:Hid (adW (mG l (k+1)) (l.drop (k+1))=r):=HK2.o;clear HK2;have K:Keyed prog 9:=Go.Maps.string_keyed (by kernel_rfl);have hkey:keyOf prog 9 (.string d.id)=some (.string d.id.data.toList):=WideMaps.keyOf_string_mk (by kernel_rfl) (amG hidz (by decide));have KM:=amy K;have HKY:=amy hkey;have hown:Hid (World.ownsMap w2 prog 9 (plainElem prog 4) w.heap.size k (aaq (mG l k))):=HS.o;have hkm:k<maxLen:=Nat.lt_of_le_of_lt (by omega:k<=1000000) (by decide);have hsz:=hs.2.size;clear K hkey
     go_wp2_with (at_mapUpdate;refine wpList_mapUpdate_own _ rfl _ _ _ 166 rfl 9 4 KM.o (by kernel_rfl) _ _ k _ rfl hown.o hkm _ _ (.string d.id.data.toList) rfl rfl HKY.o (.lit (.bool true)) [] (plainElem_bool (by kernel_rfl) true) ?_)
     intro w3 hown3 hgrow;have HS3:Hid (Seen w3 w.heap.size (k+1) (mG l (k+1))):=by rw[HKS.o];exact hown3
     have hs3:St w w3:=⟨hs.1,hs.2.grown hgrow hs.2.size (fun j hj=>by injection hj with hj;omega)⟩;clear hown3 hgrow HS hown hl x0
     go_wp2_with fail
     go_roundw
     case rel=>exact⟨k+1,by omega,by go_num,hs3,HS3,HK3⟩
     case measure=>simp[intOf];omega
end
end Go.Proofs.YtbkhnggmcheelaaGreatDoor
