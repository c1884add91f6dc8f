/- Fraction: contracts of Add, Sub, Mul, Quo. Conditions: strings of up to a hundred thousand bytes. Fraction: contracts of Add, Sub, Mul, Quo, Of, New, Compare, Check over values. Conditions: strings of up to a hundred thousand bytes. Slices of strings: rows of cells; slices.IndexFunc, ContainsFunc over them. Condition: what the function returns. Own rows: what stays of them; the first place of a list; lists out of places. No condition. Lists of structs as rows of cells: cells, beginnings, ends; own results. No condition. -/
import Derived.Laws.StructEq
import Derived.Test.YtjknklinhegdoaaGreatDoorGah
set_option maxHeartbeats 4000000
set_option maxRecDepth 100000
namespace Go.Proofs.YtjknklinhegdoaaGreatDoor
open Go.RowKit Go.Shelf Dec QQ
theorem ku (w:World)(T:TypeId)(c0 c1 c2:Array Value):∃W,((w.alloc (.cells c0 T)).alloc (.cells c1 T)).alloc (.cells c2 T)=W∧Bx W w.heap.size c0∧Bx W (w.heap.size+1) c1∧Bx W (w.heap.size+1+1) c2∧Below w.heap.size w W:=
 ⟨_,rfl,((Bx.new w c0 T).alloc _).alloc _,(Bx.new1 w _ c1 T).alloc _,Bx.new2 w _ _ c2 T,(((alJ _ w).alloc alK _).alloc (by simp) _).alloc (by simp;omega) _⟩
theorem idx1 (g:Nat)(u:World):(Instr.index 98 (.agg #[.func (.func 89) #[] #[.pointer (some ⟨g,0,none⟩)],.func (.func 90) #[] #[.pointer (some ⟨g,0,none⟩)],.func (.func 91) #[] #[.pointer (some ⟨g,0,none⟩)],.func (.func 92) #[] #[.pointer (some ⟨g,0,none⟩)]]) (.int .i64 1)).run Tryz.prog u= .ok (.func (.func 90) #[] #[.pointer (some ⟨g,0,none⟩)]) u:=by kernel_rfl
theorem idx2 (g:Nat)(u:World):(Instr.index 98 (.agg #[.func (.func 89) #[] #[.pointer (some ⟨g,0,none⟩)],.func (.func 90) #[] #[.pointer (some ⟨g,0,none⟩)],.func (.func 91) #[] #[.pointer (some ⟨g,0,none⟩)],.func (.func 92) #[] #[.pointer (some ⟨g,0,none⟩)]]) (.int .i64 2)).run Tryz.prog u= .ok (.func (.func 91) #[] #[.pointer (some ⟨g,0,none⟩)]) u:=by kernel_rfl
theorem idx3 (g:Nat)(u:World):(Instr.index 98 (.agg #[.func (.func 89) #[] #[.pointer (some ⟨g,0,none⟩)],.func (.func 90) #[] #[.pointer (some ⟨g,0,none⟩)],.func (.func 91) #[] #[.pointer (some ⟨g,0,none⟩)],.func (.func 92) #[] #[.pointer (some ⟨g,0,none⟩)]]) (.int .i64 3)).run Tryz.prog u= .ok (.func (.func 92) #[] #[.pointer (some ⟨g,0,none⟩)]) u:=by kernel_rfl
theorem agb {a b c d:ByteArray}{r:Rat}(KA:Hid (∀g w,Gl w→Bx w g #[rQ]→Calls Tryz.prog 39 #[opV 90 g,FV a b,FV c d] w fun e w'=>e= .returned (FR r)∧Below w.heap.size w w')):
 Ret 72 #[FV a b,FV c d] (FR r):=by
 intro w hg;unfold FR at KA⊢
 unfold FV at KA⊢
 generalize frN r=rn at*
 generalize frD r=rd at*
 obtain⟨W,hW,B0,B1,B2,hbw⟩:=ku w 26 #[.string a,.string b] #[.string c,.string d] #[.string ⟨#[]⟩,.string ⟨#[]⟩];have HW:=ala hW;clear hW;have hs:St w W:=⟨hg,hbw⟩;have hi:=idx1;have c0:=B0.cell (i:=0) (v:=.string a) rfl;have c1:=B0.cell (i:=1) (v:=.string b) rfl;have c2:=B1.cell (i:=0) (v:=.string c) rfl;have c3:=B1.cell (i:=1) (v:=.string d) rfl;have c4:=B2.cell (i:=0) (v:=.string ⟨#[]⟩) rfl;have c5:=B2.cell (i:=1) (v:=.string ⟨#[]⟩) rfl;have c6:=B2.frozen 0;have c7:=B2.frozen 1
 go_enter Tryz.func72,Tryz.ntmps72
 go_wp2_with fail
 rw[HW.out];clear HW;obtain⟨B,hB⟩:∃B,w.heap.size=B:=⟨_,rfl⟩;have HB:=ala hB;rw[hB]at B0 B1 B2 c0 c1 c2 c3 c4 c5 c6 c7⊢
 clear hB
 go_region_held3 (fun w'=>w'.cell? ⟨B,0,none⟩=some (.string a)∧w'.cell? ⟨B,1,none⟩=some (.string b)∧w'.cell? ⟨B+1,0,none⟩=some (.string c)∧w'.cell? ⟨B+1,1,none⟩=some (.string d))
  (first
   |(go_keep;done)
   |exact⟨((E0.other (by omega) 0 (.string rn)).other (by omega) 1 (.string rd)).cell rfl,((E0.other (by omega) 0 (.string rn)).other (by omega) 1 (.string rd)).cell rfl,((E1.other (by omega) 0 (.string rn)).other (by omega) 1 (.string rd)).cell rfl,((E1.other (by omega) 0 (.string rn)).other (by omega) 1 (.string rd)).cell rfl⟩
   |exact⟨x30,x31,x32,x33⟩
   |exact⟨x20,x21,x22,x23⟩)
  (first
   |(go_at_call 40;refine(gV _).mono ?_;rintro e w2 ⟨g,rfl,hx2,hb2⟩;have hs2:=hs.drew.on hb2;have D0:=B0.drew.on hb2;have D1:=B1.drew.on hb2;have D2:=B2.drew.on hb2;have x20:=D0.cell (i:=0) (v:=.string a) rfl;have x21:=D0.cell (i:=1) (v:=.string b) rfl;have x22:=D1.cell (i:=0) (v:=.string c) rfl;have x23:=D1.cell (i:=1) (v:=.string d) rfl;have x24:=D2.cell (i:=0) (v:=.string ⟨#[]⟩) rfl;have x25:=D2.cell (i:=1) (v:=.string ⟨#[]⟩) rfl;have x26:=D2.frozen 0;have x27:=D2.frozen 1;unfold opsV opV)
   |(go_at_call 39;refine(KA.out g _ hs2.gl hx2).mono ?_;rintro e w3 ⟨rfl,hb3⟩;have hs3:=hs2.on hb3;have E0:=D0.on hb3;have E1:=D1.on hb3;have E2:=D2.on hb3;have x30:=E0.cell (i:=0) (v:=.string a) rfl;have x31:=E0.cell (i:=1) (v:=.string b) rfl;have x32:=E1.cell (i:=0) (v:=.string c) rfl;have x33:=E1.cell (i:=1) (v:=.string d) rfl;have x34:=E2.cell (i:=0) (v:=.string ⟨#[]⟩) rfl;have x35:=E2.cell (i:=1) (v:=.string ⟨#[]⟩) rfl;have x36:=E2.frozen 0;have x37:=E2.frozen 1))
 go_wp2_with fail
 have B6:=(E2.set 0 (.string rn)).set 1 (.string rd);have y0:=B6.cell (i:=0) (v:=.string rn) rfl;have y1:=B6.cell (i:=1) (v:=.string rd) rfl;have hs4:=(hs3.set (b:=B+1+1) (by have:=HB.out;omega) 0 (.string rn)).set (b:=B+1+1) (by have:=HB.out;omega) 1 (.string rd);exact bodyPost_ret (v:=.agg #[.string rn,.string rd]) (by simp[results,Tryz.results72,go_sem,y0,y1]) rfl ⟨rfl,hs4.2⟩
theorem agi {a b c d:ByteArray}{r:Rat}(KA:Hid (∀g w,Gl w→Bx w g #[rQ]→Calls Tryz.prog 39 #[opV 91 g,FV a b,FV c d] w fun e w'=>e= .returned (FR r)∧Below w.heap.size w w')):
 Ret 28 #[FV a b,FV c d] (FR r):=by
 intro w hg;unfold FR at KA⊢
 unfold FV at KA⊢
 generalize frN r=rn at*
 generalize frD r=rd at*
 obtain⟨W,hW,B0,B1,B2,hbw⟩:=ku w 26 #[.string a,.string b] #[.string c,.string d] #[.string ⟨#[]⟩,.string ⟨#[]⟩];have HW:=ala hW;clear hW;have hs:St w W:=⟨hg,hbw⟩;have hi:=idx2;have c0:=B0.cell (i:=0) (v:=.string a) rfl;have c1:=B0.cell (i:=1) (v:=.string b) rfl;have c2:=B1.cell (i:=0) (v:=.string c) rfl;have c3:=B1.cell (i:=1) (v:=.string d) rfl;have c4:=B2.cell (i:=0) (v:=.string ⟨#[]⟩) rfl;have c5:=B2.cell (i:=1) (v:=.string ⟨#[]⟩) rfl;have c6:=B2.frozen 0;have c7:=B2.frozen 1
 go_enter Tryz.func28,Tryz.ntmps28
 go_wp2_with fail
 rw[HW.out];clear HW;obtain⟨B,hB⟩:∃B,w.heap.size=B:=⟨_,rfl⟩;have HB:=ala hB;rw[hB]at B0 B1 B2 c0 c1 c2 c3 c4 c5 c6 c7⊢
 clear hB
 go_region_held3 (fun w'=>w'.cell? ⟨B,0,none⟩=some (.string a)∧w'.cell? ⟨B,1,none⟩=some (.string b)∧w'.cell? ⟨B+1,0,none⟩=some (.string c)∧w'.cell? ⟨B+1,1,none⟩=some (.string d))
  (first
   |(go_keep;done)
   |exact⟨((E0.other (by omega) 0 (.string rn)).other (by omega) 1 (.string rd)).cell rfl,((E0.other (by omega) 0 (.string rn)).other (by omega) 1 (.string rd)).cell rfl,((E1.other (by omega) 0 (.string rn)).other (by omega) 1 (.string rd)).cell rfl,((E1.other (by omega) 0 (.string rn)).other (by omega) 1 (.string rd)).cell rfl⟩
   |exact⟨x30,x31,x32,x33⟩
   |exact⟨x20,x21,x22,x23⟩)
  (first
   |(go_at_call 40;refine(gV _).mono ?_;rintro e w2 ⟨g,rfl,hx2,hb2⟩;have hs2:=hs.drew.on hb2;have D0:=B0.drew.on hb2;have D1:=B1.drew.on hb2;have D2:=B2.drew.on hb2;have x20:=D0.cell (i:=0) (v:=.string a) rfl;have x21:=D0.cell (i:=1) (v:=.string b) rfl;have x22:=D1.cell (i:=0) (v:=.string c) rfl;have x23:=D1.cell (i:=1) (v:=.string d) rfl;have x24:=D2.cell (i:=0) (v:=.string ⟨#[]⟩) rfl;have x25:=D2.cell (i:=1) (v:=.string ⟨#[]⟩) rfl;have x26:=D2.frozen 0;have x27:=D2.frozen 1;unfold opsV opV)
   |(go_at_call 39;refine(KA.out g _ hs2.gl hx2).mono ?_;rintro e w3 ⟨rfl,hb3⟩;have hs3:=hs2.on hb3;have E0:=D0.on hb3;have E1:=D1.on hb3;have E2:=D2.on hb3;have x30:=E0.cell (i:=0) (v:=.string a) rfl;have x31:=E0.cell (i:=1) (v:=.string b) rfl;have x32:=E1.cell (i:=0) (v:=.string c) rfl;have x33:=E1.cell (i:=1) (v:=.string d) rfl;have x34:=E2.cell (i:=0) (v:=.string ⟨#[]⟩) rfl;have x35:=E2.cell (i:=1) (v:=.string ⟨#[]⟩) rfl;have x36:=E2.frozen 0;have x37:=E2.frozen 1))
 go_wp2_with fail
 have B6:=(E2.set 0 (.string rn)).set 1 (.string rd);have y0:=B6.cell (i:=0) (v:=.string rn) rfl;have y1:=B6.cell (i:=1) (v:=.string rd) rfl;have hs4:=(hs3.set (b:=B+1+1) (by have:=HB.out;omega) 0 (.string rn)).set (b:=B+1+1) (by have:=HB.out;omega) 1 (.string rd);exact bodyPost_ret (v:=.agg #[.string rn,.string rd]) (by simp[results,Tryz.results28,go_sem,y0,y1]) rfl ⟨rfl,hs4.2⟩
theorem agh {a b c d:ByteArray}{r:Rat}(sc:c.size≤1000000)(hc:aj c≠0)(KA:Hid (∀g w,Gl w→Bx w g #[rQ]→Calls Tryz.prog 39 #[opV 92 g,FV a b,FV c d] w fun e w'=>e= .returned (FR r)∧Below w.heap.size w w')):
 Ret 15 #[FV a b,FV c d] (.tuple #[FR r,.int .i64 0]):=by
 intro w hg;have q:(fA (aj c) 0==0)=false:=by rw[afl];exact alH hc
 have KC:=ac7 (Vs.arg sc) Vs.nil;generalize fA (aj c) 0=cc at*
 unfold FR at KA⊢
 unfold FV at KA⊢
 generalize frN r=rn at*
 generalize frD r=rd at*
 obtain⟨W,hW,B0,B1,B2,hbw⟩:=ku w 26 #[.string a,.string b] #[.string c,.string d] #[.string ⟨#[]⟩,.string ⟨#[]⟩];have HW:=ala hW;clear hW;have hs:St w W:=⟨hg,hbw⟩;have hi:=idx3;have c0:=B0.cell (i:=0) (v:=.string a) rfl;have c1:=B0.cell (i:=1) (v:=.string b) rfl;have c2:=B1.cell (i:=0) (v:=.string c) rfl;have c3:=B1.cell (i:=1) (v:=.string d) rfl;have c4:=B2.cell (i:=0) (v:=.string ⟨#[]⟩) rfl;have c5:=B2.cell (i:=1) (v:=.string ⟨#[]⟩) rfl;have c6:=B2.frozen 0;have c7:=B2.frozen 1
 go_enter Tryz.func15,Tryz.ntmps15
 go_wp2_with fail
 rw[HW.out];clear HW;refine KC.step hs ?_;clear c0 c1 c2 c3 c4 c5 c6 c7;intro W1 hs hb;replace B0:=B0.on hb;replace B1:=B1.on hb;replace B2:=B2.on hb;clear hb hbw;have c0:=B0.cell (i:=0) (v:=.string a) rfl;have c1:=B0.cell (i:=1) (v:=.string b) rfl;have c2:=B1.cell (i:=0) (v:=.string c) rfl;have c3:=B1.cell (i:=1) (v:=.string d) rfl;have c4:=B2.cell (i:=0) (v:=.string ⟨#[]⟩) rfl;have c5:=B2.cell (i:=1) (v:=.string ⟨#[]⟩) rfl;have c6:=B2.frozen 0;have c7:=B2.frozen 1
 go_wp2_with fail
 obtain⟨B,hB⟩:∃B,w.heap.size=B:=⟨_,rfl⟩;have HB:=ala hB;rw[hB]at B0 B1 B2 c0 c1 c2 c3 c4 c5 c6 c7⊢
 clear hB
 go_region_held3 (fun w'=>w'.cell? ⟨B,0,none⟩=some (.string a)∧w'.cell? ⟨B,1,none⟩=some (.string b)∧w'.cell? ⟨B+1,0,none⟩=some (.string c)∧w'.cell? ⟨B+1,1,none⟩=some (.string d))
  (first
   |(go_keep;done)
   |exact⟨((E0.other (by omega) 0 (.string rn)).other (by omega) 1 (.string rd)).cell rfl,((E0.other (by omega) 0 (.string rn)).other (by omega) 1 (.string rd)).cell rfl,((E1.other (by omega) 0 (.string rn)).other (by omega) 1 (.string rd)).cell rfl,((E1.other (by omega) 0 (.string rn)).other (by omega) 1 (.string rd)).cell rfl⟩
   |exact⟨x30,x31,x32,x33⟩
   |exact⟨x20,x21,x22,x23⟩)
  (first
   |(go_at_call 40;refine(gV _).mono ?_;rintro e w2 ⟨g,rfl,hx2,hb2⟩;have hs2:=hs.drew.on hb2;have D0:=B0.drew.on hb2;have D1:=B1.drew.on hb2;have D2:=B2.drew.on hb2;have x20:=D0.cell (i:=0) (v:=.string a) rfl;have x21:=D0.cell (i:=1) (v:=.string b) rfl;have x22:=D1.cell (i:=0) (v:=.string c) rfl;have x23:=D1.cell (i:=1) (v:=.string d) rfl;have x24:=D2.cell (i:=0) (v:=.string ⟨#[]⟩) rfl;have x25:=D2.cell (i:=1) (v:=.string ⟨#[]⟩) rfl;have x26:=D2.frozen 0;have x27:=D2.frozen 1;unfold opsV opV)
   |(go_at_call 39;refine(KA.out g _ hs2.gl hx2).mono ?_;rintro e w3 ⟨rfl,hb3⟩;have hs3:=hs2.on hb3;have E0:=D0.on hb3;have E1:=D1.on hb3;have E2:=D2.on hb3;have x30:=E0.cell (i:=0) (v:=.string a) rfl;have x31:=E0.cell (i:=1) (v:=.string b) rfl;have x32:=E1.cell (i:=0) (v:=.string c) rfl;have x33:=E1.cell (i:=1) (v:=.string d) rfl;have x34:=E2.cell (i:=0) (v:=.string ⟨#[]⟩) rfl;have x35:=E2.cell (i:=1) (v:=.string ⟨#[]⟩) rfl;have x36:=E2.frozen 0;have x37:=E2.frozen 1))
 go_wp2_with fail
 have B6:=(E2.set 0 (.string rn)).set 1 (.string rd);have y0:=B6.cell (i:=0) (v:=.string rn) rfl;have y1:=B6.cell (i:=1) (v:=.string rd) rfl;have hs4:=(hs3.set (b:=B+1+1) (by have:=HB.out;omega) 0 (.string rn)).set (b:=B+1+1) (by have:=HB.out;omega) 1 (.string rd);exact bodyPost_ret (v:=.tuple #[.agg #[.string rn,.string rd],.int .i64 0]) (by simp[results,Tryz.results15,go_sem,y0,y1]) rfl ⟨rfl,hs4.2⟩
theorem eqlF (a b c d:ByteArray)(u:World):(binOp .eql 26 (.agg #[.string a,.string b]) (.agg #[.string c,.string d])).run Tryz.prog u= .ok (.bool ((a.toList==c.toList)&&(b.toList==d.toList))) u:=by
 simp[go_sem]
 repeat' split
 all_goals simp_all
theorem neqF (a b c d:ByteArray)(u:World):(binOp .neq 26 (.agg #[.string a,.string b]) (.agg #[.string c,.string d])).run Tryz.prog u= .ok (.bool (!((a.toList==c.toList)&&(b.toList==d.toList)))) u:=by
 simp[go_sem]
 repeat' split
 all_goals simp_all
theorem Vq.vs {n d:ByteArray}{q:Rat}(h:Vq n d q):Vs n (aj n)∧Vs (dn d) (aj (dn d))∧Fit 100000 (aj n)∧Fit 100001 (aj (dn d)):=by
 have h1:=h.2.1;have h2:=h.2.2;have h3:=vW d;exact⟨Vs.arg (by omega),Vs.arg (by omega),Fit.val (by omega),Fit.val (by omega)⟩
theorem Vs.mul {k m:Nat}{x y:Int}(h:Fit k x)(h2:Fit m y)(hk:k+m≤999999):Vs (ag (x*y)) (x*y):=Vs.can (h.mul h2) hk
theorem aic (x y:Rat):fA (x-y).num 0=iI x y:=akM x y
theorem SubF {a b c d:ByteArray}{p q:Rat}(h1:Vq a b p)(h2:Vq c d q):Ret 72 #[FV a b,FV c d] (FR (p-q)):=by
 obtain⟨va,vb,fa,fb⟩:=h1.vs;obtain⟨vc,vd,fc,fd⟩:=h2.vs;have nb:=rX b;have nd:=rX d;have v1:=Vs.mul fa fd (by omega);have v2:=Vs.mul fc fb (by omega);have f1:Fit 300000 (aj a*aj (dn d)-aj c*aj (dn b)):=(Fit.sub (fa.mul fd) (fc.mul fb)).mono (by omega);have f2:Fit 300000 (aj (dn b)*aj (dn d)):=(fb.mul fd).mono (by omega);have KM:=lQ (Vs.can f1 (by omega)) (Vs.can f2 (by omega)) (ali f1.size (by omega)) (ali f2.size (by omega)) (Int.mul_ne_zero nb nd);rw[ajt nb nd,lX,lX,h1.1,h2.1]at KM;exact agb (fun g w hg hx=>aaq g w hg hx (by have:=h1.2.2;omega) (by have:=h2.2.2;omega) (fun w hg hx=>ahr va vb vc vd g w hg hx v1 v2) KM)
theorem MulF {a b c d:ByteArray}{p q:Rat}(h1:Vq a b p)(h2:Vq c d q):Ret 28 #[FV a b,FV c d] (FR (p*q)):=by
 obtain⟨va,vb,fa,fb⟩:=h1.vs;obtain⟨vc,vd,fc,fd⟩:=h2.vs;have nb:=rX b;have nd:=rX d;have f1:Fit 300000 (aj a*aj c):=(fa.mul fc).mono (by omega);have f2:Fit 300000 (aj (dn b)*aj (dn d)):=(fb.mul fd).mono (by omega);have KM:=lQ (Vs.can f1 (by omega)) (Vs.can f2 (by omega)) (ali f1.size (by omega)) (ali f2.size (by omega)) (Int.mul_ne_zero nb nd);rw[adP nb nd,lX,lX,h1.1,h2.1]at KM;exact agi (fun g w hg hx=>aap g w hg hx (by have:=h1.2.2;omega) (by have:=h2.2.2;omega) (fun w hg hx=>agu va vb vc vd g w hg hx) KM)
theorem QuoF {a b c d:ByteArray}{p q:Rat}(h1:Vq a b p)(h2:Vq c d q)(hq:q≠0):Ret 15 #[FV a b,FV c d] (.tuple #[FR (p/q),.int .i64 0]):=by
 obtain⟨va,vb,fa,fb⟩:=h1.vs;obtain⟨vc,vd,fc,fd⟩:=h2.vs;have nb:=rX b;have nd:=rX d;have nc:aj c≠0:=fun e=>hq (by rw[←h2.1];exact zu.2 e)
 have f1:Fit 300000 (aj a*aj (dn d)):=(fa.mul fd).mono (by omega);have f2:Fit 300000 (aj (dn b)*aj c):=(fb.mul fc).mono (by omega);have KM:=lQ (Vs.can f1 (by omega)) (Vs.can f2 (by omega)) (ali f1.size (by omega)) (ali f2.size (by omega)) (Int.mul_ne_zero nb nc);rw[aju nb nc nd,lX,lX,h1.1,h2.1]at KM;exact agh (by have:=h2.2.1;omega) nc (fun g w hg hx=>acW g w hg hx (by have:=h1.2.2;omega) (by have:=h2.2.2;omega) (fun w hg hx=>ajF va vb vc vd g w hg hx) KM)
theorem OfF {a:ByteArray}{x:Int}(h:Vs a x)(s:a.size≤999999):Ret 16 #[.string a] (FR (x:Rat)):=by
 intro w hg;have hs:=St.refl hg;have K1:=lQ h (show Vs ⟨#[49]⟩ 1 from⟨by decide,by decide⟩) s (by decide) (by decide);rw[zt]at K1;unfold FR at K1⊢
 generalize frN (x:Rat)=rn at*
 generalize frD (x:Rat)=rd at*
 go_enter Tryz.func16,Tryz.ntmps16
 go_wp2_with fail
 refine K1.step (hs.alloc _) ?_;intro w1 hs hb;have B:=(Bx.new w #[.string ⟨#[]⟩,.string ⟨#[]⟩] 26).on hb;have xB0:=B.cell (i:=0) (v:=.string ⟨#[]⟩) rfl;have fB0:=B.frozen 0;have xB1:=B.cell (i:=1) (v:=.string ⟨#[]⟩) rfl;have fB1:=B.frozen 1
 go_wp2_with fail
 have B6:=(B.set 0 (.string rn)).set 1 (.string rd);have y0:=B6.cell (i:=0) (v:=.string rn) rfl;have y1:=B6.cell (i:=1) (v:=.string rd) rfl;have hs4:=(hs.set (b:=w.heap.size) alK 0 (.string rn)).set (b:=w.heap.size) alK 1 (.string rd);exact bodyPost_ret (v:=.agg #[.string rn,.string rd]) (by simp[results,Tryz.results16,go_sem,y0,y1]) rfl ⟨rfl,hs4.2⟩
theorem CmpF {a b c d:ByteArray}{p q:Rat}(h1:Vq a b p)(h2:Vq c d q){k:Nat}(hf:bH k (p-q))(hk:k≤99999):Ret 179 #[FV a b,FV c d] (.int .i64 (iI p q)):=by
 intro w hg;have hs:=St.refl hg;have K1:=SubF h1 h2;have v:=Vq.fr hf hk;have K2:=dL (n:=frN (p-q)) (d:=frD (p-q)) (by have:=v.2.2;omega);have K3:=ac7 (show Vs (frN (p-q)) (p-q).num from⟨aW _,by have:=v.2.1;omega⟩) Vs.nil;rw[aic]at K3;unfold FR at K1;unfold FV at K1 K2⊢
 generalize frN (p-q)=rn at*
 generalize dn (frD (p-q))=rm at*
 generalize frD (p-q)=rd at*
 generalize iI p q=cc at*
 go_enter Tryz.func179,Tryz.ntmps179
 go_wp2_with fail
 refine K1.step ((hs.alloc _).alloc _) ?_;intro w1 hs _
 go_wp2_with fail
 refine K2.step hs ?_;intro w2 hs _
 go_wp2_with fail
 refine K3.step hs ?_;intro w3 hs _
 go_wp2_with fail
 go_ret
 exact⟨rfl,hs.2⟩
def aak (a b:ByteArray):Int:=if a=frN (cK a b)∧b=frD (cK a b)then 0 else 1
theorem toList_inj {s t:ByteArray}(h:s.toList=t.toList):s=t:=by rw[aD,aD]at h;exact bytes_inj h
theorem akQ (a b:ByteArray):aak a b=if ((a.toList==(frN (cK a b)).toList)&&(b.toList==(frD (cK a b)).toList))=true then 0 else 1:=by
 unfold aak;congr 1;simp only[ale,beq_iff_eq,eq_iff_iff];exact⟨fun⟨h1,h2⟩=>⟨by rw[←h1],by rw[←h2]⟩,fun⟨h1,h2⟩=>⟨toList_inj h1,toList_inj h2⟩⟩
theorem ChkF {a b:ByteArray}(s1:a.size≤100000)(s2:b.size≤100000):Ret 160 #[FV a b] (.int .i64 (aak a b)):=by
 intro w hg;have K1:=dL (n:=a) (d:=b) (by omega);have h3:=vW b;have K2:=lQ (Vs.arg (s:=a) (by omega)) (Vs.arg (s:=dn b) (by omega)) (by omega) (by omega) (rX b);rw[lX]at K2;have he:=akQ a b;rw[he];unfold FR at K2;unfold FV at K1⊢
 generalize frN (cK a b)=rn at*
 generalize frD (cK a b)=rd at*
 generalize dn b=b' at*
 clear he h3;have hn:=neqF a b rn rd;generalize ((a.toList==rn.toList)&&(b.toList==rd.toList))=t at*
 have hs:=(St.refl hg).alloc (.cells #[.string a,.string b] 26);have x0:=(Bx.new w #[.string a,.string b] 26).keeps (i:=0) (v:=.string a) rfl;have x1:=(Bx.new w #[.string a,.string b] 26).keeps (i:=1) (v:=.string b) rfl;cases t
 all_goals
  go_enter Tryz.func160,Tryz.ntmps160
  go_wp2_with fail
  refine ax (by kernel_rfl) (by kernel_rfl) ?_
  repeat (go_big_quiet_step (first|(with_reducible exact K1.kept hs)|(with_reducible exact K2.kept hs)))
  refine wpQuiet_nil ?_;rintro _ ⟨u,rfl⟩
  go_wp2_with fail
  go_ret
  exact⟨rfl,(hs.kept u).2⟩
def Row (w:World)(A:Option Addr)(vs:List Value):Prop:=∀(i:Nat) (v:Value),vs[i]? =some v→∃b o,A=some ⟨b,o,none⟩∧b<w.heap.size∧w.cell? ⟨b,o+i,none⟩=some v
theorem Row.on {w w':World}{A:Option Addr}{vs:List Value}(h:Row w A vs)(hb:Below w.heap.size w w'):Row w' A vs:=by
 intro i v hv;obtain⟨b,o,hA,hB,hc⟩:=h i v hv;exact⟨b,o,hA,alx hB hb.size,(hb.cell (p:=⟨b,o+i,none⟩) hB).trans hc⟩
theorem Row.of {w:World}{b:Nat}{cs:Array Value}(h:Bx w b cs):Row w (some ⟨b,0,none⟩) cs.toList:=by
 intro i v hv;exact⟨b,0,rfl,h.lt,by rw[Nat.zero_add];exact h.cell (by rw[←alA];exact hv)⟩
def sv (s:ByteArray):Value:=.string s
def ig (I:World→Prop)(f:FuncId)(args:Array Value)(V:Value):Prop:=∀w,Gl w→I w→Calls Tryz.prog f args w fun e w'=>e= .returned V∧Below w.heap.size w w'
theorem ig.step {I:World→Prop}{f:FuncId}{args:Array Value}{V:Value}{w0 w:World}{Q:Ending→World→Prop}(h:ig I f args V)(hs:St w0 w)(hi:I w)(k:∀w',St w0 w'→Below w.heap.size w w'→Q (.returned V) w'):Calls Tryz.prog f args w Q:=
 (h w hs.gl hi).mono fun _ w' ⟨he,hb⟩=>he▸k w' (hs.on hb) hb
theorem Ret.i {f:FuncId}{args:Array Value}{V:Value}(h:Ret f args V)(I:World→Prop):ig I f args V:=fun w hg _=>h w hg
def acZ (I:World→Prop):Prop:=∀w w':World,I w→Below w.heap.size w w'→I w'
def aiT (p:ByteArray→Bool)(l:List ByteArray):Int:=match l.findIdx? p with|some i=>i|none=> -1
theorem ahD (p:ByteArray→Bool)(l:List ByteArray):decide (0≤aiT p l)=l.any p:=by
 unfold aiT;cases h:l.findIdx? p with
 |none=>
  have:=List.findIdx?_eq_none_iff.1 h
  symm
  rw[List.any_eq_false.2 (fun x hx=>by simp[this x hx])];rfl
 |some i=>
  obtain⟨hi,h1,_⟩:=List.findIdx?_eq_some_iff_getElem.1 h;rw[List.any_eq_true.2 ⟨l[i],List.getElem_mem hi,h1⟩];simp
theorem akf {p:ByteArray→Bool}{l:List ByteArray}{k:Nat}{s:ByteArray}(hs:l[k]? =some s)(hp:p s=true)(hn:∀i,i<k→∀t,l[i]? =some t→p t=false):aiT p l=k:=by
 have hk:k<l.length:=(alj.1 hs).1;have:l.findIdx? p=some k:=by
  rw[List.findIdx?_eq_some_iff_getElem];refine⟨hk,?_,fun j hj=>?_⟩
  ·have:=(alj.1 hs).2
   rw[this];exact hp
  ·have:=hn j hj l[j] (ald (by omega))
   simp[this]
 unfold aiT;rw[this]
theorem aeJ {p:ByteArray→Bool}{l:List ByteArray}(hn:∀i,i<l.length→∀t,l[i]? =some t→p t=false):aiT p l= -1:=by
 have:l.findIdx? p=none:=by
  rw[List.findIdx?_eq_none_iff];intro x hx;obtain⟨i,hi,rfl⟩:=List.mem_iff_getElem.1 hx;exact hn i hi _ (ald hi)
 unfold aiT;rw[this]
theorem aeI {A:Option Addr}{n c:Nat}{l:List ByteArray}{f:FuncId}{cap:Array Value}{p:ByteArray→Bool}{I:World→Prop}(hI:acZ I)(hn:l.length=n)(hm:n≤4611686018427387904)(hcf:∀(args:Array Value) (u:World),(callFunc f args).run Tryz.prog u= .ok (.enter f args) u)
 (KF:Hid (∀s∈l,ig I f (#[.string s]++cap) (.bool (p s)))):
 ig (fun w=>Row w A (l.map sv)∧I w) 263 #[.slice A n c,.func (.func f) #[] cap] (.int .i64 (aiT p l)):=by
 intro w hg hi;have hs:=St.refl hg;have HN:=ala hn;have Hi:=ala hi;have HI:=ala hI;clear hn hi hI
 go_enter Tryz.func263,Tryz.ntmps263
 go_wp2_with fail
 go_loopw [8] (fun s wr=>∃k:Nat,k≤n∧s= .int .i64 (k:Int)∧St w wr∧Hid (Row wr A (l.map sv)∧I wr)∧Hid (∀i,i<k→∀t,l[i]? =some t→p t=false)) (fun s _=>(n-intOf s).toNat)
 case atStart=>exact⟨0,by omega,rfl,hs,Hi,fun i h=>by omega⟩
 case round=>
  obtain⟨k,hk,rfl,hs,H,HP⟩:=hrel;by_cases hkn:k=n
  ·have q:decide ((k:Int)<(n:Int))=false:=alH (by omega)
   have HE:=ala (aeJ (p:=p) (l:=l) (fun i hi t ht=>HP.out i (by rw[HN.out]at hi;omega) t ht))
   go_wp2_with fail
   go_ret
   exact⟨by rw[HE.out];rfl,hs.2⟩
  ·have hkl:k<n:=by omega
   have q:decide ((k:Int)<(n:Int))=true:=alI (by omega);obtain⟨s,hs0⟩:∃s,l[k]? =some s:=⟨l[k]'(by rw[HN.out];exact hkl),by simp⟩;obtain⟨b,o,hA,hB,hc⟩:=H.out.1 k (.string s) (by rw[als,hs0];rfl);subst hA;have KK:=KF.out s (alk hs0);have HS:=ala hs0;clear hs0 hkn;obtain⟨pv,hpv⟩:∃pv,p s=pv:=⟨_,rfl⟩;rw[hpv]at KK;have HPV:=ala hpv;clear hpv;cases pv with
   |true=>
    have HE:=ala (akf HS.out HPV.out HP.out)
    go_wp2_with fail
    refine KK.step hs H.out.2 ?_;intro w2 hs hb
    go_wp2_with fail
    go_ret
    exact⟨by rw[HE.out];rfl,hs.2⟩
   |false=>
    go_wp2_with fail
    refine KK.step hs H.out.2 ?_;intro w2 hs hb;have H2:Hid (Row w2 (some ⟨b,o,none⟩) (l.map sv)∧I w2):=⟨H.out.1.on hb,HI.out _ _ H.out.2 hb⟩
    go_wp2_with fail
    go_roundw
    case rel=>
     refine⟨k+1,by omega,by go_num,hs,H2,?_⟩;intro i hi t ht;by_cases e:i=k
     ·subst e
      rw[HS.out]at ht;cases ht;exact HPV.out
     ·exact HP.out i (by omega) t ht
    case measure=>simp[intOf];omega
theorem yz {A:Option Addr}{n c:Nat}{l:List ByteArray}{f:FuncId}{cap:Array Value}{p:ByteArray→Bool}{I:World→Prop}(hI:acZ I)(hn:l.length=n)(hm:n≤4611686018427387904)(hcf:∀(args:Array Value) (u:World),(callFunc f args).run Tryz.prog u= .ok (.enter f args) u)
 (KF:Hid (∀s∈l,ig I f (#[.string s]++cap) (.bool (p s)))):
 ig (fun w=>Row w A (l.map sv)∧I w) 237 #[.slice A n c,.func (.func f) #[] cap] (.bool (l.any p)):=by
 intro w hg hi;have hs:=St.refl hg;have K:=aeI (A:=A) (c:=c) hI hn hm hcf KF;have e:=ahD p l;generalize aiT p l=r at*
 generalize l.any p=v at*
 have Hi:=ala hi;clear hn hi hI
 go_enter Tryz.func237,Tryz.ntmps237
 go_wp2_with fail
 refine K.step hs Hi.out ?_;intro w1 hs _
 go_wp2_with fail
 go_ret
 exact⟨rfl,hs.2⟩
end Go.Proofs.YtjknklinhegdoaaGreatDoor
namespace Go.Proofs.YtjknklinhegdoaaGreatDoor
open Go.RowKit Go.Shelf Dec QQ
theorem own_below {w w':World}{base n size:Nat}{T:TypeId}{v:Value}{xs:List Value}(h:w.ownsRow base T size v n xs)(hb:Below w.heap.size w w'):w'.ownsRow base T size v n xs:=by
 refine⟨h.1,?_⟩;rcases h.2 with h|⟨g,cap,cur,e1,e2,e3,r⟩
 ·exact .inl h
 ·exact .inr ⟨g,cap,cur,e1,e2,(hb.block g (alc.1 e3).1).trans e3,r⟩
theorem uP {w:World}{base n size:Nat}{T:TypeId}{v:Value}{xs:List Value}(h:w.ownsRow base T size v n xs):∀k,v.ownBlock=some k→base≤k:=by
 intro k hk;rcases h.2 with ⟨rfl,_⟩|⟨g,cap,cur,rfl,hb,_⟩
 ·simp[Value.ownBlock]at hk
 ·simp[Value.ownBlock]at hk;omega
theorem adL (w:World)(T:TypeId)(cs:List Value):Reads (w.alloc (.cells cs.toArray T)) (w.heap.size+1) cs.length (some ⟨w.heap.size,0,none⟩) 1 cs:=by
 refine⟨by simp,fun _=>⟨_,rfl,by simp,?_⟩⟩;intro j u hu;have h:=aZ w (.cells cs.toArray T);rw[show (⟨w.heap.size,0,none⟩:Addr).add j=⟨w.heap.size,j,none⟩by unfold Addr.add;by_cases h:j=0<;>simp[h]];unfold World.cell?;rw[h];simp[hu]
theorem dB {w:World}{base base' n size:Nat}{T:TypeId}{v:Value}{xs:List Value}(h:w.ownsRow base T size v n xs)(hb:base'≤base):w.ownsRow base' T size v n xs:=by
 refine⟨h.1,?_⟩;rcases h.2 with h|⟨g,cap,cur,e1,e2,e3,r⟩
 ·exact .inl h
 ·exact .inr ⟨g,cap,cur,e1,by omega,e3,r⟩
def abd {α:Type}(p:α→Bool)(l:List α):Int:=match l.findIdx? p with|some i=>i|none=> -1
theorem abb {α:Type}(p:α→Bool)(l:List α):decide (0≤abd p l)=l.any p:=by
 unfold abd;cases h:l.findIdx? p with
 |none=>
  have:=List.findIdx?_eq_none_iff.1 h
  symm
  rw[List.any_eq_false.2 (fun x hx=>by simp[this x hx])];rfl
 |some i=>
  obtain⟨hi,h1,_⟩:=List.findIdx?_eq_some_iff_getElem.1 h;rw[List.any_eq_true.2 ⟨l[i],List.getElem_mem hi,h1⟩];simp
theorem aeK {α:Type}{p:α→Bool}{l:List α}{k:Nat}{s:α}(hs:l[k]? =some s)(hp:p s=true)(hn:∀i,i<k→∀t,l[i]? =some t→p t=false):abd p l=k:=by
 have hk:k<l.length:=(alj.1 hs).1;have:l.findIdx? p=some k:=by
  rw[List.findIdx?_eq_some_iff_getElem];refine⟨hk,?_,fun j hj=>?_⟩
  ·have:=(alj.1 hs).2
   rw[this];exact hp
  ·have:=hn j hj l[j] (ald (by omega))
   simp[this]
 unfold abd;rw[this]
theorem xU {α:Type}{p:α→Bool}{l:List α}(hn:∀i,i<l.length→∀t,l[i]? =some t→p t=false):abd p l= -1:=by
 have:l.findIdx? p=none:=by
  rw[List.findIdx?_eq_none_iff];intro x hx;obtain⟨i,hi,rfl⟩:=List.mem_iff_getElem.1 hx;exact hn i hi _ (ald hi)
 unfold abd;rw[this]
theorem zP {α:Type}(Q:Nat→α→Prop):∀n:Nat,(∀i,i<n→∃x,Q i x)→∃l:List α,l.length=n∧∀i x,l[i]? =some x→Q i x:=by
 intro n
 induction n with
 |zero=>intro _;exact⟨[],rfl,fun i x h=>by simp at h⟩
 |succ n ih=>
  intro h;obtain⟨l,hl,hq⟩:=ih (fun i hi=>h i (by omega));obtain⟨x,hx⟩:=h n (by omega);refine⟨l++ [x],by simp[hl],fun i y hy=>?_⟩;by_cases hi:i<n
  ·rw[List.getElem?_append_left (by omega)]at hy;exact hq i y hy
  ·rw[List.getElem?_append_right (by omega)]at hy
   have:i-l.length=0:=by
    rcases Nat.eq_zero_or_pos (i-l.length)with h0|h0
    ·exact h0
    ·have hlt:=(alj.1 hy).1;simp at hlt;omega
   rw[this]at hy;simp at hy;subst hy;obtain rfl:i=n:=by omega
   exact hx
theorem aio {s:ByteArray}:chk s=0↔s=ag (aj s):=by
 unfold chk;split
 ·rename_i h;exact⟨fun _=>h,fun _=>rfl⟩
 ·rename_i h;exact⟨fun e=>by omega,fun e=>absurd e h⟩
theorem DivA {a b:ByteArray}{x y:Int}(h1:Vs a x)(h2:Vs b y):Ret 159 #[.string a,.string b] (.tuple #[.string (yP x y).1,.string (yP x y).2.1,.int .i64 (yP x y).2.2]):=fun w hg=>DivV h1 h2 w hg
def nil:ByteArray:=⟨#[]⟩
end Go.Proofs.YtjknklinhegdoaaGreatDoor
namespace Go.Proofs.YtjknklinhegdoaaGreatDoor
open Go.RowKit Go.Shelf Dec QQ
def au {α:Type}(cs:α→List Value)(l:List α):List Value:=l.flatMap cs
section
variable {α:Type} {cs:α→List Value} {m:Nat}
theorem qH (hm:∀a,(cs a).length =m)(l:List α):(au cs l).length =m*l.length:=by
 induction l with
 |nil=>simp[au]
 |cons d l ih=>
  show (cs d++au cs l).length =_;rw[alG,hm,ih,aly,Nat.mul_add,Nat.mul_one,Nat.add_comm]
theorem abl (hm:∀a,(cs a).length =m){l:List α}{k j:Nat}{d:α}{x:Value}(h:l[k]? =some d)(hj:(cs d)[j]? =some x):(au cs l)[k*m+j]? =some x:=by
 induction l generalizing k with
 |nil=>simp at h
 |cons e l ih=>
  have hjm:j<m:=by rw[←hm d];exact(alj.1 hj).1
  cases k with
  |zero=>
   simp at h;subst h;show (cs e++au cs l)[0*m+j]? =some x;rw[List.getElem?_append_left (by rw[hm];omega),Nat.zero_mul,Nat.zero_add];exact hj
  |succ k=>
   simp at h;show (cs e++au cs l)[(k+1)*m+j]? =some x;have e1:(k+1)*m=k*m+m:=by rw[Nat.succ_mul]
   rw[List.getElem?_append_right (by rw[hm];omega),hm,show (k+1)*m+j-m=k*m+j by omega];exact ih h
theorem uf (l:List α)(r:α):au cs (l++ [r])=au cs l++cs r:=by simp[au]
theorem tZ (hm:∀a,(cs a).length =m)(l:List α)(k:Nat):au cs (l.take k)=(au cs l).take (m*k):=by
 induction l generalizing k with
 |nil=>simp[au]
 |cons d l ih=>
  cases k with
  |zero=>simp[au]
  |succ k=>
   show cs d++au cs (l.take k)=(cs d++au cs l).take (m*(k+1));have e1:m*(k+1)=m+m*k:=by rw[Nat.mul_succ,Nat.add_comm]
   rw[ih,List.take_append,hm,show m*(k+1)-m=m*k by omega,aln (l:=cs d) (by rw[hm];omega)]
theorem eT (hm:∀a,(cs a).length =m)(h0:0<m){w:World}{A:Option Addr}{l:List α}{k:Nat}{d:α}(h:Row w A (au cs l))(hk:l[k]? =some d):
 ∃b o,A=some ⟨b,o,none⟩∧b<w.heap.size∧∀j x,(cs d)[j]? =some x→w.cell? ⟨b,o+(k*m+j),none⟩=some x:=by
 obtain⟨x,hx⟩:∃x,(cs d)[0]? =some x:=⟨(cs d)[0]'(by rw[hm];exact h0),by simp⟩;obtain⟨b,o,hA,hb,_⟩:=h _ _ (abl hm hk hx);refine⟨b,o,hA,hb,fun j y hy=>?_⟩;obtain⟨b',o',hA',_,hc⟩:=h _ _ (abl hm hk hy);rw[hA]at hA';injection hA' with hA'
 injection hA' with h1 h2
 subst h1 h2;exact hc
def fM (cs:α→List Value)(T:TypeId)(m:Nat)(base:Nat)(w:World)(v:Value)(n:Nat)(xs:List α):Prop:=xs.length=n∧w.ownsRow base T m v n (au cs xs)
theorem fM.row {T:TypeId}{base n:Nat}{w:World}{v:Value}{xs:List α}(h:fM cs T m base w v n xs):∃A c,v= .slice A n c∧Row w A (au cs xs):=by
 rcases h.2.2 with ⟨rfl,h0⟩|⟨g,cap,cur,rfl,e2,e3,e4,e5,e6,e7⟩
 ·subst h0
  have:xs=[]:=List.length_eq_zero_iff.1 h.1;subst this;exact⟨none,0,rfl,fun i v hv=>by simp[au]at hv⟩
 ·refine⟨_,_,rfl,fun i v hv=>⟨g,0,rfl,(alc.1 e3).1,?_⟩⟩
  have hl:=(alj.1 hv).1;rw[←e7]at hv;have h2:i<n*m:=by rw[alF]at hv;split at hv;assumption;cases hv
  rw[alF,if_pos h2,alA]at hv;rw[Nat.zero_add];simp[World.cell?,e3,hv]
theorem fM.on {T:TypeId}{base n:Nat}{w w':World}{v:Value}{xs:List α}(h:fM cs T m base w v n xs)(hb:Below w.heap.size w w'):fM cs T m base w' v n xs:=⟨h.1,own_below h.2 hb⟩
end
end Go.Proofs.YtjknklinhegdoaaGreatDoor
