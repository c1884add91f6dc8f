/- TopSpunTogether: Integer. Conditions: bounded sizes; variables as laid. -/
import Derived.RangeFuncNested
import Derived.RangeFuncBound
import Derived.Shelf.RegionOpen
import Derived.OwnWalkIn
import Derived.LoopNIn
import Derived.Sort.LoopGhostIn
import Derived.Lib.ItoaLen
import Derived.Test.YtbkhnggmcheelaaGreatDoorId
import Derived.Test.YtbkhnggmcheelaaGreatDoorIc
set_option maxHeartbeats 8000000
set_option maxRecDepth 100000
namespace Go.Proofs.YtbkhnggmcheelaaGreatDoor
open Tryz
section
open Go.RowKit Go.Shelf Dec
def ah (a:BA):Int:=val (bytes a)
def ae (z:Int):BA:=str (canon z)
theorem aK (z:Int):ah (ae z)=z:=by unfold ah ae;rw[fI,mr]
theorem ajA {y z:Int}(h:ae y=ae z):y=z:=by rw[<-aK y,h,aK]
theorem sU:ae 0=⟨#[]⟩:=rfl
theorem abr:ah ⟨#[]⟩=0:=rfl
theorem ahC (c:UInt8)(l:Bytes):(⟨#[c]⟩:BA)++str l=str (c::l):=by apply bytes_inj;rw[fI];simp[bytes,str]
theorem yn (a:BA):(ae (ah a)).size <=a.size+1:=by
 unfold ae ah;rw[gB,zU,bR];have:=nG (bytes a);split<;>simp<;>omega
theorem gL (a:BA)(w:World)(ha:a.size<=4611686018427387904):
 Calls prog 180 #[.string a] w fun e w'=>e= .returned (.string (ae (ah a)))/\Below w.heap.size w w':=by
 have HE:Hid (ae (ah a)=if wV (bytes a)then str (45::iN (bytes a))else str (iN (bytes a))):=by
  show _=_;unfold ae ah;rw[zU];split<;>rfl
 have hdl:=nG (bytes a);rw[<-bR]at hdl;have hsz:(str (iN (bytes a))).size <=4611686018427387904:=by rw[gB];omega
 cases hn:wV (bytes a)with
 |true=>
  have HN:=amy hn;have HEt:Hid (ae (ah a)=str (45::iN (bytes a))):=by have:=HE.o;rw[hn]at this;exact this
  have H1:Hid (∀w,Calls prog 99 #[.string a] w fun e w'=>e= .returned (.tuple #[.string (str (iN (bytes a))),.bool true])/\Below w.heap.size w w'):=by
   intro w;rw[<-hn];exact oO a w (by omega)
  clear hn HE;generalize iN (bytes a)=l at*
  go_enter func180,ntmps180
  go_wp2_with fail
  refine(H1.o _).mono ?_;rintro e w1 ⟨rfl,hb1⟩
  go_wp2_with fail
  go_ret
  refine⟨?_,hb1⟩;rw[HEt.o, <-ahC];rfl
 |false=>
  have HEt:Hid (ae (ah a)=str (iN (bytes a))):=by have:=HE.o;rw[hn]at this;exact this
  have H1:Hid (∀w,Calls prog 99 #[.string a] w fun e w'=>e= .returned (.tuple #[.string (str (iN (bytes a))),.bool false])/\Below w.heap.size w w'):=by
   intro w;rw[<-hn];exact oO a w (by omega)
  clear hn HE;generalize iN (bytes a)=l at*
  go_enter func180,ntmps180
  go_wp2_with fail
  refine(H1.o _).mono ?_;rintro e w1 ⟨rfl,hb1⟩
  go_wp2_with fail
  go_ret
  refine⟨?_,hb1⟩;rw[HEt.o];rfl
def chk (a:BA):Int:=if a=ae (ah a)then 0 else 1
theorem uq (s t:BA):(s.toList==t.toList)=decide (s=t):=by
 rw[agT];by_cases h:s=t
 ·simp[h]
 ·rw[am1 h,am1 (fun e=>h (bytes_inj e))]
theorem agK (a:BA)(w:World)(ha:a.size<=4611686018427387904):
 Calls prog 121 #[.string a] w fun e w'=>e= .returned (.int .i64 (chk a))/\Below w.heap.size w w':=by
 have H1:=amy (fun w=>gL a w ha);generalize hc:ae (ah a)=t at H1;by_cases h:a=t
 ·have HE:Hid (chk a=0):=by show _=_;unfold chk;rw[hc,if_pos h]
  have q:(a.toList==t.toList)=true:=by rw[uq,am2 h]
  clear hc h
  go_enter func121,ntmps121
  go_wp2_with fail
  refine(H1.o _).mono ?_;rintro e w1 ⟨rfl,hb1⟩
  go_wp2_with fail
  go_ret
  exact⟨by rw[HE.o];rfl,hb1⟩
 ·have HE:Hid (chk a=1):=by show _=_;unfold chk;rw[hc,if_neg h]
  have q:(a.toList==t.toList)=false:=by rw[uq,am1 h]
  clear hc h
  go_enter func121,ntmps121
  go_wp2_with fail
  refine(H1.o _).mono ?_;rintro e w1 ⟨rfl,hb1⟩
  go_wp2_with fail
  go_ret
  exact⟨by rw[HE.o];rfl,hb1⟩
def prt (z:Int):Bytes:=if z=0 then [48]else canon z
theorem yL (a:BA)(w:World)(ha:a.size<=4611686018427387904):
 Calls prog 193 #[.string a] w fun e w'=>e= .returned (.string (str (prt (ah a))))/\Below w.heap.size w w':=by
 have H1:=amy (fun w=>gL a w ha);by_cases h:ah a=0
 ·have HE:Hid (str (prt (ah a))=⟨#[48]⟩):=by show _=_;unfold prt;rw[if_pos h];rfl
  have H2:Hid (∀w,Calls prog 180 #[.string a] w fun e w'=>e= .returned (.string ⟨#[]⟩)/\Below w.heap.size w w'):=by
   intro w;have:=H1.o w;rw[h]at this;exact this
  clear H1 h
  go_enter func193,ntmps193
  go_wp2_with fail
  refine(H2.o _).mono ?_;rintro e w1 ⟨rfl,hb1⟩
  go_wp2_with fail
  go_ret
  exact⟨by rw[HE.o];rfl,hb1⟩
 ·have HE:Hid (str (prt (ah a))=ae (ah a)):=by show _=_;unfold prt;rw[if_neg h];rfl
  have hne:bytes (ae (ah a))≠ []:=by unfold ae;rw[fI];exact fun e=>h (agN.1 e)
  generalize ae (ah a)=t at*
  have q:t.toList.isEmpty=false:=by rw[gD];cases hh:bytes t with|nil=>exact absurd hh hne|cons _ _=>rfl
  clear h hne
  go_enter func193,ntmps193
  go_wp2_with fail
  refine(H1.o _).mono ?_;rintro e w1 ⟨rfl,hb1⟩
  go_wp2_with fail
  go_ret
  exact⟨by rw[HE.o];rfl,hb1⟩
attribute [local go_sem ↓] Go.wp_at_zero Go.wp_at_succ
theorem alm (a:BA):(mag (ah a).natAbs).length <=a.size:=by
 unfold ah;rw[aH,vU];have h1:=mU (iN (bytes a)) (qC _);have h2:=nG (bytes a);rw[<-bR]at h2;have h3:10^(iN (bytes a)).length <=10^(9*a.size):=Nat.pow_le_pow_right (by omega) (by omega);rw[<-acE]at h3;omega
theorem aap (z:Int):sgn (decide (z<0)) z.natAbs=z:=by
 unfold sgn;by_cases h:z<0
 ·simp[h];omega
 ·simp[h];omega
theorem aen (neg:Bool)(n:Nat):(sgn neg n).natAbs =n:=by unfold sgn;cases neg<;>simp
theorem afy {x y:Int}{n k:Nat}(hx:(mag x.natAbs).length <=n)(hy:(mag y.natAbs).length <=n)(hk:k=(x+y).natAbs):(mag k).length <=n+1:=by
 subst hk;rw[aH]at hx hy⊢
 rw[anb];have:(x+y).natAbs <=x.natAbs+y.natAbs:=Int.natAbs_add_le x y;have h2:BB^n*2<=BB^n*BB:=ana _ (by decide);omega
theorem read' (a:BA)(w:World)(ha:a.size<=68719476736):Calls prog 45 #[.string a] w fun e w'=>
 ∃A n c,e= .returned (.agg #[.bool (decide (ah a<0)),.slice A n c])/\(mag (ah a).natAbs).length =n/\fV w' A c (ah a).natAbs /\n<=a.size/\Below w.heap.size w w':=by
 refine(ah1 a w (by omega)).mono ?_;rintro e w' ⟨A,c,he,hm,hb⟩;exact⟨A,_,c,he,rfl,hm,alm a,hb⟩
theorem text' (neg:Bool)(A:Option Addr)(c k n:Nat)(w:World)(hk:(mag n).length =k)(hc:fV w A c n)(hm:k<=274877906944)(hg:Gl w):
 Calls prog 46 #[.agg #[.bool neg,.slice A k c]] w fun e w'=>e= .returned (.string (ae (sgn neg n)))/\Below w.heap.size w w':=by
 subst hk;exact ahw neg A c n w hc hm hg
theorem add' (na nb:Bool)(A A':Option Addr)(c c' k m a b:Nat)(w:World)(hk:(mag a).length =k)(hk':(mag b).length =m)(hc:fV w A c a)(hc':fV w A' c' b)(hm:k<=274877906944)(hm':m<=274877906944):
 Calls prog 44 #[.agg #[.bool na,.slice A k c],.agg #[.bool nb,.slice A' m c']] w fun e w'=>∃neg n l A c,e= .returned (.agg #[.bool neg,.slice A l c])/\(mag n).length =l/\sgn neg n=sgn na a+sgn nb b/\fV w' A c n/\Below w.heap.size w w':=by
 subst hk hk';refine(ami na nb A A' c c' a b w hc hc' hm hm').mono ?_;rintro e w' ⟨neg,n,A,c,hz,he,hm,hb⟩;exact⟨neg,n,_,A,c,he,rfl,hz,hm,hb⟩
theorem amx (a b:BA)(w:World)(ha:a.size<=68719476736)(hb:b.size<=68719476736)(hg:Gl w):
 Calls prog 14 #[.string a,.string b] w fun e w'=>e= .returned (.string (ae (ah a+ah b)))/\Below w.heap.size w w':=by
 have Hg:=amy hg;clear hg;have HA:=amy (aap (ah a));have HB:=amy (aap (ah b));generalize hda:decide (ah a<0)=na at HA;generalize hdb:decide (ah b<0)=nb at HB;have HR1:Hid (∀w,Calls prog 45 #[.string a] w fun e w'=>∃A n c,e= .returned (.agg #[.bool na,.slice A n c])/\(mag (ah a).natAbs).length =n/\fV w' A c (ah a).natAbs /\n<=a.size/\Below w.heap.size w w'):=by
  intro w;rw[<-hda];exact read' a w ha
 have HR2:Hid (∀w,Calls prog 45 #[.string b] w fun e w'=>∃A n c,e= .returned (.agg #[.bool nb,.slice A n c])/\(mag (ah b).natAbs).length =n/\fV w' A c (ah b).natAbs /\n<=b.size/\Below w.heap.size w w'):=by
  intro w;rw[<-hdb];exact read' b w hb
 clear hda hdb
 go_enter func14,ntmps14
 go_wp2_with fail
 refine(HR1.o _).mono ?_;rintro e w1 ⟨A1,n1,c1,rfl,hn1,hm1,hl1,hb1⟩;have Hn1:=amy hn1;have Hm1:=amy hm1;have Hb1:=amy hb1;clear hn1 hm1 hb1
 go_wp2_with fail
 refine(HR2.o _).mono ?_;rintro e w2 ⟨A2,n2,c2,rfl,hn2,hm2,hl2,hb2⟩;have Hn2:=amy hn2;have Hm2:=amy hm2;have Hm1':=amy (Hm1.o.up hb2);have Hb2:Hid (Below w.heap.size w w2):=Hb1.o.trans (hb2.mono Hb1.o.size);clear hn2 hm2 hb2
 go_wp2_with fail
 refine(add' na nb A1 A2 c1 c2 n1 n2 _ _ w2 Hn1.o Hn2.o Hm1'.o Hm2.o (by omega) (by omega)).mono ?_;rintro e w3 ⟨neg,n,l,A3,c3,rfl,hl3,hz,hm3,hb3⟩;have Hz:Hid (sgn neg n=ah a+ah b):=by show _=_;rw[hz,HA.o,HB.o]
 have hl:l<=68719476737:=by
  rw[<-hl3];exact afy (x:=ah a) (y:=ah b) (n:=68719476736) (by rw[Hn1.o];omega) (by rw[Hn2.o];omega) (by rw[<-Hz.o,aen])
 have Hl3:=amy hl3;have Hm3:=amy hm3;have Hb3:Hid (Below w.heap.size w w3):=Hb2.o.trans (hb3.mono Hb2.o.size);clear hl3 hz hm3 hb3
 go_wp2_with fail
 refine(text' neg A3 c3 l n w3 Hl3.o Hm3.o (by omega) (Hg.o.below Hb3.o)).mono ?_;rintro e w4 ⟨rfl,hb4⟩
 go_wp2_with fail
 go_ret
 exact⟨by rw[Hz.o];rfl,Hb3.o.trans (hb4.mono Hb3.o.size)⟩
theorem aem (z:Int):sgn (!decide (z<0)) z.natAbs= -z:=by
 unfold sgn;by_cases h:z<0
 ·simp[h];omega
 ·simp[h];omega
theorem aml (a:BA)(w:World)(ha:a.size<=68719476736)(hg:Gl w):
 Calls prog 148 #[.string a] w fun e w'=>e= .returned (.string (ae (-ah a)))/\Below w.heap.size w w':=by
 have Hg:=amy hg;clear hg;have HA:=amy (aem (ah a));generalize hda:decide (ah a<0)=na at HA;have HR1:Hid (∀w,Calls prog 45 #[.string a] w fun e w'=>∃A n c,e= .returned (.agg #[.bool na,.slice A n c])/\(mag (ah a).natAbs).length =n/\fV w' A c (ah a).natAbs /\n<=a.size/\Below w.heap.size w w'):=by
  intro w;rw[<-hda];exact read' a w ha
 clear hda
 go_enter func148,ntmps148
 go_wp2_with fail
 refine(HR1.o _).mono ?_;rintro e w1 ⟨A1,n1,c1,rfl,hn1,hm1,hl1,hb1⟩;have Hn1:=amy hn1;have Hm1:=amy hm1;have Hb1:=amy hb1;clear hn1 hm1 hb1
 go_wp2_with fail
 have hbw:Below w1.heap.size w1 (w1.alloc (.cells #[.bool !na,.slice A1 n1 c1] 116)):=anp;have Hbw:Hid (Below w.heap.size w (w1.alloc (.cells #[.bool !na,.slice A1 n1 c1] 116))):=Hb1.o.trans (hbw.mono Hb1.o.size);refine(text' (!na) A1 c1 n1 _ _ Hn1.o (Hm1.o.up hbw) (by omega) (Hg.o.below Hbw.o)).mono ?_;rintro e w4 ⟨rfl,hb4⟩
 go_wp2_with fail
 go_ret
 exact⟨by rw[HA.o];rfl,Hbw.o.trans (hb4.mono Hbw.o.size)⟩
theorem amk (a b:BA)(w:World)(ha:a.size<=68719476736)(hb:b.size<=68719476736)(hg:Gl w):
 Calls prog 39 #[.string a,.string b] w fun e w'=>e= .returned (.string (ae (ah a-ah b)))/\Below w.heap.size w w':=by
 have Hg:=amy hg;clear hg;have HA:=amy (aap (ah a));have HB:=amy (aem (ah b));generalize hda:decide (ah a<0)=na at HA;generalize hdb:decide (ah b<0)=nb at HB;have HR1:Hid (∀w,Calls prog 45 #[.string a] w fun e w'=>∃A n c,e= .returned (.agg #[.bool na,.slice A n c])/\(mag (ah a).natAbs).length =n/\fV w' A c (ah a).natAbs /\n<=a.size/\Below w.heap.size w w'):=by
  intro w;rw[<-hda];exact read' a w ha
 have HR2:Hid (∀w,Calls prog 45 #[.string b] w fun e w'=>∃A n c,e= .returned (.agg #[.bool nb,.slice A n c])/\(mag (ah b).natAbs).length =n/\fV w' A c (ah b).natAbs /\n<=b.size/\Below w.heap.size w w'):=by
  intro w;rw[<-hdb];exact read' b w hb
 clear hda hdb
 go_enter func39,ntmps39
 go_wp2_with fail
 refine(HR2.o _).mono ?_;rintro e w1 ⟨A1,n1,c1,rfl,hn1,hm1,hl1,hb1⟩;have Hn1:=amy hn1;have hbw:Below w1.heap.size w1 (w1.alloc (.cells #[.bool !nb,.slice A1 n1 c1] 116)):=anp;obtain⟨W,hW⟩:=eX (w1.alloc (.cells #[.bool !nb,.slice A1 n1 c1] 116));have c0:W.cell? ⟨w1.heap.size,0,none⟩=some (.bool !nb):=by rw[<-hW];unfold World.cell?;rw[bJ];rfl
 have c1':W.cell? ⟨w1.heap.size,1,none⟩=some (.slice A1 n1 c1):=by rw[<-hW];unfold World.cell?;rw[bJ];rfl
 have Hsz:Hid (w1.heap.size<W.heap.size):=by show _<_;rw[<-hW,amD];omega
 rw[hW]at hbw;have Hm1:=amy (hm1.up hbw);have Hb1:Hid (Below w.heap.size w W):=hb1.trans (hbw.mono hb1.size);have HW:=amy hW;clear hn1 hm1 hb1 hbw hW
 go_wp2_with fail
 rw[HW.o];clear HW;obtain⟨B,hB⟩:=eX (w1.heap.size);rw[hB]at c0 c1' Hsz⊢
 clear hB
 go_region_held3 (fun w'=>w'.cell? ⟨B,0,none⟩=some (.bool !nb)/\w'.cell? ⟨B,1,none⟩=some (.slice A1 n1 c1))
  (first
   |(go_keep;done)
   |exact⟨x40,x41⟩
   |exact⟨x30,x31⟩
   |exact⟨x20,x21⟩)
  (first
   |(go_at_call 45;refine(HR1.o _).mono ?_;rintro e w2 ⟨A2,n2,c2,rfl,hn2,hm2,hl2,hk2⟩;have Hn2:=amy hn2;have Hm2:=amy hm2;have Hb2:Hid (Below w.heap.size w w2):=Hb1.o.drew.trans (hk2.mono Hb1.o.size);have Hm1':=amy (Hm1.o.up (((am3 _ W).drew).trans hk2));have hlt3:B<w2.heap.size:=amS Hsz.o hk2.size;have x20:=(hk2.cell (p:=⟨B,0,none⟩) Hsz.o).trans c0;have x21:=(hk2.cell (p:=⟨B,1,none⟩) Hsz.o).trans c1';clear hn2 hm2)
   |(go_at_call 44;refine(add' na (!nb) A2 A1 c2 c1 n2 n1 _ _ _ Hn2.o Hn1.o (by exact Hm2.o) (by exact Hm1'.o) (by omega) (by omega)).mono ?_;rintro e w3 ⟨neg,n,l,A3,c3,rfl,hl3,hz,hm3,hk3⟩;have Hl3:=amy hl3;have Hm3:=amy hm3;have Hz:=amy hz;have Hb3:Hid (Below w.heap.size w w3):=Hb2.o.trans (hk3.mono Hb2.o.size);have hlt4:B<w3.heap.size:=amS hlt3 hk3.size;have x30:=(hk3.cell (p:=⟨B,0,none⟩) hlt3).trans x20;have x31:=(hk3.cell (p:=⟨B,1,none⟩) hlt3).trans x21;clear hl3 hm3 hz)
   |(go_at_call 46;refine(text' neg A3 c3 l n _ Hl3.o (by exact Hm3.o) ?_ (by exact Hg.o.below Hb3.o)).mono ?_;(rw[<-Hl3.o];exact amG (afy (x:=ah a) (y:= -ah b) (n:=68719476736) (by rw[Hn2.o];omega) (by rw[Int.natAbs_neg,Hn1.o];omega) (by have:=Hz.o;rw[HA.o,HB.o]at this;rw[<-this,aen])) (by omega));rintro e w4 ⟨rfl,hk4⟩;have Hb4:Hid (Below w.heap.size w w4):=Hb3.o.trans (hk4.mono Hb3.o.size);have x40:=(hk4.cell (p:=⟨B,0,none⟩) hlt4).trans x30;have x41:=(hk4.cell (p:=⟨B,1,none⟩) hlt4).trans x31))
 go_wp2_with fail
 go_ret
 have hz:=Hz.o;rw[HA.o,HB.o, <-Int.sub_eq_add_neg]at hz;exact⟨by rw[hz];rfl,Hb4.o⟩
end
section
open Go.RowKit Go.Shelf Dec
attribute [local go_sem ↓] Go.wp_at_zero Go.wp_at_succ
theorem aks (x y:Int):sgn (decide (x<0) !=decide (y<0)) (x.natAbs*y.natAbs)=x*y:=by
 have e:((x.natAbs*y.natAbs:Nat):Int)=(x.natAbs:Int)*y.natAbs:=Int.natCast_mul _ _;unfold sgn;rw[e];by_cases hx:x<0<;>by_cases hy:y<0<;>simp only[hx,hy,decide_true,decide_false,bne_self_eq_false,Bool.true_bne,Bool.false_bne,Bool.not_false,amQ,if_true,if_false]
 ·rw[show (x.natAbs:Int)= -x by omega,show (y.natAbs:Int)= -y by omega,Int.neg_mul_neg]
 ·rw[show (x.natAbs:Int)= -x by omega,show (y.natAbs:Int)=y by omega,Int.neg_mul,Int.neg_neg]
 ·rw[show (x.natAbs:Int)=x by omega,show (y.natAbs:Int)= -y by omega,Int.mul_neg,Int.neg_neg]
 ·rw[show (x.natAbs:Int)=x by omega,show (y.natAbs:Int)=y by omega]
theorem aln {a b n m:Nat}(ha:(mag a).length <=n)(hb:(mag b).length <=m):(mag (a*b)).length <=n+m:=by
 rw[aH]at ha hb⊢
 rw[Nat.pow_add];exact Nat.mul_lt_mul_of_lt_of_le ha (Nat.le_of_lt hb) (Nat.pow_pos dx)
theorem times' (A A':Option Addr)(c c' n n':Nat)(a b:Nat)(w:World)(hn:(mag a).length =n)(hn':(mag b).length =n')(hc:Mg .u64 w w.heap.size A (mag a))(hc':Mg .u64 w w.heap.size A' (mag b))(hm:n<=549755813888)(hm':n'<=549755813888):
 Calls prog 147 #[.slice A n c,.slice A' n' c'] w fun e w'=>∃A l c,e= .returned (.slice A l c)/\(mag (a*b)).length =l/\fV w' A c (a*b)/\l<=n+n'/\Below w.heap.size w w':=by
 refine(nP A A' c c' n n' a b w hn hn' hc hc' hm hm').mono ?_;rintro e w' ⟨A,c,he,ho,hb⟩;exact⟨A,_,c,he,rfl,ho.mg,aln (by omega) (by omega),hb⟩
theorem qQ (w2:World)(T:TypeId)(v0 v1 u0 u1:Value):∃W,(w2.alloc (.cells #[v0,v1] T)).alloc (.cells #[u0,u1] T)=W/\W.cell? ⟨w2.heap.size,0,none⟩=some v0/\W.cell? ⟨w2.heap.size,1,none⟩=some v1/\
 W.cell? ⟨w2.heap.size+1,0,none⟩=some u0/\W.cell? ⟨w2.heap.size+1,1,none⟩=some u1/\W.heap.size=w2.heap.size+2/\Below w2.heap.size w2 W:=by
 refine⟨_,rfl,?_,?_,?_,?_,by simp,anp.alloc (by simp) _⟩
 all_goals simp[go_sem]
theorem amm (a b:BA)(w:World)(ha:a.size<=68719476736)(hb:b.size<=68719476736)(hg:Gl w):
 Calls prog 79 #[.string a,.string b] w fun e w'=>e= .returned (.string (ae (ah a*ah b)))/\Below w.heap.size w w':=by
 have Hg:=amy hg;clear hg;have HZ:=amy (aks (ah a) (ah b));generalize hda:decide (ah a<0)=na at HZ;generalize hdb:decide (ah b<0)=nb at HZ;have HR1:Hid (∀w,Calls prog 45 #[.string a] w fun e w'=>∃A n c,e= .returned (.agg #[.bool na,.slice A n c])/\(mag (ah a).natAbs).length =n/\fV w' A c (ah a).natAbs /\n<=a.size/\Below w.heap.size w w'):=by
  intro w;rw[<-hda];exact read' a w ha
 have HR2:Hid (∀w,Calls prog 45 #[.string b] w fun e w'=>∃A n c,e= .returned (.agg #[.bool nb,.slice A n c])/\(mag (ah b).natAbs).length =n/\fV w' A c (ah b).natAbs /\n<=b.size/\Below w.heap.size w w'):=by
  intro w;rw[<-hdb];exact read' b w hb
 clear hda hdb
 go_enter func79,ntmps79
 go_wp2_with fail
 refine(HR1.o _).mono ?_;rintro e w1 ⟨A1,n1,c1,rfl,hn1,hm1,hl1,hb1⟩;have Hn1:=amy hn1;have Hm1:=amy hm1;have Hb1:=amy hb1;clear hn1 hm1 hb1
 go_wp2_with fail
 refine(HR2.o _).mono ?_;rintro e w2 ⟨A2,n2,c2,rfl,hn2,hm2,hl2,hb2⟩;have Hn2:=amy hn2;obtain⟨W,hW,c00,c01,c10,c11,hsz,hbw⟩:=qQ w2 116 (.bool na) (.slice A1 n1 c1) (.bool nb) (.slice A2 n2 c2);have HW:=amy hW;have Hsz:=amy hsz;have Hm1':=amy ((Hm1.o.up hb2).up hbw);have Hm2':=amy (hm2.up hbw);have Hb2:Hid (Below w.heap.size w W):=(Hb1.o.trans (hb2.mono Hb1.o.size)).trans (hbw.mono (amG Hb1.o.size hb2.size));clear hn2 hm2 hb2 hW hsz hbw
 go_wp2_with fail
 rw[HW.o];clear HW;obtain⟨B,hB⟩:=eX (w2.heap.size);rw[hB]at c00 c01 c10 c11 Hsz⊢
 clear hB
 go_region_held3 (fun w'=>w'.cell? ⟨B,0,none⟩=some (.bool na)/\w'.cell? ⟨B,1,none⟩=some (.slice A1 n1 c1)/\w'.cell? ⟨B+1,0,none⟩=some (.bool nb)/\w'.cell? ⟨B+1,1,none⟩=some (.slice A2 n2 c2))
  (first
   |(go_keep;done)
   |exact⟨x40,x41,x42,x43⟩
   |exact⟨x30,x31,x32,x33⟩)
  (first
   |(go_at_call 147;refine(times' A1 A2 c1 c2 n1 n2 _ _ _ Hn1.o Hn2.o (by exact Hm1'.o.1) (by exact Hm2'.o.1) (by omega) (by omega)).mono ?_;rintro e w3 ⟨A3,l,c3,rfl,hl3,hm3,hl4,hk3⟩;have Hl3:=amy hl3;have Hm3:=amy hm3;have Hb3:Hid (Below w.heap.size w w3):=Hb2.o.drew.trans (hk3.mono Hb2.o.size);have l0:B<W.heap.size:=(by have:=Hsz.o;omega);have l1:B+1<W.heap.size:=(by have:=Hsz.o;omega);have x30:=(hk3.cell (p:=⟨B,0,none⟩) l0).trans c00;have x31:=(hk3.cell (p:=⟨B,1,none⟩) l0).trans c01;have x32:=(hk3.cell (p:=⟨B+1,0,none⟩) l1).trans c10;have x33:=(hk3.cell (p:=⟨B+1,1,none⟩) l1).trans c11;clear hl3 hm3)
   |(go_at_call 46;refine(text' (na !=nb) A3 c3 l _ _ Hl3.o (by exact Hm3.o) (by omega) (by exact Hg.o.below Hb3.o)).mono ?_;rintro e w4 ⟨rfl,hk4⟩;have Hb4:Hid (Below w.heap.size w w4):=Hb3.o.trans (hk4.mono Hb3.o.size);have m0:B<w3.heap.size:=amS l0 hk3.size;have m1:B+1<w3.heap.size:=amS l1 hk3.size;have x40:=(hk4.cell (p:=⟨B,0,none⟩) m0).trans x30;have x41:=(hk4.cell (p:=⟨B,1,none⟩) m0).trans x31;have x42:=(hk4.cell (p:=⟨B+1,0,none⟩) m1).trans x32;have x43:=(hk4.cell (p:=⟨B+1,1,none⟩) m1).trans x33))
 go_wp2_with fail
 go_ret
 exact⟨by rw[<-HZ.o];rfl,Hb4.o⟩
def dW (x y:Int):Int:=if x<y then-1 else if x=y then 0 else 1
theorem abo (a b:BA)(w:World)(ha:a.size<=68719476736)(hb:b.size<=68719476736):
 Calls prog 29 #[.string a,.string b] w fun e w'=>e= .returned (.int .i64 (dW (ah a) (ah b)))/\Below w.heap.size w w':=by
 generalize hda:decide (ah a<0)=na;generalize hdb:decide (ah b<0)=nb;have HR1:Hid (∀w,Calls prog 45 #[.string a] w fun e w'=>∃A n c,e= .returned (.agg #[.bool na,.slice A n c])/\(mag (ah a).natAbs).length =n/\fV w' A c (ah a).natAbs /\n<=a.size/\Below w.heap.size w w'):=by
  intro w;rw[<-hda];exact read' a w ha
 have HR2:Hid (∀w,Calls prog 45 #[.string b] w fun e w'=>∃A n c,e= .returned (.agg #[.bool nb,.slice A n c])/\(mag (ah b).natAbs).length =n/\fV w' A c (ah b).natAbs /\n<=b.size/\Below w.heap.size w w'):=by
  intro w;rw[<-hdb];exact read' b w hb
 have HD:Hid (decide (ah a<0)=na/\decide (ah b<0)=nb):=⟨hda,hdb⟩;clear hda hdb
 go_enter func29,ntmps29
 go_wp2_with fail
 refine(HR1.o _).mono ?_;rintro e w1 ⟨A1,n1,c1,rfl,hn1,hm1,hl1,hb1⟩;have Hn1:=amy hn1;have Hm1:=amy hm1;have Hb1:=amy hb1;clear hn1 hm1 hb1
 go_wp2_with fail
 refine(HR2.o _).mono ?_;rintro e w2 ⟨A2,n2,c2,rfl,hn2,hm2,hl2,hb2⟩;have Hn2:=amy hn2;obtain⟨W,hW,c00,c01,c10,c11,hsz,hbw⟩:=qQ w2 116 (.bool na) (.slice A1 n1 c1) (.bool nb) (.slice A2 n2 c2);have HW:=amy hW;have Hm1':=amy ((Hm1.o.up hb2).up hbw);have Hm2':=amy (hm2.up hbw);have Hb2:Hid (Below w.heap.size w W):=(Hb1.o.trans (hb2.mono Hb1.o.size)).trans (hbw.mono (amG Hb1.o.size hb2.size));clear hn2 hm2 hb2 hW hsz hbw
 go_wp2_with fail
 rw[HW.o];clear HW;refine(xQ A1 A2 c1 c2 n1 n2 _ _ _ Hn1.o Hn2.o Hm1'.o.1 Hm2'.o.1 (by omega) (by omega)).mono ?_;rintro e w3 ⟨r,rfl,hr,hr1,hr2,nn,hw3⟩;have Hr:=amy hr;have d00:w3.cell? ⟨w2.heap.size,0,none⟩=some (.bool na):=by rw[hw3];exact c00
 have d10:w3.cell? ⟨w2.heap.size+1,0,none⟩=some (.bool nb):=by rw[hw3];exact c10
 have Hb3:Hid (Below w.heap.size w w3):=by show Below _ _ _;rw[hw3];exact Hb2.o.trans (below_drewN _ _ _)
 clear hr hw3 c00 c01 c10 c11;have key:Hid ((na=false->nb=true->dW (ah a) (ah b)=1)/\(na=true->nb=false->dW (ah a) (ah b)= -1)/\(na=false->nb=false->dW (ah a) (ah b)=if r<0 then-1 else if r=0 then 0 else 1)/\(na=true->nb=true->dW (ah a) (ah b)=if r<0 then 1 else if r=0 then 0 else-1)):=by
  have h:=HD.o;have hc:=Hr.o;unfold amu at hc;unfold dW;rw[<-h.1, <-h.2];simp only[decide_eq_true_eq,decide_eq_false_iff_not];refine⟨?_,?_,?_,?_⟩<;>intro h1 h2<;>split<;>(try split)<;>(try split)<;>(try split)<;>first|rfl|omega
 clear HD Hr;rcases Int.lt_trichotomy r 0 with h|h|h
 all_goals
  (try subst h)
  cases na<;>cases nb
  all_goals
   obtain⟨v,hv,K⟩:∃v,v=dW (ah a) (ah b)/\Hid (dW (ah a) (ah b)=v):=⟨_,rfl,rfl⟩
   first
    |rw[key.o.1 rfl rfl]at hv
    |rw[key.o.2.1 rfl rfl]at hv
    |rw[key.o.2.2.1 rfl rfl]at hv
    |rw[key.o.2.2.2 rfl rfl]at hv
   (try rw[if_pos h]at hv)
   (try rw[if_neg (show¬r<0 by omega),if_neg (show¬r=0 by omega)]at hv)
   have HV:=amy hv;clear key hv
   go_wp2_with fail
   go_ret
   refine⟨akA ?_,Hb3.o⟩;rw[K.o,HV.o]
   first|rfl|omega
end
section
open Go.RowKit Go.Shelf Dec
attribute [local go_sem ↓] Go.wp_at_zero Go.wp_at_succ
theorem af6 (A A':Option Addr)(c c' n m:Nat)(a b:Nat)(w:World)(hn:(mag a).length =n)(hn':(mag b).length =m)(hc:fV w A c a)(hc':fV w A' c' b)(hm:n<=274877906944)(hm':m<=274877906944)(hb:b≠0):
 Calls prog 196 #[.slice A n c,.slice A' m c'] w fun e w'=>∃A k c A' k' c',e= .returned (.tuple #[.slice A k c,.slice A' k' c'])/\(mag (a/b)).length =k/\(mag (a%b)).length =k'/\fV w' A c (a/b)/\fV w' A' c' (a%b)/\k<=n/\k'<=m/\Below w.heap.size w w':=by
 subst hn hn';refine(adv A A' c c' a b w hc hc' hm hm' hb).mono ?_;rintro e w' ⟨A,c,A',c',he,h1,h2,h3⟩;refine⟨A,_,c,A',_,c',he,rfl,rfl,h1,h2,?_,?_,h3⟩
 ·rw[aH]
  exact Nat.lt_of_le_of_lt (Nat.div_le_self _ _) (aH.1 ano)
 ·rw[aH]
  exact Nat.lt_trans (Nat.mod_lt _ (by omega)) (aH.1 ano)
theorem aja (x y:Int)(hy:y≠0)(h:decide (x<0)=decide (y<0)):sgn false (x.natAbs/y.natAbs)=x.fdiv y/\sgn (decide (y<0)) (x.natAbs%y.natAbs)=x.fmod y:=by
 have e:=Nat.mod_add_div x.natAbs y.natAbs;have hl:=Nat.mod_lt x.natAbs (show y.natAbs>0 by omega);generalize hq:x.natAbs/y.natAbs=q at*
 generalize hr:x.natAbs%y.natAbs=r at*
 have e':(r:Int)+(y.natAbs:Int)*q=x.natAbs:=by rw[<-Int.natCast_mul];omega
 unfold sgn;by_cases hx:x<0
 ·have hy':y<0:=by simpa[hx]using h
  have:=(Int.fdiv_fmod_unique' (a:=x) (b:=y) (r:= -(r:Int)) (q:=q) hy').2 ⟨by rw[show (y.natAbs:Int)= -y by omega,Int.neg_mul]at e';omega,by omega,by omega⟩;simp[hy',this.1,this.2]
 ·have hy':¬y<0:=by simpa[hx]using h
  have:=(Int.fdiv_fmod_unique (a:=x) (b:=y) (r:=(r:Int)) (q:=q) (by omega)).2 ⟨by rw[show (y.natAbs:Int)=y by omega]at e';omega,by omega,by omega⟩;simp[hy',this.1,this.2]
theorem xN (x y:Int)(hy:y≠0)(h:decide (x<0)≠decide (y<0))(hr0:x.natAbs%y.natAbs=0):sgn true (x.natAbs/y.natAbs)=x.fdiv y/\sgn (decide (y<0)) (x.natAbs%y.natAbs)=x.fmod y:=by
 have e:=Nat.mod_add_div x.natAbs y.natAbs;rw[hr0]at e⊢
 generalize hq:x.natAbs/y.natAbs=q at*
 have e':(y.natAbs:Int)*q=x.natAbs:=by rw[<-Int.natCast_mul];omega
 unfold sgn;by_cases hx:x<0
 ·have hy':¬y<0:=by simpa[hx]using h
  have:=(Int.fdiv_fmod_unique (a:=x) (b:=y) (r:=0) (q:= -(q:Int)) (by omega)).2 ⟨by rw[show (y.natAbs:Int)=y by omega]at e';rw[Int.mul_neg];omega,by omega,by omega⟩;simp[hy',this.1,this.2]
 ·have hy':y<0:=by simpa[hx]using h
  have:=(Int.fdiv_fmod_unique' (a:=x) (b:=y) (r:=0) (q:= -(q:Int)) hy').2 ⟨by rw[show (y.natAbs:Int)= -y by omega,Int.neg_mul]at e';rw[Int.mul_neg];omega,by omega,by omega⟩;simp[hy',this.1,this.2]
theorem ajb (x y:Int)(hy:y≠0)(h:decide (x<0)≠decide (y<0))(hr0:x.natAbs%y.natAbs≠0):sgn true (x.natAbs/y.natAbs+1)=x.fdiv y/\sgn (decide (y<0)) (y.natAbs-x.natAbs%y.natAbs)=x.fmod y:=by
 have e:=Nat.mod_add_div x.natAbs y.natAbs;have hl:=Nat.mod_lt x.natAbs (show y.natAbs>0 by omega);generalize hq:x.natAbs/y.natAbs=q at*
 generalize hr:x.natAbs%y.natAbs=r at*
 have e':(r:Int)+(y.natAbs:Int)*q=x.natAbs:=by rw[<-Int.natCast_mul];omega
 have e2:((y.natAbs-r:Nat):Int)=y.natAbs-r:=by omega
 unfold sgn;rw[e2];by_cases hx:x<0
 ·have hy':¬y<0:=by simpa[hx]using h
  have:=(Int.fdiv_fmod_unique (a:=x) (b:=y) (r:=(y.natAbs:Int)-r) (q:= -((q+1:Nat):Int)) (by omega)).2 ⟨by rw[show (y.natAbs:Int)=y by omega]at e'⊢;rw[Int.mul_neg,Int.natCast_add,Int.mul_add];omega,by omega,by omega⟩;simp only[hy',decide_false,if_true,amQ,if_false];exact⟨this.1.symm,this.2.symm⟩
 ·have hy':y<0:=by simpa[hx]using h
  have:=(Int.fdiv_fmod_unique' (a:=x) (b:=y) (r:= -((y.natAbs:Int)-r)) (q:= -((q+1:Nat):Int)) hy').2 ⟨by rw[show (y.natAbs:Int)= -y by omega]at e'⊢;rw[Int.neg_mul]at e';rw[Int.mul_neg,Int.natCast_add,Int.mul_add];omega,by omega,by omega⟩;simp only[hy',decide_true,if_true];exact⟨this.1.symm,this.2.symm⟩
theorem ajW (w:World):Mg .u64 (w.alloc (.cells #[.int .u64 1] 179)) (w.alloc (.cells #[.int .u64 1] 179)).heap.size (some ⟨w.heap.size,0,none⟩) [1]:=by
 rw[amD];exact uQ w [1]
theorem plus1 (A A':Option Addr)(c c' n:Nat)(a:Nat)(w:World)(hn:(mag a).length =n)(hc:Mg .u64 w w.heap.size A (mag a))(hc':Mg .u64 w w.heap.size A' [1])(hm:n<=274877906944):
 Calls prog 97 #[.slice A n c,.slice A' 1 c'] w fun e w'=>∃A k c,e= .returned (.slice A k c)/\(mag (a+1)).length =k/\fV w' A c (a+1)/\k<=n+1/\Below w.heap.size w w':=by
 have h1:mag 1=[1]:=aaP (by decide) (by decide);refine(plus' A A' c c' n 1 a 1 w hn (by rw[h1];rfl) hc (by rw[h1];exact hc') (by omega) (by omega)).mono ?_;rintro e w' ⟨A,c,he,ho,hb⟩;refine⟨A,_,c,he,rfl,ho.mg,?_,hb⟩;rw[aH,anb];have h2:a<BB^n:=aH.1 (by omega);have h3:BB^n*2<=BB^n*BB:=ana _ (by decide);have h4:0<BB^n:=Nat.pow_pos dx;omega
theorem minus2 (A A':Option Addr)(c c' n m:Nat)(a b:Nat)(w:World)(hn:(mag a).length =n)(hn':(mag b).length =m)(hc:Mg .u64 w w.heap.size A (mag a))(hc':Mg .u64 w w.heap.size A' (mag b))(hm:n<=274877906944)(hle:b<=a):
 Calls prog 98 #[.slice A n c,.slice A' m c'] w fun e w'=>∃A k c,e= .returned (.slice A k c)/\(mag (a-b)).length =k/\fV w' A c (a-b)/\k<=n/\Below w.heap.size w w':=by
 refine(afp A A' c c' n m a b w hn hn' hc hc' (by omega) hle).mono ?_;rintro e w' ⟨A,c,he,ho,hb⟩;refine⟨A,_,c,he,rfl,ho.mg,?_,hb⟩;rw[aH];exact Nat.lt_of_le_of_lt (Nat.sub_le _ _) (aH.1 (by omega))
def aac (x y:Int):BA×BA×Int:=if y=0 then(⟨#[]⟩,⟨#[]⟩,10)else(ae (x.fdiv y),ae (x.fmod y),0)
def DivS (x y:Int)(w:World)(e:Ending)(w':World):Prop:=e= .returned (.tuple #[.string (aac x y).1,.string (aac x y).2.1,.int .i64 (aac x y).2.2])/\Below w.heap.size w w'
theorem rq {v v' u u' t t':Value}(h:v=v')(h2:u=u')(h3:t=t'):Ending.returned (.tuple #[v,u,t])= .returned (.tuple #[v',u',t']):=by rw[h,h2,h3]
theorem amr (a b:BA)(w:World)(ha:a.size<=68719476736)(hb:b.size<=68719476736)(hg:Gl w):
 Calls prog 150 #[.string a,.string b] w (DivS (ah a) (ah b) w):=by
 have Hg:=amy hg;clear hg;obtain⟨na,hda⟩:=eX (decide (ah a<0));obtain⟨nb,hdb⟩:=eX (decide (ah b<0));have HR1:Hid (∀w,Calls prog 45 #[.string a] w fun e w'=>∃A n c,e= .returned (.agg #[.bool na,.slice A n c])/\(mag (ah a).natAbs).length =n/\fV w' A c (ah a).natAbs /\n<=a.size/\Below w.heap.size w w'):=by
  intro w;rw[<-hda];exact read' a w ha
 have HR2:Hid (∀w,Calls prog 45 #[.string b] w fun e w'=>∃A n c,e= .returned (.agg #[.bool nb,.slice A n c])/\(mag (ah b).natAbs).length =n/\fV w' A c (ah b).natAbs /\n<=b.size/\Below w.heap.size w w'):=by
  intro w;rw[<-hdb];exact read' b w hb
 have HD1:=amy hda;have HD2:=amy hdb;clear hda hdb;obtain⟨x,hx⟩:=eX (ah a);obtain⟨y,hy⟩:=eX (ah b);rw[hx]at HR1 HD1⊢
 rw[hy]at HR2 HD2⊢
 clear hx hy
 go_enter func150,ntmps150
 go_wp2_with fail
 refine(HR1.o _).mono ?_;rintro e w1 ⟨A1,n1,c1,rfl,hn1,hm1,hl1,hb1⟩;have Hn1:=amy hn1;have Hm1:=amy hm1;have Hb1:=amy hb1;clear hn1 hm1 hb1
 go_wp2_with fail
 refine(HR2.o _).mono ?_;rintro e w2 ⟨A2,n2,c2,rfl,hn2,hm2,hl2,hb2⟩;have Hn2:=amy hn2;obtain⟨W,hW,c00,c01,c10,c11,hsz,hbw⟩:=qQ w2 116 (.bool na) (.slice A1 n1 c1) (.bool nb) (.slice A2 n2 c2);have HW:=amy hW;have Hsz:=amy hsz;have Hm1':=amy ((Hm1.o.up hb2).up hbw);have Hm2':=amy (hm2.up hbw);have Hb2:Hid (Below w.heap.size w W):=(Hb1.o.trans (hb2.mono Hb1.o.size)).trans (hbw.mono (amG Hb1.o.size hb2.size));clear hn2 hm2 hb2 hW hsz hbw;by_cases hy:y=0
 ·subst hy
  have h0:n2=0:=by rw[<-Hn2.o];rfl
  subst h0
  go_wp2_with fail
  go_ret3
  exact⟨rfl,by rw[HW.o];exact Hb2.o⟩
 ·have hn0:n2≠0:=by
   intro e;have h1:=Hn2.o;rw[e]at h1;have:=oC.1 (amX h1);omega
  have q0:((n2:Int)==0)=false:=by simp;omega
  have hy2:y.natAbs≠0:=by omega
  have HY2:=amy hy2;have HY:=amy hy;have HE:Hid (aac x y=(ae (x.fdiv y),ae (x.fmod y),0)):=by show _=_;unfold aac;rw[if_neg hy]
  clear hn0 hy hy2
  go_wp2_with fail
  rw[HW.o];clear HW;obtain⟨B,hB⟩:=eX (w2.heap.size);rw[hB]at c00 c01 c10 c11 Hsz⊢
  clear hB;refine(af6 A1 A2 c1 c2 n1 n2 _ _ _ Hn1.o Hn2.o Hm1'.o Hm2'.o (by omega) (by omega) HY2.o).mono ?_;rintro e w3 ⟨A3,k3,c3,A4,k4,c4,rfl,hk3,hk4,hm3,hm4,hl3,hl4,hb3⟩;have Hk3:=amy hk3;have Hk4:=amy hk4;have Hm3:=amy hm3;have Hm4:=amy hm4;have Hm2'':=amy (Hm2'.o.up hb3);have l0:B<W.heap.size:=by have:=Hsz.o;omega
  have l1:B+1<W.heap.size:=by have:=Hsz.o;omega
  have d00:=(hb3.cell (p:=⟨B,0,none⟩) l0).trans c00;have d10:=(hb3.cell (p:=⟨B+1,0,none⟩) l1).trans c10;have d11:=(hb3.cell (p:=⟨B+1,1,none⟩) l1).trans c11;have Hs3:Hid (B+1<w3.heap.size):=amS l1 hb3.size;have Hb3:Hid (Below w.heap.size w w3):=Hb2.o.trans (hb3.mono Hb2.o.size);clear hk3 hk4 hm3 hm4 hb3 l0 l1 c00 c01 c10 c11;by_cases hs:na=nb
  ·subst hs
   have q1:(na !=na)=false:=by simp
   have HF:=amy (aja x y HY.o (HD1.o.trans HD2.o.symm))
   go_wp2_with fail
   have lt0:B<w3.heap.size:=by have:=Hs3.o;omega
   have lt1:B+1<w3.heap.size:=Hs3.o
   go_region_held3 (fun w'=>w'.cell? ⟨B,0,none⟩=some (.bool na)/\w'.cell? ⟨B+1,0,none⟩=some (.bool na))
    (first
     |(go_keep;done)
     |exact⟨xq0,xq1⟩
     |exact⟨xr0,xr1⟩)
    (first
     |(go_at_call 46;(with_reducible refine(text' false A3 c3 k3 _ _ Hk3.o ?_ ?_ ?_).mono ?_);(first|exact Hm3.o|exact Hm3.o.up hR3);omega;(first|exact Hg.o.below Hb3.o.drew|exact Hg.o.below HbR.o);rintro e wq ⟨rfl,hkq⟩;have hQ3:Below w3.heap.size w3 wq:=(by first|exact((am3 _ _).drew).trans hkq|exact hR3.trans (hkq.mono hR3.size));have HbQ:=amy (Hb3.o.trans (hQ3.mono Hb3.o.size));have xq0:=(hQ3.cell (p:=⟨B,0,none⟩) lt0).trans d00;have xq1:=(hQ3.cell (p:=⟨B+1,0,none⟩) lt1).trans d10)
     |(go_at_call 46;(with_reducible refine(text' na A4 c4 k4 _ _ Hk4.o ?_ ?_ ?_).mono ?_);(first|exact Hm4.o|exact Hm4.o.up hQ3);omega;(first|exact Hg.o.below Hb3.o.drew|exact Hg.o.below HbQ.o);rintro e wz ⟨rfl,hkr⟩;have hR3:Below w3.heap.size w3 wz:=(by first|exact((am3 _ _).drew).trans hkr|exact hQ3.trans (hkr.mono hQ3.size));have HbR:=amy (Hb3.o.trans (hR3.mono Hb3.o.size));have xr0:=(hR3.cell (p:=⟨B,0,none⟩) lt0).trans d00;have xr1:=(hR3.cell (p:=⟨B+1,0,none⟩) lt1).trans d10))
   all_goals
    go_wp2_with fail
    go_ret3
    refine⟨?_,by first|exact HbR.o|exact HbQ.o⟩;rw[HE.o];exact rq (by rw[<-HF.o.1];rfl) (by rw[<-HF.o.2,HD2.o];rfl) rfl
  ·obtain rfl:nb= !na:=by cases na<;>cases nb<;>simp_all
   have q1:(na != !na)=true:=by cases na<;>rfl
   by_cases hr:x.natAbs%y.natAbs=0
   ·have h0:k4=0:=by rw[<-Hk4.o,hr];rfl
    subst h0;have HF:=amy (xN x y HY.o (by rw[HD1.o,HD2.o];exact hs) hr);clear hs hr
    go_wp2_with fail
    have lt0:B<w3.heap.size:=by have:=Hs3.o;omega
    have lt1:B+1<w3.heap.size:=Hs3.o
    go_region_held3 (fun w'=>w'.cell? ⟨B,0,none⟩=some (.bool na)/\w'.cell? ⟨B+1,0,none⟩=some (.bool (!na)))
     (first
      |(go_keep;done)
      |exact⟨xq0,xq1⟩
      |exact⟨xr0,xr1⟩)
     (first
      |(go_at_call 46;(with_reducible refine(text' true A3 c3 k3 _ _ Hk3.o ?_ ?_ ?_).mono ?_);(first|exact Hm3.o|exact Hm3.o.up hR3);omega;(first|exact Hg.o.below Hb3.o.drew|exact Hg.o.below HbR.o);rintro e wq ⟨rfl,hkq⟩;have hQ3:Below w3.heap.size w3 wq:=(by first|exact((am3 _ _).drew).trans hkq|exact hR3.trans (hkq.mono hR3.size));have HbQ:=amy (Hb3.o.trans (hQ3.mono Hb3.o.size));have xq0:=(hQ3.cell (p:=⟨B,0,none⟩) lt0).trans d00;have xq1:=(hQ3.cell (p:=⟨B+1,0,none⟩) lt1).trans d10)
      |(go_at_call 46;(with_reducible refine(text' (!na) A4 c4 0 _ _ Hk4.o ?_ ?_ ?_).mono ?_);(first|exact Hm4.o|exact Hm4.o.up hQ3);omega;(first|exact Hg.o.below Hb3.o.drew|exact Hg.o.below HbQ.o);rintro e wz ⟨rfl,hkr⟩;have hR3:Below w3.heap.size w3 wz:=(by first|exact((am3 _ _).drew).trans hkr|exact hQ3.trans (hkr.mono hQ3.size));have HbR:=amy (Hb3.o.trans (hR3.mono Hb3.o.size));have xr0:=(hR3.cell (p:=⟨B,0,none⟩) lt0).trans d00;have xr1:=(hR3.cell (p:=⟨B+1,0,none⟩) lt1).trans d10))
    all_goals
     go_wp2_with fail
     go_ret3
     refine⟨?_,by first|exact HbR.o|exact HbQ.o⟩;rw[HE.o];exact rq (by rw[<-HF.o.1];rfl) (by rw[<-HF.o.2,HD2.o];rfl) rfl
   ·have HF:=amy (ajb x y HY.o (by rw[HD1.o,HD2.o];exact hs) hr)
    have hk4p:0<k4:=by
     rcases Nat.eq_zero_or_pos k4 with e|e
     ·rw[e]at Hk4;exact absurd (oC.1 (amX Hk4.o)) hr
     ·exact e
    have q2:decide ((0:Int)<(k4:Int))=true:=am2 (by omega);clear hs hr
    go_wp2_with fail
    have lt0:B<w3.heap.size:=by have:=Hs3.o;omega
    have lt1:B+1<w3.heap.size:=Hs3.o;have Hlt:Hid (x.natAbs%y.natAbs<=y.natAbs):=Nat.le_of_lt (Nat.mod_lt _ (by have:=HY2.o;omega))
    go_upto_region 6 with (fail)
    go_cut [9,10] (fun s u wx=>∃A5 k5 c5 A6 k6 c6,s= .slice A5 k5 c5/\u= .slice A6 k6 c6/\k5<=68719476737/\k6<=68719476737/\Hid ((mag (x.natAbs/y.natAbs+1)).length =k5/\(mag (y.natAbs-x.natAbs%y.natAbs)).length =k6/\fV wx A5 c5 (x.natAbs/y.natAbs+1)/\fV wx A6 c6 (y.natAbs-x.natAbs%y.natAbs)/\Below w3.heap.size w3 wx))
    case first=>
     go_region_held3 (fun w'=>w'.cell? ⟨B+1,1,none⟩=some (.slice A2 n2 c2))
      (first
       |(go_keep;done)
       |exact xm1
       |exact xp1
       |(rw[World.cell?_alloc_lt _ _ _ (by exact lt1)];exact d11)
       |(rw[World.cell?_alloc_lt _ _ _ (by exact amS lt1 hM3.size)];exact xm1))
      (first
       |(go_at_call 97;(with_reducible refine(plus1 A3 _ c3 1 k3 _ _ Hk3.o ?_ ?_ ?_).mono ?_);(first|exact Hm3.o.1.up (((am3 _ w3).alloc ano _).drew)|exact Hm3.o.1.up hM3|exact Hm3.o.1.up (hM3.alloc hM3.size _));(first|exact ajW _|exact(ajW w3).up hkm);omega;rintro e wp ⟨A5,k5,c5,rfl,hk5,hm5,hl5,hkp⟩;have hP3:Below w3.heap.size w3 wp:=(by first|exact(((am3 _ w3).alloc ano _).drew).trans (hkp.mono (by show _<=(w3.alloc _).heap.size;rw[amD];exact Nat.le_succ _))|exact hM3.trans (hkp.mono hM3.size)|exact(hM3.alloc hM3.size _).trans (hkp.mono (amG hM3.size (by rw[amD];exact Nat.le_succ _))));have Hk5:=amy hk5;have Hm5:=amy hm5;have xp1:=(hP3.cell (p:=⟨B+1,1,none⟩) lt1).trans d11;clear hk5 hm5)
       |(go_at_call 98;(with_reducible refine(minus2 A2 A4 c2 c4 n2 k4 _ _ _ Hn2.o Hk4.o ?_ ?_ ?_ Hlt.o).mono ?_);(first|exact Hm2''.o.1|exact Hm2''.o.1.up (((am3 _ w3).alloc ano _).drew)|exact Hm2''.o.1.up hP3);(first|exact Hm4.o.1|exact Hm4.o.1.up (((am3 _ w3).alloc ano _).drew)|exact Hm4.o.1.up hP3);omega;rintro e wm ⟨A6,k6,c6,rfl,hk6,hm6,hl6,hkm⟩;have hM3:Below w3.heap.size w3 wm:=(by first|exact((am3 _ w3).drew).trans hkm|exact(((am3 _ w3).alloc ano _).drew).trans (hkm.mono (by show _<=(w3.alloc _).heap.size;rw[amD];exact Nat.le_succ _))|exact hP3.trans (hkm.mono hP3.size));have Hk6:=amy hk6;have Hm6:=amy hm6;have xm1:=(hM3.cell (p:=⟨B+1,1,none⟩) lt1).trans d11;clear hk6 hm6))
     all_goals
      go_wp2_with fail
      go_meet
      refine⟨A5,k5,c5,A6,k6,c6,rfl,rfl,by omega,by omega,Hk5.o,Hk6.o,?_,?_,?_⟩
      ·first|exact Hm5.o|exact Hm5.o.up hkm
      ·first|exact Hm6.o|exact Hm6.o.up hkp|exact Hm6.o.up (anp.trans (hkp.mono (by rw[amD];exact Nat.le_succ _)))
      ·first|exact hP3|exact hM3
    case rest=>
    obtain⟨A5,k5,c5,A6,k6,c6,rfl,rfl,hk5,hk6,R⟩:=hcut;have Hk5:=amy R.o.1;have Hk6:=amy R.o.2.1;have Hm5:=amy R.o.2.2.1;have Hm6:=amy R.o.2.2.2.1;have Hb6:Hid (Below w.heap.size w wc):=Hb3.o.trans (R.o.2.2.2.2.mono Hb3.o.size);have d00':=(R.o.2.2.2.2.cell (p:=⟨B,0,none⟩) lt0).trans d00;have d10':=(R.o.2.2.2.2.cell (p:=⟨B+1,0,none⟩) lt1).trans d10;have lt1':B+1<wc.heap.size:=amS lt1 R.o.2.2.2.2.size;have lt0':B<wc.heap.size:=by omega
    clear d00 d10 d11 R lt0 lt1
    go_wp2_with fail
    go_region_held3 (fun w'=>w'.cell? ⟨B,0,none⟩=some (.bool na)/\w'.cell? ⟨B+1,0,none⟩=some (.bool (!na)))
     (first
      |(go_keep;done)
      |exact⟨xq0,xq1⟩
      |exact⟨xr0,xr1⟩)
     (first
      |(go_at_call 46;(with_reducible refine(text' true A5 c5 k5 _ _ Hk5.o ?_ ?_ ?_).mono ?_);(first|exact Hm5.o|exact Hm5.o.up hR3);omega;(first|exact Hg.o.below Hb6.o.drew|exact Hg.o.below HbR.o);rintro e wq ⟨rfl,hkq⟩;have hQ3:Below wc.heap.size wc wq:=(by first|exact((am3 _ _).drew).trans hkq|exact hR3.trans (hkq.mono hR3.size));have HbQ:=amy (Hb6.o.trans (hQ3.mono Hb6.o.size));have xq0:=(hQ3.cell (p:=⟨B,0,none⟩) lt0').trans d00';have xq1:=(hQ3.cell (p:=⟨B+1,0,none⟩) lt1').trans d10')
      |(go_at_call 46;(with_reducible refine(text' (!na) A6 c6 k6 _ _ Hk6.o ?_ ?_ ?_).mono ?_);(first|exact Hm6.o|exact Hm6.o.up hQ3);omega;(first|exact Hg.o.below Hb6.o.drew|exact Hg.o.below HbQ.o);rintro e wz ⟨rfl,hkr⟩;have hR3:Below wc.heap.size wc wz:=(by first|exact((am3 _ _).drew).trans hkr|exact hQ3.trans (hkr.mono hQ3.size));have HbR:=amy (Hb6.o.trans (hR3.mono Hb6.o.size));have xr0:=(hR3.cell (p:=⟨B,0,none⟩) lt0').trans d00';have xr1:=(hR3.cell (p:=⟨B+1,0,none⟩) lt1').trans d10'))
    all_goals
     go_wp2_with fail
     go_ret3
     refine⟨?_,by first|exact HbR.o|exact HbQ.o⟩;rw[HE.o];exact rq (by rw[<-HF.o.1];rfl) (by rw[<-HF.o.2,HD2.o];rfl) rfl
end
section
open Go.RowKit Go.Shelf Dec
theorem aeU (m:Nat):∀(l:Bytes) (n:Nat),(∀d∈l,dF d=true)->n<=m->m<=18446744073709551615->
 (n*10^l.length+bB l<=m/\Lib.parseUintM m n l= .ok (n*10^l.length+bB l))\/(m<n*10^l.length+bB l/\(m=18446744073709551615->Lib.parseUintM m n l= .range)):=by
 intro l
 induction l with
 |nil=>intro n _ h _;left;simp[Lib.parseUintM,bB];exact h
 |cons d l ih=>
  intro n h hn hM;have hd:=h d amJ;unfold dF at hd;simp at hd;have hp:1<=10^l.length:=Nat.pow_pos (by omega);have e:n*10^(d::l).length +bB (d::l)=(n*10+(d.toNat-48))*10^l.length+bB l:=by
   rw[iX,amT,anb,Nat.add_mul];grind
  rw[e];have hlow:n*10+(d.toNat-48)<=(n*10+(d.toNat-48))*10^l.length:=Nat.le_mul_of_pos_right _ hp;by_cases h1:1844674407370955162<=n
  ·right
   refine⟨by omega,fun _=>?_⟩;rw[Lib.parseUintM,if_pos hd,if_pos h1]
  ·by_cases h2:m<n*10+(d.toNat-48)
   ·right
    refine⟨by omega,fun _=>?_⟩;rw[Lib.parseUintM,if_pos hd,if_neg h1,if_pos h2]
   ·rw[Lib.parseUintM,if_pos hd,if_neg h1,if_neg h2]
    exact ih _ (fun x hx=>h x (amL _ hx)) (by omega) hM
theorem yS (z:Int):Lib.parseIntB 64 (prt z)=if-9223372036854775808<=z/\z<=9223372036854775807 then .ok z else .range :=by
 have key:∀(l:Bytes),l≠ []->(∀d∈l,dF d=true)->(bB l<=18446744073709551615/\Lib.parseUintB 64 l= .ok (bB l))\/(18446744073709551615<bB l/\Lib.parseUintB 64 l= .range):=by
  intro l h0 h;unfold Lib.parseUintB;rw[if_neg h0];have:=aeU (2^64-1) l 0 h (by omega) (by omega);simp only[Nat.zero_mul,am5]at this;rcases this with h|h
  ·exact .inl h
  ·exact .inr ⟨h.1,by first|exact h.2 rfl|exact h.2 trivial⟩
 unfold prt;by_cases hz:z=0
 ·subst hz;rfl
 ·rw[if_neg hz]
  unfold canon;by_cases hneg:z<0
  ·rw[if_pos hneg]
   have hne:dec z.natAbs≠ []:=fun e=>by rw[oP]at e;omega
   have hk:=key (dec z.natAbs) hne (lU _);rw[iW]at hk;unfold Lib.parseIntB;simp only[show (45:UInt8).toNat =45 from rfl];rw[if_pos (Or.inr trivial)];rcases hk with ⟨h1,h2⟩|⟨h1,h2⟩
   ·rw[h2]
    simp only[not_true_eq_false,false_and,if_false,true_and,if_true];by_cases h3:2^(64-1)<z.natAbs
    ·rw[if_pos h3,if_neg (by omega)]
    ·rw[if_neg h3,if_pos (by omega),show-(z.natAbs:Int)=z by omega]
   ·rw[h2]
    rw[if_neg (by omega)]
  ·rw[if_neg hneg]
   have hne:dec z.natAbs≠ []:=fun e=>by rw[oP]at e;omega
   have hk:=key (dec z.natAbs) hne (lU _);rw[iW]at hk;have hdg:=lU z.natAbs;cases hd:dec z.natAbs with
   |nil=>exact absurd hd hne
   |cons c r=>
    have hc:=hdg c (by rw[hd];exact amJ);unfold dF at hc;simp at hc;rw[hd]at hk;unfold Lib.parseIntB;simp only[if_neg (show¬(c.toNat=43\/c.toNat=45)by omega)];have hc45:¬c.toNat=45:=by omega
    rcases hk with ⟨h1,h2⟩|⟨h1,h2⟩
    ·rw[h2]
     simp only[hc45,not_false_eq_true,true_and,false_and,if_false];by_cases h3:2^(64-1)<=z.natAbs
     ·rw[if_pos h3,if_neg (by omega)]
     ·rw[if_neg h3,if_pos (by omega),show (z.natAbs:Int)=z by omega]
    ·rw[h2]
     rw[if_neg (by omega)]
def sml (z:Int):Int×Bool:=if-9223372036854775808<=z/\z<=9223372036854775807 then(z,true)else(0,false)
theorem ahL (a:BA):(str (prt (ah a))).size <=a.size+1:=by
 unfold prt;split
 ·rw[gB];simp
 ·exact yn a
theorem ahf (a:BA)(w:World)(ha:a.size<=68719476736)(hg:Gl w):
 Calls prog 260 #[.string a] w fun e w'=>e= .returned (.tuple #[.int .i64 (sml (ah a)).1,.bool (sml (ah a)).2])/\Below w.heap.size w w':=by
 have Hg:=amy hg;clear hg;have H1:=amy (fun w=>yL a w (by omega));have hsz:=ahL a;by_cases h: -9223372036854775808<=ah a/\ah a<=9223372036854775807
 ·have HE:Hid (sml (ah a)=(ah a,true)):=by show _=_;unfold sml;rw[if_pos h]
  have HP:Hid (Lib.parseIntB 64 (str (prt (ah a))).data.toList = .ok (ah a)):=by show _=_;have:=yS (ah a);rw[if_pos h]at this;exact this
  have h1:=h.1;have h2:=h.2;clear h;generalize str (prt (ah a))=t at*
  generalize ah a=z at*
  go_enter func260,ntmps260
  go_wp2_with fail
  refine(H1.o _).mono ?_;rintro e w1 ⟨rfl,hb1⟩
  go_wp2_with fail
  refine(Any.strconv_ParseInt_10_at64_ok laysC174 t (by omega) z HP.o _).mono ?_;rintro e w2 ⟨rfl,hw2⟩;have HB2:Hid (Below w1.heap.size w1 w2):=by
   rcases hw2 with rfl|⟨u,rfl⟩
   ·exact am3 _ _
   ·exact Lib.bytesWorld_below _ _ _
  clear hw2
  go_wp2_with fail
  go_ret2
  exact⟨by rw[HE.o];rfl,hb1.trans (HB2.o.mono hb1.size)⟩
 ·have HE:Hid (sml (ah a)=(0,false)):=by show _=_;unfold sml;rw[if_neg h]
  have HP:Hid (Lib.parseIntB 64 (str (prt (ah a))).data.toList = .range):=by show _=_;have:=yS (ah a);rw[if_neg h]at this;exact this
  clear h;generalize str (prt (ah a))=t at*
  obtain⟨tp,p,hv,_⟩:=Hg.o.2;have HVr:=amy hv;clear hv
  go_enter func260,ntmps260
  go_wp2_with fail
  refine(H1.o _).mono ?_;rintro e w1 ⟨rfl,hb1⟩;have Hb1:=amy hb1;clear hb1
  go_wp2_with fail
  refine(Any.strconv_ParseInt_10_at64_range_var laysC174 t (by omega) HP.o tp p _ (qP HVr.o Hb1.o)).mono ?_;rintro e w2 ⟨N,rfl,hN,hN2,hb2⟩;have Hb2:=amy hb2;clear hN hN2 hb2
  go_wp2_with fail
  go_ret2
  exact⟨by rw[HE.o];rfl,Hb1.o.trans (Hb2.o.mono Hb1.o.size)⟩
attribute [local go_sem ↓] Go.wp_at_zero Go.wp_at_succ
end
section
open Go.RowKit Go.Shelf Dec
attribute [local go_sem] Oper.semAt_some
theorem aef (A A':Option Addr)(n n' c c':Nat)(w:World):
 Calls prog 195 #[.slice A n c,.slice A' n' c'] w fun e w'=>e= .returned (.func (.func 238) #[] #[.pointer (some ⟨w.heap.size,0,none⟩),.pointer (some ⟨w.heap.size+1,0,none⟩)])/\
  w'=(w.alloc (.cells #[.slice A n c] 114)).alloc (.cells #[.slice A' n' c'] 114):=by
 go_enter func195,ntmps195
 go_wp2
 go_ret
 exact⟨rfl,rfl⟩
def tK (W:World)(B:Nat):Prop:=∀o g,W.cell? ⟨B,o,none⟩≠some (.int .u64 g)
theorem tK.box {W:World}{B:Nat}{t:TypeId}{A:Option Addr}{n c:Nat}(h:Boxed W B t (.slice A n c)):tK W B:=by
 intro o g e;have hh:W.heap[B]? =some (.cells #[.slice A n c] t (0,0)):=h;unfold World.cell? at e;rw[hh]at e;cases o with
 |zero=>simp at e
 |succ o=>simp at e
theorem tK.loop {W:World}{B:Nat}{r:Loop}(h:W.heap[B]? =some (.loop r)):tK W B:=by
 intro o g e;unfold World.cell? at e;rw[h]at e;simp at e
theorem fV.grown {W W':World}{A:Option Addr}{c n:Nat}{row:Nat}(h:fV W A c n)(hg:W.grownBy W' (some row))(hr:tK W row):fV W' A c n:=by
 refine⟨fun i g hi=>?_,h.2⟩;obtain⟨b,o,hA,hB,hcell⟩:=h.1 i g hi;refine⟨b,o,hA,amS hB hg.size,?_⟩;have hne:b≠row:=by rintro rfl;exact hr _ _ hcell
 exact(World.cell?_of_block (w:=W) (w':=W') (a:=⟨b,o+i,none⟩) (hg.block b hB (fun e=>hne (by injection e)))).trans hcell
structure GS (w:World) (Bo Bm Bn l D:Nat) (rec:Loop) (x y:Nat) (A:Option Addr) (n c:Nat) (A':Option Addr) (n' c':Nat) (A0:Option Addr) (n0 c0:Nat) (W:World):Prop where
 bm:Boxed W Bm 114 (.slice A n c)
 bn:Boxed W Bn 114 (.slice A' n' c')
 bo:Boxed W Bo 114 (.slice A0 n0 c0)
 hn:(mag x).length =n
 hn':(mag y).length =n'
 mx:fV W A c x
 my:fV W A' c' y
 lp:W.heap[l]? =some (.loop rec)
 df:W.heap[D]? =some (.deferred (some []))
 below:Below w.heap.size w W
theorem aT {W W':World}{B:Nat}{t:TypeId}{v:Value}(h:Boxed W B t v)(hb:Below W.heap.size W W'):Boxed W' B t v:=(hb.block B h.lt).trans h
theorem GS.up {w:World}{Bo Bm Bn l D:Nat}{rec:Loop}{x y:Nat}{A A' A0:Option Addr}{n c n' c' n0 c0:Nat}{W W':World}(h:GS w Bo Bm Bn l D rec x y A n c A' n' c' A0 n0 c0 W)(hb:Below W.heap.size W W'):GS w Bo Bm Bn l D rec x y A n c A' n' c' A0 n0 c0 W':=
 ⟨aT h.bm hb,aT h.bn hb,aT h.bo hb,h.hn,h.hn',h.mx.up hb,h.my.up hb,(hb.block l (amA.1 h.lp).1).trans h.lp,(hb.block D (amA.1 h.df).1).trans h.df,h.below.trans (hb.mono h.below.size)⟩
theorem aeg (w:World)(Bo Bm Bn l D L G:Nat)(rec:Loop)(hne:Bm≠Bn/\Bm≠Bo/\Bn≠Bo/\Bm≠l/\Bn≠l/\Bm≠D/\Bn≠D)(hlo:w.heap.size<=Bm/\w.heap.size<=Bn)(hL:L<=274877906944)
 (hY:∀x y A n c A' n' c' A0 n0 c0 W1,GS w Bo Bm Bn l D rec x y A n c A' n' c' A0 n0 c0 W1->YieldAt Fence.wide 4 prog l #[.slice A n c,.slice A' n' c'] W1 fun e W'=>e= .returned (.bool true)/\GS w Bo Bm Bn l D rec x y A n c A' n' c' A n c W')
 (x y:Nat) (A:Option Addr) (n c:Nat) (A':Option Addr) (n' c':Nat) (A0:Option Addr) (n0 c0:Nat) (W:World) (hg:Nat.gcd x y=G) (hnL:n<=L) (hnL':n'<=L) (h0:GS w Bo Bm Bn l D rec x y A n c A' n' c' A0 n0 c0 W):
 CallsIn Fence.wide 5 prog 238 #[.func (.yield l) #[] #[],.pointer (some ⟨Bm,0,none⟩),.pointer (some ⟨Bn,0,none⟩)] W fun en W'=>(∃v,en= .returned v)/\
  ∃A n c A' n' c',n<=L/\GS w Bo Bm Bn l D rec G 0 A n c A' n' c' A n c W':=by
 have HY:=amy hY;have Hne:=amy hne;have Hlo:=amy hlo;have Hg:=amy hg;have H0:=amy h0;clear hY hne hlo hg h0;refine callsIn_of_wp func238 rfl trivial ?_ rfl;simp only[ntmps238,List.size_toArray,amT,List.length_nil,Nat.reduceAdd,Nat.reduceSub,Array.replicate_succ,Array.replicate_zero,List.push_toArray,List.append_toArray,List.nil_append,List.cons_append]
 gi_wp2_with fail
 gi_loopg [4] y (fun gk s wr=>∃(x:Nat) (A:Option Addr) (n c:Nat) (A':Option Addr) (n' c':Nat) (A0:Option Addr) (n0 c0:Nat),n<=L/\n'<=L/\Hid (Nat.gcd x gk=G/\GS w Bo Bm Bn l D rec x gk A n c A' n' c' A0 n0 c0 wr))
 case atStart=>exact⟨x,A,n,c,A',n',c',A0,n0,c0,hnL,hnL',Hg.o,H0.o⟩
 case round=>
  obtain⟨x,A,n,c,A',n',c',A0,n0,c0,hnL,hnL',H⟩:=hrel;have cm:=H.o.2.bm.cell;have cn:=H.o.2.bn.cell;obtain⟨fn,tmps,assign,body,hy,hR⟩:=HY.o _ _ _ _ _ _ _ _ _ _ _ _ H.o.2;have HRR:=amy hR;clear hR;by_cases hk0:gk=0
  ·subst hk0
   have hn0:n'=0:=by rw[<-H.o.2.hn'];rfl
   subst hn0;obtain rfl:x=G:=by have:=H.o.1;rwa[Nat.gcd_zero_right]at this
   gi_wp2_with fail
   refine HRR.o.mono ?_;rintro e W3 ⟨rfl,hG⟩;have HG:=amy hG;have cn3:=hG.bn.cell;clear hG
   gi_wp2_with fail
   go_end0
   exact⟨⟨_,rfl⟩,A,n,c,A',0,c',hnL,HG.o⟩
  ·have hn0:n'≠0:=fun e=>hk0 (oC.1 (amX (by rw[H.o.2.hn',e])))
   have hpos:0<n':=by omega
   have q:decide (0<n')=true:=am2 hpos;have Hk0:=amy hk0;clear hk0 hn0
   gi_wp2_with fail
   refine HRR.o.mono ?_;rintro e W3 ⟨rfl,hG⟩;have HG:=amy hG;have cn3:=hG.bn.cell;have cm3:=hG.bm.cell;clear hG
   gi_wp2_with fail
   refine⟨trivial,(callsIn_wide.2 (af6 A A' c c' n n' _ _ _ HG.o.hn HG.o.hn' HG.o.mx HG.o.my (by omega) (by omega) Hk0.o)).mono ?_⟩;rintro e w4 ⟨A3,k3,c3,A4,k4,c4,rfl,hk3,hk4,hm3,hm4,hl3,hl4,hb4⟩;have HG4:=amy (HG.o.up hb4);have Hk4:=amy hk4;have Hm4:=amy hm4;have cn4:=HG4.o.bn.cell;have cm4:=HG4.o.bm.cell;have fn4:=HG4.o.bn.frozen;have fm4:=HG4.o.bm.frozen;clear hk3 hk4 hm3 hm4 hb4 cn3 cm3;have cnx:∀v,(w4.setCell ⟨Bm,0,none⟩ v).cell? ⟨Bn,0,none⟩=some (.slice A' n' c'):=fun v=>(HG4.o.bn.other (fun e=>Hne.o.1 e.symm) v).cell
   have fnx:∀v,(w4.setCell ⟨Bm,0,none⟩ v).frozen? ⟨Bn,0,none⟩=false:=fun v=>(HG4.o.bn.other (fun e=>Hne.o.1 e.symm) v).frozen
   gi_wp2_with fail
   gi_roundg (x%gk)
   case rel=>
    refine⟨gk,A',n',c',A4,k4,c4,A,n,c,hnL',by omega,?_,?_⟩
    ·rw[<-H.o.1,Nat.gcd_comm gk, <-Nat.gcd_rec,Nat.gcd_comm]
    ·have h1:=tK.box HG4.o.bm
     have g1:=grownBy_setCell' w4 Bm (.slice A' n' c');have h2:=tK.box (HG4.o.bn.other (fun e=>Hne.o.1 e.symm) (.slice A' n' c'));have g2:=grownBy_setCell' (w4.setCell ⟨Bm,0,none⟩ (.slice A' n' c')) Bn (.slice A4 k4 c4);refine⟨(HG4.o.bm.set _).other Hne.o.1 _,(HG4.o.bn.other (fun e=>Hne.o.1 e.symm) _).set _,(HG4.o.bo.other (fun e=>Hne.o.2.1 e.symm) _).other (fun e=>Hne.o.2.2.1 e.symm) _,HG4.o.hn',Hk4.o,(HG4.o.my.grown g1 h1).grown g2 h2,(Hm4.o.grown g1 h1).grown g2 h2,?_,?_,(HG4.o.below.setCell Hlo.o.1 _).setCell Hlo.o.2 _⟩
     ·rw[amR _ _ _ _ (fun e=>Hne.o.2.2.2.2.1 e.symm),amR _ _ _ _ (fun e=>Hne.o.2.2.2.1 e.symm)]
      exact HG4.o.lp
     ·rw[amR _ _ _ _ (fun e=>Hne.o.2.2.2.2.2.2 e.symm),amR _ _ _ _ (fun e=>Hne.o.2.2.2.2.2.1 e.symm)]
      exact HG4.o.df
   case measure=>exact Nat.mod_lt _ (Nat.pos_of_ne_zero Hk0.o)
theorem fQ {F:Fence}{n:Nat}{P:Program}{g:Operand}{ps:Array Tmp}{assign body:Code}{Q:Exit->Act->World->Prop}{a:Act}{w:World}(hro:F.round=none)(h1:1<=n){gf:Nat}{lb:Array Value}
 (hg:a.eval g= .func (.func gf) #[] lb) (hFg:F.fn gf) (eg:∀args w,(callFunc gf args).run P w= .ok (.enter gf args) w)
 (h:∀fn,F.fn fn->∀r:Loop,r= {state:=.ready,pending:=none,fn:=fn,tmps:=a.tmps,params:=ps,assign:=assign,body:=body,defers:=w.heap.size}->
  CallsIn F (n-1) P gf (#[.func (.yield (w.heap.size+1)) #[] #[]]++lb) ((w.alloc (.deferred (some []))).alloc (.loop r)) (rangePost F n P (w.heap.size+1) Q {a with defers:=[{target:=.collected w.heap.size,args:= #[]}]++a.defers})):
 (Code.rangeFunc g ps assign body).wpIn F n P Q a w:=by
 refine wpIn_rangeFunc fun fn hfn=>?_
 rw[hro];obtain⟨r,hr⟩:∃r:Loop,r= {state:=.ready,pending:=none,fn:=fn,tmps:=a.tmps,params:=ps,assign:=assign,body:=body,defers:=w.heap.size}:=⟨_,rfl⟩;have hc:=h fn hfn r hr;have he:=run_enterLoop_outer (P:=P) (w:=w) fn a.tmps ps assign body;rw[<-hr]at he;obtain⟨W1,hW1⟩:=eX ((w.alloc (.deferred (some []))).alloc (.loop r));rw[hW1]at hc he;refine⟨w.heap.size+1,[{target:=.collected w.heap.size,args:= #[]}],W1,{target:=.fn (.func gf) lb,args:= #[.func (.yield (w.heap.size+1)) #[] #[]]},W1,gf, #[.func (.yield (w.heap.size+1)) #[] #[]]++lb,W1,?_,?_,?_,?_,fun _=>h1,?_⟩
 ·exact he
 ·simp only[resolve,hg]
  simp[go_sem]
 ·intro f' hf';simp[Target.leads]at hf';subst hf';exact hFg
 ·simp[invoke,go_sem,eg]
 ·exact hc
theorem dQ {W:World}{B l:Nat}{t:TypeId}{v:Value}(h:Boxed W B t v)(hne:B≠l)(o:Obj):Boxed (W.putObj l o) B t v:=(World.putObj_heap_other hne).trans h
theorem aI {w W:World}{l:Nat}(h:Below w.heap.size w W)(hl:w.heap.size<=l)(o:Obj):Below w.heap.size w (W.putObj l o):=
 h.trans ⟨rfl,rfl,rfl,by simp,fun k hk=>World.putObj_heap_other (by omega)⟩
theorem GS.round {w:World}{Bo Bm Bn l D:Nat}{r:Loop}{x y:Nat}{A A' A0:Option Addr}{n c n' c' n0 c0:Nat}{W:World}(h:GS w Bo Bm Bn l D r x y A n c A' n' c' A0 n0 c0 W)(hs:r.state= .ready)(hp:r.pending=none)
 (hne:Bm≠l/\Bn≠l/\Bo≠l/\D≠l/\Bm≠Bo/\Bn≠Bo/\D≠Bo) (hlo:w.heap.size<=Bo/\w.heap.size<=l):
 GS w Bo Bm Bn l D r x y A n c A' n' c' A n c (((W.putObj l (.loop {r with state:=.busy})).setCell ⟨Bo,0,none⟩ (.slice A n c)).putObj l (.loop {r with state:=if (none:Option Code).isNone then .ready else .done,pending:=none})):=by
 obtain⟨n1,n2,n3,n4,n5,n6,n7⟩:=hne;have hll:l<W.heap.size:=(amA.1 h.lp).1;have hlp1:(W.putObj l (.loop {r with state:=.busy})).heap[l]? =some (.loop {r with state:=.busy}):=World.putObj_heap_same hll;have g1:=grownBy_putObj' W l (.loop {r with state:=.busy});have k1:=tK.loop h.lp;have b1:=dQ h.bo n3 (.loop {r with state:=.busy});have g2:=grownBy_setCell' (W.putObj l (.loop {r with state:=.busy})) Bo (.slice A n c);have k2:=tK.box b1;have hlp2:((W.putObj l (.loop {r with state:=.busy})).setCell ⟨Bo,0,none⟩ (.slice A n c)).heap[l]? =some (.loop {r with state:=.busy}):=(amR _ _ _ _ n3.symm).trans hlp1;have k3:=tK.loop hlp2;have g3:=grownBy_putObj' ((W.putObj l (.loop {r with state:=.busy})).setCell ⟨Bo,0,none⟩ (.slice A n c)) l (.loop {r with state:=if (none:Option Code).isNone then .ready else .done,pending:=none});have hr:({r with state:=if (none:Option Code).isNone then LoopState.ready else .done,pending:=none}:Loop)=r:=by cases r;simp_all
 refine⟨dQ ((dQ h.bm n1 _).other n5 _) n1 _,dQ ((dQ h.bn n2 _).other n6 _) n2 _,dQ (b1.set _) n3 _,h.hn,h.hn',((h.mx.grown g1 k1).grown g2 k2).grown g3 k3,((h.my.grown g1 k1).grown g2 k2).grown g3 k3,?_,?_,?_⟩
 ·rw[World.putObj_heap_same (amA.1 hlp2).1,hr]
 ·rw[World.putObj_heap_other n4,amR _ _ _ _ n7,World.putObj_heap_other n4]
  exact h.df
 ·exact aI ((aI h.below hlo.2 _).setCell hlo.1 _) hlo.2 _
theorem amq (a b:BA)(w:World)(ha:a.size<=68719476736)(hb:b.size<=68719476736)(hg:Gl w):
 Calls prog 149 #[.string a,.string b] w fun e w'=>e= .returned (.string (ae (Nat.gcd (ah a).natAbs (ah b).natAbs :Nat)))/\Below w.heap.size w w':=by
 have Hg:=amy hg;clear hg;have HR1:=amy (fun w=>read' a w ha);have HR2:=amy (fun w=>read' b w hb);generalize decide (ah a<0)=na at*
 generalize decide (ah b<0)=nb at*
 generalize (ah a).natAbs =x at*
 generalize (ah b).natAbs =y at*
 refine(callsIn_wide (n:=6)).1 ?_;refine callsIn_of_wp_marks func149 rfl trivial ?_ rfl;simp only[ntmps149,List.size_toArray,amT,List.length_nil,Nat.reduceAdd,Nat.reduceSub,Array.replicate_succ,Array.replicate_zero,List.push_toArray,List.append_toArray,List.nil_append,List.cons_append];have hfld:∀(v u:Value) (W:World),(Instr.field 116 (.agg #[v,u]) 1).run prog W= .ok u W:=fun _ _ _=>by kernel_rfl
 have Hb0:Hid (Below w.heap.size w (w.alloc (.cells #[.slice none 0 0] 114))):=anp;have Hbox0:Hid (Boxed (w.alloc (.cells #[.slice none 0 0] 114)) w.heap.size 114 (.slice none 0 0)):=Boxed.new _ _ _;have hs0:(w.alloc (.cells #[.slice none 0 0] 114)).heap.size =w.heap.size+1:=amD _ _;have Hs0:=amy hs0;clear hs0
 gi_wp2_with fail
 generalize w.alloc (.cells #[.slice none 0 0] 114)=w0 at*
 refine⟨trivial,(callsIn_wide.2 (HR1.o _)).mono ?_⟩;rintro e w1 ⟨A1,n1,c1,rfl,hn1,hm1,hl1,hb1⟩;have Hn1:=amy hn1;have Hm1:=amy hm1;have Hb1:=amy hb1;clear hn1 hm1 hb1
 gi_wp2_with fail
 refine⟨trivial,(callsIn_wide.2 (HR2.o _)).mono ?_⟩;rintro e w2 ⟨A2,n2,c2,rfl,hn2,hm2,hl2,hb2⟩;have Hn2:=amy hn2;have Hm2:=amy hm2;have Hb2:=amy hb2;clear hn2 hm2 hb2
 gi_wp2_with fail
 refine⟨trivial,(callsIn_wide.2 (aef _ _ _ _ _ _ _)).mono ?_⟩;rintro e w3 ⟨rfl,hw3⟩
 gi_wp2_with fail
 have hs2:w.heap.size+1<=w2.heap.size:=by have h1:=Hb1.o.size;have h2:=Hb2.o.size;have h3:=Hs0.o;omega
 have Hb3:Hid (Below w.heap.size w w3):=by
  show Below _ _ _;rw[hw3];exact(((Hb0.o.trans (Hb1.o.mono Hb0.o.size)).trans (Hb2.o.mono (amG Hb0.o.size Hb1.o.size))).alloc (by omega) _).alloc (by simp;omega) _
 have hs3:w3.heap.size=w2.heap.size+2:=by rw[hw3];simp
 have hb23:Below w2.heap.size w2 w3:=by rw[hw3];exact anp.alloc (by simp) _
 have Bm3:Hid (Boxed w3 w2.heap.size 114 (.slice A1 n1 c1)):=by show Boxed _ _ _ _;rw[hw3];exact(Boxed.new _ _ _).alloc _
 have Bn3:Hid (Boxed w3 (w2.heap.size+1) 114 (.slice A2 n2 c2)):=by
  show Boxed _ _ _ _;rw[hw3];have:=Boxed.new (w2.alloc (.cells #[.slice A1 n1 c1] 114)) 114 (.slice A2 n2 c2);rwa[amD]at this
 have Bo3:Hid (Boxed w3 w.heap.size 114 (.slice none 0 0)):=aT (aT (aT Hbox0.o Hb1.o) Hb2.o) hb23;have Mx3:=amy ((Hm1.o.up Hb2.o).up hb23);have My3:=amy (Hm2.o.up hb23);have Hs3:=amy hs3;rw[<-hw3];clear hw3 hb23 hs3;refine fQ rfl (by omega) rfl trivial (enters_of func238 (by kernel_rfl) rfl) ?_;intro fn hfn r hr;have hst:r.state= .ready :=by rw[hr]
 have hpe:r.pending=none:=by rw[hr]
 have HS:Hid (GS w w.heap.size w2.heap.size (w2.heap.size+1) (w3.heap.size+1) w3.heap.size r x y A1 n1 c1 A2 n2 c2 none 0 0 ((w3.alloc (.deferred (some []))).alloc (.loop r))):=by
  have hbb:Below w3.heap.size w3 ((w3.alloc (.deferred (some []))).alloc (.loop r)):=anp.alloc (by simp) _;refine⟨aT Bm3.o hbb,aT Bn3.o hbb,aT Bo3.o hbb,Hn1.o,Hn2.o,Mx3.o.up hbb,My3.o.up hbb,?_,?_,Hb3.o.trans (hbb.mono Hb3.o.size)⟩
  ·have:=World.alloc_heap_new (w3.alloc (.deferred (some []))) (.loop r)
   rwa[amD]at this
  ·exact(Below.heap_alloc _ _ _ (by simp)).trans (World.alloc_heap_new w3 _)
 refine(aeg w w.heap.size w2.heap.size (w2.heap.size+1) (w3.heap.size+1) w3.heap.size 68719476736 (Nat.gcd x y) r (by have:=Hs3.o;omega) (by omega) (by omega) ?_ x y A1 n1 c1 A2 n2 c2 none 0 0 _ rfl (by omega) (by omega) HS.o).mono ?_
 ·intro x y A n c A' n' c' A0 n0 c0 W1 hG
  have hne:w2.heap.size≠w3.heap.size+1/\w2.heap.size+1≠w3.heap.size+1/\w.heap.size≠w3.heap.size+1/\w3.heap.size≠w3.heap.size+1/\w2.heap.size≠w.heap.size/\w2.heap.size+1≠w.heap.size/\w3.heap.size≠w.heap.size:=by have:=Hs3.o;omega
  have hR:=hG.round hst hpe hne ⟨am4 _,by have:=Hs3.o;omega⟩;have hy:=run_yield (P:=prog) (args:= #[.slice A n c,.slice A' n' c']) hG.lp (by rw[hr];rfl);refine⟨_,_,_,_,hy,roundIn_of_wpIn (by rw[hr];exact hfn) ?_⟩;have e1:=congrArg Loop.assign hr;have e2:=congrArg Loop.body hr;have e3:=congrArg Loop.tmps hr;have e4:=congrArg Loop.params hr;dsimp only at e1 e2 e3 e4;rw[e1,e2,e3,e4];have HG:=amy hG;have HRd:=amy hR;have Hst:=amy hst;have b1:=dQ hG.bo hne.2.2.1 (.loop {r with state:=.busy});have cB:=b1.cell;have fB:=b1.frozen;have Hlp:Hid (((W1.putObj (w3.heap.size+1) (.loop {r with state:=.busy})).setCell ⟨w.heap.size,0,none⟩ (.slice A n c)).heap[w3.heap.size+1]? =some (.loop {r with state:=.busy})):=
   (amR _ _ _ _ hne.2.2.1.symm).trans (World.putObj_heap_same (amA.1 hG.lp).1)
  clear e1 e2 e3 e4 hr hy hG hR hst hpe hne b1 HS
  gi_wp2_with fail
  refine⟨_,run_beginRound HG.o.lp Hst.o,?_⟩
  gi_wp2_with fail
  refine⟨_,_,run_endRound none Hlp.o,rfl,HRd.o⟩
 ·rintro e W4 ⟨⟨v,rfl⟩,A,n,c,A',n',c',hnL,hG⟩
  obtain⟨o5,ho5⟩:∃o5:Obj,o5= .loop {r with state:=.exhausted}:=⟨_,rfl⟩;have hend:=run_endLoop (P:=prog) hG.lp (by rw[hst];decide);rw[<-ho5]at hend;clear ho5;rw[hpe]at hend;have hnl:w.heap.size≠w3.heap.size+1:=by have:=Hs3.o;omega
  have b1:=dQ hG.bo hnl o5;have cB:=b1.cell;have HM:Hid (fV (W4.putObj (w3.heap.size+1) o5) A c (Nat.gcd x y)):=hG.mx.grown (grownBy_putObj' _ _ _) (tK.loop hG.lp);have Hn:=amy hG.hn;have HB5:Hid (Below w.heap.size w (W4.putObj (w3.heap.size+1) o5)):=aI hG.below (by have:=Hs3.o;omega) _;have HD5:Hid ((W4.putObj (w3.heap.size+1) o5).heap[w3.heap.size]? =some (.deferred (some []))):=(World.putObj_heap_other (by omega)).trans hG.df;obtain⟨W5,hW5⟩:=eX (W4.putObj (w3.heap.size+1) o5);rw[hW5]at hend cB HM HB5 HD5;have hs5:w3.heap.size<W5.heap.size:=(amA.1 HD5.o).1;refine⟨none,W5,hend,?_⟩;clear hr hG hst hpe b1 HS hW5 hend
  gi_wp2_with fail
  refine⟨trivial,(callsIn_wide.2 (text' false A c n _ _ Hn.o HM.o (by omega) (Hg.o.below HB5.o))).mono ?_⟩;rintro e w6 ⟨rfl,hb6⟩;have HB6:=amy hb6;clear hb6
  gi_wp2_with fail
  have hd6:w6.heap[w3.heap.size]? =some (.deferred (some [])):=(HB6.o.block _ hs5).trans HD5.o;refine⟨by simp,.inl ⟨_,_,rfl,run_takeDeferred hd6,?_⟩⟩;refine⟨_,results_tmp rfl _ _ _,rfl,aI (HB5.o.trans (HB6.o.mono HB5.o.size)) (by have:=Hs3.o;omega) _⟩
end
section
open Go.RowKit Go.Shelf Dec
theorem amj (a:BA):(ah a).natAbs <10^a.size:=by
 unfold ah;rw[vU];have h1:=mU (iN (bytes a)) (qC _);have h2:=nG (bytes a);rw[<-bR]at h2;have h3:10^(iN (bytes a)).length <=10^a.size:=Nat.pow_le_pow_right (by omega) (by omega);omega
theorem qX {z:Int}{k:Nat}(h:z.natAbs<10^k):(ae z).size <=k+1:=by
 unfold ae;rw[gB];have:=aa5.2 h;unfold canon;split<;>simp<;>omega
def Fit (k:Nat)(z:Int):Prop:=z.natAbs<10^k
theorem Fit.val {a:BA}{k:Nat}(h:a.size<=k):Fit k (ah a):=amS (amj a) (Nat.pow_le_pow_right (by omega) h)
theorem Fit.mono {k m:Nat}{z:Int}(h:Fit k z)(hk:k<=m):Fit m z:=amS h (Nat.pow_le_pow_right (by omega) hk)
theorem Fit.sub {k:Nat}{y z:Int}(h:Fit k y)(h2:Fit k z):Fit (k+1) (y-z):=by
 unfold Fit at*
 rw[anb];have:(y-z).natAbs <=y.natAbs+z.natAbs:=Int.natAbs_sub_le y z;omega
theorem Fit.mul {k m:Nat}{y z:Int}(h:Fit k y)(h2:Fit m z):Fit (k+m) (y*z):=by
 unfold Fit at*
 rw[Nat.pow_add,Int.natAbs_mul];exact Nat.mul_lt_mul_of_lt_of_le h (Nat.le_of_lt h2) (Nat.pow_pos (by omega))
theorem Fit.size {k:Nat}{z:Int}(h:Fit k z):(ae z).size <=k+1:=qX h
def Vs (s:BA)(z:Int):Prop:=ah s=z/\s.size<=1000000
theorem Vs.arg {s:BA}(h:s.size<=1000000):Vs s (ah s):=⟨rfl,h⟩
theorem Vs.can {z:Int}{k:Nat}(h:Fit k z)(hk:k<=999999):Vs (ae z) z:=⟨aK z,by have:=h.size;omega⟩
theorem Vs.nil:Vs ⟨#[]⟩ 0:=⟨rfl,by decide⟩
theorem Fit.fdiv {k:Nat}{x y:Int}(h:Fit k x):Fit (k+1) (x.fdiv y):=by
 unfold Fit at*
 rw[anb];have h1:(x.fdiv y).natAbs <=x.natAbs+1:=by
  rcases Int.lt_trichotomy y 0 with hy|hy|hy
  ·have e:x.fdiv y=(-x).fdiv (-y):=(Int.neg_fdiv_neg x y).symm
   rw[e];have h2:=Int.fdiv_eq_ediv_of_nonneg (-x) (b:= -y) (by omega);rw[h2];have:=Int.natAbs_ediv_le_natAbs (-x) (-y);omega
  ·subst hy;simp
  ·rw[Int.fdiv_eq_ediv_of_nonneg x (by omega)]
   have:=Int.natAbs_ediv_le_natAbs x y;omega
 have:1<=10^k:=Nat.pow_pos (by omega);omega
theorem AddV {a b:BA}{x y:Int}(h1:Vs a x)(h2:Vs b y)(w:World)(hg:Gl w):
 Calls prog 14 #[.string a,.string b] w fun e w'=>e= .returned (.string (ae (x+y)))/\Below w.heap.size w w':=by
 have:=amx a b w (by have:=h1.2;omega) (by have:=h2.2;omega) hg;rw[h1.1,h2.1]at this;exact this
theorem SubV {a b:BA}{x y:Int}(h1:Vs a x)(h2:Vs b y)(w:World)(hg:Gl w):
 Calls prog 39 #[.string a,.string b] w fun e w'=>e= .returned (.string (ae (x-y)))/\Below w.heap.size w w':=by
 have:=amk a b w (by have:=h1.2;omega) (by have:=h2.2;omega) hg;rw[h1.1,h2.1]at this;exact this
theorem MulV {a b:BA}{x y:Int}(h1:Vs a x)(h2:Vs b y)(w:World)(hg:Gl w):
 Calls prog 79 #[.string a,.string b] w fun e w'=>e= .returned (.string (ae (x*y)))/\Below w.heap.size w w':=by
 have:=amm a b w (by have:=h1.2;omega) (by have:=h2.2;omega) hg;rw[h1.1,h2.1]at this;exact this
theorem NegV {a:BA}{x:Int}(h1:Vs a x)(w:World)(hg:Gl w):
 Calls prog 148 #[.string a] w fun e w'=>e= .returned (.string (ae (-x)))/\Below w.heap.size w w':=by
 have:=aml a w (by have:=h1.2;omega) hg;rw[h1.1]at this;exact this
theorem CmpV {a b:BA}{x y:Int}(h1:Vs a x)(h2:Vs b y)(w:World):
 Calls prog 29 #[.string a,.string b] w fun e w'=>e= .returned (.int .i64 (dW x y))/\Below w.heap.size w w':=by
 have:=abo a b w (by have:=h1.2;omega) (by have:=h2.2;omega);rw[h1.1,h2.1]at this;exact this
theorem DivV {a b:BA}{x y:Int}(h1:Vs a x)(h2:Vs b y)(w:World)(hg:Gl w):
 Calls prog 150 #[.string a,.string b] w fun e w'=>e= .returned (.tuple #[.string (aac x y).1,.string (aac x y).2.1,.int .i64 (aac x y).2.2])/\Below w.heap.size w w':=by
 have:=amr a b w (by have:=h1.2;omega) (by have:=h2.2;omega) hg;rw[h1.1,h2.1]at this;exact this.mono fun _ _ h=>h
theorem DivN {a b:BA}{x y:Int}(h1:Vs a x)(h2:Vs b y)(hy:y≠0)(w:World)(hg:Gl w):
 Calls prog 150 #[.string a,.string b] w fun e w'=>e= .returned (.tuple #[.string (ae (x.fdiv y)),.string (ae (x.fmod y)),.int .i64 0])/\Below w.heap.size w w':=by
 have:=DivV h1 h2 w hg;unfold aac at this;rw[if_neg hy]at this;exact this
theorem GcdV {a b:BA}{x y:Int}(h1:Vs a x)(h2:Vs b y)(w:World)(hg:Gl w):
 Calls prog 149 #[.string a,.string b] w fun e w'=>e= .returned (.string (ae (Nat.gcd x.natAbs y.natAbs:Nat)))/\Below w.heap.size w w':=by
 have:=amq a b w (by have:=h1.2;omega) (by have:=h2.2;omega) hg;rw[h1.1,h2.1]at this;exact this
theorem CanV {a:BA}{x:Int}(h1:Vs a x)(w:World):
 Calls prog 180 #[.string a] w fun e w'=>e= .returned (.string (ae x))/\Below w.heap.size w w':=by
 have:=gL a w (by have:=h1.2;omega);unfold ah at this;have e:=h1.1;unfold ah at e;rw[e]at this;exact this
theorem SmlV {a:BA}{x:Int}(h1:Vs a x)(w:World)(hg:Gl w):
 Calls prog 260 #[.string a] w fun e w'=>e= .returned (.tuple #[.int .i64 (sml x).1,.bool (sml x).2])/\Below w.heap.size w w':=by
 have:=ahf a w (by have:=h1.2;omega) hg;rw[h1.1]at this;exact this
theorem jC (n:Nat)(h:n≠0):Lib.decDigits n=dec n:=by
 induction n using sO with
 |h0=>exact absurd rfl h
 |hs n h0 ih=>
  rw[jB h0];by_cases h10:n/10=0
  ·rw[h10,gJ]
   have hl:n<10:=by omega
   unfold Lib.decDigits;rw[dif_pos hl];unfold aje;rw[Nat.mod_eq_of_lt hl];rfl
  ·rw[<-ih h10]
   have hl:¬n<10:=by omega
   conv=>lhs;unfold Lib.decDigits
   rw[dif_neg hl];rfl
theorem aht (n:Int):val (Lib.itoa n)=n:=by
 by_cases h0:n=0
 ·subst h0
  have e:Lib.itoa 0=[48]:=by
   unfold Lib.itoa;rw[if_neg (by omega)];unfold Lib.decDigits;rw[dif_pos (by decide)];rfl
  rw[e];decide
 ·have e:Lib.itoa n=canon n:=by
   unfold Lib.itoa canon;by_cases h:n<0
   ·rw[if_pos h,if_pos h,jC _ (by omega)]
   ·rw[if_neg h,if_neg h,show n.toNat=n.natAbs by omega,jC _ (by omega)]
  rw[e,mr]
theorem ake (n:Int)(w:World)(h0: -9223372036854775808<=n)(h1:n<=9223372036854775807)(hg:Gl w):
 Calls prog 194 #[.int .i64 n] w fun e w'=>e= .returned (.string (ae n))/\Below w.heap.size w w':=by
 have HT:=amy hg.1;have hl:=Lib.itoa_length_le n h0 h1;have H2:Hid (∀w,Calls prog 180 #[.string ⟨(Lib.itoa n).toArray⟩] w fun e w'=>e= .returned (.string (ae n))/\Below w.heap.size w w'):=by
  intro w;have:=gL ⟨(Lib.itoa n).toArray⟩ w (by show (Lib.itoa n).toArray.size <=_;simp;omega);have e:ah ⟨(Lib.itoa n).toArray⟩=n:=by unfold ah;exact aht n
  rw[e]at this;exact this
 have H1:=amy (fun w (h:Lib.TabIs prog w "internal/strconv.uint64pow10" .u64 Lib.pow10Tab)=>Any.strconv_Itoa laysM171 n h0 h1 w h);clear hg hl;generalize (⟨(Lib.itoa n).toArray⟩:BA)=t at*
 go_enter func194,ntmps194
 go_wp2_with fail
 refine(H1.o _ HT.o).mono ?_;rintro e w1 ⟨rfl,k,os,hw1⟩;have HB1:Hid (Below w.heap.size w w1):=by
  show Below _ _ _;rw[hw1];exact Lib.below_grow _ w ano k os
 clear hw1
 go_wp2_with fail
 refine(H2.o _).mono ?_;rintro e w2 ⟨rfl,hb2⟩
 go_wp2_with fail
 go_ret
 exact⟨rfl,HB1.o.trans (hb2.mono HB1.o.size)⟩
end
end Go.Proofs.YtbkhnggmcheelaaGreatDoor
