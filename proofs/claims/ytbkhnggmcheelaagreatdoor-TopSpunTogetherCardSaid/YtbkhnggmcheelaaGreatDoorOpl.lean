/- TopSpunTogether: A laws arguments of lots and of a fact. Conditions: bounded sizes; variables as laid. -/
import Derived.Test.YtbkhnggmcheelaaGreatDoorGbb
set_option linter.constructorNameAsVariable false
set_option linter.unusedSimpArgs false
set_option linter.unusedVariables false
set_option maxRecDepth 100000
namespace Go.Proofs.YtbkhnggmcheelaaGreatDoor
open Proofs.Tryz
open Go.ChangeShapes Go.WideShapes Go.ChangeAt Go.RowKit Go.Deep
theorem oJ {α:Type}{cs:α->List Value}{m:Nat}(hm:∀a,(cs a).length =m){l:List α}{i:Nat}{x:Value}(h:(av cs l)[i]? =some x):∃k j d,i=k*m+j/\l[k]? =some d/\(cs d)[j]? =some x:=by
 induction l generalizing i with
 |nil=>simp[av]at h
 |cons e l ih=>
  change (cs e++av cs l)[i]? =some x at h;by_cases hi:i<m
  ·rw[List.getElem?_append_left (by rw[hm];omega)]at h
   exact⟨0,i,e,by omega,rfl,h⟩
  ·rw[List.getElem?_append_right (by rw[hm];omega),hm]at h
   obtain⟨k,j,d,e1,e2,e3⟩:=ih h;refine⟨k+1,j,d,?_,by simpa using e2,e3⟩;rw[Nat.succ_mul];omega
theorem dU:prog.cellsOf 9=1:=by kernel_rfl
theorem fu:prog.cellsOf 24=1:=by kernel_rfl
theorem oW:prog.cellsOf 23=1:=by kernel_rfl
theorem oV:prog.cellsOf 3=1:=by kernel_rfl
theorem abe:prog.cellsOf 4=1:=by kernel_rfl
theorem fU:prog.cellsOf 26=2:=by kernel_rfl
theorem adI:prog.cellsOf 27=1:=by kernel_rfl
theorem adJ:prog.cellsOf 28=1:=by kernel_rfl
theorem gU {H:Type}{enc:TypeId×Value->H}{w:World}{base n:Nat}{spare:Nat->Bool}{held:Bool}{c0 c1:Value}{x:Option (DataW H×List MemPlace)}(hx:x.isSome=true)
 (h:DataW.trod enc prog w base spare held n 26 [c0,c1]=x):∃s t,c0= .string s/\c1= .string t/\s.size<=9223372036854775807/\t.size<=9223372036854775807:=by
 obtain⟨x,rfl⟩:=Option.isSome_iff_exists.1 hx;obtain⟨ys,n',_,_,_,hyl,hf⟩:=DataW.trod_struct underlying26 h;have h0:=hf 0 _ rfl;have h1:=hf 1 _ rfl;change DataW.trod enc prog w base spare held n' 24 (List.take (prog.cellsOf 24) (List.drop 0 [c0,c1]))=ys[0]? at h0;change DataW.trod enc prog w base spare held n' 24 (List.take (prog.cellsOf 24) (List.drop 1 [c0,c1]))=ys[1]? at h1;rw[fu]at h0 h1;rw[amB (by rw[hyl];decide)]at h0 h1;obtain⟨s,e0,_,f0⟩:=DataW.trod_string underlying24 h0;obtain⟨t,e1,_,f1⟩:=DataW.trod_string underlying24 h1;simp at e0 e1;exact⟨s,t,e0,e1,f0,f1⟩
theorem zR:prog.cellsOf 125=2:=by kernel_rfl
theorem akL {H:Type}{enc:TypeId×Value->H}{w:World}{base n:Nat}{spare:Nat->Bool}{held:Bool}{cs:List Value}{y:DataW H×List MemPlace}(h:DataW.trod enc prog w base spare held n 125 cs=some y):∃x:Pk,cs=dA x/\(x.lot.size<=9223372036854775807/\x.q.size<=9223372036854775807):=by
 obtain⟨ys,n',_,_,hl,hyl,hf⟩:=DataW.trod_struct underlying125 h;rw[zR]at hl
 match cs,hl with
 | [c0,c1],_=>
  have h0:=hf 0 _ rfl;change DataW.trod enc prog w base spare held n' 9 (List.take (prog.cellsOf 9) (List.drop 0 [c0,c1]))=ys[0]? at h0;rw[dU]at h0;rw[amB (by rw[hyl];decide)]at h0;obtain⟨s0,e0,_,f0⟩:=DataW.trod_string underlying9 h0;simp at e0;have h1:=hf 1 _ rfl;change DataW.trod enc prog w base spare held n' 24 (List.take (prog.cellsOf 24) (List.drop 1 [c0,c1]))=ys[1]? at h1;rw[fu]at h1;rw[amB (by rw[hyl];decide)]at h1;obtain⟨s1,e1,_,f1⟩:=DataW.trod_string underlying24 h1;simp at e1;subst e0 e1;exact⟨⟨s0,s1⟩,rfl,f0,f1⟩
theorem pk_inL {H:Type}{enc:TypeId×Value->H}{w:World}{base n:Nat}{spare:Nat->Bool}{held:Bool}{cs:List Value}{y:DataW H×List MemPlace}
 (hf:DataW.trod enc prog w base spare held n 27 cs=some y):
 ∃(A:Option Addr) (c:Nat) (l:List Pk),cs=[.slice A l.length c]/\Row w A (av dA l)/\l.length<=c/\c<=9223372036854775807/\∀x∈l,x.lot.size<=9223372036854775807/\x.q.size<=9223372036854775807:=by
 rcases open_slice underlying27 hf with ⟨hcs,hx⟩|⟨a,len,cap,m,n,D,Pl,hcs,_,hl,hm,hmm,hx,hi⟩
 ·exact⟨none,0,[],hcs,fun i v hv=>by simp[av]at hv,by simp,by omega,fun x hx=>by cases hx⟩
 ·subst hcs
  have hlm:len<=m:=by rw[hmm];split<;>omega
  clear hmm;by_cases h0:len=0
  ·subst h0
   exact⟨_,_,[],rfl,fun i v hv=>by simp[av]at hv,by simp,by unfold maxLen at hm;omega,fun x hx=>by cases hx⟩
  ·obtain⟨l,hlen,hq⟩:=aaR (fun i (x:Pk)=>(∀j,j<2->w.cell? (a.add (i*2+j))=(dA x)[j]?)/\(x.lot.size<=9223372036854775807/\x.q.size<=9223372036854775807)) len (fun i hil=>by
    obtain⟨cs',hc,ht'⟩:=hi i (by omega);rw[zR]at hc;obtain⟨x,hx,hb⟩:=akL ht';obtain⟨_,hcl,hat⟩:=World.cells?_some hc;subst hx;exact⟨x,fun j hj=>by rw[<-Go.Deep.add_add];exact hat j hj,hb⟩)
   obtain⟨b,o,spot⟩:=a;have hspot:spot=none:=by
    obtain⟨f0,_⟩:=hq 0 (l[0]'(by omega)) (by simp);have f1:=f0 0 (by decide);simpa[Addr.add]using World.cell?_spot (f1.trans (show (dA l[0])[0]? =some (.string _)from rfl))
   subst hspot;refine⟨some ⟨b,o,none⟩,cap,l,by rw[hlen],?_,by omega,by unfold maxLen at hm;omega,?_⟩
   ·intro i x hix
    obtain⟨k,j,d,e1,e2,e3⟩:=oJ ic hix;obtain⟨g,_⟩:=hq k d e2;have hj:j<2:=by
     have:=(amH.1 e3).1;simpa[dA]using this
    have g1:=(g j hj).trans e3;simp only[Go.WideShapes.add_plain]at g1;exact⟨b,o,rfl,block_lt_of_cell g1,by rw[e1];exact g1⟩
   ·intro x hx
    obtain⟨i,hi2,rfl⟩:=List.mem_iff_getElem.1 hx;exact(hq i _ (amB hi2)).2
theorem zS:prog.cellsOf 47=7:=by kernel_rfl
theorem akS {H:Type}{enc:TypeId×Value->H}{w:World}{base n:Nat}{spare:Nat->Bool}{held:Bool}{cs:List Value}{y:DataW H×List MemPlace}(h:DataW.trod enc prog w base spare held n 47 cs=some y):∃x:Ot,cs=eD x/\x.big:=by
 obtain⟨ys,n',_,_,hl,hyl,hf⟩:=DataW.trod_struct underlying47 h;rw[zS]at hl
 match cs,hl with
 | [c0,c1,c2,c3,c4,c5,c6],_=>
  have h0:=hf 0 _ rfl;change DataW.trod enc prog w base spare held n' 9 (List.take (prog.cellsOf 9) (List.drop 0 [c0,c1,c2,c3,c4,c5,c6]))=ys[0]? at h0;rw[dU]at h0;rw[amB (by rw[hyl];decide)]at h0;obtain⟨s0,e0,_,f0⟩:=DataW.trod_string underlying9 h0;simp at e0;have h1:=hf 1 _ rfl;change DataW.trod enc prog w base spare held n' 26 (List.take (prog.cellsOf 26) (List.drop 1 [c0,c1,c2,c3,c4,c5,c6]))=ys[1]? at h1;rw[fU]at h1;obtain⟨s1,s2,e1,e2,f1,f2⟩:=gU (by rw[amB (by rw[hyl];decide)];rfl) h1;have h2:=hf 2 _ rfl;change DataW.trod enc prog w base spare held n' 26 (List.take (prog.cellsOf 26) (List.drop 3 [c0,c1,c2,c3,c4,c5,c6]))=ys[2]? at h2;rw[fU]at h2;obtain⟨s3,s4,e3,e4,f3,f4⟩:=gU (by rw[amB (by rw[hyl];decide)];rfl) h2;have h3:=hf 3 _ rfl;change DataW.trod enc prog w base spare held n' 26 (List.take (prog.cellsOf 26) (List.drop 5 [c0,c1,c2,c3,c4,c5,c6]))=ys[3]? at h3;rw[fU]at h3;obtain⟨s5,s6,e5,e6,f5,f6⟩:=gU (by rw[amB (by rw[hyl];decide)];rfl) h3;subst e0 e1 e2 e3 e4 e5 e6;exact⟨⟨s0,s1,s2,s3,s4,s5,s6⟩,rfl,f0,f1,f2,f3,f4,f5,f6⟩
theorem ot_inL {H:Type}{enc:TypeId×Value->H}{w:World}{base n:Nat}{spare:Nat->Bool}{held:Bool}{cs:List Value}{y:DataW H×List MemPlace}
 (hf:DataW.trod enc prog w base spare held n 28 cs=some y):
 ∃(A:Option Addr) (c:Nat) (l:List Ot),cs=[.slice A l.length c]/\Row w A (av eD l)/\l.length<=c/\c<=9223372036854775807/\∀x∈l,x.big:=by
 rcases open_slice underlying28 hf with ⟨hcs,hx⟩|⟨a,len,cap,m,n,D,Pl,hcs,_,hl,hm,hmm,hx,hi⟩
 ·exact⟨none,0,[],hcs,fun i v hv=>by simp[av]at hv,by simp,by omega,fun x hx=>by cases hx⟩
 ·subst hcs
  have hlm:len<=m:=by rw[hmm];split<;>omega
  clear hmm;by_cases h0:len=0
  ·subst h0
   exact⟨_,_,[],rfl,fun i v hv=>by simp[av]at hv,by simp,by unfold maxLen at hm;omega,fun x hx=>by cases hx⟩
  ·obtain⟨l,hlen,hq⟩:=aaR (fun i (x:Ot)=>(∀j,j<7->w.cell? (a.add (i*7+j))=(eD x)[j]?)/\(x.big)) len (fun i hil=>by
    obtain⟨cs',hc,ht'⟩:=hi i (by omega);rw[zS]at hc;obtain⟨x,hx,hb⟩:=akS ht';obtain⟨_,hcl,hat⟩:=World.cells?_some hc;subst hx;exact⟨x,fun j hj=>by rw[<-Go.Deep.add_add];exact hat j hj,hb⟩)
   obtain⟨b,o,spot⟩:=a;have hspot:spot=none:=by
    obtain⟨f0,_⟩:=hq 0 (l[0]'(by omega)) (by simp);have f1:=f0 0 (by decide);simpa[Addr.add]using World.cell?_spot (f1.trans (show (eD l[0])[0]? =some (.string _)from rfl))
   subst hspot;refine⟨some ⟨b,o,none⟩,cap,l,by rw[hlen],?_,by omega,by unfold maxLen at hm;omega,?_⟩
   ·intro i x hix
    obtain⟨k,j,d,e1,e2,e3⟩:=oJ jo hix;obtain⟨g,_⟩:=hq k d e2;have hj:j<7:=by
     have:=(amH.1 e3).1;simpa[eD]using this
    have g1:=(g j hj).trans e3;simp only[Go.WideShapes.add_plain]at g1;exact⟨b,o,rfl,block_lt_of_cell g1,by rw[e1];exact g1⟩
   ·intro x hx
    obtain⟨i,hi2,rfl⟩:=List.mem_iff_getElem.1 hx;exact(hq i _ (amB hi2)).2
theorem zT:prog.cellsOf 62=7:=by kernel_rfl
theorem ale {H:Type}{enc:TypeId×Value->H}{w:World}{base n:Nat}{spare:Nat->Bool}{held:Bool}{cs:List Value}{y:DataW H×List MemPlace}(h:DataW.trod enc prog w base spare held n 62 cs=some y):∃x:Lt,cs=aa x/\x.big:=by
 obtain⟨ys,n',_,_,hl,hyl,hf⟩:=DataW.trod_struct underlying62 h;rw[zT]at hl
 match cs,hl with
 | [c0,c1,c2,c3,c4,c5,c6],_=>
  have h0:=hf 0 _ rfl;change DataW.trod enc prog w base spare held n' 9 (List.take (prog.cellsOf 9) (List.drop 0 [c0,c1,c2,c3,c4,c5,c6]))=ys[0]? at h0;rw[dU]at h0;rw[amB (by rw[hyl];decide)]at h0;obtain⟨s0,e0,_,f0⟩:=DataW.trod_string underlying9 h0;simp at e0;have h1:=hf 1 _ rfl;change DataW.trod enc prog w base spare held n' 9 (List.take (prog.cellsOf 9) (List.drop 1 [c0,c1,c2,c3,c4,c5,c6]))=ys[1]? at h1;rw[dU]at h1;rw[amB (by rw[hyl];decide)]at h1;obtain⟨s1,e1,_,f1⟩:=DataW.trod_string underlying9 h1;simp at e1;have h2:=hf 2 _ rfl;change DataW.trod enc prog w base spare held n' 23 (List.take (prog.cellsOf 23) (List.drop 2 [c0,c1,c2,c3,c4,c5,c6]))=ys[2]? at h2;rw[oW]at h2;rw[amB (by rw[hyl];decide)]at h2;obtain⟨s2,e2,_,_⟩:=DataW.trod_int underlying23 h2;simp at e2;have h3:=hf 3 _ rfl;change DataW.trod enc prog w base spare held n' 23 (List.take (prog.cellsOf 23) (List.drop 3 [c0,c1,c2,c3,c4,c5,c6]))=ys[3]? at h3;rw[oW]at h3;rw[amB (by rw[hyl];decide)]at h3;obtain⟨s3,e3,_,_⟩:=DataW.trod_int underlying23 h3;simp at e3;have h4:=hf 4 _ rfl;change DataW.trod enc prog w base spare held n' 24 (List.take (prog.cellsOf 24) (List.drop 4 [c0,c1,c2,c3,c4,c5,c6]))=ys[4]? at h4;rw[fu]at h4;rw[amB (by rw[hyl];decide)]at h4;obtain⟨s4,e4,_,f4⟩:=DataW.trod_string underlying24 h4;simp at e4;have h5:=hf 5 _ rfl;change DataW.trod enc prog w base spare held n' 24 (List.take (prog.cellsOf 24) (List.drop 5 [c0,c1,c2,c3,c4,c5,c6]))=ys[5]? at h5;rw[fu]at h5;rw[amB (by rw[hyl];decide)]at h5;obtain⟨s5,e5,_,f5⟩:=DataW.trod_string underlying24 h5;simp at e5;have h6:=hf 6 _ rfl;change DataW.trod enc prog w base spare held n' 24 (List.take (prog.cellsOf 24) (List.drop 6 [c0,c1,c2,c3,c4,c5,c6]))=ys[6]? at h6;rw[fu]at h6;rw[amB (by rw[hyl];decide)]at h6;obtain⟨s6,e6,_,f6⟩:=DataW.trod_string underlying24 h6;simp at e6;subst e0 e1 e2 e3 e4 e5 e6;exact⟨⟨s0,s1,s2,s3,s4,s5,s6⟩,rfl,f0,f1,f4,f5,f6⟩
theorem lt_inL {H:Type}{enc:TypeId×Value->H}{w:World}{base n:Nat}{spare:Nat->Bool}{held:Bool}{cs:List Value}{y:DataW H×List MemPlace}
 (hf:DataW.trod enc prog w base spare held n 22 cs=some y):
 ∃(A:Option Addr) (c:Nat) (l:List Lt),cs=[.slice A l.length c]/\Row w A (av aa l)/\l.length<=c/\c<=9223372036854775807/\∀x∈l,x.big:=by
 rcases open_slice underlying22 hf with ⟨hcs,hx⟩|⟨a,len,cap,m,n,D,Pl,hcs,_,hl,hm,hmm,hx,hi⟩
 ·exact⟨none,0,[],hcs,fun i v hv=>by simp[av]at hv,by simp,by omega,fun x hx=>by cases hx⟩
 ·subst hcs
  have hlm:len<=m:=by rw[hmm];split<;>omega
  clear hmm;by_cases h0:len=0
  ·subst h0
   exact⟨_,_,[],rfl,fun i v hv=>by simp[av]at hv,by simp,by unfold maxLen at hm;omega,fun x hx=>by cases hx⟩
  ·obtain⟨l,hlen,hq⟩:=aaR (fun i (x:Lt)=>(∀j,j<7->w.cell? (a.add (i*7+j))=(aa x)[j]?)/\(x.big)) len (fun i hil=>by
    obtain⟨cs',hc,ht'⟩:=hi i (by omega);rw[zT]at hc;obtain⟨x,hx,hb⟩:=ale ht';obtain⟨_,hcl,hat⟩:=World.cells?_some hc;subst hx;exact⟨x,fun j hj=>by rw[<-Go.Deep.add_add];exact hat j hj,hb⟩)
   obtain⟨b,o,spot⟩:=a;have hspot:spot=none:=by
    obtain⟨f0,_⟩:=hq 0 (l[0]'(by omega)) (by simp);have f1:=f0 0 (by decide);simpa[Addr.add]using World.cell?_spot (f1.trans (show (aa l[0])[0]? =some (.string _)from rfl))
   subst hspot;refine⟨some ⟨b,o,none⟩,cap,l,by rw[hlen],?_,by omega,by unfold maxLen at hm;omega,?_⟩
   ·intro i x hix
    obtain⟨k,j,d,e1,e2,e3⟩:=oJ aJ hix;obtain⟨g,_⟩:=hq k d e2;have hj:j<7:=by
     have:=(amH.1 e3).1;simpa[aa]using this
    have g1:=(g j hj).trans e3;simp only[Go.WideShapes.add_plain]at g1;exact⟨b,o,rfl,block_lt_of_cell g1,by rw[e1];exact g1⟩
   ·intro x hx
    obtain⟨i,hi2,rfl⟩:=List.mem_iff_getElem.1 hx;exact(hq i _ (amB hi2)).2
theorem abd:prog.cellsOf 30=21:=by kernel_rfl
theorem afU {H:Type}{enc:TypeId×Value->H}{w:World}{base n:Nat}{spare:Nat->Bool}{held:Bool}{cs:List Value}{y:DataW H×List MemPlace}(h:DataW.trod enc prog w base spare held n 30 cs=some y):∃(f:Fct) (lp:List Pk) (lo:List Ot),cs=(bK f).toList /\f.big/\f.np<=f.cp/\lp.length=f.np/\lo.length=f.no/\(∀x∈lp,x.lot.size<=9223372036854775807/\x.q.size<=9223372036854775807)/\(∀x∈lo,x.big)/\FcW f lp lo w:=by
 obtain⟨ys,n',_,_,hl,hyl,hf⟩:=DataW.trod_struct underlying30 h;rw[abd]at hl
 match cs,hl with
 | [c0,c1,c2,c3,c4,c5,c6,c7,c8,c9,c10,c11,c12,c13,c14,c15,c16,c17,c18,c19,c20],_=>
  have h0:=hf 0 _ rfl;change DataW.trod enc prog w base spare held n' 9 (List.take (prog.cellsOf 9) (List.drop 0 [c0,c1,c2,c3,c4,c5,c6,c7,c8,c9,c10,c11,c12,c13,c14,c15,c16,c17,c18,c19,c20]))=ys[0]? at h0;rw[dU]at h0;rw[amB (by rw[hyl];decide)]at h0;obtain⟨s0,e0,_,f0⟩:=DataW.trod_string underlying9 h0;simp at e0;have h1:=hf 1 _ rfl;change DataW.trod enc prog w base spare held n' 3 (List.take (prog.cellsOf 3) (List.drop 1 [c0,c1,c2,c3,c4,c5,c6,c7,c8,c9,c10,c11,c12,c13,c14,c15,c16,c17,c18,c19,c20]))=ys[1]? at h1;rw[oV]at h1;rw[amB (by rw[hyl];decide)]at h1;obtain⟨s1,e1,_,_⟩:=DataW.trod_int underlying3 h1;simp at e1;have h2:=hf 2 _ rfl;change DataW.trod enc prog w base spare held n' 4 (List.take (prog.cellsOf 4) (List.drop 2 [c0,c1,c2,c3,c4,c5,c6,c7,c8,c9,c10,c11,c12,c13,c14,c15,c16,c17,c18,c19,c20]))=ys[2]? at h2;rw[abe]at h2;rw[amB (by rw[hyl];decide)]at h2;obtain⟨s2,e2,_⟩:=DataW.trod_bool underlying4 h2;simp at e2;have h3:=hf 3 _ rfl;change DataW.trod enc prog w base spare held n' 23 (List.take (prog.cellsOf 23) (List.drop 3 [c0,c1,c2,c3,c4,c5,c6,c7,c8,c9,c10,c11,c12,c13,c14,c15,c16,c17,c18,c19,c20]))=ys[3]? at h3;rw[oW]at h3;rw[amB (by rw[hyl];decide)]at h3;obtain⟨s3,e3,_,_⟩:=DataW.trod_int underlying23 h3;simp at e3;have h4:=hf 4 _ rfl;change DataW.trod enc prog w base spare held n' 3 (List.take (prog.cellsOf 3) (List.drop 4 [c0,c1,c2,c3,c4,c5,c6,c7,c8,c9,c10,c11,c12,c13,c14,c15,c16,c17,c18,c19,c20]))=ys[4]? at h4;rw[oV]at h4;rw[amB (by rw[hyl];decide)]at h4;obtain⟨s4,e4,_,_⟩:=DataW.trod_int underlying3 h4;simp at e4;have h5:=hf 5 _ rfl;change DataW.trod enc prog w base spare held n' 9 (List.take (prog.cellsOf 9) (List.drop 5 [c0,c1,c2,c3,c4,c5,c6,c7,c8,c9,c10,c11,c12,c13,c14,c15,c16,c17,c18,c19,c20]))=ys[5]? at h5;rw[dU]at h5;rw[amB (by rw[hyl];decide)]at h5;obtain⟨s5,e5,_,f5⟩:=DataW.trod_string underlying9 h5;simp at e5;have h6:=hf 6 _ rfl;change DataW.trod enc prog w base spare held n' 9 (List.take (prog.cellsOf 9) (List.drop 6 [c0,c1,c2,c3,c4,c5,c6,c7,c8,c9,c10,c11,c12,c13,c14,c15,c16,c17,c18,c19,c20]))=ys[6]? at h6;rw[dU]at h6;rw[amB (by rw[hyl];decide)]at h6;obtain⟨s6,e6,_,f6⟩:=DataW.trod_string underlying9 h6;simp at e6;have h7:=hf 7 _ rfl;change DataW.trod enc prog w base spare held n' 9 (List.take (prog.cellsOf 9) (List.drop 7 [c0,c1,c2,c3,c4,c5,c6,c7,c8,c9,c10,c11,c12,c13,c14,c15,c16,c17,c18,c19,c20]))=ys[7]? at h7;rw[dU]at h7;rw[amB (by rw[hyl];decide)]at h7;obtain⟨s7,e7,_,f7⟩:=DataW.trod_string underlying9 h7;simp at e7;have h8:=hf 8 _ rfl;change DataW.trod enc prog w base spare held n' 9 (List.take (prog.cellsOf 9) (List.drop 8 [c0,c1,c2,c3,c4,c5,c6,c7,c8,c9,c10,c11,c12,c13,c14,c15,c16,c17,c18,c19,c20]))=ys[8]? at h8;rw[dU]at h8;rw[amB (by rw[hyl];decide)]at h8;obtain⟨s8,e8,_,f8⟩:=DataW.trod_string underlying9 h8;simp at e8;have h9:=hf 9 _ rfl;change DataW.trod enc prog w base spare held n' 24 (List.take (prog.cellsOf 24) (List.drop 9 [c0,c1,c2,c3,c4,c5,c6,c7,c8,c9,c10,c11,c12,c13,c14,c15,c16,c17,c18,c19,c20]))=ys[9]? at h9;rw[fu]at h9;rw[amB (by rw[hyl];decide)]at h9;obtain⟨s9,e9,_,f9⟩:=DataW.trod_string underlying24 h9;simp at e9;have h10:=hf 10 _ rfl;change DataW.trod enc prog w base spare held n' 24 (List.take (prog.cellsOf 24) (List.drop 10 [c0,c1,c2,c3,c4,c5,c6,c7,c8,c9,c10,c11,c12,c13,c14,c15,c16,c17,c18,c19,c20]))=ys[10]? at h10;rw[fu]at h10;rw[amB (by rw[hyl];decide)]at h10;obtain⟨s10,e10,_,f10⟩:=DataW.trod_string underlying24 h10;simp at e10;have h11:=hf 11 _ rfl;change DataW.trod enc prog w base spare held n' 24 (List.take (prog.cellsOf 24) (List.drop 11 [c0,c1,c2,c3,c4,c5,c6,c7,c8,c9,c10,c11,c12,c13,c14,c15,c16,c17,c18,c19,c20]))=ys[11]? at h11;rw[fu]at h11;rw[amB (by rw[hyl];decide)]at h11;obtain⟨s11,e11,_,f11⟩:=DataW.trod_string underlying24 h11;simp at e11;have h12:=hf 12 _ rfl;change DataW.trod enc prog w base spare held n' 26 (List.take (prog.cellsOf 26) (List.drop 12 [c0,c1,c2,c3,c4,c5,c6,c7,c8,c9,c10,c11,c12,c13,c14,c15,c16,c17,c18,c19,c20]))=ys[12]? at h12;rw[fU]at h12;obtain⟨s12,s13,e12,e13,f12,f13⟩:=gU (by rw[amB (by rw[hyl];decide)];rfl) h12;have h13:=hf 13 _ rfl;change DataW.trod enc prog w base spare held n' 26 (List.take (prog.cellsOf 26) (List.drop 14 [c0,c1,c2,c3,c4,c5,c6,c7,c8,c9,c10,c11,c12,c13,c14,c15,c16,c17,c18,c19,c20]))=ys[13]? at h13;rw[fU]at h13;obtain⟨s14,s15,e14,e15,f14,f15⟩:=gU (by rw[amB (by rw[hyl];decide)];rfl) h13;have h14:=hf 14 _ rfl;change DataW.trod enc prog w base spare held n' 26 (List.take (prog.cellsOf 26) (List.drop 16 [c0,c1,c2,c3,c4,c5,c6,c7,c8,c9,c10,c11,c12,c13,c14,c15,c16,c17,c18,c19,c20]))=ys[14]? at h14;rw[fU]at h14;obtain⟨s16,s17,e16,e17,f16,f17⟩:=gU (by rw[amB (by rw[hyl];decide)];rfl) h14;have h15:=hf 15 _ rfl;change DataW.trod enc prog w base spare held n' 27 (List.take (prog.cellsOf 27) (List.drop 18 [c0,c1,c2,c3,c4,c5,c6,c7,c8,c9,c10,c11,c12,c13,c14,c15,c16,c17,c18,c19,c20]))=ys[15]? at h15;rw[adI]at h15;rw[amB (by rw[hyl];decide)]at h15;obtain⟨A18,n18,l18,e18,r18,v18,u18,b18⟩:=pk_inL h15;simp at e18;have h16:=hf 16 _ rfl;change DataW.trod enc prog w base spare held n' 28 (List.take (prog.cellsOf 28) (List.drop 19 [c0,c1,c2,c3,c4,c5,c6,c7,c8,c9,c10,c11,c12,c13,c14,c15,c16,c17,c18,c19,c20]))=ys[16]? at h16;rw[adJ]at h16;rw[amB (by rw[hyl];decide)]at h16;obtain⟨A19,n19,l19,e19,r19,v19,u19,b19⟩:=ot_inL h16;simp at e19;have h17:=hf 17 _ rfl;change DataW.trod enc prog w base spare held n' 3 (List.take (prog.cellsOf 3) (List.drop 20 [c0,c1,c2,c3,c4,c5,c6,c7,c8,c9,c10,c11,c12,c13,c14,c15,c16,c17,c18,c19,c20]))=ys[17]? at h17;rw[oV]at h17;rw[amB (by rw[hyl];decide)]at h17;obtain⟨s20,e20,_,_⟩:=DataW.trod_int underlying3 h17;simp at e20;subst e0 e1 e2 e3 e4 e5 e6 e7 e8 e9 e10 e11 e12 e13 e14 e15 e16 e17 e18 e19 e20;refine⟨⟨s0,s1,s2,s3,s4,s5,s6,s7,s8,s9,s10,s11,s12,s13,s14,s15,s16,s17,A18,l18.length,n18,A19,l19.length,n19,s20⟩,l18,l19,rfl,⟨f0,f5,f6,f7,f8,f9,f10,f11,f12,f13,f14,f15,f16,f17,by show l18.length<=_;omega,by show l19.length<=_;omega⟩,v18,rfl,rfl,b18,b19,⟨r18,r19⟩⟩
theorem ae0 {H:Type}{enc:TypeId×Value->H}{W:World}{base:Nat}{v:Value}{d:DataW H}{p:List MemPlace}
 (hv:Value.okWide prog W .any base 22 v) (h:DataW.Trod enc prog W 0 (fun _=>true) true 22 v d p):
 ∃(A:Option Addr) (c:Nat) (l:List Lt),v= .slice A l.length c/\Row W A (av aa l)/\l.length<=c/\c<=9223372036854775807/\∀x∈l,x.big:=by
 obtain⟨a0,len,cap,rfl⟩:=okWide_slice underlying22 hv;obtain⟨fuel,hf⟩:=h;obtain⟨A,c,l,e,h1,h2,h3,h4⟩:=lt_inL hf;exact⟨A,c,l,by simpa[Value.cells]using e,h1,h2,h3,h4⟩
theorem ae1 {H:Type}{enc:TypeId×Value->H}{W:World}{base:Nat}{v:Value}{d:DataW H}{p:List MemPlace}
 (hv:Value.okWide prog W .any base 30 v) (h:DataW.Trod enc prog W 0 (fun _=>true) true 30 v d p):
 ∃(f:Fct) (lp:List Pk) (lo:List Ot),v=gI f/\f.big/\f.np<=f.cp/\lp.length=f.np/\lo.length=f.no/\(∀x∈lp,x.lot.size<=9223372036854775807/\x.q.size<=9223372036854775807)/\(∀x∈lo,x.big)/\FcW f lp lo W:=by
 obtain⟨cs,rfl,_⟩:=okWide_struct underlying30 hv;obtain⟨fuel,hf⟩:=h;obtain⟨f,lp,lo,e,h1,h2,h3,h4,h5,h6,h7⟩:=afU hf;refine⟨f,lp,lo,?_,h1,h2,h3,h4,h5,h6,h7⟩;have e2:cs.toList=(bK f).toList :=e;have e3:cs=bK f:=by rw[<-Array.toArray_toList (xs:=cs),e2]
 rw[e3];rfl
end Go.Proofs.YtbkhnggmcheelaaGreatDoor
