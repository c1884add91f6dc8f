/- Lists of lots: CheckAll. Conditions: up to some number of lots with texts and numbers of bounded length; the library's variables lie as the program's text lays them. Regions that leave their order open and lay new blocks: reads, calls that turn nothing old, new blocks at whatever time, then stores in one forced order. Plain facts; no condition. -/
import Derived.Maps.OwnOps
import Derived.Maps.Views
import Derived.Test.YtjknklinhegdoaaGreatDoorGah
import Derived.Test.YtjknklinhegdoaaGreatDoorGai
import Derived.Test.YtjknklinhegdoaaGreatDoorGag
set_option linter.unusedSimpArgs false
set_option linter.unusedVariables false
set_option maxHeartbeats 4000000
set_option maxRecDepth 100000
namespace Go.Proofs.YtjknklinhegdoaaGreatDoor
open Go.RowKit Go.Shelf Dec QQ
open Go.Maps (Keyed IsMap)
theorem eD {w:World}{b o k:Nat}{d:Lt}(h:∀j x,(aa d)[j]? =some x→w.cell? ⟨b,o+(k*7+j),none⟩=some x):
 w.cell? ⟨b,o+k*7,none⟩=some (.string d.id)∧w.cell? ⟨b,o+k*7+1,none⟩=some (.string d.ins)∧w.cell? ⟨b,o+k*7+2,none⟩=some (.int .i64 d.acq)∧w.cell? ⟨b,o+k*7+3,none⟩=some (.int .i64 d.opn)∧w.cell? ⟨b,o+k*7+4,none⟩=some (.string d.q)∧w.cell? ⟨b,o+k*7+5,none⟩=some (.string d.c)∧w.cell? ⟨b,o+k*7+6,none⟩=some (.string d.u):=
 ⟨h 0 _ rfl,h 1 _ rfl,h 2 _ rfl,h 3 _ rfl,h 4 _ rfl,h 5 _ rfl,h 6 _ rfl⟩
def zl:List ByteArray→DataW Unit
 | []=>.map []
 |s::l=>(zl l).put (.string s.data.toList) (.lit (.bool true))
theorem aaE:∀l:List ByteArray,IsMap (zl l)
 | []=>⟨[],rfl⟩
 |s::l=>by
  obtain⟨es,h⟩:=aaE l;unfold zl;rw[h];exact⟨_,rfl⟩
theorem adv:∀(l:List ByteArray) (s:ByteArray),(zl l).atKey (.string s.data.toList) (.lit (.bool false))= .lit (.bool (l.any fun i=>eqB i s))
 | [],s=>rfl
 |i::l,s=>by
  unfold zl;by_cases h:i=s
  ·subst h
   rw[Go.Maps.atKey_put_same (k:=.string i.data.toList) (aaE l) (by trivial)];have:eqB i i=true:=gI.2 rfl;simp[this]
  ·rw[Go.Maps.atKey_put_other (by
    intro e;injection e with e
    exact h (bytes_inj e).symm),adv l s]
   have:eqB i s=false:=by
    cases hq:eqB i s with
    |false=>rfl
    |true=>exact absurd (gI.1 hq) h
   simp[this]
def Seen (w:World)(b n:Nat)(l:List ByteArray):Prop:=w.ownsMap Tryz.prog 9 (plainElem Tryz.prog 4) b n (zl l)
theorem adu {w:World}{b n:Nat}{l:List ByteArray}(h:Seen w b n l){s:ByteArray}(hz:s.size≤1000000):
 (Instr.lookup 157 (.map (some b)) (.string s) false).run Tryz.prog w= .ok (.bool (l.any fun i=>eqB i s)) w:=by
 have K:Keyed Tryz.prog 9:=Go.Maps.string_keyed (by kernel_rfl);obtain⟨v,ps,hrun,hv⟩:=h.lookup K (t:=157) (e:=4) (by kernel_rfl) (z:=.bool false) (Tryz.zeroValue4 w) (plainElem_bool (by kernel_rfl) false) (WideMaps.keyOf_string_mk (by kernel_rfl) (ali hz (by decide)));rw[adv]at hv;rw[hrun];have:v= .bool (l.any fun i=>eqB i s):=by
  unfold plainElem at hv;rw[show Tryz.prog.underlying 4=some .bool by kernel_rfl]at hv;cases v<;>simp at hv;rw[hv.1]
 rw[this]
theorem Seen.on {w w':World}{b n:Nat}{l:List ByteArray}(h:Seen w b n l)(hb:Below w.heap.size w w'):Seen w' b n l:=by
 have hlt:=World.ownsMap.lt h;obtain⟨es,clock,h0,F,hs,hD⟩:=h;exact⟨es,clock,(hb.block b hlt).trans h0,F,hs,hD⟩
def lg (l:List Lt)(k:Nat):List ByteArray:=((l.take k).map (·.id)).reverse
theorem sK {l:List Lt}{k:Nat}{d:Lt}(h:l[k]? =some d):lg l (k+1)=d.id::lg l k:=by
 unfold lg;rw[List.take_add_one,h];simp
theorem yK (sn:List ByteArray)(x:Lt)(l:List Lt):ac5 sn (x::l)=bif mD x !=0 then mD x else bif sn.any (fun i=>eqB i x.id)then 5 else ac5 (x.id::sn) l:=rfl
theorem qN {α:Type}{l:List α}{k:Nat}{d:α}(h:l[k]? =some d):l.drop k=d::l.drop (k+1):=by
 obtain⟨h1,h2⟩:=alj.1 h;rw[List.drop_eq_getElem_cons h1,h2]
theorem vF {A:Option Addr}{n c:Nat}{l:List Lt}(hn:l.length=n)(hm:n≤1000000)(hz:∀x∈l,x.le 1000):ig (fun w=>Row w A (au aa l)) 29 #[.slice A n c] (.int .i64 (aL l)):=by
 intro w hg hi;have hs:=St.refl hg;have HN:=ala hn;have HR:=ala hi;have HZ:=ala hz;by_cases hbig:1000<n
 ·have q:decide ((1000:Int)<(n:Int))=true:=alI (by omega)
  have e:aL l=4:=by unfold aL;rw[hn,alI hbig];rfl
  rw[e]
  go_enter Tryz.func29,Tryz.ntmps29
  go_wp2_with fail
  go_ret
  exact⟨rfl,hs.2⟩
 have q:decide ((1000:Int)<(n:Int))=false:=alH (by omega);have e:aL l=ac5 [] l:=by unfold aL;rw[hn,alH hbig];rfl
 rw[e];obtain⟨r,hr⟩:∃r,ac5 [] l=r:=⟨_,rfl⟩;rw[hr];have HE:=ala hr;clear hr e hn hi hz
 go_enter Tryz.func29,Tryz.ntmps29
 have hmm:= @run_makeMap Tryz.prog
 go_wp2_with fail
 replace hs:=hs.alloc (.map #[] 0);have HS0:Hid (Seen (w.alloc (.map #[] 0)) w.heap.size 0 (lg l 0)):=World.ownsMap_made w _ _ _
 go_loopw [13] (fun s wr=>∃k:Nat,k≤n∧s= .int .i64 (k:Int)∧St w wr∧Hid (Seen wr w.heap.size k (lg l k))∧Hid (ac5 (lg l k) (l.drop k)=r)) (fun s _=>(n-intOf s).toNat)
 case atStart=>exact⟨0,by omega,rfl,hs,HS0,HE⟩
 case round=>
  obtain⟨k,hk,rfl,hs,HS,HK⟩:=hrel;clear HS0 HE;by_cases hkn:k=n
  ·subst hkn
   have q1:decide ((k:Int)<(k:Int))=false:=alH (by omega);have e0:r=0:=by
    have:=HK.out;rw[List.drop_eq_nil_of_le (by rw[HN.out];exact Nat.le_refl _)]at this;exact this.symm
   subst e0
   go_wp2_with fail
   go_ret
   exact⟨rfl,hs.2⟩
  ·have hkl:k<n:=by omega
   have q1:decide ((k:Int)<(n:Int))=true:=alI (by omega);have qn:decide (k<n)=true:=alI hkl;obtain⟨d,hd⟩:∃d,l[k]? =some d:=⟨l[k]'(by rw[HN.out];exact hkl),by simp⟩;obtain⟨b,o,hA,hb,hcells⟩:=eT (cs:=aa) (m:=7) aM (by decide) (HR.out.on hs.2) hd;subst hA;have KK:=ala (aa7 (HZ.out d (alk hd)));have hidz:d.id.size≤1000000:=ali (HZ.out d (alk hd)).id (by decide);obtain⟨x0,x1,x2,x3,x4,x5,x6⟩:=eD hcells;have HK':Hid ((bif mD d !=0 then mD d else bif (lg l k).any (fun i=>eqB i d.id)then 5 else ac5 (lg l (k+1)) (l.drop (k+1)))=r):=by
    have:=HK.out;rw[qN hd,yK]at this;show _=r;rw[sK hd];exact this
   have HKS:=ala (sK hd);dsimp only[ltV,ltA]at KK;generalize mD d=e at*
   clear hd hcells HK hkn
   go_wp2_with fail
   have X:=Bx.new wr #[.string d.id,.string d.ins,.int .i64 d.acq,.int .i64 d.opn,.string d.q,.string d.c,.string d.u] 47;have hbA:Below wr.heap.size wr (wr.alloc (.cells #[.string d.id,.string d.ins,.int .i64 d.acq,.int .i64 d.opn,.string d.q,.string d.c,.string d.u] 47)):=alL;have hlt:=World.ownsMap.lt HS.out;replace HS:=ala (HS.out.on hbA);replace hs:=hs.on hbA;have HX:=ala X;clear X hbA x0 x1 x2 x3 x4 x5 x6;refine KK.out.step hs ?_;intro w2 hs hb2;replace HS:=ala (HS.out.on hb2);replace HX:=ala (HX.out.on hb2);clear hb2 KK;cases hq:(e !=0)with
   |true=>
    have e1:e=r:=by have:=HK'.out;rw[hq]at this;exact this
    subst e1
    go_wp2_with fail
    go_ret
    exact⟨rfl,hs.2⟩
   |false=>
    have hl:=adu HS.out hidz;have HK2:Hid ((bif (lg l k).any (fun i=>eqB i d.id)then 5 else ac5 (lg l (k+1)) (l.drop (k+1)))=r):=by have:=HK'.out;rw[hq]at this;exact this
    generalize hbb:((lg l k).any fun i=>eqB i d.id)=bb at*
    have x0:=HX.out.cell (i:=0) (v:=.string d.id) rfl;clear HK' hbb;cases bb with
    |true=>
     have e1:r=5:=HK2.out.symm;subst e1
     go_wp2_with fail
     go_ret
     exact⟨rfl,hs.2⟩
    |false=>
     have HK3:Hid (ac5 (lg l (k+1)) (l.drop (k+1))=r):=HK2.out;clear HK2;have K:Keyed Tryz.prog 9:=Go.Maps.string_keyed (by kernel_rfl);have hkey:keyOf Tryz.prog 9 (.string d.id)=some (.string d.id.data.toList):=WideMaps.keyOf_string_mk (by kernel_rfl) (ali hidz (by decide));have KM:=ala K;have HKY:=ala hkey;have hown:Hid (World.ownsMap w2 Tryz.prog 9 (plainElem Tryz.prog 4) w.heap.size k (zl (lg l k))):=HS.out;have hkm:k<maxLen:=Nat.lt_of_le_of_lt (by omega:k≤1000000) (by decide);have hsz:=hs.2.size;clear K hkey
     go_wp2_with (at_mapUpdate;refine wpList_mapUpdate_own _ rfl _ _ _ 157 rfl 9 4 KM.out (by kernel_rfl) _ _ k _ rfl hown.out hkm _ _ (.string d.id.data.toList) rfl rfl HKY.out (.lit (.bool true)) [] (plainElem_bool (by kernel_rfl) true) ?_)
     intro w3 hown3 hgrow;have HS3:Hid (Seen w3 w.heap.size (k+1) (lg l (k+1))):=by rw[HKS.out];exact hown3
     have hs3:St w w3:=⟨hs.1,hs.2.grown hgrow hs.2.size (fun j hj=>by injection hj with hj;omega)⟩;clear hown3 hgrow HS hown hl x0
     go_wp2_with fail
     go_roundw
     case rel=>exact⟨k+1,by omega,by go_num,hs3,HS3,HK3⟩
     case measure=>simp[intOf];omega
end Go.Proofs.YtjknklinhegdoaaGreatDoor
namespace Go.Proofs.YtjknklinhegdoaaGreatDoor
open Go.RowKit
def mf (P:Program)(v:World)(x:Value):Result Next→Prop
 | .ok (.value u) v'=>v'=v∧u=x
 | .ok .skip v'=>v'=v∧x=undef
 | .ok (.enter f args) v'=>v'=v∧Calls P f args v (fun e v''=>e= .returned x∧Below v.heap.size v v'')
 |_=>False
def Calm (P:Program)(w:World)(o:Oper)(a:Act)(x:Value):Prop:=∀u:Kept w,mf P u.W x ((execOp a.eval o).run P u.W)
def ptrTo (b:Nat):Value:=.pointer (some ⟨b,0,none⟩)
def dS (ops:Array Oper)(i:Nat):Option Tmp:=(ops[i]?).bind (·.dst)
def vB (ops:Array Oper)(i:Nat):List Tmp:=match ops[i]? with|some o=>o.looksAt ops|none=>[]
def aeO (ops:Array Oper)(n:Nat)(ks:List Nat):Bool:=
 ((List.range n).all fun i=>(dS ops i).isSome &&(List.range n).all fun j=>i==j||dS ops i !=dS ops j)&&
 ((List.range n).all fun i=>ks.contains i||ks.all fun k=>match dS ops k with|some d=> !(vB ops i).contains d|none=>true)
section
variable {P:Program} {ops:Array Oper} {w:World} {ks:List Nat} {val:Nat→Value} {md:Region.Mode}
def aaV (ops:Array Oper)(o:Oper)(a:Act)(x:Value):Value:=if Region.wanted o (yielded ops a.tmps)then x else undef
def jl (P:Program)(ops:Array Oper)(w:World)(ks:List Nat)(val:Nat→Value)(i:Nat)(K:Act→Prop)(a:Act):Prop:=
 match ops[i]? with
 |none=>K a
 |some o=>if i∈ks then∀b,w.heap.size≤b→K (a.put o.dst (ptrTo b))else(Region.wanted o (yielded ops a.tmps)=true→Calm P w o a (val i))∧K (a.put o.dst (aaV ops o a (val i)))
theorem ug {i:Nat}{a:Act}{K K':Act→Prop}(h:∀a,K a→K' a)(hh:jl P ops w ks val i K a):jl P ops w ks val i K' a:=by
 unfold jl at*
 cases ho:ops[i]? with
 |none=>rw[ho]at hh;exact h _ hh
 |some o=>
  rw[ho]at hh;simp only at hh⊢
  split
  ·rename_i hk;rw[if_pos hk]at hh;exact fun b hb=>h _ (hh b hb)
  ·rename_i hk;rw[if_neg hk]at hh;exact⟨hh.1,h _ hh.2⟩
theorem lZ {o:Oper}{a:Act}{x v:Value}{dst:Option Tmp}(hs:∀cs b,o.op≠ .select cs b)(h:∀d,dst=some d→d∉o.looksAt ops):Calm P w o (a.put dst v) x↔Calm P w o a x:=by
 unfold Calm;rw[execOp_put o hs a dst v h]
theorem oD {o:Oper}{a:Act}{x v:Value}{dst:Option Tmp}(h:∀d,dst=some d→d∉o.looksAt ops):aaV ops o (a.put dst v) x=aaV ops o a x:=by
 unfold aaV;rw[wanted_put o a dst v h]
theorem akq {i j:Nat}{oi oj:Oper}(hj:ops[j]? =some oj)(hap:oi.apart ops oj=true)(hsi:∀cs b,oi.op≠ .select cs b)(hsj:∀cs b,oj.op≠ .select cs b){K:Act→Prop}{a:Act}
 (hy:Region.wanted oi (yielded ops a.tmps)=true→Calm P w oi a (val i)) (h:jl P ops w ks val j K (a.put oi.dst (aaV ops oi a (val i)))):
 jl P ops w ks val j (fun a'=>(Region.wanted oi (yielded ops a'.tmps)=true→Calm P w oi a' (val i))∧K (a'.put oi.dst (aaV ops oi a' (val i)))) a:=by
 obtain⟨h1,h2,h3⟩:=Oper.apart_spec hap;unfold jl at*
 rw[hj]at h⊢
 simp only at h⊢
 split
 ·rename_i hk
  rw[if_pos hk]at h;intro b hb;refine⟨?_,?_⟩
  ·rw[wanted_put oi a oj.dst _ h3,lZ hsi h3];exact hy
  ·rw[oD h3, ←Act.put_comm a _ _ h2];exact h b hb
 ·rename_i hk
  rw[if_neg hk]at h;rw[wanted_put oj a oi.dst _ h1,lZ hsj h1,oD h1]at h;refine⟨h.1,?_,?_⟩
  ·rw[wanted_put oi a oj.dst _ h3,lZ hsi h3];exact hy
  ·rw[oD h3, ←Act.put_comm a _ _ h2];exact h.2
theorem akr {j:Nat}{oi oj:Oper}(hj:ops[j]? =some oj)(hap:oi.apart ops oj=true)(hsj:∀cs b,oj.op≠ .select cs b){K:Act→Prop}{a:Act}
 (h:∀b,w.heap.size≤b→jl P ops w ks val j K (a.put oi.dst (ptrTo b))):jl P ops w ks val j (fun a'=>∀b,w.heap.size≤b→K (a'.put oi.dst (ptrTo b))) a:=by
 obtain⟨h1,h2,h3⟩:=Oper.apart_spec hap;unfold jl at*
 rw[hj];simp only[hj]at h⊢
 split
 ·rename_i hk
  intro b hb b' hb';have:=h b' hb';rw[if_pos hk]at this;rw[←Act.put_comm a _ _ h2];exact this b hb
 ·rename_i hk
  have h0:=h _ alK;rw[if_neg hk,wanted_put oj a oi.dst _ h1,lZ hsj h1]at h0;refine⟨h0.1,fun b hb=>?_⟩;have:=(by simpa only[if_neg hk]using h b hb:_∧_).2;rw[oD h1]at this;rw[←Act.put_comm a _ _ h2];exact this
def cu (P:Program)(md:Region.Mode)(ops:Array Oper)(w:World)(ks:List Nat)(val:Nat→Value)(n:Nat)(L:Array Bool→Act→Prop):Nat→Array Bool→Act→Prop
 |0,s,a=>L s a
 |f+1,s,a=>Region.ready md ops s≠ []∧∀i∈Region.ready md ops s,i<n∧jl P ops w ks val i (cu P md ops w ks val n L f (s.setIfInBounds i true)) a
theorem cu.first {n i:Nat}{oi:Oper}{L:Array Bool→Act→Prop}(hi:ops[i]? =some oi)(hns:Region.noSelect ops=true)
 (hs:Region.sinkB md ops n=true) (hc:Region.chainB md ops n=true) (hn:n<ops.size) (hin:i<n)
 (hend:∀s a,L s a→∀j∈Region.ready md ops s,n≤j):
 ∀(f:Nat) (s:Array Bool) (a:Act),HeadInv md ops n s→
  (∀j oj,ops[j]? =some oj→j≠i→s.getD j true=false→(∀e∈oj.after,Region.binds md e=true→e.on≠i)→oi.apart ops oj=true)→
  i∈Region.ready md ops s→jl P ops w ks val i (cu P md ops w ks val n L f (s.setIfInBounds i true)) a→cu P md ops w ks val n L (f+1) s a:=by
 intro f
 induction f with
 |zero=>
  intro s a inv _ hr H;refine⟨List.ne_nil_of_mem hr,fun j hj=>?_⟩;have hlow:j<n:=Nat.lt_of_not_le fun h=>tail_waits hs hc hn inv _ i rfl hin (mem_ready.1 hr).1 j h hj
  refine⟨hlow,?_⟩;by_cases e:j=i
  ·subst e;exact H
  ·exfalso
   have hL:∃a',L (s.setIfInBounds i true) a':=by
    unfold jl at H;simp only[hi]at H;split at H
    ·exact⟨_,H _ alK⟩
    ·exact⟨_,H.2⟩
   obtain⟨a',hL⟩:=hL;exact absurd (hend _ _ hL j (ready_mono hj e)) (Nat.not_le_of_lt hlow)
 |succ f ih=>
  intro s a inv hfree hr H;have hun:=(mem_ready.1 hr).1;refine⟨List.ne_nil_of_mem hr,fun j hj=>?_⟩;have hlow:j<n:=Nat.lt_of_not_le fun h=>tail_waits hs hc hn inv _ i rfl hin hun j h hj
  refine⟨hlow,?_⟩;by_cases e:j=i
  ·subst e;exact H
  ·obtain⟨hju,oj,hoj,hall⟩:=mem_ready.1 hj
   have hno:∀x∈oj.after,Region.binds md x=true→x.on≠i:=by
    intro x hx hb hxi;have:=hall x hx hb;rw[hxi,getD_both hun]at this;cases this
   have hap:=hfree j oj hoj e hju hno;have hfree':∀k ok,ops[k]? =some ok→k≠i→(s.setIfInBounds j true).getD k true=false→(∀e∈ok.after,Region.binds md e=true→e.on≠i)→oi.apart ops ok=true:=by
    intro k ok hk hki hku hkn;refine hfree k ok hk hki ?_ hkn;by_cases hjk:j=k
    ·subst hjk;exact hju
    ·rwa[getD_set_ne true hjk]at hku
   have nsi:=fun cs b=>Region.noSelect_spec hns i oi cs b hi
   have nsj:=fun cs b=>Region.noSelect_spec hns j oj cs b hoj
   by_cases hk:i∈ks
   ·have H':∀b,w.heap.size≤b→cu P md ops w ks val n L (f+1) (s.setIfInBounds i true) (a.put oi.dst (ptrTo b)):=by
     unfold jl at H;simpa only[hi,if_pos hk]using H
    have step:=akr (K:=cu P md ops w ks val n L f ((s.setIfInBounds i true).setIfInBounds j true)) hoj hap nsj (fun b hb=>((H' b hb).2 j (ready_mono hj e)).2);refine ug (fun a' h3=>ih _ a' (inv.set hj hlow) hfree' (ready_mono hr (Ne.symm e)) ?_) step;rw[Array.setIfInBounds_comm _ _ e];unfold jl;simpa only[hi,if_pos hk]using h3
   ·have H':(Region.wanted oi (yielded ops a.tmps)=true→Calm P w oi a (val i))∧cu P md ops w ks val n L (f+1) (s.setIfInBounds i true) (a.put oi.dst (aaV ops oi a (val i))):=by
     unfold jl at H;simpa only[hi,if_neg hk]using H
    have step:=akq (i:=i) hoj hap nsi nsj H'.1 (H'.2.2 j (ready_mono hj e)).2;refine ug (fun a' h3=>ih _ a' (inv.set hj hlow) hfree' (ready_mono hr (Ne.symm e)) ?_) step;rw[Array.setIfInBounds_comm _ _ e];unfold jl;simpa only[hi,if_neg hk]using h3
def yS (P:Program)(ops:Array Oper)(w:World)(ks:List Nat)(val:Nat→Value)(R:Act→Prop):List Oper→Nat→Act→Prop
 | [],_,a=>R a
 |o::rest,k,a=>if k∈ks then∀b,w.heap.size≤b→yS P ops w ks val R rest (k+1) (a.put o.dst (ptrTo b))else(Region.wanted o (yielded ops a.tmps)=true→Calm P w o a (val k))∧yS P ops w ks val R rest (k+1) (a.put o.dst (aaV ops o a (val k)))
theorem cu.lex {n g:Nat}{R:Act→Prop}(hns:Region.noSelect ops=true)(hs:Region.sinkB md ops n=true)(hc:Region.chainB md ops n=true)(hn:n<ops.size):
 ∀(l:List Oper) (k:Nat) (s:Array Bool) (a:Act),(∀j,j<l.length→l[j]? =ops[k+j]?)→k+l.length=n→HeadInv md ops n s→(∀i,i<k→s.getD i false=true)→
 Region.lexHead md ops g l.length k s=true→yS P ops w ks val R l k a→
 cu P md ops w ks val n (fun s' a'=>Region.seqB md ops g n s'=true∧(∀i,i<n→s'.getD i false=true)∧R a') l.length s a:=by
 intro l
 induction l with
 |nil=>
  intro k s a _ hk _ hset hB h;obtain rfl:k=n:=hk;exact⟨hB,hset,h⟩
 |cons o l ih=>
  intro k s a hl hk inv hset hB h;have h0:ops[k]? =some o:=(hl 0 (Nat.succ_pos _)).symm;rw[aly]at hk hB;rw[Region.lexHead,ale,ale]at hB;have hr:k∈Region.ready md ops s:=List.contains_iff_mem.1 hB.1.1;have hk2:k<s.size:=by rw[inv.size];omega
  have hset':∀i,i<k+1→(s.setIfInBounds k true).getD i false=true:=by
   intro i hi;by_cases e:i=k
   ·subst e;simp[hk2]
   ·rw[getD_set_ne false (Ne.symm e)];exact hset i (by omega)
  have nxt:∀a',yS P ops w ks val R l (k+1) a'→cu P md ops w ks val n (fun s' a'=>Region.seqB md ops g n s'=true∧(∀i,i<n→s'.getD i false=true)∧R a') l.length (s.setIfInBounds k true) a':=by
   intro a' h';refine ih (k+1) _ _ (fun j hj=>?_) (by omega) (inv.set hr (by omega)) hset' hB.2 h';have:=hl (j+1) (by rw[aly];omega);rw[List.getElem?_cons_succ]at this;rw[this];congr 1;omega
  refine cu.first h0 hns hs hc hn (by omega) (fun s' a' h'=>seqB_ready h'.1) l.length s a inv (Region.free_spec h0 hB.1.2) hr ?_;unfold jl;rw[yS]at h;simp only[h0];split
  ·rename_i hk';rw[if_pos hk']at h;exact fun b hb=>nxt _ (h b hb)
  ·rename_i hk';rw[if_neg hk']at h;exact⟨h.1,nxt _ h.2⟩
def aax (P:Program)(ops:Array Oper)(i:Nat)(zs:Array Value):Prop:=
 ∃o d T,ops[i]? =some o∧o.dst=some d∧o.guard=none∧∀(e:Operand→Value) (u:World),(execOp e o).run P u= .ok (.value (ptrTo u.heap.size)) (u.alloc (.cells zs T))
structure Blocks (ops:Array Oper) (w:World) (ks:List Nat) (zs:Nat→Array Value) (s:Array Bool) (a:Act) (v:World) (β:Nat→Nat):Prop where
 low:Below w.heap.size w v
 box:∀i∈ks,s.getD i false=true→∀d,dS ops i=some d→a.tmps.getD d undef=ptrTo (β i)∧Bx v (β i) (zs i)∧w.heap.size≤β i
 two:∀i∈ks,∀j∈ks,s.getD i false=true→s.getD j false=true→i≠j→β i≠β j
theorem aaN (a:Act)(dst:Option Tmp)(v:Value):(a.put dst v).tmps.size =a.tmps.size:=by
 cases dst<;>simp[Act.put]
theorem uL {a:Act}{d:Tmp}{v:Value}(h:d<a.tmps.size):(a.put (some d) v).tmps.getD d undef=v:=by simp[Act.put,h]
theorem lw {a:Act}{d:Tmp}{dst:Option Tmp}{v:Value}(h:dst≠some d):(a.put dst v).tmps.getD d undef=a.tmps.getD d undef:=by
 cases dst with
 |none=>rfl
 |some x=>
  have:x≠d:=fun e=>h (by rw[e])
  simp[Act.put,Array.getElem?_setIfInBounds_ne this]
theorem cu.sound {n g N:Nat}{zs:Nat→Array Value}{L:Array Bool→Act→Prop}{Q:Exit→Act→World→Prop}
 (hks:∀k∈ks,k<n∧aax P ops k (zs k)) (hd:∀i j,i<n→j<n→i≠j→dS ops i≠dS ops j) (hN:∀i,i<n→∀d,dS ops i=some d→d<N)
 (hL:∀s a v β,Blocks ops w ks zs s a v β→L s a→wpAny P md ops Q g s a v):
 ∀(f:Nat) (s:Array Bool) (a:Act) (v:World) (β:Nat→Nat),a.tmps.size=N→s.size=ops.size→Blocks ops w ks zs s a v β→cu P md ops w ks val n L f s a→wpAny P md ops Q (f+g) s a v:=by
 intro f
 induction f with
 |zero=>intro s a v β _ _ hb h;rw[Nat.zero_add];exact hL s a v β hb h
 |succ f ih=>
  intro s a v β hsz hss hb h;rw[Nat.succ_add];refine⟨fun h0=>absurd h0 h.1,fun i hi=>?_⟩;obtain⟨hin,hf⟩:=h.2 i hi;obtain⟨hiu,oi,hoi,_⟩:=mem_ready.1 hi;have hdi:dS ops i=oi.dst:=by unfold dS;rw[hoi];rfl
  have keep:∀(v':World) (x:Value),i∉ks→Below v.heap.size v v'→Blocks ops w ks zs (s.setIfInBounds i true) (a.put oi.dst x) v' β:=by
   intro v' x hk hbv;have hne:∀k∈ks,k≠i:=fun k hkk e=>hk (e▸hkk)
   refine⟨hb.low.trans (hbv.mono hb.low.size),fun k hkk hl d hdk=>?_,fun k hkk j hjk h1 h2 hkj=>?_⟩
   ·rw[getD_set_ne false (Ne.symm (hne k hkk))]at hl
    obtain⟨e1,e2,e3⟩:=hb.box k hkk hl d hdk;refine⟨?_,e2.on hbv,e3⟩;rw[lw]
    ·exact e1
    ·rw[←hdi, ←hdk];exact hd i k hin (hks k hkk).1 (Ne.symm (hne k hkk))
   ·rw[getD_set_ne false (Ne.symm (hne k hkk))]at h1
    rw[getD_set_ne false (Ne.symm (hne j hjk))]at h2;exact hb.two k hkk j hjk h1 h2 hkj
  have hsz':∀x,(a.put oi.dst x).tmps.size =N:=fun x=>by rw[aaN];exact hsz
  have hss':(s.setIfInBounds i true).size =ops.size:=by rw[Array.size_setIfInBounds];exact hss
  unfold wpOp;rw[hoi];simp only;unfold jl at hf;simp only[hoi]at hf;by_cases hk:i∈ks
  ·rw[if_pos hk]at hf
   obtain⟨o,d,T,ho,hod,hg,hrun⟩:=(hks i hk).2;obtain rfl:o=oi:=Option.some.inj (ho.symm.trans hoi);have hw:Region.wanted o (yielded ops a.tmps)=true:=by unfold Region.wanted;rw[hg]
   rw[if_pos hw];left;unfold Oper.wp;rw[hrun];simp only[Oper.upon];have hdl:d<a.tmps.size:=by rw[hsz];exact hN i hin d (by rw[hdi];exact hod)
   have hil:i<s.size:=by rw[hss];exact(alc.1 hoi).1
   refine ih _ _ _ (fun k=>if k=i then v.heap.size else β k) (hsz' _) hss' ?_ (hf v.heap.size hb.low.size);refine⟨hb.low.alloc hb.low.size _,fun k hkk hl d' hdk=>?_,fun k hkk j hjk h1 h2 hkj=>?_⟩
   ·by_cases e:k=i
    ·subst e
     rw[if_pos rfl];have:d'=d:=by rw[hdi,hod]at hdk;exact(Option.some.inj hdk).symm
     subst this;refine⟨?_,Bx.new v _ _,hb.low.size⟩;rw[hod];exact uL hdl
    ·rw[if_neg e]
     rw[getD_set_ne false (Ne.symm e)]at hl;obtain⟨e1,e2,e3⟩:=hb.box k hkk hl d' hdk;refine⟨?_,e2.alloc _,e3⟩;rw[lw]
     ·exact e1
     ·rw[←hdi, ←hdk];exact hd i k hin (hks k hkk).1 (Ne.symm e)
   ·have lt:∀k∈ks,k≠i→(s.setIfInBounds i true).getD k false=true→β k<v.heap.size:=by
     intro k hkk e hl;rw[getD_set_ne false (Ne.symm e)]at hl;obtain⟨o',d',T',ho',hod',_⟩:=(hks k hkk).2;exact(hb.box k hkk hl d' (by unfold dS;rw[ho'];exact hod')).2.1.lt
    by_cases e:k=i
    ·by_cases e2:j=i
     ·exact absurd (e.trans e2.symm) hkj
     ·rw[if_pos e,if_neg e2];exact Ne.symm (Nat.ne_of_lt (lt j hjk e2 h2))
    ·by_cases e2:j=i
     ·rw[if_neg e,if_pos e2];exact Nat.ne_of_lt (lt k hkk e h1)
     ·rw[if_neg e,if_neg e2]
      rw[getD_set_ne false (Ne.symm e)]at h1;rw[getD_set_ne false (Ne.symm e2)]at h2;exact hb.two k hkk j hjk h1 h2 hkj
  ·rw[if_neg hk]at hf
   split
   ·rename_i hw
    left;have hcm:=hf.1 hw ⟨v,hb.low⟩;have hK:=hf.2;unfold aaV at hK;rw[if_pos hw]at hK;unfold Oper.wp;generalize (execOp a.eval oi).run P v=r at hcm⊢
    have hcm':mf P v (val i) r:=hcm;cases r with
    |ok nx v'=>
     cases nx<;>simp only[mf]at hcm'<;>simp only[Oper.upon]
     case value u=>
      obtain⟨e1,e2⟩:=hcm';rw[e1,e2];exact ih _ _ _ β (hsz' _) hss' (keep v _ hk (alJ _ _)) hK
     case skip=>
      obtain⟨e1,e2⟩:=hcm';rw[e1];rw[e2]at hK;exact ih _ _ _ β (hsz' _) hss' (keep v _ hk (alJ _ _)) hK
     case enter fi args=>
      obtain⟨e1,hc⟩:=hcm';rw[e1];exact hc.mono fun e w'' ⟨he,hw''⟩=>by subst he;exact ih _ _ _ β (hsz' _) hss' (keep w'' _ hk hw'') hK
    |halt x v'=>simp only[mf]at hcm'
   ·rename_i hw
    have hK:=hf.2;unfold aaV at hK;rw[if_neg hw]at hK;exact ih _ _ _ β (hsz' _) hss' (keep v _ hk (alJ _ _)) hK
def gQ (ks:List Nat):List Oper→Nat→List Oper
 | [],_=>[]
 |o::l,k=>if k∈ks then gQ ks l (k+1)else o::gQ ks l (k+1)
def xe (a:Act)(σ:List (Option Tmp×Value)):Act:=σ.foldl (fun a p=>a.put p.1 p.2) a
theorem ag3 {σ:List (Option Tmp×Value)}{dst:Option Tmp}{x:Value}:∀ {a:Act},(∀p∈σ,∀d,p.1=some d→dst≠some d)→(xe a σ).put dst x=xe (a.put dst x) σ:=by
 induction σ with
 |nil=>intro a _;rfl
 |cons p σ ih=>
  intro a h;show (xe (a.put p.1 p.2) σ).put dst x=xe ((a.put dst x).put p.1 p.2) σ;rw[ih (fun q hq=>h q (alo _ hq)),Act.put_comm a p.2 x (h p alm)]
theorem adT {σ:List (Option Tmp×Value)}{o:Oper}{x:Value}(hs:∀cs b,o.op≠ .select cs b):∀ {a:Act},(∀p∈σ,∀d,p.1=some d→d∉o.looksAt ops)→(Calm P w o (xe a σ) x↔Calm P w o a x):=by
 induction σ with
 |nil=>intro a _;rfl
 |cons p σ ih=>
  intro a h;show Calm P w o (xe (a.put p.1 p.2) σ) x↔_;rw[ih (fun q hq=>h q (alo _ hq)),lZ hs (h p alm)]
theorem qd {σ:List (Option Tmp×Value)}{o:Oper}:∀ {a:Act},(∀p∈σ,∀d,p.1=some d→d∉o.looksAt ops)→Region.wanted o (yielded ops (xe a σ).tmps)=Region.wanted o (yielded ops a.tmps):=by
 induction σ with
 |nil=>intro a _;rfl
 |cons p σ ih=>
  intro a h;show Region.wanted o (yielded ops (xe (a.put p.1 p.2) σ).tmps)=_;rw[ih (fun q hq=>h q (alo _ hq)),wanted_put o a p.1 p.2 (h p alm)]
def nS (w:World)(H:∀(S:Type) (_:S→World),Prop):Prop:=
 ∀(S:Type) (W:S→World),Nonempty S→(∀u,Below w.heap.size w (W u))→(∀u w'',Below (W u).heap.size (W u) w''→∃u',w''=W u')→H S W
theorem sZ {C:World→Prop}{af:Act}{d:Tmp}:∀ {l:List Oper} {a:Act},wpQuiet P ops C (fun a'=>a'=af) l a→(∀o∈l,o.dst≠some d)→af.tmps.getD d undef=a.tmps.getD d undef:=by
 intro l
 induction l with
 |nil=>intro a h _;rw[show a=af from h]
 |cons o l ih=>
  intro a h hd;rw[wpQuiet]at h;have h0:=hd o alm;have h1:=fun q hq=>hd q (alo _ hq)
  split at h
  ·obtain⟨v,_,h⟩:=h
   rw[ih h h1,lw h0]
  ·rw[ih h h1,lw h0]
def valOf (ops:Array Oper)(af:Act)(k:Nat):Value:=match dS ops k with|some d=>af.tmps.getD d undef|none=>undef
theorem aci {o:Oper}:∀ {l:List Oper} {k:Nat},o∈gQ ks l k→∃j,l[j]? =some o∧k+j∉ks:=by
 intro l
 induction l with
 |nil=>intro k h;simp[gQ]at h
 |cons x l ih=>
  intro k h;unfold gQ at h;split at h
  ·obtain⟨j,h1,h2⟩:=ih h
   exact⟨j+1,by rw[List.getElem?_cons_succ];exact h1,by rw[show k+(j+1)=k+1+j by omega];exact h2⟩
  ·rename_i hk
   rcases List.mem_cons.1 h with rfl|h
   ·exact⟨0,rfl,hk⟩
   ·obtain⟨j,h1,h2⟩:=ih h
    exact⟨j+1,by rw[List.getElem?_cons_succ];exact h1,by rw[show k+(j+1)=k+1+j by omega];exact h2⟩
def jG (w:World)(ops:Array Oper)(ks:List Nat):List Oper→Nat→List (Option Tmp×Value)→Prop
 | [],_,τ=>τ=[]
 |o::l,k,τ=>if k∈ks then∃b τ',w.heap.size≤b∧τ=(o.dst,ptrTo b)::τ'∧jG w ops ks l (k+1) τ' else jG w ops ks l (k+1) τ
theorem toFix {n N:Nat}{af:Act}{R:Act→Prop}(hns:Region.noSelect ops=true)
 (hd:∀i j,i<n→j<n→i≠j→dS ops i≠dS ops j) (hsm:∀i,i<n→∃d,dS ops i=some d) (hN:∀i,i<n→∀d,dS ops i=some d→d<N)
 (hlk:∀i,i<n→i∉ks→∀k∈ks,∀d,dS ops k=some d→d∉vB ops i) (hkn:∀k∈ks,k<n):
 ∀(l:List Oper) (k:Nat) (a:Act) (σ:List (Option Tmp×Value)),a.tmps.size=N→(∀j,j<l.length→l[j]? =ops[k+j]?)→k+l.length=n→
  (∀p∈σ,∃i∈ks,p.1=dS ops i)→
  nS w (fun S W=>wpQuiet P ops (fun w'=>∃u:S,w'=W u) (fun a'=>a'=af) (gQ ks l k) a)→
  (∀τ,jG w ops ks l k τ→R (xe af (σ++τ)))→yS P ops w ks (valOf ops af) R l k (xe a σ):=by
 intro l
 induction l with
 |nil=>
  intro k a σ _ _ _ _ hq hf;have h0:a=af:=by
   have:=hq (Kept w) Kept.W (kept_some w) (fun u=>u.low) (fun u w'' h=>⟨⟨w'',u.low.trans (h.mono u.low.size)⟩,rfl⟩);exact this
  subst h0;have:=hf [] rfl;rwa[List.append_nil]at this
 |cons o l ih=>
  intro k a σ hsz hl hk hσ hq hf;rw[aly]at hk;have h0:ops[k]? =some o:=(hl 0 (Nat.succ_pos _)).symm;have hdk:dS ops k=o.dst:=by unfold dS;rw[h0];rfl
  have hl':∀j,j<l.length→l[j]? =ops[k+1+j]?:=by
   intro j hj;have:=hl (j+1) (by rw[aly];omega);rw[List.getElem?_cons_succ]at this;rw[this];congr 1;omega
  rw[yS];unfold gQ at hq;by_cases hkk:k∈ks
  ·rw[if_pos hkk]
   rw[if_pos hkk]at hq;intro b hb;have e:(xe a σ).put o.dst (ptrTo b)=xe a (σ++ [(o.dst,ptrTo b)]):=by unfold xe;rw[List.foldl_append];rfl
   rw[e];refine ih (k+1) a _ hsz hl' (by omega) ?_ hq ?_
   ·intro p hp
    rcases List.mem_append.1 hp with hp|hp
    ·exact hσ p hp
    ·obtain rfl:=List.mem_singleton.1 hp
     exact⟨k,hkk,hdk.symm⟩
   ·intro τ hτ
    rw[List.append_assoc];refine hf _ ?_;unfold jG;rw[if_pos hkk];exact⟨b,τ,hb,rfl,hτ⟩
  ·rw[if_neg hkk]
   rw[if_neg hkk]at hq;have hlo:∀p∈σ,∀d,p.1=some d→d∉o.looksAt ops:=by
    intro p hp d hpd;obtain⟨i,hi,e⟩:=hσ p hp;have:=hlk k (by omega) hkk i hi d (by rw[←e];exact hpd);unfold vB at this;rw[h0]at this;exact this
   have hdo:∀p∈σ,∀d,p.1=some d→o.dst≠some d:=by
    intro p hp d hpd;obtain⟨i,hi,e⟩:=hσ p hp;rw[←hdk, ←hpd,e];exact hd k i (by omega) (hkn i hi) (fun e=>hkk (e▸hi))
   obtain⟨d,hod⟩:=hsm k (by omega);have hod':o.dst=some d:=by rw[←hdk];exact hod
   have hdl:d<a.tmps.size:=by rw[hsz];exact hN k (by omega) d hod
   have hrest:∀q∈gQ ks l (k+1),q.dst≠some d:=by
    intro q hq';obtain⟨j,h1,h2⟩:=aci hq';have hj:j<l.length:=(alj.1 h1).1;have e:dS ops (k+1+j)=q.dst:=by unfold dS;rw[←hl' j hj,h1];rfl
    rw[←e, ←hod];exact hd _ _ (by omega) (by omega) (by omega)
   have hval:valOf ops af k=af.tmps.getD d undef:=by unfold valOf;rw[hod]
   have nso:=fun cs b=>Region.noSelect_spec hns k o cs b h0
   rw[qd hlo,adT nso hlo];have hout:aaV ops o (xe a σ) (valOf ops af k)=aaV ops o a (valOf ops af k):=by unfold aaV;rw[qd hlo]
   rw[hout,ag3 hdo];constructor
   ·intro hw u
    have hS:wpQuiet P ops (fun w'=>∃x:Kept u.W,w'=x.W) (fun a'=>a'=af) (o::gQ ks l (k+1)) a:=hq (Kept u.W) Kept.W (kept_some u.W) (fun x=>u.low.trans (x.low.mono u.low.size)) (fun x w'' h=>⟨⟨w'',x.low.trans (h.mono x.low.size)⟩,rfl⟩);rw[wpQuiet,if_pos hw]at hS;obtain⟨v,h1,h2⟩:=hS;have e1:=sZ h2 hrest;rw[hod',uL hdl]at e1;rw[hval,e1];have h3:=h1 u.W ⟨⟨u.W,alJ _ _⟩,rfl⟩;unfold Oper.quietAt at h3;generalize (execOp a.eval o).run P u.W=r at h3⊢
    cases r with
    |ok nx v'=>
     cases nx<;>simp only[Oper.quietUpon]at h3<;>simp only[mf]
     case value=>exact h3
     case skip=>exact h3
     case enter=>exact⟨h3.1,h3.2.mono fun e w'' ⟨he,x,hx⟩=>⟨he,by rw[hx];exact x.low⟩⟩
    |halt x v'=>simp only[Oper.quietUpon]at h3
   ·refine ih (k+1) _ σ (by rw[aaN];exact hsz) hl' (by omega) hσ ?_ ?_
    ·intro S W hne hk1 hk2
     have hS:wpQuiet P ops (fun w'=>∃x:S,w'=W x) (fun a'=>a'=af) (o::gQ ks l (k+1)) a:=hq S W hne hk1 hk2;rw[wpQuiet]at hS;unfold aaV;split at hS
     ·rename_i hw
      rw[if_pos hw];obtain⟨v,h1,h2⟩:=hS;have e1:=sZ h2 hrest;rw[hod',uL hdl]at e1;rw[hval,e1];exact h2
     ·rename_i hw
      rw[if_neg hw];exact hS
    ·intro τ hτ
     refine hf τ ?_;unfold jG;rw[if_neg hkk];exact hτ
structure AllBlocks (ops:Array Oper) (w:World) (ks:List Nat) (zs:Nat→Array Value) (a:Act) (v:World) (β:Nat→Nat):Prop where
 low:Below w.heap.size w v
 box:∀i∈ks,∀d,dS ops i=some d→a.tmps.getD d undef=ptrTo (β i)∧Bx v (β i) (zs i)∧w.heap.size≤β i
 two:∀i∈ks,∀j∈ks,i≠j→β i≠β j
theorem pG {id:Nat}{Q:Exit→Act→World→Prop}{a:Act}{l:List Oper}(n:Nat)(ks:List Nat)(zs:Nat→Array Value)(hm:P.follows .mixedOrders =true)(hB:Region.lexTailB .any l.toArray n=true)
 (hF:aeO l.toArray n ks=true) (hkn:∀k∈ks,k<n) (hN:((List.range n).all fun i=>(dS l.toArray i).all fun d=>decide (d<a.tmps.size))=true) (hz:∀k∈ks,aax P l.toArray k (zs k))
 (h:∃af,nS w (fun S W=>wpQuiet P l.toArray (fun w'=>∃u:S,w'=W u) (fun a'=>a'=af) (gQ ks (l.take n) 0) a)∧
  ∀τ,jG w l.toArray ks (l.take n) 0 τ→∀v β,AllBlocks l.toArray w ks zs (xe af τ) v β→wpList P l.toArray Q (l.drop n) (xe af τ) v):(Code.region id l.toArray true).wp P Q a w:=by
 obtain⟨af,hq,hf⟩:=h;simp only[Region.lexTailB,ale,decide_eq_true_eq]at hB;obtain⟨⟨⟨⟨hns,hn⟩,hs⟩,hc⟩,hlex⟩:=hB;have hn':n<l.length:=hn;have htl:(l.take n).length =n:=by rw[alr];omega
 have hdl:(l.drop n).length =l.toArray.size-n:=by rw[List.length_drop];rfl
 have inv0:HeadInv .any l.toArray n (Array.replicate l.toArray.size false):=
  ⟨by simp,fun j oj _ hl=>(by rw[getD_replicate_false]at hl;cases hl),fun t _ ht=>getD_in (by simpa using ht) (getD_replicate_false _ _)⟩
 unfold aeO at hF;simp only[ale,alz,List.mem_range,Bool.or_eq_true,beq_iff_eq,bne_iff_ne,Option.isSome_iff_exists,List.contains_iff_mem,ne_eq]at hF;simp only[alz,List.mem_range]at hN;have hd:∀i j,i<n→j<n→i≠j→dS l.toArray i≠dS l.toArray j:=fun i j hi hj hij=>((hF.1 i hi).2 j hj).resolve_left hij
 have hN':∀i,i<n→∀d,dS l.toArray i=some d→d<a.tmps.size:=fun i hi d hdd=>by
  have:=hN i hi;rw[hdd]at this;simpa using this
 have hlk:∀i,i<n→i∉ks→∀k∈ks,∀d,dS l.toArray k=some d→d∉vB l.toArray i:=by
  intro i hi hik k hk d hdd;have:=(hF.2 i hi).resolve_left hik k hk;rw[hdd]at this;simpa using this
 have HF:=toFix (P:=P) (w:=w) (R:=fun a'=>∀v β,AllBlocks l.toArray w ks zs a' v β→wpList P l.toArray Q (l.drop n) a' v) hns hd (fun i hi=>(hF.1 i hi).1) hN' hlk hkn (l.take n) 0 a [] rfl (fun j hj=>by
  rw[htl]at hj;simp[hj]) (by rw[htl];exact Nat.zero_add n) (fun p hp=>by cases hp) hq (fun τ hτ v β hb=>hf τ hτ v β hb)
 have H:=cu.lex (md:=.any) (g:=l.toArray.size-n) hns hs hc hn (l.take n) 0 _ (xe a []) (fun j hj=>by
  rw[htl]at hj;simp[hj]) (by rw[htl];exact Nat.zero_add n) inv0 (fun i hi=>absurd hi (Nat.not_lt_zero _)) (by rw[htl];exact hlex) HF
 have H2:=cu.sound (w:=w) (Q:=Q) (g:=l.toArray.size-n) (zs:=zs) (L:=fun s' a'=>Region.seqB .any l.toArray (l.toArray.size-n) n s'=true∧(∀i,i<n→s'.getD i false=true)∧∀v β,AllBlocks l.toArray w ks zs a' v β→wpList P l.toArray Q (l.drop n) a' v) (fun k hk=>⟨hkn k hk,hz k hk⟩) hd hN' (fun s a' v β hb hL=>by
  have:=wpAny_of_seq (md:=.any) (Q':=Q) (l.drop n) n s a' v (fun j=>by simp[List.getElem?_drop]) (by rw[hdl];exact hL.1)
   (hL.2.2 v β ⟨hb.low,fun i hi d hdd=>hb.box i hi (hL.2.1 i (hkn i hi)) d hdd,fun i hi j hj hij=>hb.two i hi j hj (hL.2.1 i (hkn i hi)) (hL.2.1 j (hkn j hj)) hij⟩)
  rwa[hdl]at this) _ _ _ {w with drawn:=w.drawn+1} (fun _=>0) rfl (by simp) ⟨⟨rfl,rfl,rfl,Nat.le_refl _,fun _ _=>rfl⟩,fun i _ hl=>(by rw[getD_replicate_false]at hl;cases hl),fun i _ j _ hl=>(by rw[getD_replicate_false]at hl;cases hl)⟩ H
 rw[htl,show n+(l.toArray.size-n)=l.toArray.size by omega]at H2;exact wp_region_any hm H2
theorem adS {l:List Oper}:∀ {j:Nat} {τ:List (Option Tmp×Value)},(∀i,j≤i→i∉ks)→jG w ops ks l j τ→τ=[]:=by
 induction l with
 |nil=>intro j τ _ h;exact h
 |cons o l ih=>
  intro j τ hk h;unfold jG at h;rw[if_neg (hk j alK)]at h;exact ih (fun i hi=>hk i (by omega)) h
theorem ag0 {k:Nat}{l:List Oper}(hk:k∈ks):∀ {j:Nat} {τ:List (Option Tmp×Value)},j≤k→(∀i,j≤i→i<k→i∉ks)→k<j+l.length→jG w ops ks l j τ→
 ∃o b τ',l[k-j]? =some o∧w.heap.size≤b∧τ=(o.dst,ptrTo b)::τ'∧jG w ops ks (l.drop (k-j+1)) (k+1) τ':=by
 induction l with
 |nil=>intro j τ h1 _ h2 _;simp at h2;omega
 |cons o l ih=>
  intro j τ h1 h3 h2 h;unfold jG at h;by_cases e:j=k
  ·subst e
   rw[if_pos hk]at h;obtain⟨b,τ',hb,e2,h⟩:=h;exact⟨o,b,τ',by rw[Nat.sub_self];rfl,hb,e2,by rw[Nat.sub_self];exact h⟩
  ·rw[if_neg (h3 j alK (by omega))]at h
   rw[aly]at h2;obtain⟨o',b,τ',h4,h5,h6,h7⟩:=ih (by omega) (fun i hi=>h3 i (by omega)) (by omega) h;refine⟨o',b,τ',?_,h5,h6,?_⟩
   ·rw[show k-j=(k-(j+1))+1 by omega,List.getElem?_cons_succ];exact h4
   ·rw[show k-j+1=(k-(j+1)+1)+1 by omega,List.drop_succ_cons];exact h7
theorem ag4 {a:Act}{d b c:Nat}(h:(a.put (some d) (ptrTo b)).tmps.getD d undef=ptrTo c):b=c:=by
 by_cases hd:d<a.tmps.size
 ·rw[uL hd]at h
  unfold ptrTo at h;injection h with h
  injection h with h
  injection h
 ·rw[show (a.put (some d) (ptrTo b)).tmps.getD d undef=undef by simp[Act.put,hd]]at h
  unfold ptrTo undef at h;cases h
theorem jh {id:Nat}{Q:Exit→Act→World→Prop}{a:Act}{l:List Oper}(n k d:Nat)(zs:Array Value)(hm:P.follows .mixedOrders =true)(hB:Region.lexTailB .any l.toArray n=true)
 (hF:aeO l.toArray n [k]=true) (hkn:k<n) (hdk:dS l.toArray k=some d) (hN:((List.range n).all fun i=>(dS l.toArray i).all fun d=>decide (d<a.tmps.size))=true) (hz:aax P l.toArray k zs)
 (h:∃af,nS w (fun S W=>wpQuiet P l.toArray (fun w'=>∃u:S,w'=W u) (fun a'=>a'=af) (gQ [k] (l.take n) 0) a)∧
  ∀b v,w.heap.size≤b→Below w.heap.size w v→Bx v b zs→wpList P l.toArray Q (l.drop n) (af.put (some d) (ptrTo b)) v):(Code.region id l.toArray true).wp P Q a w:=by
 obtain⟨af,h1,h2⟩:=h;have hn:n<l.length:=by
  simp only[Region.lexTailB,ale,decide_eq_true_eq]at hB;exact hB.1.1.1.2
 refine pG n [k] (fun _=>zs) hm hB hF (by intro x hx;obtain rfl:=List.mem_singleton.1 hx;exact hkn) hN (by intro x hx;obtain rfl:=List.mem_singleton.1 hx;exact hz) ⟨af,h1,?_⟩;intro τ hτ v β hb;obtain⟨o,b,τ',ho,hb0,rfl,hτ'⟩:=ag0 (List.mem_singleton.2 rfl) (Nat.zero_le k) (fun i _ hi h=>by have:=List.mem_singleton.1 h;omega) (by rw[alr];omega) hτ;obtain rfl:=adS (fun i hi h=>by have:=List.mem_singleton.1 h;omega) hτ';have hod:o.dst=some d:=by
  rw[←hdk];unfold dS;rw[Nat.sub_zero,alF,if_pos hkn]at ho;rw[List.getElem?_toArray,ho];rfl
 rw[hod]at hb⊢
 obtain⟨e1,e2,e3⟩:=hb.box k (List.mem_singleton.2 rfl) d hdk;have e:=ag4 (a:=af) e1;rw[←e]at e2;exact h2 b v hb0 hb.low e2
end
theorem Ret.fresh {w0 w:World}{f:FuncId}{args:Array Value}{V:Value}{S:Type}{W:S→World}(h:Ret f args V)(hs:St w0 w)(hk:∀u,Below w.heap.size w (W u))(hc:∀u w'',Below (W u).heap.size (W u) w''→∃u',w''=W u'){u:S}:
 Calls Tryz.prog f args (W u) fun e w''=>e= .returned V∧∃u',w''=W u':=
 (h (W u) (hs.gl.below (hk u))).mono fun _ w' ⟨he,hb⟩=>⟨he,hc u w' hb⟩
theorem Bx.in {w:World}{b:Nat}{cs:Array Value}(h:Bx w b cs){S:Type}{W:S→World}(hk:∀u,Below w.heap.size w (W u)){i:Nat}{v:Value}(hi:cs[i]? =some v)(u:S):(W u).cell? ⟨b,i,none⟩=some v:=(h.on (hk u)).cell hi
end Go.Proofs.YtjknklinhegdoaaGreatDoor
