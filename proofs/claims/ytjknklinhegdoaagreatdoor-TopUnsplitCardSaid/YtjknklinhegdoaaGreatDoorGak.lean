/- Own rows of structs of seven cells, appended to by a loop over an iterator: what a round leaves. No condition. Lists of lots: Find, Clone, the lots of an instrument. Conditions: lists of bounded length; the library's variables lie as the program's text lays them. Lists of lots: the lots of an instrument. Conditions: lists of bounded length; the library's variables lie as the program's text lays them. The value of "1". No condition. slices.insertionSortCmpFunc, pdqsortCmpFunc, SortFunc at a list of numbers below m + 1, by a comparison that turns nothing old. Condition: at most 12 numbers. cmp.Compare, cmp.Or at two ints; the order that slices.SortFunc finds for the rests. No condition. -/
import Derived.Laws.CopyOwn
import Derived.Laws.IdiomCopy
import Derived.Deep.MidRow
import Derived.Test.YtjknklinhegdoaaGreatDoorGai
import Derived.Test.YtjknklinhegdoaaGreatDoorGaj
import Derived.WalkKit
import Derived.Shelf.RegionOpen
import Derived.Sort.LotA
import Derived.BigRegion
import Derived.Test.YtjknklinhegdoaaGreatDoorGag
set_option linter.unusedSimpArgs false
set_option linter.unusedVariables false
set_option maxHeartbeats 4000000
set_option maxRecDepth 100000
namespace SP
end SP
namespace Go.Proofs.YtjknklinhegdoaaGreatDoor
open Go.RowKit Go.Shelf Dec QQ
theorem own_ne {w:World}{base n size:Nat}{T:TypeId}{v:Value}{xs:List Value}(h:w.ownsRow base T size v n xs){b:Nat}{o:Obj}(hb:w.heap[b]? =some o)(ho:∀cur,o≠ .cells cur T (0,0)):some b≠v.ownBlock:=by
 rcases h.2 with ⟨rfl,_⟩|⟨g,cap,cur,rfl,_,hg,_⟩
 ·simp[Value.ownBlock]
 ·intro e
  have:b=g:=by simpa[Value.ownBlock]using e
  subst this;rw[hg]at hb;injection hb with hb
  exact ho cur hb.symm
theorem bX {w w':World}{base n size b:Nat}{T:TypeId}{v:Value}{xs:List Value}{o:Obj}(h:w.ownsRow base T size v n xs)(hb:w.heap[b]? =some o)(ho:∀cur,o≠ .cells cur T (0,0))(hg:w.grownBy w' (some b)):w'.ownsRow base T size v n xs:=by
 have hne:=own_ne h hb ho;refine⟨h.1,?_⟩;rcases h.2 with h2|⟨g,cap,cur,e1,e2,e3,r⟩
 ·exact .inl h2
 ·refine .inr ⟨g,cap,cur,e1,e2,(hg.block g (alc.1 e3).1 ?_).trans e3,r⟩
  rw[e1]at hne;intro e;exact hne (by rw[←e];rfl)
structure RoundP (base Bo l0:Nat) (T E:TypeId) (rec:Loop) (W1:World) (o1 o2:Obj) (v:Value) (k:Nat) (xs:List Value) (w5:World) (v':Value) (xs':List Value):Prop where
 lp:W1.heap[l0]? =some (.loop rec)
 bo:Boxed W1 Bo T v
 own:W1.ownsRow base E 7 v k xs
 own':w5.ownsRow base E 7 v' (k+1) xs'
 grown:World.grownBy (((W1.alloc o1).putObj l0 (.loop {rec with state:=.busy})).alloc o2) w5 v.ownBlock
 te:T≠E
 ne:Bo≠l0
section
variable {base Bo l0 k:Nat} {T E:TypeId} {rec:Loop} {W1 w5:World} {o1 o2:Obj} {v v':Value} {xs xs':List Value}
theorem RoundP.own3 (h:RoundP base Bo l0 T E rec W1 o1 o2 v k xs w5 v' xs'):World.ownsRow (((W1.alloc o1).putObj l0 (.loop {rec with state:=.busy})).alloc o2) base E 7 v k xs:=
 World.ownsRow.alloc (ownsRow_putObj (World.ownsRow.alloc h.own o1) _ ((Below.heap_alloc _ _ _ (alc.1 h.lp).1).trans h.lp) rfl) o2
theorem RoundP.far5 (h:RoundP base Bo l0 T E rec W1 o1 o2 v k xs w5 v' xs'){b:Nat}{o:Obj}(hb:W1.heap[b]? =some o)(h1:b≠l0)(h3:∀cur,o≠ .cells cur E (0,0)):w5.heap[b]? =some o:=by
 have hlt:=(alc.1 hb).1;have e1:(W1.alloc o1).heap[b]? =some o:=(Below.heap_alloc _ _ _ hlt).trans hb;have e2:((W1.alloc o1).putObj l0 (.loop {rec with state:=.busy})).heap[b]? =some o:=(World.putObj_heap_other h1).trans e1;have e3:(((W1.alloc o1).putObj l0 (.loop {rec with state:=.busy})).alloc o2).heap[b]? =some o:=(Below.heap_alloc _ _ _ (alc.1 e2).1).trans e2;exact(h.grown.block b (alc.1 e3).1 (own_ne h.own3 e3 h3)).trans e3
theorem RoundP.bo5 (h:RoundP base Bo l0 T E rec W1 o1 o2 v k xs w5 v' xs'):Boxed w5 Bo T v:=h.far5 h.bo h.ne (fun cur e=>h.te (by injection e))
theorem RoundP.lp5 (h:RoundP base Bo l0 T E rec W1 o1 o2 v k xs w5 v' xs'):w5.heap[l0]? =some (.loop {rec with state:=.busy}):=by
 have hlt:=(alc.1 h.lp).1;have e1:(W1.alloc o1).heap[l0]? =some (.loop rec):=(Below.heap_alloc _ _ _ hlt).trans h.lp;have e2:((W1.alloc o1).putObj l0 (.loop {rec with state:=.busy})).heap[l0]? =some (.loop {rec with state:=.busy}):=World.putObj_heap_same (alc.1 e1).1;have e3:(((W1.alloc o1).putObj l0 (.loop {rec with state:=.busy})).alloc o2).heap[l0]? =some (.loop {rec with state:=.busy}):=(Below.heap_alloc _ _ _ (alc.1 e2).1).trans e2;exact(h.grown.block l0 (alc.1 e3).1 (own_ne h.own3 e3 (fun cur e=>by cases e))).trans e3
theorem RoundP.lp6 (h:RoundP base Bo l0 T E rec W1 o1 o2 v k xs w5 v' xs')(x:Value):(w5.setCell ⟨Bo,0,none⟩ x).heap[l0]? =some (.loop {rec with state:=.busy}):=(alv _ _ _ _ h.ne.symm).trans h.lp5
theorem RoundP.far (h:RoundP base Bo l0 T E rec W1 o1 o2 v k xs w5 v' xs')(o3:Obj){b:Nat}{o:Obj}(hb:W1.heap[b]? =some o)(h1:b≠l0)(h2:b≠Bo)(h3:∀cur,o≠ .cells cur E (0,0)):((w5.setCell ⟨Bo,0,none⟩ v').putObj l0 o3).heap[b]? =some o:=
 (World.putObj_heap_other h1).trans ((alv _ _ _ _ h2).trans (h.far5 hb h1 h3))
theorem RoundP.below (h:RoundP base Bo l0 T E rec W1 o1 o2 v k xs w5 v' xs'){w:World}(hw:Below w.heap.size w W1)(hb:base=w.heap.size)(h1:w.heap.size≤l0)(h2:w.heap.size≤Bo)(o3:Obj):Below w.heap.size w ((w5.setCell ⟨Bo,0,none⟩ v').putObj l0 o3):=by
 subst hb;have b1:=hw.alloc hw.size o1;have b2:=aJ b1 h1 (.loop {rec with state:=.busy});have b3:=b2.alloc b2.size o2;have b4:=b3.grown h.grown b3.size (uP h.own3);exact aJ (b4.setCell (p:=⟨Bo,0,none⟩) h2 v') h1 o3
theorem RoundP.row (h:RoundP base Bo l0 T E rec W1 o1 o2 v k xs w5 v' xs')(o3:Obj):((w5.setCell ⟨Bo,0,none⟩ v').putObj l0 o3).ownsRow base E 7 v' (k+1) xs':=
 ownsRow_putObj (bX h.own' h.bo5 (fun cur e=>h.te (by injection e)) (grownBy_setCell' _ _ _)) o3 (h.lp6 v') rfl
theorem RoundP.box (h:RoundP base Bo l0 T E rec W1 o1 o2 v k xs w5 v' xs')(o3:Obj):Boxed ((w5.setCell ⟨Bo,0,none⟩ v').putObj l0 o3) Bo T v':=dF (h.bo5.set v') h.ne o3
theorem RoundP.loop (h:RoundP base Bo l0 T E rec W1 o1 o2 v k xs w5 v' xs')(o3:Obj):((w5.setCell ⟨Bo,0,none⟩ v').putObj l0 o3).heap[l0]? =some o3:=World.putObj_heap_same (alc.1 (h.lp6 v')).1
end
theorem afL (w:World)(T:TypeId)(cs:List Value):∀j u,cs[j]? =some u→(w.alloc (.cells cs.toArray T)).cell? ((⟨w.heap.size,0,none⟩:Addr).add j)=some u:=by
 intro j u hu;have h:=aZ w (.cells cs.toArray T);rw[show (⟨w.heap.size,0,none⟩:Addr).add j=⟨w.heap.size,j,none⟩by unfold Addr.add;by_cases h:j=0<;>simp[h]];unfold World.cell?;rw[h];simp[hu]
theorem lu {w:World}{A:Option Addr}{vs:List Value}{m n:Nat}(h:Row w A vs)(hl:vs.length=n*m)(h0:0<m):Reads w w.heap.size m A n vs:=by
 refine⟨hl,fun hn=>?_⟩;have hp:0<vs.length:=by rw[hl];exact Nat.mul_pos hn h0
 obtain⟨b,o,hA,hB,_⟩:=h 0 _ (ald hp);refine⟨_,hA,hB,fun j u hu=>?_⟩;obtain⟨b',o',hA',_,hc⟩:=h j u hu;rw[hA]at hA';injection hA' with e
 injection e with e1 e2
 subst e1 e2;rw[show (⟨b,o,none⟩:Addr).add j=⟨b,o+j,none⟩by unfold Addr.add;by_cases h:j=0<;>simp[h]];exact hc
theorem agR {w:World}{vs:List Value}{m n:Nat}(h:Row w none vs)(hl:vs.length=n*m)(h0:0<m):n=0:=by
 rcases Nat.eq_zero_or_pos n with e|e
 ·exact e
 ·have hp:0<vs.length:=by rw[hl];exact Nat.mul_pos e h0
  obtain⟨b,o,hA,_⟩:=h 0 _ (ald hp);cases hA
theorem ad5 (w:World)(T:TypeId)(m:Nat):World.ownsRow (w.alloc (.cells #[] T)) w.heap.size T m (.slice (some ⟨w.heap.size,0,none⟩) 0 0) 0 []:=by
 refine⟨by simp,.inr ⟨w.heap.size,0, #[],rfl,Nat.le_refl _,aZ w _,Nat.le_refl _,by unfold maxLen;omega,by simp,by simp⟩⟩
theorem qh {w:World}{base n m:Nat}{T:TypeId}{v:Value}{xs:List Value}(h:w.ownsRow base T m v n xs):∀k,v.ownBlock=some k→base≤k:=by
 intro k hk;rcases h.2 with ⟨rfl,_⟩|⟨g,cap,cur,rfl,hb,_⟩
 ·cases hk
 ·injection hk with hk
  subst hk;exact hb
theorem vK {α:Type}{cs:α→List Value}(h:∀a,∀u∈cs a,u.oneCell'=true)(l:List α):∀u∈au cs l,u.oneCell'=true:=by
 intro u hu;obtain⟨a,_,hu⟩:=List.mem_flatMap.1 hu;exact h a u hu
end Go.Proofs.YtjknklinhegdoaaGreatDoor
namespace Go.Proofs.YtjknklinhegdoaaGreatDoor
open Go.RowKit Go.Shelf Dec QQ
attribute [local go_sem] Oper.semAt_some
def RetJ (I:World→Prop)(f:FuncId)(args:Array Value)(V:Value):Prop:=∀w,Gl w→I w→Calls Tryz.prog f args w fun e w'=>e= .returned V∧Below w.heap.size w w'
def StaysJ (I:World→Prop):Prop:=∀w w',I w→Below w.heap.size w w'→I w'
theorem RetJ.step {I:World→Prop}{w0 w:World}{f:FuncId}{args:Array Value}{V:Value}{Q:Ending→World→Prop}(h:RetJ I f args V)(hs:St w0 w)(hi:I w)(k:∀w',St w0 w'→Below w.heap.size w w'→Q (.returned V) w'):Calls Tryz.prog f args w Q:=
 (h w hs.gl hi).mono fun _ w' ⟨he,hb⟩=>he▸k w' (hs.on hb) hb
theorem indexL {A:Option Addr}{n c:Nat}{l:List Lt}{f:FuncId}{cap:Array Value}{p:Lt→Bool}{I:World→Prop}(hI:StaysJ I)(hn:l.length=n)(hm:n≤4611686018427387904)(hcf:∀(args:Array Value) (u:World),(callFunc f args).run Tryz.prog u= .ok (.enter f args) u)
 (KF:Hid (∀s∈l,RetJ I f (#[ltV s]++cap) (.bool (p s)))):
 RetJ (fun w=>Row w A (au aa l)∧I w) 101 #[.slice A n c,.func (.func f) #[] cap] (.int .i64 (abd p l)):=by
 intro w hg hi;have hs:=St.refl hg;have HN:=ala hn;have Hi:=ala hi;have HI:=ala hI;clear hn hi hI
 go_enter Tryz.func101,Tryz.ntmps101
 go_wp2_with fail
 go_loopw [8] (fun s wr=>∃k:Nat,k≤n∧s= .int .i64 (k:Int)∧St w wr∧Hid (Row wr A (au aa l)∧I wr)∧Hid (∀i,i<k→∀t,l[i]? =some t→p t=false)) (fun s _=>(n-intOf s).toNat)
 case atStart=>exact⟨0,by omega,rfl,hs,Hi,fun i h=>by omega⟩
 case round=>
  obtain⟨k,hk,rfl,hs,H,HP⟩:=hrel;by_cases hkn:k=n
  ·subst hkn
   have q:decide ((k:Int)<(k:Int))=false:=alH (by omega);have HE:=ala (xU (p:=p) (l:=l) (fun i hi t ht=>HP.out i (by rw[HN.out]at hi;exact hi) t ht));clear HP
   go_wp2_with fail
   go_ret
   exact⟨by rw[HE.out];rfl,hs.2⟩
  ·have hkl:k<n:=by omega
   have q:decide ((k:Int)<(n:Int))=true:=alI (by omega);have qn:decide (k<n)=true:=alI hkl;obtain⟨d,hd⟩:∃d,l[k]? =some d:=⟨l[k]'(by rw[HN.out];exact hkl),by simp⟩;obtain⟨b,o,hA,hb,hcells⟩:=eT (cs:=aa) (m:=7) aM (by decide) H.out.1 hd;subst hA;have KK:=KF.out d (alk hd);have HD:=ala hd;clear hd hkn;obtain⟨pv,hpv⟩:∃pv,p d=pv:=⟨_,rfl⟩;rw[hpv]at KK;have HPV:=ala hpv;clear hpv;obtain⟨x0,x1,x2,x3,x4,x5,x6⟩:=eD hcells;clear hcells;dsimp only[ltV,ltA]at KK;cases pv with
   |true=>
    have HE:=ala (aeK HD.out HPV.out HP.out)
    go_wp2_with fail
    refine KK.step hs H.out.2 ?_;intro w2 hs hb
    go_wp2_with fail
    go_ret
    exact⟨by rw[HE.out];rfl,hs.2⟩
   |false=>
    go_wp2_with fail
    refine KK.step hs H.out.2 ?_;intro w2 hs hb;have H2:Hid (Row w2 (some ⟨b,o,none⟩) (au aa l)∧I w2):=⟨H.out.1.on hb,HI.out _ _ H.out.2 hb⟩
    go_wp2_with fail
    go_roundw
    case rel=>
     refine⟨k+1,by omega,by go_num,hs,H2,?_⟩;intro i hi t ht;by_cases e:i=k
     ·subst e
      rw[HD.out]at ht;cases ht;exact HPV.out
     ·exact HP.out i (by omega) t ht
    case measure=>simp[intOf];omega
theorem aeT {b:Nat}{id:ByteArray}(x:Lt):RetJ (fun w=>Bx w b #[.string id]) 102 #[ltV x,.pointer (some ⟨b,0,none⟩)] (.bool (eqB x.id id)):=by
 intro w hg hi;have hs:=(St.refl hg).alloc (.cells (ltA x) 47);have X:=Bx.new w (ltA x) 47;have hB:=hi.alloc (.cells (ltA x) 47);dsimp only[ltV,ltA]at*
 have x0:=X.cell (i:=0) (v:=.string x.id) rfl;have b0:=hB.cell (i:=0) (v:=.string id) rfl
 go_enter Tryz.func102,Tryz.ntmps102
 go_wp2_with fail
 go_ret
 exact⟨rfl,hs.2⟩
def ahu (l:List Lt)(id:ByteArray):Int:=abd (fun x=>eqB x.id id) l
theorem xM {A:Option Addr}{n c:Nat}{l:List Lt}{id:ByteArray}(hn:l.length=n)(hm:n≤1000000):
 RetJ (fun w=>Row w A (au aa l)) 49 #[.slice A n c,.string id] (.tuple #[.int .i64 (max (ahu l id) 0),.bool (l.any fun x=>eqB x.id id)]):=by
 intro w hg hi;have hs:=(St.refl hg).alloc (.cells #[.string id] 9);have X:=Bx.new w #[.string id] 9;have HX:=ala X;have HR:=ala hi;have K:=ala (indexL (A:=A) (n:=n) (c:=c) (l:=l) (f:=102) (cap:= #[.pointer (some ⟨w.heap.size,0,none⟩)]) (p:=fun x=>eqB x.id id) (I:=fun u=>Bx u w.heap.size #[.string id]) (fun _ _ h hb=>h.on hb) hn (by omega) (fun _ _=>rfl) (fun s _=>aeT s));have HV:Hid (decide (0≤abd (fun x=>eqB x.id id) l)=l.any fun x=>eqB x.id id):=abb _ _;unfold ahu;have hz: -1≤abd (fun x=>eqB x.id id) l:=by
  unfold abd;split<;>omega
 generalize (l.any fun x=>eqB x.id id)=bb at*
 generalize abd (fun x=>eqB x.id id) l=i at*
 clear X hi hn
 go_enter Tryz.func49,Tryz.ntmps49
 go_wp2_with fail
 refine(K.out).step hs ⟨HR.out.on alL,HX.out⟩ ?_;intro w2 hs hb;clear K HX HR hb
 go_wp2_with fail
 go_ret2
 exact⟨by rw[HV.out];rfl,hs.2⟩
theorem aeH:(Tryz.prog.info? 47).map (fun i=>(i.zero,i.size,i.bytes))=some (some (.agg #[.string ⟨#[]⟩,.string ⟨#[]⟩,.int .i64 0,.int .i64 0,.string ⟨#[]⟩,.string ⟨#[]⟩,.string ⟨#[]⟩]),7,96):=by kernel_rfl
theorem dQ (p:Lt):∀u∈aa p,u.oneCell'=true:=by
 intro u hu;simp[aa]at hu;rcases hu with rfl|rfl|rfl|rfl|rfl|rfl|rfl<;>rfl
theorem afJ {A:Option Addr}{n c:Nat}{l:List Lt}(hn:l.length=n)(hm:n≤1000000)(w:World)(hr:Row w A (au aa l)):
 Calls Tryz.prog 42 #[.slice A n c] w fun e w'=>∃v,e= .returned v∧fM aa 47 7 w.heap.size w' v n l∧Below w.heap.size w w':=by
 have hlen:(au aa l).length =n*7:=by rw[qH aM,hn,Nat.mul_comm]
 have HN:=ala hn;have HL:=ala hlen;cases A with
 |none=>
  have h0:n=0:=agR hr hlen (by decide);subst h0;have hnil:l=[]:=List.length_eq_zero_iff.1 hn;subst hnil;clear hn hlen hr;have k:∀u:World,(binOp .eql 22 (.slice none 0 c) (.slice none 0 0)).run Tryz.prog u= .ok (.bool true) u:=fun u=>Lib.run_eql_slice_nil u _ 47 none _ _ _ _ (by kernel_rfl)
  go_enter Tryz.func42,Tryz.ntmps42
  go_wp2_with fail
  go_ret
  exact⟨_,rfl,⟨rfl,World.ownsRow_nil _ _ _ _⟩,alJ _ _⟩
 |some ad=>
  have k:∀u:World,(binOp .eql 22 (.slice (some ad) n c) (.slice none 0 0)).run Tryz.prog u= .ok (.bool false) u:=fun u=>Lib.run_eql_slice_nil u _ 47 (some ad) _ _ _ _ (by kernel_rfl)
  obtain⟨i0,hi,hz0,hz1,hz2⟩:=info_parts aeH;have Hi:=ala hi;have Hz0:=ala hz0;have Hz1:=ala hz1;have Hz2:=ala hz2;clear hi hz0 hz1 hz2 hn hlen;have HR:=ala (lu (hr.on ((alJ _ w).alloc alK (.cells #[] 47))) HL.out (by decide));have HO:=ala (ad5 w 47 7);clear hr
  go_enter Tryz.func42,Tryz.ntmps42
  go_wp2_with (at_builtin;refine aF _ rfl (.tmp 5) (.tmp 6) 22 rfl w.heap.size 47 i0 (.agg #[.string ⟨#[]⟩,.string ⟨#[]⟩,.int .i64 0,.int .i64 0,.string ⟨#[]⟩,.string ⟨#[]⟩,.string ⟨#[]⟩]) 7 96 (by kernel_rfl) Hi.out Hz0.out Hz1.out Hz2.out rfl (by omega) (.slice (some ⟨w.heap.size,0,none⟩) 0 0) 0 [] rfl HO.out _ (some ad) n c (au aa l) rfl HR.out (vK dQ l) (by unfold maxLen;omega) (by omega) (by simp) ?_;intro v3 w3 hown3 hg3 _;have HO3:=ala hown3;have HG3:=ala hg3;clear hown3 hg3)
  go_ret
  have hb3:Below w.heap.size w w3:=alL.grown HG3.out (by simp) (fun k hk=>by simp[Value.ownBlock]at hk;omega);have ho:=HO3.out;rw[Nat.zero_add,List.nil_append]at ho;exact⟨_,rfl,⟨HN.out,ho⟩,hb3⟩
end Go.Proofs.YtjknklinhegdoaaGreatDoor
namespace Go.Proofs.YtjknklinhegdoaaGreatDoor
open Go.RowKit Go.Shelf Dec QQ
attribute [local go_sem] Oper.semAt_some
abbrev nZ (x0 x1:ByteArray)(x2 x3:Int)(x4 x5 x6:ByteArray):Array Value:= #[.string x0,.string x1,.int .i64 x2,.int .i64 x3,.string x4,.string x5,.string x6]
def av (ins:ByteArray)(l:List Lt):List Lt:=l.filter fun x=>eqB x.ins ins
theorem oh {ins:ByteArray}{l:List Lt}{k:Nat}{x:Lt}(h:l[k]? =some x)(hx:eqB x.ins ins=true):av ins (l.take (k+1))=av ins (l.take k)++ [x]:=by
 unfold av;rw[List.take_add_one,h,List.filter_append];simp[hx]
theorem zh {ins:ByteArray}{l:List Lt}{k:Nat}{x:Lt}(h:l[k]? =some x)(hx:eqB x.ins ins=false):av ins (l.take (k+1))=av ins (l.take k):=by
 unfold av;rw[List.take_add_one,h,List.filter_append];simp[hx]
theorem ol {ins:ByteArray}{l:List Lt}(k:Nat):(av ins (l.take k)).length ≤l.length:=by
 unfold av;refine ali (List.length_filter_le _ _) ?_;rw[alr];omega
theorem aiM (A:Option Addr)(n c:Nat)(ins:ByteArray)(w:World):
 Calls Tryz.prog 35 #[.slice A n c,.string ins] w fun e w'=>e= .returned (.func (.func 84) #[] #[.pointer (some ⟨w.heap.size,0,none⟩),.pointer (some ⟨w.heap.size+1,0,none⟩)])∧w'=(w.alloc (.cells #[.slice A n c] 22)).alloc (.cells #[.string ins] 9):=by
 go_enter Tryz.func35,Tryz.ntmps35
 go_wp2
 go_ret
 simp
theorem of_in {A:Option Addr}{n c:Nat}{L:List Lt}{ins:ByteArray}(l0 Bl Bi:Nat)(hn:L.length=n)(hm:n≤1000000)(Inv:Nat→World→Prop)
 (hG:∀k W,Inv k W→Row W A (au aa L)∧Boxed W Bl 22 (.slice A n c)∧Boxed W Bi 9 (.string ins)) (hU:∀k W W',Inv k W→Below W.heap.size W W'→Inv k W')
 (hS:∀k W x,L[k]? =some x→eqB x.ins ins=false→Inv k W→Inv (k+1) W)
 (hY:∀k W1 x,k<n→L[k]? =some x→eqB x.ins ins=true→Inv k W1→YieldAt Fence.wide 4 Tryz.prog l0 #[ltV x] W1 fun e W'=>e= .returned (.bool true)∧Inv (k+1) W')
 (W:World) (h0:Inv 0 W):
 CallsIn Fence.wide 5 Tryz.prog 84 #[.func (.yield l0) #[] #[],.pointer (some ⟨Bl,0,none⟩),.pointer (some ⟨Bi,0,none⟩)] W fun en W'=>(∃v,en= .returned v)∧Inv n W':=by
 have HG:=ala hG;have HU:=ala hU;have HS:=ala hS;have HY:=ala hY;have HN:=ala hn;have H0:=ala h0;have c0:=(hG 0 W h0).2.1.cell;clear hG hU hS hY hn h0;refine callsIn_of_wp Tryz.func84 rfl trivial ?_ rfl;simp only[Tryz.ntmps84,List.size_toArray,aly,List.length_nil,Nat.reduceAdd,Nat.reduceSub,Array.replicate_succ,Array.replicate_zero,List.push_toArray,List.append_toArray,List.nil_append,List.cons_append]
 gi_wp2_with fail
 clear c0
 gi_loopw [8] (fun s wr=>∃k:Nat,k≤n∧s= .int .i64 (k:Int)∧Hid (Inv k wr)) (fun s _=>(n-intOf s).toNat)
 case atStart=>exact⟨0,by omega,rfl,H0⟩
 case round=>
  obtain⟨k,hk,rfl,H⟩:=hrel;by_cases hkn:k=n
  ·subst hkn
   have q:decide ((k:Int)<(k:Int))=false:=alH (by omega)
   gi_wp2_with fail
   go_end0
   exact⟨⟨_,rfl⟩,H.out⟩
  ·have hkl:k<n:=by omega
   have q:decide ((k:Int)<(n:Int))=true:=alI (by omega);have qn:decide (k<n)=true:=alI hkl;obtain⟨x,hd⟩:∃d,L[k]? =some d:=⟨L[k]'(by rw[HN.out];exact hkl),by simp⟩;obtain⟨b,o,hA,hb,hcells⟩:=eT (cs:=aa) (m:=7) aM (by decide) (HG.out k wr H.out).1 hd;obtain⟨x0,x1,x2,x3,x4,x5,x6⟩:=eD hcells;have HYD:=ala (fun W1 h1 h=>HY.out k W1 x hkl hd h1 h);have HSD:=ala (fun W1 h1 h=>HS.out k W1 x hd h1 h);subst hA;clear hd hkn hcells;have hba:Below wr.heap.size wr (wr.alloc (.cells (nZ x.id x.ins x.acq x.opn x.q x.c x.u) 47)):=alL;have BD:=ala (Bx.new wr (nZ x.id x.ins x.acq x.opn x.q x.c x.u) 47);have hi:=HU.out k _ _ H.out hba;have HI2:=ala hi;have ci:=(HG.out k _ hi).2.2.cell;dsimp only[ltV,ltA]at HYD;clear hi hba H;cases hq:eqB x.ins ins with
   |false=>
    have hq2:(x.ins.toList==ins.toList)=false:=hq;refine wpIn_wide.2 ?_
    go_wp2_with fail
    go_roundw
    case rel=>exact⟨k+1,by omega,by go_num,HSD.out _ hq HI2.out⟩
    case measure=>simp[intOf];omega
   |true=>
    have hq2:(x.ins.toList==ins.toList)=true:=hq;obtain⟨fn,tmps,assign,body,hy,hR⟩:=HYD.out _ hq HI2.out;have HRR:=ala hR;clear hR
    gi_wp2_with fail
    refine HRR.out.mono ?_;rintro e W6 ⟨rfl,hn6⟩;have HN6:=ala hn6;clear hn6
    gi_wp2_with fail
    go_roundw
    case rel=>exact⟨k+1,by omega,by go_num,HN6⟩
    case measure=>simp[intOf];omega
structure LSt (w:World) (L:List Lt) (ins:ByteArray) (A:Option Addr) (n c Bl Bi Bo l0 D:Nat) (rec:Loop) (k:Nat) (W:World):Prop where
 low:Below w.heap.size w W
 row:Row w A (au aa L)
 bl:Boxed W Bl 22 (.slice A n c)
 bi:Boxed W Bi 9 (.string ins)
 bo:∃v,Boxed W Bo 22 v∧W.ownsRow w.heap.size 47 7 v (av ins (L.take k)).length (au aa (av ins (L.take k)))
 lp:W.heap[l0]? =some (.loop rec)
 df:W.heap[D]? =some (.deferred (some []))
theorem LSt.up {w:World}{L:List Lt}{ins:ByteArray}{A:Option Addr}{n c Bl Bi Bo l0 D k:Nat}{rec:Loop}{W W':World}(h:LSt w L ins A n c Bl Bi Bo l0 D rec k W)(hb:Below W.heap.size W W'):LSt w L ins A n c Bl Bi Bo l0 D rec k W':=by
 obtain⟨v,h1,h2⟩:=h.bo;exact⟨h.low.trans (hb.mono h.low.size),h.row,aN h.bl hb,aN h.bi hb,⟨v,aN h1 hb,own_below h2 hb⟩,(hb.block l0 (alc.1 h.lp).1).trans h.lp,(hb.block D (alc.1 h.df).1).trans h.df⟩
theorem aiy {A:Option Addr}{n c Bl Bi:Nat}{L:List Lt}{ins:ByteArray}(hn:L.length=n)(hm:n≤1000000)(w:World)(hr:Row w A (au aa L))(hbl:Boxed w Bl 22 (.slice A n c))(hbi:Boxed w Bi 9 (.string ins)):
 Calls Tryz.prog 83 #[.slice none 0 0,.func (.func 84) #[] #[.pointer (some ⟨Bl,0,none⟩),.pointer (some ⟨Bi,0,none⟩)]] w fun e w'=>∃v,e= .returned v∧fM aa 47 7 w.heap.size w' v (av ins L).length (av ins L)∧Below w.heap.size w w':=by
 have Hr:=ala hr;have HN:=ala hn;have hltl:Bl<w.heap.size:=(alc.1 hbl).1;have hlti:Bi<w.heap.size:=(alc.1 hbi).1;have HBL:=ala hbl;have HBI:=ala hbi;clear hr hn hbl hbi;refine(callsIn_wide (n:=6)).1 ?_;refine callsIn_of_wp_marks Tryz.func83 rfl trivial ?_ rfl;simp only[Tryz.ntmps83,List.size_toArray,aly,List.length_nil,Nat.reduceAdd,Nat.reduceSub,Array.replicate_succ,Array.replicate_zero,List.push_toArray,List.append_toArray,List.nil_append,List.cons_append]
 gi_wp2_with fail
 have Bo3:=ala (Boxed.new w 22 (.slice none 0 0));have Hb3:Hid (Below w.heap.size w (w.alloc (.cells #[.slice none 0 0] 22))):=alL;have Bl3:Hid (Boxed (w.alloc (.cells #[.slice none 0 0] 22)) Bl 22 (.slice A n c)):=HBL.out.alloc _;have Bi3:Hid (Boxed (w.alloc (.cells #[.slice none 0 0] 22)) Bi 9 (.string ins)):=HBI.out.alloc _;have hs3:(w.alloc (.cells #[.slice none 0 0] 22)).heap.size =w.heap.size+1:=alf _ _;have Hs3:=ala hs3;clear hs3;obtain⟨w3,hw3⟩:∃x,w.alloc (.cells #[.slice none 0 0] 22)=x:=⟨_,rfl⟩;rw[hw3]at Bo3 Hb3 Bl3 Bi3 Hs3⊢
 clear hw3;refine gu rfl (by omega) rfl trivial (enters_of Tryz.func84 (by kernel_rfl) rfl) ?_;intro fn hfn r hr;have hst:r.state= .ready :=by rw[hr]
 have hpe:r.pending=none:=by rw[hr]
 have HS:Hid (LSt w L ins A n c Bl Bi w.heap.size (w3.heap.size+1) w3.heap.size r 0 ((w3.alloc (.deferred (some []))).alloc (.loop r))):=by
  have hbb:Below w3.heap.size w3 ((w3.alloc (.deferred (some []))).alloc (.loop r)):=alL.alloc (by simp) _;refine⟨Hb3.out.trans (hbb.mono Hb3.out.size),Hr.out,aN Bl3.out hbb,aN Bi3.out hbb,⟨_,aN Bo3.out hbb,World.ownsRow_nil _ _ _ _⟩,?_,?_⟩
  ·have:=World.alloc_heap_new (w3.alloc (.deferred (some []))) (.loop r)
   rwa[alf]at this
  ·exact(Below.heap_alloc _ _ _ (by simp)).trans (World.alloc_heap_new w3 _)
 refine(of_in (A:=A) (n:=n) (c:=c) (L:=L) (ins:=ins) (w3.heap.size+1) Bl Bi HN.out hm (fun k W=>LSt w L ins A n c Bl Bi w.heap.size (w3.heap.size+1) w3.heap.size r k W) (fun k W h=>⟨h.row.on h.low,h.bl,h.bi⟩) (fun k W W' h hb=>h.up hb) (fun k W x hx hq h=>⟨h.low,h.row,h.bl,h.bi,by rw[zh hx hq];exact h.bo,h.lp,h.df⟩) ?_ _ HS.out).mono ?_
 ·intro k W1 x hk hx hq hG
  have hy:=run_yield (P:=Tryz.prog) (args:= #[ltV x]) hG.lp (by rw[hr];rfl);refine⟨_,_,_,_,hy,roundIn_of_wpIn (by rw[hr];exact hfn) ?_⟩;have e1:=congrArg Loop.assign hr;have e2:=congrArg Loop.body hr;have e3:=congrArg Loop.tmps hr;have e4:=congrArg Loop.params hr;dsimp only at e1 e2 e3 e4;rw[e1,e2,e3,e4];have HG:=ala hG;have Hst:=ala hst;have Hpe:=ala hpe;have HX:Hid (au aa (av ins (L.take (k+1)))=au aa (av ins (L.take k))++aa x):=by
   show _=_;rw[oh hx hq,uf]
  have HXn:Hid ((av ins (L.take (k+1))).length =(av ins (L.take k)).length +1):=by
   show _=_;rw[oh hx hq,alG];rfl
  have hmn:(av ins (L.take k)).length ≤1000000:=ali (ol k) (by rw[HN.out];exact hm);have HXX:=ala (⟨hx,hq⟩:L[k]? =some x∧eqB x.ins ins=true);obtain⟨m,hmm⟩:∃m,(av ins (L.take k)).length =m:=⟨_,rfl⟩;have HBO:Hid (∃v,Boxed W1 w.heap.size 22 v∧W1.ownsRow w.heap.size 47 7 v m (au aa (av ins (L.take k)))):=by
   have:=hG.bo;rw[hmm]at this;exact this
  rw[hmm]at HXn hmn;clear e1 e2 e3 e4 hr hy hG hst hpe HS hx hq hmm;dsimp only[ltV,ltA]
  gi_wp2_with fail
  have hbb:Below W1.heap.size W1 (W1.alloc (.cells (nZ x.id x.ins x.acq x.opn x.q x.c x.u) 47)):=alL;have HGa:=ala (HG.out.up hbb);refine⟨_,run_beginRound HGa.out.lp Hst.out,?_⟩;obtain⟨v,hv,hown⟩:=HBO.out;have HV:=ala hv;have HO:=ala hown;have hl0:W1.heap.size≠w3.heap.size+1:=by have:=(alc.1 HG.out.lp).1;omega
  have hBo:w.heap.size≠w3.heap.size+1:=by have:=Hs3.out;omega
  have XP:Bx ((W1.alloc (.cells (nZ x.id x.ins x.acq x.opn x.q x.c x.u) 47)).putObj (w3.heap.size+1) (.loop {r with state:=.busy})) W1.heap.size (nZ x.id x.ins x.acq x.opn x.q x.c x.u):=⟨_,(World.putObj_heap_other hl0).trans (aZ W1 _)⟩;have VP:=dF (hv.alloc (.cells (nZ x.id x.ins x.acq x.opn x.q x.c x.u) 47)) hBo (.loop {r with state:=.busy});have HOP:Hid (World.ownsRow ((W1.alloc (.cells (nZ x.id x.ins x.acq x.opn x.q x.c x.u) 47)).putObj (w3.heap.size+1) (.loop {r with state:=.busy})) w.heap.size 47 7 v m (au aa (av ins (L.take k)))):=ownsRow_putObj (World.ownsRow.alloc hown _) _ HGa.out.lp rfl;have hsz:w.heap.size≤((W1.alloc (.cells (nZ x.id x.ins x.acq x.opn x.q x.c x.u) 47)).putObj (w3.heap.size+1) (.loop {r with state:=.busy})).heap.size :=by have:=HG.out.low.size;simp;omega
  obtain⟨WP,hWP⟩:∃WP,(W1.alloc (.cells (nZ x.id x.ins x.acq x.opn x.q x.c x.u) 47)).putObj (w3.heap.size+1) (.loop {r with state:=.busy})=WP:=⟨_,rfl⟩;have HWP:=ala hWP;rw[hWP]at XP VP HOP hsz⊢
  clear hWP hv hown hbb;have vc:=VP.cell;have vf:=VP.frozen;have z0:=XP.cell (i:=0) (v:=.string x.id) rfl;have z1:=XP.cell (i:=1) (v:=.string x.ins) rfl;have z2:=XP.cell (i:=2) (v:=.int .i64 x.acq) rfl;have z3:=XP.cell (i:=3) (v:=.int .i64 x.opn) rfl;have z4:=XP.cell (i:=4) (v:=.string x.q) rfl;have z5:=XP.cell (i:=5) (v:=.string x.c) rfl;have z6:=XP.cell (i:=6) (v:=.string x.u) rfl;obtain⟨i0,hi,hz0,hz1,hz2⟩:=info_parts aeH;have Hi:=ala hi;have Hz0:=ala hz0;have Hz1:=ala hz1;have Hz2:=ala hz2;clear hi hz0 hz1 hz2;have vc2:=(VP.alloc (.cells (nZ x.id x.ins x.acq x.opn x.q x.c x.u) 47)).cell
  gi_wp2_with (gi_at_builtin;refine wpListIn_append_own _ rfl _ _ 22 rfl w.heap.size 47 i0 (.agg #[.string ⟨#[]⟩,.string ⟨#[]⟩,.int .i64 0,.int .i64 0,.string ⟨#[]⟩,.string ⟨#[]⟩,.string ⟨#[]⟩]) 7 96 Tryz.underlying22 Hi.out Hz0.out Hz1.out Hz2.out rfl (by omega) _ m (au aa (av ins (L.take k))) rfl (World.ownsRow.alloc HOP.out _) ⟨WP.heap.size,0,none⟩ 1 1 (aa x) rfl rfl (afL WP 47 [.string x.id,.string x.ins,.int .i64 x.acq,.int .i64 x.opn,.string x.q,.string x.c,.string x.u]) (dQ _) (by unfold maxLen;omega) (by omega) (by simp;omega) ?_;intro v' w5 hown' hgrow _;obtain⟨g',cap',rfl⟩:=ownsRow_succ hown';have hrd:RoundP w.heap.size w.heap.size (w3.heap.size+1) 22 47 r W1 (.cells (nZ x.id x.ins x.acq x.opn x.q x.c x.u) 47) (.cells (nZ x.id x.ins x.acq x.opn x.q x.c x.u) 47) v m (au aa (av ins (L.take k))) w5 (.slice (some ⟨g',0,none⟩) (m+1) cap') (au aa (av ins (L.take k))++aa x):=⟨HG.out.lp,HV.out,HO.out,hown',by rw[HWP.out];exact hgrow,by decide,hBo⟩;have HRD:=ala hrd;have vc5:=hrd.bo5.cell;have vf5:=hrd.bo5.frozen;clear hown' hgrow hrd)
  refine⟨_,_,run_endRound none (HRD.out.lp6 _),rfl,?_⟩;have hlr:({r with state:=if (none:Option Code).isNone then LoopState.ready else .done,pending:=none}:Loop)=r:=by have h1:=Hst.out;have h2:=Hpe.out;cases r;simp_all
  refine⟨HRD.out.below HG.out.low rfl (by have:=Hb3.out.size;omega) (by omega) _,HG.out.row,HRD.out.far _ HG.out.bl (by have:=Hs3.out;omega) (by omega) (fun cur e=>by injection e with _ e;exact absurd e (by decide)),HRD.out.far _ HG.out.bi (by have:=Hs3.out;omega) (by omega) (fun cur e=>by injection e with _ e;exact absurd e (by decide)),⟨_,HRD.out.box _,?_⟩,?_,HRD.out.far _ HG.out.df (by omega) (by have:=Hs3.out;omega) (fun cur e=>by cases e)⟩
  ·rw[HX.out,HXn.out];exact HRD.out.row _
  ·rw[HRD.out.loop,hlr]
 ·rintro e W4 ⟨⟨v,rfl⟩,hG⟩
  obtain⟨o5,ho5⟩:∃o5:Obj,o5= .loop {r with state:=.exhausted}:=⟨_,rfl⟩;have hend:=run_endLoop (P:=Tryz.prog) hG.lp (by rw[hst];decide);rw[←ho5]at hend;clear ho5;rw[hpe]at hend;obtain⟨v2,hv2,hown2⟩:=hG.bo;have hnl:w.heap.size≠w3.heap.size+1:=by have:=Hs3.out;omega
  have b1:=dF hv2 hnl o5;have cB:=b1.cell;have hlp:w3.heap.size+1<W4.heap.size:=(alc.1 hG.lp).1;have HB5:Hid (Below w.heap.size w (W4.putObj (w3.heap.size+1) o5)):=aJ hG.low (by have:=Hb3.out.size;omega) _;have HD5:Hid ((W4.putObj (w3.heap.size+1) o5).heap[w3.heap.size]? =some (.deferred (some []))):=(World.putObj_heap_other (by omega)).trans hG.df;have HO5:Hid (fM aa 47 7 w.heap.size (W4.putObj (w3.heap.size+1) o5) v2 (av ins L).length (av ins L)):=by
   refine⟨rfl,?_⟩;have:=ownsRow_putObj hown2 o5 hG.lp rfl;rwa[aln (Nat.le_of_eq HN.out)]at this
  obtain⟨W5,hW5⟩:∃W5,W4.putObj (w3.heap.size+1) o5=W5:=⟨_,rfl⟩;rw[hW5]at hend cB HB5 HD5 HO5;refine⟨none,W5,hend,?_⟩;clear hr hG hst hpe b1 HS hW5 hend hv2 hown2
  gi_wp2_with fail
  refine⟨by simp,.inl ⟨_,_,rfl,run_takeDeferred HD5.out,?_⟩⟩;refine⟨_,results_tmp rfl _ _ _,v2,rfl,⟨HO5.out.1,ownsRow_putObj HO5.out.2 _ HD5.out rfl⟩,aJ HB5.out (by have:=Hb3.out.size;omega) _⟩
theorem aah {A:Option Addr}{n c Bl Bi:Nat}{L:List Lt}{ins:ByteArray}(hn:L.length=n)(hm:n≤1000000)(w:World)(hr:Row w A (au aa L))(hbl:Boxed w Bl 22 (.slice A n c))(hbi:Boxed w Bi 9 (.string ins)):
 Calls Tryz.prog 34 #[.func (.func 84) #[] #[.pointer (some ⟨Bl,0,none⟩),.pointer (some ⟨Bi,0,none⟩)]] w fun e w'=>∃v,e= .returned v∧fM aa 47 7 w.heap.size w' v (av ins L).length (av ins L)∧Below w.heap.size w w':=by
 have K:=aiy hn hm w hr hbl hbi;clear hn hr hbl hbi
 go_enter Tryz.func34,Tryz.ntmps34
 go_wp2_with fail
 refine K.mono ?_;rintro e w1 ⟨v,rfl,ho,hb⟩;have HO:=ala ho;clear ho K
 go_wp2_with fail
 go_ret
 exact⟨_,rfl,HO.out,hb⟩
def RetO (I:World→Prop)(f:FuncId)(args:Array Value)(R:Nat→World→Value→Prop):Prop:=∀w,Gl w→I w→Calls Tryz.prog f args w fun e w'=>∃v,e= .returned v∧R w.heap.size w' v∧Below w.heap.size w w'
theorem wH {A:Option Addr}{n c:Nat}{L:List Lt}{ins:ByteArray}(hn:L.length=n)(hm:n≤1000000):
 RetO (fun w=>Row w A (au aa L)) 10 #[.slice A n c,.string ins] fun B w' v=>fM aa 47 7 B w' v (av ins L).length (av ins L):=by
 intro w hg hi;have K1:=aiM A n c ins w;have hbA:Below w.heap.size w ((w.alloc (.cells #[.slice A n c] 22)).alloc (.cells #[.string ins] 9)):=alL.alloc (by simp) _;have b1:Boxed ((w.alloc (.cells #[.slice A n c] 22)).alloc (.cells #[.string ins] 9)) w.heap.size 22 (.slice A n c):=(Boxed.new w _ _).alloc _;have b2:Boxed ((w.alloc (.cells #[.slice A n c] 22)).alloc (.cells #[.string ins] 9)) (w.heap.size+1) 9 (.string ins):=by
  have:=Boxed.new (w.alloc (.cells #[.slice A n c] 22)) 9 (.string ins);rwa[alf]at this
 have K2:=aah (c:=c) hn hm _ (hi.on hbA) b1 b2;have H1:=ala hbA;have hsz:((w.alloc (.cells #[.slice A n c] 22)).alloc (.cells #[.string ins] 9)).heap.size =w.heap.size+2:=by simp
 have HSZ:=ala hsz;obtain⟨w1,hw1⟩:∃x,(w.alloc (.cells #[.slice A n c] 22)).alloc (.cells #[.string ins] 9)=x:=⟨_,rfl⟩;rw[hw1]at K1 K2 H1 HSZ;clear hn hi hbA b1 b2 hsz hw1
 go_enter Tryz.func10,Tryz.ntmps10
 go_wp2_with fail
 refine K1.mono ?_;rintro e w2 ⟨rfl,rfl⟩
 go_wp2_with fail
 refine K2.mono ?_;rintro e w3 ⟨v,rfl,ho,hb⟩;have HO:=ala ho;clear ho K1 K2
 go_wp2_with fail
 go_ret
 have:=HSZ.out;exact⟨_,rfl,⟨HO.out.1,dB HO.out.2 (by omega)⟩,H1.out.trans (hb.mono (by omega))⟩
end Go.Proofs.YtjknklinhegdoaaGreatDoor
namespace Go.Proofs.YtjknklinhegdoaaGreatDoor
open Go.RowKit Go.Shelf Dec QQ
theorem ajL:aj (⟨#[49]⟩:ByteArray)=1:=by decide+kernel
end Go.Proofs.YtjknklinhegdoaaGreatDoor
namespace Go.Proofs.YtjknklinhegdoaaGreatDoor
open Go.RowKit Go.Shelf Go.Sort
def ltC {α:Type}(cf:α→α→Int)(x y:α):Bool:=decide (cf x y<0)
section
variable {m:Nat}
def ac3 (x:Fin (m+1)):Value:=.int .i64 (x.val:Int)
structure SoW (w0:World) (blk:Nat) (dk:Array (Fin (m+1))) (W:World):Prop where
 gr:w0.grownBy W (some blk)
 row:W.heap[blk]? =some (.cells (dk.map ac3) 3 (0,0))
variable {w0 W W':World} {blk:Nat} {dk:Array (Fin (m+1))}
theorem SoW.lt (h:SoW w0 blk dk W):blk<W.heap.size:=(alc.1 h.row).1
theorem SoW.cell (h:SoW w0 blk dk W){i:Nat}(hi:i<dk.size):W.cell? ⟨blk,i,none⟩=some (.int .i64 (dk[i]!.val :Int)):=by
 simp[World.cell?,h.row,hi,ac3]
theorem SoW.frozen (h:SoW w0 blk dk W)(i:Nat):W.frozen? ⟨blk,i,none⟩=false:=by simp[World.frozen?,h.row]
end
def CmpK {m:Nat}(w0:World)(blk:Nat)(g:FuncId)(cb:Array Value)(cf:Fin (m+1)→Fin (m+1)→Int):Prop:=
 ∀W,w0.grownBy W (some blk)→∀x y:Fin (m+1),Calls Tryz.prog g (#[.int .i64 (x.val:Int),.int .i64 (y.val:Int)]++cb) W fun e w'=>e= .returned (.int .i64 (cf x y))∧Below W.heap.size W w'
end Go.Proofs.YtjknklinhegdoaaGreatDoor
namespace Go.Proofs.YtjknklinhegdoaaGreatDoor
open Go.RowKit Go.Shelf Go.Sort SP
theorem xR (x:Int)(w:World):Calls Tryz.prog 279 #[.int .i64 x] w fun e w'=>e= .returned (.bool false)∧w'=w:=by
 go_enter Tryz.func279,Tryz.ntmps279
 go_wp2_with fail
 go_ret
 exact⟨by simp,rfl⟩
theorem acN (x y:Int)(w:World):Calls Tryz.prog 266 #[.int .i64 x,.int .i64 y] w fun e w'=>e= .returned (.int .i64 (fA x y))∧w'=w:=by
 have K1:=xR x w;have K2:=xR y w;have e:fA x y=if x<y then-1 else if x=y then 0 else 1:=rfl
 rcases Int.lt_trichotomy x y with h|h|h
 ·rw[e,if_pos h]
  have q:decide (x<y)=true:=alI h;clear e h
  go_enter Tryz.func266,Tryz.ntmps266
  go_wp2_with fail
  refine K1.mono ?_;rintro e w1 ⟨rfl,rfl⟩
  go_wp2_with fail
  refine K2.mono ?_;rintro e w1 ⟨rfl,rfl⟩
  go_wp2_with fail
  go_ret
  exact⟨rfl,rfl⟩
 ·subst h
  rw[e,if_neg (by omega),if_pos rfl];have q:decide (x<x)=false:=alH (by omega);clear e
  go_enter Tryz.func266,Tryz.ntmps266
  go_wp2_with fail
  refine K1.mono ?_;rintro e w1 ⟨rfl,rfl⟩
  go_wp2_with fail
  refine K2.mono ?_;rintro e w1 ⟨rfl,rfl⟩
  go_wp2_with fail
  go_ret
  exact⟨rfl,rfl⟩
 ·rw[e,if_neg (by omega),if_neg (by omega)]
  have q:decide (x<y)=false:=alH (by omega);have q2:decide (y<x)=true:=alI h;clear e h
  go_enter Tryz.func266,Tryz.ntmps266
  go_wp2_with fail
  refine K1.mono ?_;rintro e w1 ⟨rfl,rfl⟩
  go_wp2_with fail
  refine K2.mono ?_;rintro e w1 ⟨rfl,rfl⟩
  go_wp2_with fail
  go_ret
  exact⟨rfl,rfl⟩
theorem afj (x y:Int)(b:Nat)(w:World)(h0:w.cell? ⟨b,0,none⟩=some (.int .i64 x))(h1:w.cell? ⟨b,1,none⟩=some (.int .i64 y)):
 Calls Tryz.prog 234 #[.slice (some ⟨b,0,none⟩) 2 2] w fun e w'=>e= .returned (.int .i64 (if x=0 then y else x))∧w'=w:=by
 by_cases hx:x=0
 ·subst hx
  rw[if_pos rfl];by_cases hy:y=0
  ·subst hy
   go_enter Tryz.func234,Tryz.ntmps234
   go_wp2_with fail
   refine wp_loop_rounds 3 ?_;rw[rounds_succ]
   go_wp2_with fail
   rw[rounds_succ]
   go_wp2_with fail
   rw[rounds_succ]
   go_wp2_with fail
   go_ret
   exact⟨rfl,rfl⟩
  ·have q:(y !=0)=true:=by simpa using hy
   clear hy
   go_enter Tryz.func234,Tryz.ntmps234
   go_wp2_with fail
   refine wp_loop_rounds 3 ?_;rw[rounds_succ]
   go_wp2_with fail
   rw[rounds_succ]
   go_wp2_with fail
   go_ret
   exact⟨rfl,rfl⟩
 ·have q:(x !=0)=true:=by simpa using hx
  rw[if_neg hx];clear hx
  go_enter Tryz.func234,Tryz.ntmps234
  go_wp2_with fail
  refine wp_loop_rounds 3 ?_;rw[rounds_succ]
  go_wp2_with fail
  go_ret
  exact⟨rfl,rfl⟩
end Go.Proofs.YtjknklinhegdoaaGreatDoor
