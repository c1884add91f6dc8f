/- Integer: contracts of Canonical, Check, Print and Parse, for every string. Conditions: sizes below 2^62. Integer: contracts of Add, Neg, Sub and Mul. Conditions: sizes below 2^36; the table of powers lies as the program's text lays it. Integer: contracts of Mul and Compare. Conditions: sizes below 2^36; the table of powers lies as the program's text lays it. Integer: the contract of Div. Conditions: sizes below 2^36; the table of powers lies as the program's text lays it. Integer: contracts of Small and Of. Conditions: sizes below 2^46; the library's table and error lie as the program's text lays them. Integer: the contract of Power. Conditions: sizes below 2^26; the table of powers lies as the program's text lays it. Integer: the contract of Gcd: a range over an iterator that keeps its state in memory. Conditions: sizes below 2^36; the table of powers lies as the program's text lays it. Integer: values of bounded length; what comparisons know of each other. No condition. Integer: the contracts over strings of known values. Conditions: strings of up to a million bytes; the library's table and error lie as the program's text lays them. -/
import Derived.Lib.ItoaMem
import Derived.Lib.AppendIntMem
import Derived.Deep.DeepCutAuto
import Derived.RangeFuncNested
import Derived.RangeFuncBound
import Derived.RangeFuncCalls
import Derived.RangeFuncLeaves
import Derived.Shelf.Abstract
import Derived.Shelf.RegionOpen
import Derived.OwnWalkIn
import Derived.TacticsInMore
import Derived.LoopNIn
import Derived.LoopIn
import Derived.Sort.LoopGhostIn
import Derived.Lib.ItoaLen
import Derived.Test.YtjknklinhegdoaaGreatDoorId
import Derived.Test.YtjknklinhegdoaaGreatDoorIc
set_option maxHeartbeats 8000000
set_option maxRecDepth 100000
namespace Go.Proofs.YtjknklinhegdoaaGreatDoor
open Go.RowKit Go.Shelf Dec
def aj (a:ByteArray):Int:=val (bytes a)
def ag (z:Int):ByteArray:=str (canon z)
theorem aW (z:Int):aj (ag z)=z:=by unfold aj ag;rw[eP,kZ]
theorem air {y z:Int}(h:ag y=ag z):y=z:=by rw[←aW y,h,aW]
theorem qU:ag 0=⟨#[]⟩:=rfl
theorem aay:aj ⟨#[]⟩=0:=rfl
theorem agB (c:UInt8)(l:Bytes):(⟨#[c]⟩:ByteArray)++str l=str (c::l):=by apply bytes_inj;rw[eP];simp[bytes,str]
theorem wQ (a:ByteArray):(ag (aj a)).size ≤a.size+1:=by
 unfold ag aj;rw[fQ,yE,bP];have:=lY (bytes a);split<;>simp<;>omega
theorem gm (a:ByteArray)(w:World)(ha:a.size≤4611686018427387904):
 Calls Tryz.prog 187 #[.string a] w fun e w'=>e= .returned (.string (ag (aj a)))∧Below w.heap.size w w':=by
 have HE:Hid (ag (aj a)=if uY (bytes a)then str (45::ic (bytes a))else str (ic (bytes a))):=by
  show _=_;unfold ag aj;rw[yE];split<;>rfl
 have hdl:=lY (bytes a);rw[←bP]at hdl;have hsz:(str (ic (bytes a))).size ≤4611686018427387904:=by rw[fQ];omega
 cases hn:uY (bytes a)with
 |true=>
  have HN:=ala hn;have HEt:Hid (ag (aj a)=str (45::ic (bytes a))):=by have:=HE.out;rw[hn]at this;exact this
  have H1:Hid (∀w,Calls Tryz.prog 106 #[.string a] w fun e w'=>e= .returned (.tuple #[.string (str (ic (bytes a))),.bool true])∧Below w.heap.size w w'):=by
   intro w;rw[←hn];exact nJ a w (by omega)
  clear hn HE;generalize ic (bytes a)=l at*
  go_enter Tryz.func187,Tryz.ntmps187
  go_wp2_with fail
  refine(H1.out _).mono ?_;rintro e w1 ⟨rfl,hb1⟩
  go_wp2_with fail
  go_ret
  refine⟨?_,hb1⟩;rw[HEt.out, ←agB];rfl
 |false=>
  have HEt:Hid (ag (aj a)=str (ic (bytes a))):=by have:=HE.out;rw[hn]at this;exact this
  have H1:Hid (∀w,Calls Tryz.prog 106 #[.string a] w fun e w'=>e= .returned (.tuple #[.string (str (ic (bytes a))),.bool false])∧Below w.heap.size w w'):=by
   intro w;rw[←hn];exact nJ a w (by omega)
  clear hn HE;generalize ic (bytes a)=l at*
  go_enter Tryz.func187,Tryz.ntmps187
  go_wp2_with fail
  refine(H1.out _).mono ?_;rintro e w1 ⟨rfl,hb1⟩
  go_wp2_with fail
  go_ret
  refine⟨?_,hb1⟩;rw[HEt.out];rfl
def chk (a:ByteArray):Int:=if a=ag (aj a)then 0 else 1
theorem sD (s t:ByteArray):(s.toList==t.toList)=decide (s=t):=by
 rw[afS];by_cases h:s=t
 ·simp[h]
 ·rw[alH h,alH (fun e=>h (bytes_inj e))]
theorem afK (a:ByteArray)(w:World)(ha:a.size≤4611686018427387904):
 Calls Tryz.prog 128 #[.string a] w fun e w'=>e= .returned (.int .i64 (chk a))∧Below w.heap.size w w':=by
 have H1:=ala (fun w=>gm a w ha);generalize hc:ag (aj a)=t at H1;by_cases h:a=t
 ·have HE:Hid (chk a=0):=by show _=_;unfold chk;rw[hc,if_pos h]
  have q:(a.toList==t.toList)=true:=by rw[sD,alI h]
  clear hc h
  go_enter Tryz.func128,Tryz.ntmps128
  go_wp2_with fail
  refine(H1.out _).mono ?_;rintro e w1 ⟨rfl,hb1⟩
  go_wp2_with fail
  go_ret
  exact⟨by rw[HE.out];rfl,hb1⟩
 ·have HE:Hid (chk a=1):=by show _=_;unfold chk;rw[hc,if_neg h]
  have q:(a.toList==t.toList)=false:=by rw[sD,alH h]
  clear hc h
  go_enter Tryz.func128,Tryz.ntmps128
  go_wp2_with fail
  refine(H1.out _).mono ?_;rintro e w1 ⟨rfl,hb1⟩
  go_wp2_with fail
  go_ret
  exact⟨by rw[HE.out];rfl,hb1⟩
def prt (z:Int):Bytes:=if z=0 then [48]else canon z
theorem xm (a:ByteArray)(w:World)(ha:a.size≤4611686018427387904):
 Calls Tryz.prog 202 #[.string a] w fun e w'=>e= .returned (.string (str (prt (aj a))))∧Below w.heap.size w w':=by
 have H1:=ala (fun w=>gm a w ha);by_cases h:aj a=0
 ·have HE:Hid (str (prt (aj a))=⟨#[48]⟩):=by show _=_;unfold prt;rw[if_pos h];rfl
  have H2:Hid (∀w,Calls Tryz.prog 187 #[.string a] w fun e w'=>e= .returned (.string ⟨#[]⟩)∧Below w.heap.size w w'):=by
   intro w;have:=H1.out w;rw[h]at this;exact this
  clear H1 h
  go_enter Tryz.func202,Tryz.ntmps202
  go_wp2_with fail
  refine(H2.out _).mono ?_;rintro e w1 ⟨rfl,hb1⟩
  go_wp2_with fail
  go_ret
  exact⟨by rw[HE.out];rfl,hb1⟩
 ·have HE:Hid (str (prt (aj a))=ag (aj a)):=by show _=_;unfold prt;rw[if_neg h];rfl
  have hne:bytes (ag (aj a))≠ []:=by unfold ag;rw[eP];exact fun e=>h (afN.1 e)
  generalize ag (aj a)=t at*
  have q:t.toList.isEmpty=false:=by rw[fT];cases hh:bytes t with|nil=>exact absurd hh hne|cons _ _=>rfl
  clear h hne
  go_enter Tryz.func202,Tryz.ntmps202
  go_wp2_with fail
  refine(H1.out _).mono ?_;rintro e w1 ⟨rfl,hb1⟩
  go_wp2_with fail
  go_ret
  exact⟨by rw[HE.out];rfl,hb1⟩
attribute [local go_sem ↓] Go.wp_at_zero Go.wp_at_succ
theorem aj6 (a:ByteArray):(mag (aj a).natAbs).length ≤a.size:=by
 unfold aj;rw[aC,uz];have h1:=lH (ic (bytes a)) (oV _);have h2:=lY (bytes a);rw[←bP]at h2;have h3:10^(ic (bytes a)).length ≤10^(9*a.size):=Nat.pow_le_pow_right (by omega) (by omega);rw[←abM]at h3;omega
theorem zg (z:Int):sgn (decide (z<0)) z.natAbs=z:=by
 unfold sgn;by_cases h:z<0
 ·simp[h];omega
 ·simp[h];omega
theorem ads (neg:Bool)(n:Nat):(sgn neg n).natAbs =n:=by unfold sgn;cases neg<;>simp
theorem aeB {x y:Int}{n k:Nat}(hx:(mag x.natAbs).length ≤n)(hy:(mag y.natAbs).length ≤n)(hk:k=(x+y).natAbs):(mag k).length ≤n+1:=by
 subst hk;rw[aC]at hx hy⊢
 rw[Nat.pow_succ];have:(x+y).natAbs ≤x.natAbs+y.natAbs:=Int.natAbs_add_le x y;have h2:BB^n*2≤BB^n*BB:=Nat.mul_le_mul_left _ (by decide);omega
theorem read' (a:ByteArray)(w:World)(ha:a.size≤68719476736):Calls Tryz.prog 53 #[.string a] w fun e w'=>
 ∃A n c,e= .returned (.agg #[.bool (decide (aj a<0)),.slice A n c])∧(mag (aj a).natAbs).length =n∧fu w' A c (aj a).natAbs ∧n≤a.size∧Below w.heap.size w w':=by
 refine(agX a w (by omega)).mono ?_;rintro e w' ⟨A,c,he,hm,hb⟩;exact⟨A,_,c,he,rfl,hm,aj6 a,hb⟩
theorem text' (neg:Bool)(A:Option Addr)(c k n:Nat)(w:World)(hk:(mag n).length =k)(hc:fu w A c n)(hm:k≤274877906944)(hg:Gl w):
 Calls Tryz.prog 54 #[.agg #[.bool neg,.slice A k c]] w fun e w'=>e= .returned (.string (ag (sgn neg n)))∧Below w.heap.size w w':=by
 subst hk;exact agv neg A c n w hc hm hg
theorem add' (na nb:Bool)(A A':Option Addr)(c c' k m a b:Nat)(w:World)(hk:(mag a).length =k)(hk':(mag b).length =m)(hc:fu w A c a)(hc':fu w A' c' b)(hm:k≤274877906944)(hm':m≤274877906944):
 Calls Tryz.prog 52 #[.agg #[.bool na,.slice A k c],.agg #[.bool nb,.slice A' m c']] w fun e w'=>∃neg n l A c,e= .returned (.agg #[.bool neg,.slice A l c])∧(mag n).length =l∧sgn neg n=sgn na a+sgn nb b∧fu w' A c n∧Below w.heap.size w w':=by
 subst hk hk';refine(akX na nb A A' c c' a b w hc hc' hm hm').mono ?_;rintro e w' ⟨neg,n,A,c,hz,he,hm,hb⟩;exact⟨neg,n,_,A,c,he,rfl,hz,hm,hb⟩
theorem ak9 (a b:ByteArray)(w:World)(ha:a.size≤68719476736)(hb:b.size≤68719476736)(hg:Gl w):
 Calls Tryz.prog 20 #[.string a,.string b] w fun e w'=>e= .returned (.string (ag (aj a+aj b)))∧Below w.heap.size w w':=by
 have Hg:=ala hg;clear hg;have HA:=ala (zg (aj a));have HB:=ala (zg (aj b));generalize hda:decide (aj a<0)=na at HA;generalize hdb:decide (aj b<0)=nb at HB;have HR1:Hid (∀w,Calls Tryz.prog 53 #[.string a] w fun e w'=>∃A n c,e= .returned (.agg #[.bool na,.slice A n c])∧(mag (aj a).natAbs).length =n∧fu w' A c (aj a).natAbs ∧n≤a.size∧Below w.heap.size w w'):=by
  intro w;rw[←hda];exact read' a w ha
 have HR2:Hid (∀w,Calls Tryz.prog 53 #[.string b] w fun e w'=>∃A n c,e= .returned (.agg #[.bool nb,.slice A n c])∧(mag (aj b).natAbs).length =n∧fu w' A c (aj b).natAbs ∧n≤b.size∧Below w.heap.size w w'):=by
  intro w;rw[←hdb];exact read' b w hb
 clear hda hdb
 go_enter Tryz.func20,Tryz.ntmps20
 go_wp2_with fail
 refine(HR1.out _).mono ?_;rintro e w1 ⟨A1,n1,c1,rfl,hn1,hm1,hl1,hb1⟩;have Hn1:=ala hn1;have Hm1:=ala hm1;have Hb1:=ala hb1;clear hn1 hm1 hb1
 go_wp2_with fail
 refine(HR2.out _).mono ?_;rintro e w2 ⟨A2,n2,c2,rfl,hn2,hm2,hl2,hb2⟩;have Hn2:=ala hn2;have Hm2:=ala hm2;have Hm1':=ala (Hm1.out.up hb2);have Hb2:Hid (Below w.heap.size w w2):=Hb1.out.trans (hb2.mono Hb1.out.size);clear hn2 hm2 hb2
 go_wp2_with fail
 refine(add' na nb A1 A2 c1 c2 n1 n2 _ _ w2 Hn1.out Hn2.out Hm1'.out Hm2.out (by omega) (by omega)).mono ?_;rintro e w3 ⟨neg,n,l,A3,c3,rfl,hl3,hz,hm3,hb3⟩;have Hz:Hid (sgn neg n=aj a+aj b):=by show _=_;rw[hz,HA.out,HB.out]
 have hl:l≤68719476737:=by
  rw[←hl3];exact aeB (x:=aj a) (y:=aj b) (n:=68719476736) (by rw[Hn1.out];omega) (by rw[Hn2.out];omega) (by rw[←Hz.out,ads])
 have Hl3:=ala hl3;have Hm3:=ala hm3;have Hb3:Hid (Below w.heap.size w w3):=Hb2.out.trans (hb3.mono Hb2.out.size);clear hl3 hz hm3 hb3
 go_wp2_with fail
 refine(text' neg A3 c3 l n w3 Hl3.out Hm3.out (by omega) (Hg.out.below Hb3.out)).mono ?_;rintro e w4 ⟨rfl,hb4⟩
 go_wp2_with fail
 go_ret
 exact⟨by rw[Hz.out];rfl,Hb3.out.trans (hb4.mono Hb3.out.size)⟩
theorem adr (z:Int):sgn (!decide (z<0)) z.natAbs= -z:=by
 unfold sgn;by_cases h:z<0
 ·simp[h];omega
 ·simp[h];omega
theorem ak1 (a:ByteArray)(w:World)(ha:a.size≤68719476736)(hg:Gl w):
 Calls Tryz.prog 157 #[.string a] w fun e w'=>e= .returned (.string (ag (-aj a)))∧Below w.heap.size w w':=by
 have Hg:=ala hg;clear hg;have HA:=ala (adr (aj a));generalize hda:decide (aj a<0)=na at HA;have HR1:Hid (∀w,Calls Tryz.prog 53 #[.string a] w fun e w'=>∃A n c,e= .returned (.agg #[.bool na,.slice A n c])∧(mag (aj a).natAbs).length =n∧fu w' A c (aj a).natAbs ∧n≤a.size∧Below w.heap.size w w'):=by
  intro w;rw[←hda];exact read' a w ha
 clear hda
 go_enter Tryz.func157,Tryz.ntmps157
 go_wp2_with fail
 refine(HR1.out _).mono ?_;rintro e w1 ⟨A1,n1,c1,rfl,hn1,hm1,hl1,hb1⟩;have Hn1:=ala hn1;have Hm1:=ala hm1;have Hb1:=ala hb1;clear hn1 hm1 hb1
 go_wp2_with fail
 have hbw:Below w1.heap.size w1 (w1.alloc (.cells #[.bool !na,.slice A1 n1 c1] 123)):=alL;have Hbw:Hid (Below w.heap.size w (w1.alloc (.cells #[.bool !na,.slice A1 n1 c1] 123))):=Hb1.out.trans (hbw.mono Hb1.out.size);refine(text' (!na) A1 c1 n1 _ _ Hn1.out (Hm1.out.up hbw) (by omega) (Hg.out.below Hbw.out)).mono ?_;rintro e w4 ⟨rfl,hb4⟩
 go_wp2_with fail
 go_ret
 exact⟨by rw[HA.out];rfl,Hbw.out.trans (hb4.mono Hbw.out.size)⟩
theorem ak0 (a b:ByteArray)(w:World)(ha:a.size≤68719476736)(hb:b.size≤68719476736)(hg:Gl w):
 Calls Tryz.prog 47 #[.string a,.string b] w fun e w'=>e= .returned (.string (ag (aj a-aj b)))∧Below w.heap.size w w':=by
 have Hg:=ala hg;clear hg;have HA:=ala (zg (aj a));have HB:=ala (adr (aj b));generalize hda:decide (aj a<0)=na at HA;generalize hdb:decide (aj b<0)=nb at HB;have HR1:Hid (∀w,Calls Tryz.prog 53 #[.string a] w fun e w'=>∃A n c,e= .returned (.agg #[.bool na,.slice A n c])∧(mag (aj a).natAbs).length =n∧fu w' A c (aj a).natAbs ∧n≤a.size∧Below w.heap.size w w'):=by
  intro w;rw[←hda];exact read' a w ha
 have HR2:Hid (∀w,Calls Tryz.prog 53 #[.string b] w fun e w'=>∃A n c,e= .returned (.agg #[.bool nb,.slice A n c])∧(mag (aj b).natAbs).length =n∧fu w' A c (aj b).natAbs ∧n≤b.size∧Below w.heap.size w w'):=by
  intro w;rw[←hdb];exact read' b w hb
 clear hda hdb
 go_enter Tryz.func47,Tryz.ntmps47
 go_wp2_with fail
 refine(HR2.out _).mono ?_;rintro e w1 ⟨A1,n1,c1,rfl,hn1,hm1,hl1,hb1⟩;have Hn1:=ala hn1;have hbw:Below w1.heap.size w1 (w1.alloc (.cells #[.bool !nb,.slice A1 n1 c1] 123)):=alL;obtain⟨W,hW⟩:∃W,w1.alloc (.cells #[.bool !nb,.slice A1 n1 c1] 123)=W:=⟨_,rfl⟩;have c0:W.cell? ⟨w1.heap.size,0,none⟩=some (.bool !nb):=by rw[←hW];unfold World.cell?;rw[aZ];rfl
 have c1':W.cell? ⟨w1.heap.size,1,none⟩=some (.slice A1 n1 c1):=by rw[←hW];unfold World.cell?;rw[aZ];rfl
 have Hsz:Hid (w1.heap.size<W.heap.size):=by show _<_;rw[←hW,alf];omega
 rw[hW]at hbw;have Hm1:=ala (hm1.up hbw);have Hb1:Hid (Below w.heap.size w W):=hb1.trans (hbw.mono hb1.size);have HW:=ala hW;clear hn1 hm1 hb1 hbw hW
 go_wp2_with fail
 rw[HW.out];clear HW;obtain⟨B,hB⟩:∃B,w1.heap.size=B:=⟨_,rfl⟩;rw[hB]at c0 c1' Hsz⊢
 clear hB
 go_region_held3 (fun w'=>w'.cell? ⟨B,0,none⟩=some (.bool !nb)∧w'.cell? ⟨B,1,none⟩=some (.slice A1 n1 c1))
  (first
   |(go_keep;done)
   |exact⟨x40,x41⟩
   |exact⟨x30,x31⟩
   |exact⟨x20,x21⟩)
  (first
   |(go_at_call 53;refine(HR1.out _).mono ?_;rintro e w2 ⟨A2,n2,c2,rfl,hn2,hm2,hl2,hk2⟩;have Hn2:=ala hn2;have Hm2:=ala hm2;have Hb2:Hid (Below w.heap.size w w2):=Hb1.out.drew.trans (hk2.mono Hb1.out.size);have Hm1':=ala (Hm1.out.up (((alJ _ W).drew).trans hk2));have hlt3:B<w2.heap.size:=alx Hsz.out hk2.size;have x20:=(hk2.cell (p:=⟨B,0,none⟩) Hsz.out).trans c0;have x21:=(hk2.cell (p:=⟨B,1,none⟩) Hsz.out).trans c1';clear hn2 hm2)
   |(go_at_call 52;refine(add' na (!nb) A2 A1 c2 c1 n2 n1 _ _ _ Hn2.out Hn1.out (by exact Hm2.out) (by exact Hm1'.out) (by omega) (by omega)).mono ?_;rintro e w3 ⟨neg,n,l,A3,c3,rfl,hl3,hz,hm3,hk3⟩;have Hl3:=ala hl3;have Hm3:=ala hm3;have Hz:=ala hz;have Hb3:Hid (Below w.heap.size w w3):=Hb2.out.trans (hk3.mono Hb2.out.size);have hlt4:B<w3.heap.size:=alx hlt3 hk3.size;have x30:=(hk3.cell (p:=⟨B,0,none⟩) hlt3).trans x20;have x31:=(hk3.cell (p:=⟨B,1,none⟩) hlt3).trans x21;clear hl3 hm3 hz)
   |(go_at_call 54;refine(text' neg A3 c3 l n _ Hl3.out (by exact Hm3.out) ?_ (by exact Hg.out.below Hb3.out)).mono ?_;(rw[←Hl3.out];exact ali (aeB (x:=aj a) (y:= -aj b) (n:=68719476736) (by rw[Hn2.out];omega) (by rw[Int.natAbs_neg,Hn1.out];omega) (by have:=Hz.out;rw[HA.out,HB.out]at this;rw[←this,ads])) (by omega));rintro e w4 ⟨rfl,hk4⟩;have Hb4:Hid (Below w.heap.size w w4):=Hb3.out.trans (hk4.mono Hb3.out.size);have x40:=(hk4.cell (p:=⟨B,0,none⟩) hlt4).trans x30;have x41:=(hk4.cell (p:=⟨B,1,none⟩) hlt4).trans x31))
 go_wp2_with fail
 go_ret
 have hz:=Hz.out;rw[HA.out,HB.out, ←Int.sub_eq_add_neg]at hz;exact⟨by rw[hz];rfl,Hb4.out⟩
end Go.Proofs.YtjknklinhegdoaaGreatDoor
namespace Go.Proofs.YtjknklinhegdoaaGreatDoor
open Go.RowKit Go.Shelf Dec
attribute [local go_sem ↓] Go.wp_at_zero Go.wp_at_succ
theorem aji (x y:Int):sgn (decide (x<0) !=decide (y<0)) (x.natAbs*y.natAbs)=x*y:=by
 have e:((x.natAbs*y.natAbs:Nat):Int)=(x.natAbs:Int)*y.natAbs:=Int.natCast_mul _ _;unfold sgn;rw[e];by_cases hx:x<0<;>by_cases hy:y<0<;>simp only[hx,hy,decide_true,decide_false,bne_self_eq_false,Bool.true_bne,Bool.false_bne,Bool.not_false,alu,if_true,if_false]
 ·rw[show (x.natAbs:Int)= -x by omega,show (y.natAbs:Int)= -y by omega,Int.neg_mul_neg]
 ·rw[show (x.natAbs:Int)= -x by omega,show (y.natAbs:Int)=y by omega,Int.neg_mul,Int.neg_neg]
 ·rw[show (x.natAbs:Int)=x by omega,show (y.natAbs:Int)= -y by omega,Int.mul_neg,Int.neg_neg]
 ·rw[show (x.natAbs:Int)=x by omega,show (y.natAbs:Int)=y by omega]
theorem aj7 {a b n m:Nat}(ha:(mag a).length ≤n)(hb:(mag b).length ≤m):(mag (a*b)).length ≤n+m:=by
 rw[aC]at ha hb⊢
 rw[Nat.pow_add];exact Nat.mul_lt_mul_of_lt_of_le ha (Nat.le_of_lt hb) (Nat.pow_pos bV)
theorem times' (A A':Option Addr)(c c' n n':Nat)(a b:Nat)(w:World)(hn:(mag a).length =n)(hn':(mag b).length =n')(hc:Mg .u64 w w.heap.size A (mag a))(hc':Mg .u64 w w.heap.size A' (mag b))(hm:n≤549755813888)(hm':n'≤549755813888):
 Calls Tryz.prog 156 #[.slice A n c,.slice A' n' c'] w fun e w'=>∃A l c,e= .returned (.slice A l c)∧(mag (a*b)).length =l∧fu w' A c (a*b)∧l≤n+n'∧Below w.heap.size w w':=by
 refine(mF A A' c c' n n' a b w hn hn' hc hc' hm hm').mono ?_;rintro e w' ⟨A,c,he,ho,hb⟩;exact⟨A,_,c,he,rfl,ho.mg,aj7 (by omega) (by omega),hb⟩
theorem pK (w2:World)(T:TypeId)(v0 v1 u0 u1:Value):∃W,(w2.alloc (.cells #[v0,v1] T)).alloc (.cells #[u0,u1] T)=W∧W.cell? ⟨w2.heap.size,0,none⟩=some v0∧W.cell? ⟨w2.heap.size,1,none⟩=some v1∧
 W.cell? ⟨w2.heap.size+1,0,none⟩=some u0∧W.cell? ⟨w2.heap.size+1,1,none⟩=some u1∧W.heap.size=w2.heap.size+2∧Below w2.heap.size w2 W:=by
 refine⟨_,rfl,?_,?_,?_,?_,by simp,alL.alloc (by simp) _⟩
 all_goals simp[go_sem]
theorem ak2 (a b:ByteArray)(w:World)(ha:a.size≤68719476736)(hb:b.size≤68719476736)(hg:Gl w):
 Calls Tryz.prog 88 #[.string a,.string b] w fun e w'=>e= .returned (.string (ag (aj a*aj b)))∧Below w.heap.size w w':=by
 have Hg:=ala hg;clear hg;have HZ:=ala (aji (aj a) (aj b));generalize hda:decide (aj a<0)=na at HZ;generalize hdb:decide (aj b<0)=nb at HZ;have HR1:Hid (∀w,Calls Tryz.prog 53 #[.string a] w fun e w'=>∃A n c,e= .returned (.agg #[.bool na,.slice A n c])∧(mag (aj a).natAbs).length =n∧fu w' A c (aj a).natAbs ∧n≤a.size∧Below w.heap.size w w'):=by
  intro w;rw[←hda];exact read' a w ha
 have HR2:Hid (∀w,Calls Tryz.prog 53 #[.string b] w fun e w'=>∃A n c,e= .returned (.agg #[.bool nb,.slice A n c])∧(mag (aj b).natAbs).length =n∧fu w' A c (aj b).natAbs ∧n≤b.size∧Below w.heap.size w w'):=by
  intro w;rw[←hdb];exact read' b w hb
 clear hda hdb
 go_enter Tryz.func88,Tryz.ntmps88
 go_wp2_with fail
 refine(HR1.out _).mono ?_;rintro e w1 ⟨A1,n1,c1,rfl,hn1,hm1,hl1,hb1⟩;have Hn1:=ala hn1;have Hm1:=ala hm1;have Hb1:=ala hb1;clear hn1 hm1 hb1
 go_wp2_with fail
 refine(HR2.out _).mono ?_;rintro e w2 ⟨A2,n2,c2,rfl,hn2,hm2,hl2,hb2⟩;have Hn2:=ala hn2;obtain⟨W,hW,c00,c01,c10,c11,hsz,hbw⟩:=pK w2 123 (.bool na) (.slice A1 n1 c1) (.bool nb) (.slice A2 n2 c2);have HW:=ala hW;have Hsz:=ala hsz;have Hm1':=ala ((Hm1.out.up hb2).up hbw);have Hm2':=ala (hm2.up hbw);have Hb2:Hid (Below w.heap.size w W):=(Hb1.out.trans (hb2.mono Hb1.out.size)).trans (hbw.mono (ali Hb1.out.size hb2.size));clear hn2 hm2 hb2 hW hsz hbw
 go_wp2_with fail
 rw[HW.out];clear HW;obtain⟨B,hB⟩:∃B,w2.heap.size=B:=⟨_,rfl⟩;rw[hB]at c00 c01 c10 c11 Hsz⊢
 clear hB
 go_region_held3 (fun w'=>w'.cell? ⟨B,0,none⟩=some (.bool na)∧w'.cell? ⟨B,1,none⟩=some (.slice A1 n1 c1)∧w'.cell? ⟨B+1,0,none⟩=some (.bool nb)∧w'.cell? ⟨B+1,1,none⟩=some (.slice A2 n2 c2))
  (first
   |(go_keep;done)
   |exact⟨x40,x41,x42,x43⟩
   |exact⟨x30,x31,x32,x33⟩)
  (first
   |(go_at_call 156;refine(times' A1 A2 c1 c2 n1 n2 _ _ _ Hn1.out Hn2.out (by exact Hm1'.out.1) (by exact Hm2'.out.1) (by omega) (by omega)).mono ?_;rintro e w3 ⟨A3,l,c3,rfl,hl3,hm3,hl4,hk3⟩;have Hl3:=ala hl3;have Hm3:=ala hm3;have Hb3:Hid (Below w.heap.size w w3):=Hb2.out.drew.trans (hk3.mono Hb2.out.size);have l0:B<W.heap.size:=(by have:=Hsz.out;omega);have l1:B+1<W.heap.size:=(by have:=Hsz.out;omega);have x30:=(hk3.cell (p:=⟨B,0,none⟩) l0).trans c00;have x31:=(hk3.cell (p:=⟨B,1,none⟩) l0).trans c01;have x32:=(hk3.cell (p:=⟨B+1,0,none⟩) l1).trans c10;have x33:=(hk3.cell (p:=⟨B+1,1,none⟩) l1).trans c11;clear hl3 hm3)
   |(go_at_call 54;refine(text' (na !=nb) A3 c3 l _ _ Hl3.out (by exact Hm3.out) (by omega) (by exact Hg.out.below Hb3.out)).mono ?_;rintro e w4 ⟨rfl,hk4⟩;have Hb4:Hid (Below w.heap.size w w4):=Hb3.out.trans (hk4.mono Hb3.out.size);have m0:B<w3.heap.size:=alx l0 hk3.size;have m1:B+1<w3.heap.size:=alx l1 hk3.size;have x40:=(hk4.cell (p:=⟨B,0,none⟩) m0).trans x30;have x41:=(hk4.cell (p:=⟨B,1,none⟩) m0).trans x31;have x42:=(hk4.cell (p:=⟨B+1,0,none⟩) m1).trans x32;have x43:=(hk4.cell (p:=⟨B+1,1,none⟩) m1).trans x33))
 go_wp2_with fail
 go_ret
 exact⟨by rw[←HZ.out];rfl,Hb4.out⟩
def fA (x y:Int):Int:=if x<y then-1 else if x=y then 0 else 1
theorem aaw (a b:ByteArray)(w:World)(ha:a.size≤68719476736)(hb:b.size≤68719476736):
 Calls Tryz.prog 38 #[.string a,.string b] w fun e w'=>e= .returned (.int .i64 (fA (aj a) (aj b)))∧Below w.heap.size w w':=by
 generalize hda:decide (aj a<0)=na;generalize hdb:decide (aj b<0)=nb;have HR1:Hid (∀w,Calls Tryz.prog 53 #[.string a] w fun e w'=>∃A n c,e= .returned (.agg #[.bool na,.slice A n c])∧(mag (aj a).natAbs).length =n∧fu w' A c (aj a).natAbs ∧n≤a.size∧Below w.heap.size w w'):=by
  intro w;rw[←hda];exact read' a w ha
 have HR2:Hid (∀w,Calls Tryz.prog 53 #[.string b] w fun e w'=>∃A n c,e= .returned (.agg #[.bool nb,.slice A n c])∧(mag (aj b).natAbs).length =n∧fu w' A c (aj b).natAbs ∧n≤b.size∧Below w.heap.size w w'):=by
  intro w;rw[←hdb];exact read' b w hb
 have HD:Hid (decide (aj a<0)=na∧decide (aj b<0)=nb):=⟨hda,hdb⟩;clear hda hdb
 go_enter Tryz.func38,Tryz.ntmps38
 go_wp2_with fail
 refine(HR1.out _).mono ?_;rintro e w1 ⟨A1,n1,c1,rfl,hn1,hm1,hl1,hb1⟩;have Hn1:=ala hn1;have Hm1:=ala hm1;have Hb1:=ala hb1;clear hn1 hm1 hb1
 go_wp2_with fail
 refine(HR2.out _).mono ?_;rintro e w2 ⟨A2,n2,c2,rfl,hn2,hm2,hl2,hb2⟩;have Hn2:=ala hn2;obtain⟨W,hW,c00,c01,c10,c11,hsz,hbw⟩:=pK w2 123 (.bool na) (.slice A1 n1 c1) (.bool nb) (.slice A2 n2 c2);have HW:=ala hW;have Hm1':=ala ((Hm1.out.up hb2).up hbw);have Hm2':=ala (hm2.up hbw);have Hb2:Hid (Below w.heap.size w W):=(Hb1.out.trans (hb2.mono Hb1.out.size)).trans (hbw.mono (ali Hb1.out.size hb2.size));clear hn2 hm2 hb2 hW hsz hbw
 go_wp2_with fail
 rw[HW.out];clear HW;refine(wh A1 A2 c1 c2 n1 n2 _ _ _ Hn1.out Hn2.out Hm1'.out.1 Hm2'.out.1 (by omega) (by omega)).mono ?_;rintro e w3 ⟨r,rfl,hr,hr1,hr2,nn,hw3⟩;have Hr:=ala hr;have d00:w3.cell? ⟨w2.heap.size,0,none⟩=some (.bool na):=by rw[hw3];exact c00
 have d10:w3.cell? ⟨w2.heap.size+1,0,none⟩=some (.bool nb):=by rw[hw3];exact c10
 have Hb3:Hid (Below w.heap.size w w3):=by show Below _ _ _;rw[hw3];exact Hb2.out.trans (below_drewN _ _ _)
 clear hr hw3 c00 c01 c10 c11;have key:Hid ((na=false→nb=true→fA (aj a) (aj b)=1)∧(na=true→nb=false→fA (aj a) (aj b)= -1)∧(na=false→nb=false→fA (aj a) (aj b)=if r<0 then-1 else if r=0 then 0 else 1)∧(na=true→nb=true→fA (aj a) (aj b)=if r<0 then 1 else if r=0 then 0 else-1)):=by
  have h:=HD.out;have hc:=Hr.out;unfold ak7 at hc;unfold fA;rw[←h.1, ←h.2];simp only[decide_eq_true_eq,decide_eq_false_iff_not];refine⟨?_,?_,?_,?_⟩<;>intro h1 h2<;>split<;>(try split)<;>(try split)<;>(try split)<;>first|rfl|omega
 clear HD Hr;rcases Int.lt_trichotomy r 0 with h|h|h
 all_goals
  (try subst h)
  cases na<;>cases nb
  all_goals
   obtain⟨v,hv,K⟩:∃v,v=fA (aj a) (aj b)∧Hid (fA (aj a) (aj b)=v):=⟨_,rfl,rfl⟩
   first
    |rw[key.out.1 rfl rfl]at hv
    |rw[key.out.2.1 rfl rfl]at hv
    |rw[key.out.2.2.1 rfl rfl]at hv
    |rw[key.out.2.2.2 rfl rfl]at hv
   (try rw[if_pos h]at hv)
   (try rw[if_neg (show¬r<0 by omega),if_neg (show¬r=0 by omega)]at hv)
   have HV:=ala hv;clear key hv
   go_wp2_with fail
   go_ret
   refine⟨ajq ?_,Hb3.out⟩;rw[K.out,HV.out]
   first|rfl|omega
end Go.Proofs.YtjknklinhegdoaaGreatDoor
namespace Go.Proofs.YtjknklinhegdoaaGreatDoor
open Go.RowKit Go.Shelf Dec
attribute [local go_sem ↓] Go.wp_at_zero Go.wp_at_succ
theorem ae6 (A A':Option Addr)(c c' n m:Nat)(a b:Nat)(w:World)(hn:(mag a).length =n)(hn':(mag b).length =m)(hc:fu w A c a)(hc':fu w A' c' b)(hm:n≤274877906944)(hm':m≤274877906944)(hb:b≠0):
 Calls Tryz.prog 205 #[.slice A n c,.slice A' m c'] w fun e w'=>∃A k c A' k' c',e= .returned (.tuple #[.slice A k c,.slice A' k' c'])∧(mag (a/b)).length =k∧(mag (a%b)).length =k'∧fu w' A c (a/b)∧fu w' A' c' (a%b)∧k≤n∧k'≤m∧Below w.heap.size w w':=by
 subst hn hn';refine(acD A A' c c' a b w hc hc' hm hm' hb).mono ?_;rintro e w' ⟨A,c,A',c',he,h1,h2,h3⟩;refine⟨A,_,c,A',_,c',he,rfl,rfl,h1,h2,?_,?_,h3⟩
 ·rw[aC]
  exact Nat.lt_of_le_of_lt (Nat.div_le_self _ _) (aC.1 alK)
 ·rw[aC]
  exact Nat.lt_trans (Nat.mod_lt _ (by omega)) (aC.1 alK)
theorem ah2 (x y:Int)(hy:y≠0)(h:decide (x<0)=decide (y<0)):sgn false (x.natAbs/y.natAbs)=x.fdiv y∧sgn (decide (y<0)) (x.natAbs%y.natAbs)=x.fmod y:=by
 have e:=Nat.mod_add_div x.natAbs y.natAbs;have hl:=Nat.mod_lt x.natAbs (show y.natAbs>0 by omega);generalize hq:x.natAbs/y.natAbs=q at*
 generalize hr:x.natAbs%y.natAbs=r at*
 have e':(r:Int)+(y.natAbs:Int)*q=x.natAbs:=by rw[←Int.natCast_mul];omega
 unfold sgn;by_cases hx:x<0
 ·have hy':y<0:=by simpa[hx]using h
  have:=(Int.fdiv_fmod_unique' (a:=x) (b:=y) (r:= -(r:Int)) (q:=q) hy').2 ⟨by rw[show (y.natAbs:Int)= -y by omega,Int.neg_mul]at e';omega,by omega,by omega⟩;simp[hy',this.1,this.2]
 ·have hy':¬y<0:=by simpa[hx]using h
  have:=(Int.fdiv_fmod_unique (a:=x) (b:=y) (r:=(r:Int)) (q:=q) (by omega)).2 ⟨by rw[show (y.natAbs:Int)=y by omega]at e';omega,by omega,by omega⟩;simp[hy',this.1,this.2]
theorem vX (x y:Int)(hy:y≠0)(h:decide (x<0)≠decide (y<0))(hr0:x.natAbs%y.natAbs=0):sgn true (x.natAbs/y.natAbs)=x.fdiv y∧sgn (decide (y<0)) (x.natAbs%y.natAbs)=x.fmod y:=by
 have e:=Nat.mod_add_div x.natAbs y.natAbs;rw[hr0]at e⊢
 generalize hq:x.natAbs/y.natAbs=q at*
 have e':(y.natAbs:Int)*q=x.natAbs:=by rw[←Int.natCast_mul];omega
 unfold sgn;by_cases hx:x<0
 ·have hy':¬y<0:=by simpa[hx]using h
  have:=(Int.fdiv_fmod_unique (a:=x) (b:=y) (r:=0) (q:= -(q:Int)) (by omega)).2 ⟨by rw[show (y.natAbs:Int)=y by omega]at e';rw[Int.mul_neg];omega,by omega,by omega⟩;simp[hy',this.1,this.2]
 ·have hy':y<0:=by simpa[hx]using h
  have:=(Int.fdiv_fmod_unique' (a:=x) (b:=y) (r:=0) (q:= -(q:Int)) hy').2 ⟨by rw[show (y.natAbs:Int)= -y by omega,Int.neg_mul]at e';rw[Int.mul_neg];omega,by omega,by omega⟩;simp[hy',this.1,this.2]
theorem ah3 (x y:Int)(hy:y≠0)(h:decide (x<0)≠decide (y<0))(hr0:x.natAbs%y.natAbs≠0):sgn true (x.natAbs/y.natAbs+1)=x.fdiv y∧sgn (decide (y<0)) (y.natAbs-x.natAbs%y.natAbs)=x.fmod y:=by
 have e:=Nat.mod_add_div x.natAbs y.natAbs;have hl:=Nat.mod_lt x.natAbs (show y.natAbs>0 by omega);generalize hq:x.natAbs/y.natAbs=q at*
 generalize hr:x.natAbs%y.natAbs=r at*
 have e':(r:Int)+(y.natAbs:Int)*q=x.natAbs:=by rw[←Int.natCast_mul];omega
 have e2:((y.natAbs-r:Nat):Int)=y.natAbs-r:=by omega
 unfold sgn;rw[e2];by_cases hx:x<0
 ·have hy':¬y<0:=by simpa[hx]using h
  have:=(Int.fdiv_fmod_unique (a:=x) (b:=y) (r:=(y.natAbs:Int)-r) (q:= -((q+1:Nat):Int)) (by omega)).2 ⟨by rw[show (y.natAbs:Int)=y by omega]at e'⊢;rw[Int.mul_neg,Int.natCast_add,Int.mul_add];omega,by omega,by omega⟩;simp only[hy',decide_false,if_true,alu,if_false];exact⟨this.1.symm,this.2.symm⟩
 ·have hy':y<0:=by simpa[hx]using h
  have:=(Int.fdiv_fmod_unique' (a:=x) (b:=y) (r:= -((y.natAbs:Int)-r)) (q:= -((q+1:Nat):Int)) hy').2 ⟨by rw[show (y.natAbs:Int)= -y by omega]at e'⊢;rw[Int.neg_mul]at e';rw[Int.mul_neg,Int.natCast_add,Int.mul_add];omega,by omega,by omega⟩;simp only[hy',decide_true,if_true];exact⟨this.1.symm,this.2.symm⟩
theorem aiP (w:World):Mg .u64 (w.alloc (.cells #[.int .u64 1] 185)) (w.alloc (.cells #[.int .u64 1] 185)).heap.size (some ⟨w.heap.size,0,none⟩) [1]:=by
 rw[alf];exact tL w [1]
theorem plus1 (A A':Option Addr)(c c' n:Nat)(a:Nat)(w:World)(hn:(mag a).length =n)(hc:Mg .u64 w w.heap.size A (mag a))(hc':Mg .u64 w w.heap.size A' [1])(hm:n≤274877906944):
 Calls Tryz.prog 104 #[.slice A n c,.slice A' 1 c'] w fun e w'=>∃A k c,e= .returned (.slice A k c)∧(mag (a+1)).length =k∧fu w' A c (a+1)∧k≤n+1∧Below w.heap.size w w':=by
 have h1:mag 1=[1]:=zN (by decide) (by decide);refine(plus' A A' c c' n 1 a 1 w hn (by rw[h1];rfl) hc (by rw[h1];exact hc') (by omega) (by omega)).mono ?_;rintro e w' ⟨A,c,he,ho,hb⟩;refine⟨A,_,c,he,rfl,ho.mg,?_,hb⟩;rw[aC,Nat.pow_succ];have h2:a<BB^n:=aC.1 (by omega);have h3:BB^n*2≤BB^n*BB:=Nat.mul_le_mul_left _ (by decide);have h4:0<BB^n:=Nat.pow_pos bV;omega
theorem minus2 (A A':Option Addr)(c c' n m:Nat)(a b:Nat)(w:World)(hn:(mag a).length =n)(hn':(mag b).length =m)(hc:Mg .u64 w w.heap.size A (mag a))(hc':Mg .u64 w w.heap.size A' (mag b))(hm:n≤274877906944)(hle:b≤a):
 Calls Tryz.prog 105 #[.slice A n c,.slice A' m c'] w fun e w'=>∃A k c,e= .returned (.slice A k c)∧(mag (a-b)).length =k∧fu w' A c (a-b)∧k≤n∧Below w.heap.size w w':=by
 refine(aew A A' c c' n m a b w hn hn' hc hc' (by omega) hle).mono ?_;rintro e w' ⟨A,c,he,ho,hb⟩;refine⟨A,_,c,he,rfl,ho.mg,?_,hb⟩;rw[aC];exact Nat.lt_of_le_of_lt (Nat.sub_le _ _) (aC.1 (by omega))
def yP (x y:Int):ByteArray×ByteArray×Int:=if y=0 then(⟨#[]⟩,⟨#[]⟩,10)else(ag (x.fdiv y),ag (x.fmod y),0)
def DivS (x y:Int)(w:World)(e:Ending)(w':World):Prop:=e= .returned (.tuple #[.string (yP x y).1,.string (yP x y).2.1,.int .i64 (yP x y).2.2])∧Below w.heap.size w w'
theorem pW {v v' u u' t t':Value}(h:v=v')(h2:u=u')(h3:t=t'):Ending.returned (.tuple #[v,u,t])= .returned (.tuple #[v',u',t']):=by rw[h,h2,h3]
theorem ak5 (a b:ByteArray)(w:World)(ha:a.size≤68719476736)(hb:b.size≤68719476736)(hg:Gl w):
 Calls Tryz.prog 159 #[.string a,.string b] w (DivS (aj a) (aj b) w):=by
 have Hg:=ala hg;clear hg;obtain⟨na,hda⟩:∃na,decide (aj a<0)=na:=⟨_,rfl⟩;obtain⟨nb,hdb⟩:∃nb,decide (aj b<0)=nb:=⟨_,rfl⟩;have HR1:Hid (∀w,Calls Tryz.prog 53 #[.string a] w fun e w'=>∃A n c,e= .returned (.agg #[.bool na,.slice A n c])∧(mag (aj a).natAbs).length =n∧fu w' A c (aj a).natAbs ∧n≤a.size∧Below w.heap.size w w'):=by
  intro w;rw[←hda];exact read' a w ha
 have HR2:Hid (∀w,Calls Tryz.prog 53 #[.string b] w fun e w'=>∃A n c,e= .returned (.agg #[.bool nb,.slice A n c])∧(mag (aj b).natAbs).length =n∧fu w' A c (aj b).natAbs ∧n≤b.size∧Below w.heap.size w w'):=by
  intro w;rw[←hdb];exact read' b w hb
 have HD1:=ala hda;have HD2:=ala hdb;clear hda hdb;obtain⟨x,hx⟩:∃x,aj a=x:=⟨_,rfl⟩;obtain⟨y,hy⟩:∃y,aj b=y:=⟨_,rfl⟩;rw[hx]at HR1 HD1⊢
 rw[hy]at HR2 HD2⊢
 clear hx hy
 go_enter Tryz.func159,Tryz.ntmps159
 go_wp2_with fail
 refine(HR1.out _).mono ?_;rintro e w1 ⟨A1,n1,c1,rfl,hn1,hm1,hl1,hb1⟩;have Hn1:=ala hn1;have Hm1:=ala hm1;have Hb1:=ala hb1;clear hn1 hm1 hb1
 go_wp2_with fail
 refine(HR2.out _).mono ?_;rintro e w2 ⟨A2,n2,c2,rfl,hn2,hm2,hl2,hb2⟩;have Hn2:=ala hn2;obtain⟨W,hW,c00,c01,c10,c11,hsz,hbw⟩:=pK w2 123 (.bool na) (.slice A1 n1 c1) (.bool nb) (.slice A2 n2 c2);have HW:=ala hW;have Hsz:=ala hsz;have Hm1':=ala ((Hm1.out.up hb2).up hbw);have Hm2':=ala (hm2.up hbw);have Hb2:Hid (Below w.heap.size w W):=(Hb1.out.trans (hb2.mono Hb1.out.size)).trans (hbw.mono (ali Hb1.out.size hb2.size));clear hn2 hm2 hb2 hW hsz hbw;by_cases hy:y=0
 ·subst hy
  have h0:n2=0:=by rw[←Hn2.out];rfl
  subst h0
  go_wp2_with fail
  go_ret3
  exact⟨rfl,by rw[HW.out];exact Hb2.out⟩
 ·have hn0:n2≠0:=by
   intro e;have h1:=Hn2.out;rw[e]at h1;have:=nu.1 (alC h1);omega
  have q0:((n2:Int)==0)=false:=by simp;omega
  have hy2:y.natAbs≠0:=by omega
  have HY2:=ala hy2;have HY:=ala hy;have HE:Hid (yP x y=(ag (x.fdiv y),ag (x.fmod y),0)):=by show _=_;unfold yP;rw[if_neg hy]
  clear hn0 hy hy2
  go_wp2_with fail
  rw[HW.out];clear HW;obtain⟨B,hB⟩:∃B,w2.heap.size=B:=⟨_,rfl⟩;rw[hB]at c00 c01 c10 c11 Hsz⊢
  clear hB;refine(ae6 A1 A2 c1 c2 n1 n2 _ _ _ Hn1.out Hn2.out Hm1'.out Hm2'.out (by omega) (by omega) HY2.out).mono ?_;rintro e w3 ⟨A3,k3,c3,A4,k4,c4,rfl,hk3,hk4,hm3,hm4,hl3,hl4,hb3⟩;have Hk3:=ala hk3;have Hk4:=ala hk4;have Hm3:=ala hm3;have Hm4:=ala hm4;have Hm2'':=ala (Hm2'.out.up hb3);have l0:B<W.heap.size:=by have:=Hsz.out;omega
  have l1:B+1<W.heap.size:=by have:=Hsz.out;omega
  have d00:=(hb3.cell (p:=⟨B,0,none⟩) l0).trans c00;have d10:=(hb3.cell (p:=⟨B+1,0,none⟩) l1).trans c10;have d11:=(hb3.cell (p:=⟨B+1,1,none⟩) l1).trans c11;have Hs3:Hid (B+1<w3.heap.size):=alx l1 hb3.size;have Hb3:Hid (Below w.heap.size w w3):=Hb2.out.trans (hb3.mono Hb2.out.size);clear hk3 hk4 hm3 hm4 hb3 l0 l1 c00 c01 c10 c11;by_cases hs:na=nb
  ·subst hs
   have q1:(na !=na)=false:=by simp
   have HF:=ala (ah2 x y HY.out (HD1.out.trans HD2.out.symm))
   go_wp2_with fail
   have lt0:B<w3.heap.size:=by have:=Hs3.out;omega
   have lt1:B+1<w3.heap.size:=Hs3.out
   go_region_held3 (fun w'=>w'.cell? ⟨B,0,none⟩=some (.bool na)∧w'.cell? ⟨B+1,0,none⟩=some (.bool na))
    (first
     |(go_keep;done)
     |exact⟨xq0,xq1⟩
     |exact⟨xr0,xr1⟩)
    (first
     |(go_at_call 54;(with_reducible refine(text' false A3 c3 k3 _ _ Hk3.out ?_ ?_ ?_).mono ?_);(first|exact Hm3.out|exact Hm3.out.up hR3);omega;(first|exact Hg.out.below Hb3.out.drew|exact Hg.out.below HbR.out);rintro e wq ⟨rfl,hkq⟩;have hQ3:Below w3.heap.size w3 wq:=(by first|exact((alJ _ _).drew).trans hkq|exact hR3.trans (hkq.mono hR3.size));have HbQ:=ala (Hb3.out.trans (hQ3.mono Hb3.out.size));have xq0:=(hQ3.cell (p:=⟨B,0,none⟩) lt0).trans d00;have xq1:=(hQ3.cell (p:=⟨B+1,0,none⟩) lt1).trans d10)
     |(go_at_call 54;(with_reducible refine(text' na A4 c4 k4 _ _ Hk4.out ?_ ?_ ?_).mono ?_);(first|exact Hm4.out|exact Hm4.out.up hQ3);omega;(first|exact Hg.out.below Hb3.out.drew|exact Hg.out.below HbQ.out);rintro e wz ⟨rfl,hkr⟩;have hR3:Below w3.heap.size w3 wz:=(by first|exact((alJ _ _).drew).trans hkr|exact hQ3.trans (hkr.mono hQ3.size));have HbR:=ala (Hb3.out.trans (hR3.mono Hb3.out.size));have xr0:=(hR3.cell (p:=⟨B,0,none⟩) lt0).trans d00;have xr1:=(hR3.cell (p:=⟨B+1,0,none⟩) lt1).trans d10))
   all_goals
    go_wp2_with fail
    go_ret3
    refine⟨?_,by first|exact HbR.out|exact HbQ.out⟩;rw[HE.out];exact pW (by rw[←HF.out.1];rfl) (by rw[←HF.out.2,HD2.out];rfl) rfl
  ·obtain rfl:nb= !na:=by cases na<;>cases nb<;>simp_all
   have q1:(na != !na)=true:=by cases na<;>rfl
   by_cases hr:x.natAbs%y.natAbs=0
   ·have h0:k4=0:=by rw[←Hk4.out,hr];rfl
    subst h0;have HF:=ala (vX x y HY.out (by rw[HD1.out,HD2.out];exact hs) hr);clear hs hr
    go_wp2_with fail
    have lt0:B<w3.heap.size:=by have:=Hs3.out;omega
    have lt1:B+1<w3.heap.size:=Hs3.out
    go_region_held3 (fun w'=>w'.cell? ⟨B,0,none⟩=some (.bool na)∧w'.cell? ⟨B+1,0,none⟩=some (.bool (!na)))
     (first
      |(go_keep;done)
      |exact⟨xq0,xq1⟩
      |exact⟨xr0,xr1⟩)
     (first
      |(go_at_call 54;(with_reducible refine(text' true A3 c3 k3 _ _ Hk3.out ?_ ?_ ?_).mono ?_);(first|exact Hm3.out|exact Hm3.out.up hR3);omega;(first|exact Hg.out.below Hb3.out.drew|exact Hg.out.below HbR.out);rintro e wq ⟨rfl,hkq⟩;have hQ3:Below w3.heap.size w3 wq:=(by first|exact((alJ _ _).drew).trans hkq|exact hR3.trans (hkq.mono hR3.size));have HbQ:=ala (Hb3.out.trans (hQ3.mono Hb3.out.size));have xq0:=(hQ3.cell (p:=⟨B,0,none⟩) lt0).trans d00;have xq1:=(hQ3.cell (p:=⟨B+1,0,none⟩) lt1).trans d10)
      |(go_at_call 54;(with_reducible refine(text' (!na) A4 c4 0 _ _ Hk4.out ?_ ?_ ?_).mono ?_);(first|exact Hm4.out|exact Hm4.out.up hQ3);omega;(first|exact Hg.out.below Hb3.out.drew|exact Hg.out.below HbQ.out);rintro e wz ⟨rfl,hkr⟩;have hR3:Below w3.heap.size w3 wz:=(by first|exact((alJ _ _).drew).trans hkr|exact hQ3.trans (hkr.mono hQ3.size));have HbR:=ala (Hb3.out.trans (hR3.mono Hb3.out.size));have xr0:=(hR3.cell (p:=⟨B,0,none⟩) lt0).trans d00;have xr1:=(hR3.cell (p:=⟨B+1,0,none⟩) lt1).trans d10))
    all_goals
     go_wp2_with fail
     go_ret3
     refine⟨?_,by first|exact HbR.out|exact HbQ.out⟩;rw[HE.out];exact pW (by rw[←HF.out.1];rfl) (by rw[←HF.out.2,HD2.out];rfl) rfl
   ·have HF:=ala (ah3 x y HY.out (by rw[HD1.out,HD2.out];exact hs) hr)
    have hk4p:0<k4:=by
     rcases Nat.eq_zero_or_pos k4 with e|e
     ·rw[e]at Hk4;exact absurd (nu.1 (alC Hk4.out)) hr
     ·exact e
    have q2:decide ((0:Int)<(k4:Int))=true:=alI (by omega);clear hs hr
    go_wp2_with fail
    have lt0:B<w3.heap.size:=by have:=Hs3.out;omega
    have lt1:B+1<w3.heap.size:=Hs3.out;have Hlt:Hid (x.natAbs%y.natAbs≤y.natAbs):=Nat.le_of_lt (Nat.mod_lt _ (by have:=HY2.out;omega))
    go_upto_region 6 with (fail)
    go_cut [9,10] (fun s u wx=>∃A5 k5 c5 A6 k6 c6,s= .slice A5 k5 c5∧u= .slice A6 k6 c6∧k5≤68719476737∧k6≤68719476737∧Hid ((mag (x.natAbs/y.natAbs+1)).length =k5∧(mag (y.natAbs-x.natAbs%y.natAbs)).length =k6∧fu wx A5 c5 (x.natAbs/y.natAbs+1)∧fu wx A6 c6 (y.natAbs-x.natAbs%y.natAbs)∧Below w3.heap.size w3 wx))
    case first=>
     go_region_held3 (fun w'=>w'.cell? ⟨B+1,1,none⟩=some (.slice A2 n2 c2))
      (first
       |(go_keep;done)
       |exact xm1
       |exact xp1
       |(rw[World.cell?_alloc_lt _ _ _ (by exact lt1)];exact d11)
       |(rw[World.cell?_alloc_lt _ _ _ (by exact alx lt1 hM3.size)];exact xm1))
      (first
       |(go_at_call 104;(with_reducible refine(plus1 A3 _ c3 1 k3 _ _ Hk3.out ?_ ?_ ?_).mono ?_);(first|exact Hm3.out.1.up (((alJ _ w3).alloc alK _).drew)|exact Hm3.out.1.up hM3|exact Hm3.out.1.up (hM3.alloc hM3.size _));(first|exact aiP _|exact(aiP w3).up hkm);omega;rintro e wp ⟨A5,k5,c5,rfl,hk5,hm5,hl5,hkp⟩;have hP3:Below w3.heap.size w3 wp:=(by first|exact(((alJ _ w3).alloc alK _).drew).trans (hkp.mono (by show _≤(w3.alloc _).heap.size;rw[alf];exact Nat.le_succ _))|exact hM3.trans (hkp.mono hM3.size)|exact(hM3.alloc hM3.size _).trans (hkp.mono (ali hM3.size (by rw[alf];exact Nat.le_succ _))));have Hk5:=ala hk5;have Hm5:=ala hm5;have xp1:=(hP3.cell (p:=⟨B+1,1,none⟩) lt1).trans d11;clear hk5 hm5)
       |(go_at_call 105;(with_reducible refine(minus2 A2 A4 c2 c4 n2 k4 _ _ _ Hn2.out Hk4.out ?_ ?_ ?_ Hlt.out).mono ?_);(first|exact Hm2''.out.1|exact Hm2''.out.1.up (((alJ _ w3).alloc alK _).drew)|exact Hm2''.out.1.up hP3);(first|exact Hm4.out.1|exact Hm4.out.1.up (((alJ _ w3).alloc alK _).drew)|exact Hm4.out.1.up hP3);omega;rintro e wm ⟨A6,k6,c6,rfl,hk6,hm6,hl6,hkm⟩;have hM3:Below w3.heap.size w3 wm:=(by first|exact((alJ _ w3).drew).trans hkm|exact(((alJ _ w3).alloc alK _).drew).trans (hkm.mono (by show _≤(w3.alloc _).heap.size;rw[alf];exact Nat.le_succ _))|exact hP3.trans (hkm.mono hP3.size));have Hk6:=ala hk6;have Hm6:=ala hm6;have xm1:=(hM3.cell (p:=⟨B+1,1,none⟩) lt1).trans d11;clear hk6 hm6))
     all_goals
      go_wp2_with fail
      go_meet
      refine⟨A5,k5,c5,A6,k6,c6,rfl,rfl,by omega,by omega,Hk5.out,Hk6.out,?_,?_,?_⟩
      ·first|exact Hm5.out|exact Hm5.out.up hkm
      ·first|exact Hm6.out|exact Hm6.out.up hkp|exact Hm6.out.up (alL.trans (hkp.mono (by rw[alf];exact Nat.le_succ _)))
      ·first|exact hP3|exact hM3
    case rest=>
    obtain⟨A5,k5,c5,A6,k6,c6,rfl,rfl,hk5,hk6,R⟩:=hcut;have Hk5:=ala R.out.1;have Hk6:=ala R.out.2.1;have Hm5:=ala R.out.2.2.1;have Hm6:=ala R.out.2.2.2.1;have Hb6:Hid (Below w.heap.size w wc):=Hb3.out.trans (R.out.2.2.2.2.mono Hb3.out.size);have d00':=(R.out.2.2.2.2.cell (p:=⟨B,0,none⟩) lt0).trans d00;have d10':=(R.out.2.2.2.2.cell (p:=⟨B+1,0,none⟩) lt1).trans d10;have lt1':B+1<wc.heap.size:=alx lt1 R.out.2.2.2.2.size;have lt0':B<wc.heap.size:=by omega
    clear d00 d10 d11 R lt0 lt1
    go_wp2_with fail
    go_region_held3 (fun w'=>w'.cell? ⟨B,0,none⟩=some (.bool na)∧w'.cell? ⟨B+1,0,none⟩=some (.bool (!na)))
     (first
      |(go_keep;done)
      |exact⟨xq0,xq1⟩
      |exact⟨xr0,xr1⟩)
     (first
      |(go_at_call 54;(with_reducible refine(text' true A5 c5 k5 _ _ Hk5.out ?_ ?_ ?_).mono ?_);(first|exact Hm5.out|exact Hm5.out.up hR3);omega;(first|exact Hg.out.below Hb6.out.drew|exact Hg.out.below HbR.out);rintro e wq ⟨rfl,hkq⟩;have hQ3:Below wc.heap.size wc wq:=(by first|exact((alJ _ _).drew).trans hkq|exact hR3.trans (hkq.mono hR3.size));have HbQ:=ala (Hb6.out.trans (hQ3.mono Hb6.out.size));have xq0:=(hQ3.cell (p:=⟨B,0,none⟩) lt0').trans d00';have xq1:=(hQ3.cell (p:=⟨B+1,0,none⟩) lt1').trans d10')
      |(go_at_call 54;(with_reducible refine(text' (!na) A6 c6 k6 _ _ Hk6.out ?_ ?_ ?_).mono ?_);(first|exact Hm6.out|exact Hm6.out.up hQ3);omega;(first|exact Hg.out.below Hb6.out.drew|exact Hg.out.below HbQ.out);rintro e wz ⟨rfl,hkr⟩;have hR3:Below wc.heap.size wc wz:=(by first|exact((alJ _ _).drew).trans hkr|exact hQ3.trans (hkr.mono hQ3.size));have HbR:=ala (Hb6.out.trans (hR3.mono Hb6.out.size));have xr0:=(hR3.cell (p:=⟨B,0,none⟩) lt0').trans d00';have xr1:=(hR3.cell (p:=⟨B+1,0,none⟩) lt1').trans d10'))
    all_goals
     go_wp2_with fail
     go_ret3
     refine⟨?_,by first|exact HbR.out|exact HbQ.out⟩;rw[HE.out];exact pW (by rw[←HF.out.1];rfl) (by rw[←HF.out.2,HD2.out];rfl) rfl
end Go.Proofs.YtjknklinhegdoaaGreatDoor
namespace Go.Proofs.YtjknklinhegdoaaGreatDoor
open Go.RowKit Go.Shelf Dec
theorem ad2 (m:Nat):∀(l:Bytes) (n:Nat),(∀d∈l,di d=true)→n≤m→m≤18446744073709551615→
 (n*10^l.length+aX l≤m∧Lib.parseUintM m n l= .ok (n*10^l.length+aX l))∨(m<n*10^l.length+aX l∧(m=18446744073709551615→Lib.parseUintM m n l= .range)):=by
 intro l
 induction l with
 |nil=>intro n _ h _;left;simp[Lib.parseUintM,aX];exact h
 |cons d l ih=>
  intro n h hn hM;have hd:=h d alm;unfold di at hd;simp at hd;have hp:1≤10^l.length:=Nat.pow_pos (by omega);have e:n*10^(d::l).length +aX (d::l)=(n*10+(d.toNat-48))*10^l.length+aX l:=by
   rw[iD,aly,Nat.pow_succ,Nat.add_mul];grind
  rw[e];have hlow:n*10+(d.toNat-48)≤(n*10+(d.toNat-48))*10^l.length:=Nat.le_mul_of_pos_right _ hp;by_cases h1:1844674407370955162≤n
  ·right
   refine⟨by omega,fun _=>?_⟩;rw[Lib.parseUintM,if_pos hd,if_pos h1]
  ·by_cases h2:m<n*10+(d.toNat-48)
   ·right
    refine⟨by omega,fun _=>?_⟩;rw[Lib.parseUintM,if_pos hd,if_neg h1,if_pos h2]
   ·rw[Lib.parseUintM,if_pos hd,if_neg h1,if_neg h2]
    exact ih _ (fun x hx=>h x (alo _ hx)) (by omega) hM
theorem xA (z:Int):Lib.parseIntB 64 (prt z)=if-9223372036854775808≤z∧z≤9223372036854775807 then .ok z else .range :=by
 have key:∀(l:Bytes),l≠ []→(∀d∈l,di d=true)→(aX l≤18446744073709551615∧Lib.parseUintB 64 l= .ok (aX l))∨(18446744073709551615<aX l∧Lib.parseUintB 64 l= .range):=by
  intro l h0 h;unfold Lib.parseUintB;rw[if_neg h0];have:=ad2 (2^64-1) l 0 h (by omega) (by omega);simp only[Nat.zero_mul,Nat.zero_add]at this;rcases this with h|h
  ·exact .inl h
  ·exact .inr ⟨h.1,by first|exact h.2 rfl|exact h.2 trivial⟩
 unfold prt;by_cases hz:z=0
 ·subst hz;rfl
 ·rw[if_neg hz]
  unfold canon;by_cases hneg:z<0
  ·rw[if_pos hneg]
   have hne:dec z.natAbs≠ []:=fun e=>by rw[nK]at e;omega
   have hk:=key (dec z.natAbs) hne (kS _);rw[iC]at hk;unfold Lib.parseIntB;simp only[show (45:UInt8).toNat =45 from rfl];rw[if_pos (Or.inr trivial)];rcases hk with ⟨h1,h2⟩|⟨h1,h2⟩
   ·rw[h2]
    simp only[not_true_eq_false,false_and,if_false,true_and,if_true];by_cases h3:2^(64-1)<z.natAbs
    ·rw[if_pos h3,if_neg (by omega)]
    ·rw[if_neg h3,if_pos (by omega),show-(z.natAbs:Int)=z by omega]
   ·rw[h2]
    rw[if_neg (by omega)]
  ·rw[if_neg hneg]
   have hne:dec z.natAbs≠ []:=fun e=>by rw[nK]at e;omega
   have hk:=key (dec z.natAbs) hne (kS _);rw[iC]at hk;have hdg:=kS z.natAbs;cases hd:dec z.natAbs with
   |nil=>exact absurd hd hne
   |cons c r=>
    have hc:=hdg c (by rw[hd];exact alm);unfold di at hc;simp at hc;rw[hd]at hk;unfold Lib.parseIntB;simp only[if_neg (show¬(c.toNat=43∨c.toNat=45)by omega)];have hc45:¬c.toNat=45:=by omega
    rcases hk with ⟨h1,h2⟩|⟨h1,h2⟩
    ·rw[h2]
     simp only[hc45,not_false_eq_true,true_and,false_and,if_false];by_cases h3:2^(64-1)≤z.natAbs
     ·rw[if_pos h3,if_neg (by omega)]
     ·rw[if_neg h3,if_pos (by omega),show (z.natAbs:Int)=z by omega]
    ·rw[h2]
     rw[if_neg (by omega)]
def sml (z:Int):Int×Bool:=if-9223372036854775808≤z∧z≤9223372036854775807 then(z,true)else(0,false)
theorem agH (a:ByteArray):(str (prt (aj a))).size ≤a.size+1:=by
 unfold prt;split
 ·rw[fQ];simp
 ·exact wQ a
theorem agc (a:ByteArray)(w:World)(ha:a.size≤68719476736)(hg:Gl w):
 Calls Tryz.prog 267 #[.string a] w fun e w'=>e= .returned (.tuple #[.int .i64 (sml (aj a)).1,.bool (sml (aj a)).2])∧Below w.heap.size w w':=by
 have Hg:=ala hg;clear hg;have H1:=ala (fun w=>xm a w (by omega));have hsz:=agH a;by_cases h: -9223372036854775808≤aj a∧aj a≤9223372036854775807
 ·have HE:Hid (sml (aj a)=(aj a,true)):=by show _=_;unfold sml;rw[if_pos h]
  have HP:Hid (Lib.parseIntB 64 (str (prt (aj a))).data.toList = .ok (aj a)):=by show _=_;have:=xA (aj a);rw[if_pos h]at this;exact this
  have h1:=h.1;have h2:=h.2;clear h;generalize str (prt (aj a))=t at*
  generalize aj a=z at*
  go_enter Tryz.func267,Tryz.ntmps267
  go_wp2_with fail
  refine(H1.out _).mono ?_;rintro e w1 ⟨rfl,hb1⟩
  go_wp2_with fail
  refine(Any.strconv_ParseInt_10_at64_ok Tryz.laysC174 t (by omega) z HP.out _).mono ?_;rintro e w2 ⟨rfl,hw2⟩;have HB2:Hid (Below w1.heap.size w1 w2):=by
   rcases hw2 with rfl|⟨u,rfl⟩
   ·exact alJ _ _
   ·exact Lib.bytesWorld_below _ _ _
  clear hw2
  go_wp2_with fail
  go_ret2
  exact⟨by rw[HE.out];rfl,hb1.trans (HB2.out.mono hb1.size)⟩
 ·have HE:Hid (sml (aj a)=(0,false)):=by show _=_;unfold sml;rw[if_neg h]
  have HP:Hid (Lib.parseIntB 64 (str (prt (aj a))).data.toList = .range):=by show _=_;have:=xA (aj a);rw[if_neg h]at this;exact this
  clear h;generalize str (prt (aj a))=t at*
  obtain⟨tp,p,hv,_⟩:=Hg.out.2;have HVr:=ala hv;clear hv
  go_enter Tryz.func267,Tryz.ntmps267
  go_wp2_with fail
  refine(H1.out _).mono ?_;rintro e w1 ⟨rfl,hb1⟩;have Hb1:=ala hb1;clear hb1
  go_wp2_with fail
  refine(Any.strconv_ParseInt_10_at64_range_var Tryz.laysC174 t (by omega) HP.out tp p _ (pJ HVr.out Hb1.out)).mono ?_;rintro e w2 ⟨N,rfl,hN,hN2,hb2⟩;have Hb2:=ala hb2;clear hN hN2 hb2
  go_wp2_with fail
  go_ret2
  exact⟨by rw[HE.out];rfl,Hb1.out.trans (Hb2.out.mono Hb1.out.size)⟩
attribute [local go_sem ↓] Go.wp_at_zero Go.wp_at_succ
end Go.Proofs.YtjknklinhegdoaaGreatDoor
namespace Go.Proofs.YtjknklinhegdoaaGreatDoor
open Go.RowKit Go.Shelf Dec
attribute [local go_sem] Oper.semAt_some
theorem ado (A A':Option Addr)(n n' c c':Nat)(w:World):
 Calls Tryz.prog 204 #[.slice A n c,.slice A' n' c'] w fun e w'=>e= .returned (.func (.func 247) #[] #[.pointer (some ⟨w.heap.size,0,none⟩),.pointer (some ⟨w.heap.size+1,0,none⟩)])∧
  w'=(w.alloc (.cells #[.slice A n c] 121)).alloc (.cells #[.slice A' n' c'] 121):=by
 go_enter Tryz.func204,Tryz.ntmps204
 go_wp2
 go_ret
 exact⟨rfl,rfl⟩
def rD (W:World)(B:Nat):Prop:=∀o g,W.cell? ⟨B,o,none⟩≠some (.int .u64 g)
theorem rD.box {W:World}{B:Nat}{t:TypeId}{A:Option Addr}{n c:Nat}(h:Boxed W B t (.slice A n c)):rD W B:=by
 intro o g e;have hh:W.heap[B]? =some (.cells #[.slice A n c] t (0,0)):=h;unfold World.cell? at e;rw[hh]at e;cases o with
 |zero=>simp at e
 |succ o=>simp at e
theorem rD.loop {W:World}{B:Nat}{r:Loop}(h:W.heap[B]? =some (.loop r)):rD W B:=by
 intro o g e;unfold World.cell? at e;rw[h]at e;simp at e
theorem fu.grown {W W':World}{A:Option Addr}{c n:Nat}{row:Nat}(h:fu W A c n)(hg:W.grownBy W' (some row))(hr:rD W row):fu W' A c n:=by
 refine⟨fun i g hi=>?_,h.2⟩;obtain⟨b,o,hA,hB,hcell⟩:=h.1 i g hi;refine⟨b,o,hA,alx hB hg.size,?_⟩;have hne:b≠row:=by rintro rfl;exact hr _ _ hcell
 exact(World.cell?_of_block (w:=W) (w':=W') (a:=⟨b,o+i,none⟩) (hg.block b hB (fun e=>hne (by injection e)))).trans hcell
structure GS (w:World) (Bo Bm Bn l D:Nat) (rec:Loop) (x y:Nat) (A:Option Addr) (n c:Nat) (A':Option Addr) (n' c':Nat) (A0:Option Addr) (n0 c0:Nat) (W:World):Prop where
 bm:Boxed W Bm 121 (.slice A n c)
 bn:Boxed W Bn 121 (.slice A' n' c')
 bo:Boxed W Bo 121 (.slice A0 n0 c0)
 hn:(mag x).length =n
 hn':(mag y).length =n'
 mx:fu W A c x
 my:fu W A' c' y
 lp:W.heap[l]? =some (.loop rec)
 df:W.heap[D]? =some (.deferred (some []))
 below:Below w.heap.size w W
theorem aN {W W':World}{B:Nat}{t:TypeId}{v:Value}(h:Boxed W B t v)(hb:Below W.heap.size W W'):Boxed W' B t v:=(hb.block B h.lt).trans h
theorem GS.up {w:World}{Bo Bm Bn l D:Nat}{rec:Loop}{x y:Nat}{A A' A0:Option Addr}{n c n' c' n0 c0:Nat}{W W':World}(h:GS w Bo Bm Bn l D rec x y A n c A' n' c' A0 n0 c0 W)(hb:Below W.heap.size W W'):GS w Bo Bm Bn l D rec x y A n c A' n' c' A0 n0 c0 W':=
 ⟨aN h.bm hb,aN h.bn hb,aN h.bo hb,h.hn,h.hn',h.mx.up hb,h.my.up hb,(hb.block l (alc.1 h.lp).1).trans h.lp,(hb.block D (alc.1 h.df).1).trans h.df,h.below.trans (hb.mono h.below.size)⟩
theorem adp (w:World)(Bo Bm Bn l D L G:Nat)(rec:Loop)(hne:Bm≠Bn∧Bm≠Bo∧Bn≠Bo∧Bm≠l∧Bn≠l∧Bm≠D∧Bn≠D)(hlo:w.heap.size≤Bm∧w.heap.size≤Bn)(hL:L≤274877906944)
 (hY:∀x y A n c A' n' c' A0 n0 c0 W1,GS w Bo Bm Bn l D rec x y A n c A' n' c' A0 n0 c0 W1→YieldAt Fence.wide 4 Tryz.prog l #[.slice A n c,.slice A' n' c'] W1 fun e W'=>e= .returned (.bool true)∧GS w Bo Bm Bn l D rec x y A n c A' n' c' A n c W')
 (x y:Nat) (A:Option Addr) (n c:Nat) (A':Option Addr) (n' c':Nat) (A0:Option Addr) (n0 c0:Nat) (W:World) (hg:Nat.gcd x y=G) (hnL:n≤L) (hnL':n'≤L) (h0:GS w Bo Bm Bn l D rec x y A n c A' n' c' A0 n0 c0 W):
 CallsIn Fence.wide 5 Tryz.prog 247 #[.func (.yield l) #[] #[],.pointer (some ⟨Bm,0,none⟩),.pointer (some ⟨Bn,0,none⟩)] W fun en W'=>(∃v,en= .returned v)∧
  ∃A n c A' n' c',n≤L∧GS w Bo Bm Bn l D rec G 0 A n c A' n' c' A n c W':=by
 have HY:=ala hY;have Hne:=ala hne;have Hlo:=ala hlo;have Hg:=ala hg;have H0:=ala h0;clear hY hne hlo hg h0;refine callsIn_of_wp Tryz.func247 rfl trivial ?_ rfl;simp only[Tryz.ntmps247,List.size_toArray,aly,List.length_nil,Nat.reduceAdd,Nat.reduceSub,Array.replicate_succ,Array.replicate_zero,List.push_toArray,List.append_toArray,List.nil_append,List.cons_append]
 gi_wp2_with fail
 gi_loopg [4] y (fun gk s wr=>∃(x:Nat) (A:Option Addr) (n c:Nat) (A':Option Addr) (n' c':Nat) (A0:Option Addr) (n0 c0:Nat),n≤L∧n'≤L∧Hid (Nat.gcd x gk=G∧GS w Bo Bm Bn l D rec x gk A n c A' n' c' A0 n0 c0 wr))
 case atStart=>exact⟨x,A,n,c,A',n',c',A0,n0,c0,hnL,hnL',Hg.out,H0.out⟩
 case round=>
  obtain⟨x,A,n,c,A',n',c',A0,n0,c0,hnL,hnL',H⟩:=hrel;have cm:=H.out.2.bm.cell;have cn:=H.out.2.bn.cell;obtain⟨fn,tmps,assign,body,hy,hR⟩:=HY.out _ _ _ _ _ _ _ _ _ _ _ _ H.out.2;have HRR:=ala hR;clear hR;by_cases hk0:gk=0
  ·subst hk0
   have hn0:n'=0:=by rw[←H.out.2.hn'];rfl
   subst hn0;obtain rfl:x=G:=by have:=H.out.1;rwa[Nat.gcd_zero_right]at this
   gi_wp2_with fail
   refine HRR.out.mono ?_;rintro e W3 ⟨rfl,hG⟩;have HG:=ala hG;have cn3:=hG.bn.cell;clear hG
   gi_wp2_with fail
   go_end0
   exact⟨⟨_,rfl⟩,A,n,c,A',0,c',hnL,HG.out⟩
  ·have hn0:n'≠0:=fun e=>hk0 (nu.1 (alC (by rw[H.out.2.hn',e])))
   have hpos:0<n':=by omega
   have q:decide (0<n')=true:=alI hpos;have Hk0:=ala hk0;clear hk0 hn0
   gi_wp2_with fail
   refine HRR.out.mono ?_;rintro e W3 ⟨rfl,hG⟩;have HG:=ala hG;have cn3:=hG.bn.cell;have cm3:=hG.bm.cell;clear hG
   gi_wp2_with fail
   refine⟨trivial,(callsIn_wide.2 (ae6 A A' c c' n n' _ _ _ HG.out.hn HG.out.hn' HG.out.mx HG.out.my (by omega) (by omega) Hk0.out)).mono ?_⟩;rintro e w4 ⟨A3,k3,c3,A4,k4,c4,rfl,hk3,hk4,hm3,hm4,hl3,hl4,hb4⟩;have HG4:=ala (HG.out.up hb4);have Hk4:=ala hk4;have Hm4:=ala hm4;have cn4:=HG4.out.bn.cell;have cm4:=HG4.out.bm.cell;have fn4:=HG4.out.bn.frozen;have fm4:=HG4.out.bm.frozen;clear hk3 hk4 hm3 hm4 hb4 cn3 cm3;have cnx:∀v,(w4.setCell ⟨Bm,0,none⟩ v).cell? ⟨Bn,0,none⟩=some (.slice A' n' c'):=fun v=>(HG4.out.bn.other (fun e=>Hne.out.1 e.symm) v).cell
   have fnx:∀v,(w4.setCell ⟨Bm,0,none⟩ v).frozen? ⟨Bn,0,none⟩=false:=fun v=>(HG4.out.bn.other (fun e=>Hne.out.1 e.symm) v).frozen
   gi_wp2_with fail
   gi_roundg (x%gk)
   case rel=>
    refine⟨gk,A',n',c',A4,k4,c4,A,n,c,hnL',by omega,?_,?_⟩
    ·rw[←H.out.1,Nat.gcd_comm gk, ←Nat.gcd_rec,Nat.gcd_comm]
    ·have h1:=rD.box HG4.out.bm
     have g1:=grownBy_setCell' w4 Bm (.slice A' n' c');have h2:=rD.box (HG4.out.bn.other (fun e=>Hne.out.1 e.symm) (.slice A' n' c'));have g2:=grownBy_setCell' (w4.setCell ⟨Bm,0,none⟩ (.slice A' n' c')) Bn (.slice A4 k4 c4);refine⟨(HG4.out.bm.set _).other Hne.out.1 _,(HG4.out.bn.other (fun e=>Hne.out.1 e.symm) _).set _,(HG4.out.bo.other (fun e=>Hne.out.2.1 e.symm) _).other (fun e=>Hne.out.2.2.1 e.symm) _,HG4.out.hn',Hk4.out,(HG4.out.my.grown g1 h1).grown g2 h2,(Hm4.out.grown g1 h1).grown g2 h2,?_,?_,(HG4.out.below.setCell Hlo.out.1 _).setCell Hlo.out.2 _⟩
     ·rw[alv _ _ _ _ (fun e=>Hne.out.2.2.2.2.1 e.symm),alv _ _ _ _ (fun e=>Hne.out.2.2.2.1 e.symm)]
      exact HG4.out.lp
     ·rw[alv _ _ _ _ (fun e=>Hne.out.2.2.2.2.2.2 e.symm),alv _ _ _ _ (fun e=>Hne.out.2.2.2.2.2.1 e.symm)]
      exact HG4.out.df
   case measure=>exact Nat.mod_lt _ (Nat.pos_of_ne_zero Hk0.out)
theorem gu {F:Fence}{n:Nat}{P:Program}{g:Operand}{ps:Array Tmp}{assign body:Code}{Q:Exit→Act→World→Prop}{a:Act}{w:World}(hro:F.round=none)(h1:1≤n){gf:Nat}{lb:Array Value}
 (hg:a.eval g= .func (.func gf) #[] lb) (hFg:F.fn gf) (eg:∀args w,(callFunc gf args).run P w= .ok (.enter gf args) w)
 (h:∀fn,F.fn fn→∀r:Loop,r= {state:=.ready,pending:=none,fn:=fn,tmps:=a.tmps,params:=ps,assign:=assign,body:=body,defers:=w.heap.size}→
  CallsIn F (n-1) P gf (#[.func (.yield (w.heap.size+1)) #[] #[]]++lb) ((w.alloc (.deferred (some []))).alloc (.loop r)) (rangePost F n P (w.heap.size+1) Q {a with defers:=[{target:=.collected w.heap.size,args:= #[]}]++a.defers})):
 (Code.rangeFunc g ps assign body).wpIn F n P Q a w:=by
 refine wpIn_rangeFunc fun fn hfn=>?_
 rw[hro];obtain⟨r,hr⟩:∃r:Loop,r= {state:=.ready,pending:=none,fn:=fn,tmps:=a.tmps,params:=ps,assign:=assign,body:=body,defers:=w.heap.size}:=⟨_,rfl⟩;have hc:=h fn hfn r hr;have he:=run_enterLoop_outer (P:=P) (w:=w) fn a.tmps ps assign body;rw[←hr]at he;obtain⟨W1,hW1⟩:∃W1,(w.alloc (.deferred (some []))).alloc (.loop r)=W1:=⟨_,rfl⟩;rw[hW1]at hc he;refine⟨w.heap.size+1,[{target:=.collected w.heap.size,args:= #[]}],W1,{target:=.fn (.func gf) lb,args:= #[.func (.yield (w.heap.size+1)) #[] #[]]},W1,gf, #[.func (.yield (w.heap.size+1)) #[] #[]]++lb,W1,?_,?_,?_,?_,fun _=>h1,?_⟩
 ·exact he
 ·simp only[resolve,hg]
  simp[go_sem]
 ·intro f' hf';simp[Target.leads]at hf';subst hf';exact hFg
 ·simp[invoke,go_sem,eg]
 ·exact hc
theorem dF {W:World}{B l:Nat}{t:TypeId}{v:Value}(h:Boxed W B t v)(hne:B≠l)(o:Obj):Boxed (W.putObj l o) B t v:=(World.putObj_heap_other hne).trans h
theorem aJ {w W:World}{l:Nat}(h:Below w.heap.size w W)(hl:w.heap.size≤l)(o:Obj):Below w.heap.size w (W.putObj l o):=
 h.trans ⟨rfl,rfl,rfl,by simp,fun k hk=>World.putObj_heap_other (by omega)⟩
theorem GS.round {w:World}{Bo Bm Bn l D:Nat}{r:Loop}{x y:Nat}{A A' A0:Option Addr}{n c n' c' n0 c0:Nat}{W:World}(h:GS w Bo Bm Bn l D r x y A n c A' n' c' A0 n0 c0 W)(hs:r.state= .ready)(hp:r.pending=none)
 (hne:Bm≠l∧Bn≠l∧Bo≠l∧D≠l∧Bm≠Bo∧Bn≠Bo∧D≠Bo) (hlo:w.heap.size≤Bo∧w.heap.size≤l):
 GS w Bo Bm Bn l D r x y A n c A' n' c' A n c (((W.putObj l (.loop {r with state:=.busy})).setCell ⟨Bo,0,none⟩ (.slice A n c)).putObj l (.loop {r with state:=if (none:Option Code).isNone then .ready else .done,pending:=none})):=by
 obtain⟨n1,n2,n3,n4,n5,n6,n7⟩:=hne;have hll:l<W.heap.size:=(alc.1 h.lp).1;have hlp1:(W.putObj l (.loop {r with state:=.busy})).heap[l]? =some (.loop {r with state:=.busy}):=World.putObj_heap_same hll;have g1:=grownBy_putObj' W l (.loop {r with state:=.busy});have k1:=rD.loop h.lp;have b1:=dF h.bo n3 (.loop {r with state:=.busy});have g2:=grownBy_setCell' (W.putObj l (.loop {r with state:=.busy})) Bo (.slice A n c);have k2:=rD.box b1;have hlp2:((W.putObj l (.loop {r with state:=.busy})).setCell ⟨Bo,0,none⟩ (.slice A n c)).heap[l]? =some (.loop {r with state:=.busy}):=(alv _ _ _ _ n3.symm).trans hlp1;have k3:=rD.loop hlp2;have g3:=grownBy_putObj' ((W.putObj l (.loop {r with state:=.busy})).setCell ⟨Bo,0,none⟩ (.slice A n c)) l (.loop {r with state:=if (none:Option Code).isNone then .ready else .done,pending:=none});have hr:({r with state:=if (none:Option Code).isNone then LoopState.ready else .done,pending:=none}:Loop)=r:=by cases r;simp_all
 refine⟨dF ((dF h.bm n1 _).other n5 _) n1 _,dF ((dF h.bn n2 _).other n6 _) n2 _,dF (b1.set _) n3 _,h.hn,h.hn',((h.mx.grown g1 k1).grown g2 k2).grown g3 k3,((h.my.grown g1 k1).grown g2 k2).grown g3 k3,?_,?_,?_⟩
 ·rw[World.putObj_heap_same (alc.1 hlp2).1,hr]
 ·rw[World.putObj_heap_other n4,alv _ _ _ _ n7,World.putObj_heap_other n4]
  exact h.df
 ·exact aJ ((aJ h.below hlo.2 _).setCell hlo.1 _) hlo.2 _
theorem ak4 (a b:ByteArray)(w:World)(ha:a.size≤68719476736)(hb:b.size≤68719476736)(hg:Gl w):
 Calls Tryz.prog 158 #[.string a,.string b] w fun e w'=>e= .returned (.string (ag (Nat.gcd (aj a).natAbs (aj b).natAbs :Nat)))∧Below w.heap.size w w':=by
 have Hg:=ala hg;clear hg;have HR1:=ala (fun w=>read' a w ha);have HR2:=ala (fun w=>read' b w hb);generalize decide (aj a<0)=na at*
 generalize decide (aj b<0)=nb at*
 generalize (aj a).natAbs =x at*
 generalize (aj b).natAbs =y at*
 refine(callsIn_wide (n:=6)).1 ?_;refine callsIn_of_wp_marks Tryz.func158 rfl trivial ?_ rfl;simp only[Tryz.ntmps158,List.size_toArray,aly,List.length_nil,Nat.reduceAdd,Nat.reduceSub,Array.replicate_succ,Array.replicate_zero,List.push_toArray,List.append_toArray,List.nil_append,List.cons_append];have hfld:∀(v u:Value) (W:World),(Instr.field 123 (.agg #[v,u]) 1).run Tryz.prog W= .ok u W:=fun _ _ _=>by kernel_rfl
 have Hb0:Hid (Below w.heap.size w (w.alloc (.cells #[.slice none 0 0] 121))):=alL;have Hbox0:Hid (Boxed (w.alloc (.cells #[.slice none 0 0] 121)) w.heap.size 121 (.slice none 0 0)):=Boxed.new _ _ _;have hs0:(w.alloc (.cells #[.slice none 0 0] 121)).heap.size =w.heap.size+1:=alf _ _;have Hs0:=ala hs0;clear hs0
 gi_wp2_with fail
 generalize w.alloc (.cells #[.slice none 0 0] 121)=w0 at*
 refine⟨trivial,(callsIn_wide.2 (HR1.out _)).mono ?_⟩;rintro e w1 ⟨A1,n1,c1,rfl,hn1,hm1,hl1,hb1⟩;have Hn1:=ala hn1;have Hm1:=ala hm1;have Hb1:=ala hb1;clear hn1 hm1 hb1
 gi_wp2_with fail
 refine⟨trivial,(callsIn_wide.2 (HR2.out _)).mono ?_⟩;rintro e w2 ⟨A2,n2,c2,rfl,hn2,hm2,hl2,hb2⟩;have Hn2:=ala hn2;have Hm2:=ala hm2;have Hb2:=ala hb2;clear hn2 hm2 hb2
 gi_wp2_with fail
 refine⟨trivial,(callsIn_wide.2 (ado _ _ _ _ _ _ _)).mono ?_⟩;rintro e w3 ⟨rfl,hw3⟩
 gi_wp2_with fail
 have hs2:w.heap.size+1≤w2.heap.size:=by have h1:=Hb1.out.size;have h2:=Hb2.out.size;have h3:=Hs0.out;omega
 have Hb3:Hid (Below w.heap.size w w3):=by
  show Below _ _ _;rw[hw3];exact(((Hb0.out.trans (Hb1.out.mono Hb0.out.size)).trans (Hb2.out.mono (ali Hb0.out.size Hb1.out.size))).alloc (by omega) _).alloc (by simp;omega) _
 have hs3:w3.heap.size=w2.heap.size+2:=by rw[hw3];simp
 have hb23:Below w2.heap.size w2 w3:=by rw[hw3];exact alL.alloc (by simp) _
 have Bm3:Hid (Boxed w3 w2.heap.size 121 (.slice A1 n1 c1)):=by show Boxed _ _ _ _;rw[hw3];exact(Boxed.new _ _ _).alloc _
 have Bn3:Hid (Boxed w3 (w2.heap.size+1) 121 (.slice A2 n2 c2)):=by
  show Boxed _ _ _ _;rw[hw3];have:=Boxed.new (w2.alloc (.cells #[.slice A1 n1 c1] 121)) 121 (.slice A2 n2 c2);rwa[alf]at this
 have Bo3:Hid (Boxed w3 w.heap.size 121 (.slice none 0 0)):=aN (aN (aN Hbox0.out Hb1.out) Hb2.out) hb23;have Mx3:=ala ((Hm1.out.up Hb2.out).up hb23);have My3:=ala (Hm2.out.up hb23);have Hs3:=ala hs3;rw[←hw3];clear hw3 hb23 hs3;refine gu rfl (by omega) rfl trivial (enters_of Tryz.func247 (by kernel_rfl) rfl) ?_;intro fn hfn r hr;have hst:r.state= .ready :=by rw[hr]
 have hpe:r.pending=none:=by rw[hr]
 have HS:Hid (GS w w.heap.size w2.heap.size (w2.heap.size+1) (w3.heap.size+1) w3.heap.size r x y A1 n1 c1 A2 n2 c2 none 0 0 ((w3.alloc (.deferred (some []))).alloc (.loop r))):=by
  have hbb:Below w3.heap.size w3 ((w3.alloc (.deferred (some []))).alloc (.loop r)):=alL.alloc (by simp) _;refine⟨aN Bm3.out hbb,aN Bn3.out hbb,aN Bo3.out hbb,Hn1.out,Hn2.out,Mx3.out.up hbb,My3.out.up hbb,?_,?_,Hb3.out.trans (hbb.mono Hb3.out.size)⟩
  ·have:=World.alloc_heap_new (w3.alloc (.deferred (some []))) (.loop r)
   rwa[alf]at this
  ·exact(Below.heap_alloc _ _ _ (by simp)).trans (World.alloc_heap_new w3 _)
 refine(adp w w.heap.size w2.heap.size (w2.heap.size+1) (w3.heap.size+1) w3.heap.size 68719476736 (Nat.gcd x y) r (by have:=Hs3.out;omega) (by omega) (by omega) ?_ x y A1 n1 c1 A2 n2 c2 none 0 0 _ rfl (by omega) (by omega) HS.out).mono ?_
 ·intro x y A n c A' n' c' A0 n0 c0 W1 hG
  have hne:w2.heap.size≠w3.heap.size+1∧w2.heap.size+1≠w3.heap.size+1∧w.heap.size≠w3.heap.size+1∧w3.heap.size≠w3.heap.size+1∧w2.heap.size≠w.heap.size∧w2.heap.size+1≠w.heap.size∧w3.heap.size≠w.heap.size:=by have:=Hs3.out;omega
  have hR:=hG.round hst hpe hne ⟨Nat.le_refl _,by have:=Hs3.out;omega⟩;have hy:=run_yield (P:=Tryz.prog) (args:= #[.slice A n c,.slice A' n' c']) hG.lp (by rw[hr];rfl);refine⟨_,_,_,_,hy,roundIn_of_wpIn (by rw[hr];exact hfn) ?_⟩;have e1:=congrArg Loop.assign hr;have e2:=congrArg Loop.body hr;have e3:=congrArg Loop.tmps hr;have e4:=congrArg Loop.params hr;dsimp only at e1 e2 e3 e4;rw[e1,e2,e3,e4];have HG:=ala hG;have HRd:=ala hR;have Hst:=ala hst;have b1:=dF hG.bo hne.2.2.1 (.loop {r with state:=.busy});have cB:=b1.cell;have fB:=b1.frozen;have Hlp:Hid (((W1.putObj (w3.heap.size+1) (.loop {r with state:=.busy})).setCell ⟨w.heap.size,0,none⟩ (.slice A n c)).heap[w3.heap.size+1]? =some (.loop {r with state:=.busy})):=
   (alv _ _ _ _ hne.2.2.1.symm).trans (World.putObj_heap_same (alc.1 hG.lp).1)
  clear e1 e2 e3 e4 hr hy hG hR hst hpe hne b1 HS
  gi_wp2_with fail
  refine⟨_,run_beginRound HG.out.lp Hst.out,?_⟩
  gi_wp2_with fail
  refine⟨_,_,run_endRound none Hlp.out,rfl,HRd.out⟩
 ·rintro e W4 ⟨⟨v,rfl⟩,A,n,c,A',n',c',hnL,hG⟩
  obtain⟨o5,ho5⟩:∃o5:Obj,o5= .loop {r with state:=.exhausted}:=⟨_,rfl⟩;have hend:=run_endLoop (P:=Tryz.prog) hG.lp (by rw[hst];decide);rw[←ho5]at hend;clear ho5;rw[hpe]at hend;have hnl:w.heap.size≠w3.heap.size+1:=by have:=Hs3.out;omega
  have b1:=dF hG.bo hnl o5;have cB:=b1.cell;have HM:Hid (fu (W4.putObj (w3.heap.size+1) o5) A c (Nat.gcd x y)):=hG.mx.grown (grownBy_putObj' _ _ _) (rD.loop hG.lp);have Hn:=ala hG.hn;have HB5:Hid (Below w.heap.size w (W4.putObj (w3.heap.size+1) o5)):=aJ hG.below (by have:=Hs3.out;omega) _;have HD5:Hid ((W4.putObj (w3.heap.size+1) o5).heap[w3.heap.size]? =some (.deferred (some []))):=(World.putObj_heap_other (by omega)).trans hG.df;obtain⟨W5,hW5⟩:∃W5,W4.putObj (w3.heap.size+1) o5=W5:=⟨_,rfl⟩;rw[hW5]at hend cB HM HB5 HD5;have hs5:w3.heap.size<W5.heap.size:=(alc.1 HD5.out).1;refine⟨none,W5,hend,?_⟩;clear hr hG hst hpe b1 HS hW5 hend
  gi_wp2_with fail
  refine⟨trivial,(callsIn_wide.2 (text' false A c n _ _ Hn.out HM.out (by omega) (Hg.out.below HB5.out))).mono ?_⟩;rintro e w6 ⟨rfl,hb6⟩;have HB6:=ala hb6;clear hb6
  gi_wp2_with fail
  have hd6:w6.heap[w3.heap.size]? =some (.deferred (some [])):=(HB6.out.block _ hs5).trans HD5.out;refine⟨by simp,.inl ⟨_,_,rfl,run_takeDeferred hd6,?_⟩⟩;refine⟨_,results_tmp rfl _ _ _,rfl,aJ (HB5.out.trans (HB6.out.mono HB5.out.size)) (by have:=Hs3.out;omega) _⟩
end Go.Proofs.YtjknklinhegdoaaGreatDoor
namespace Go.Proofs.YtjknklinhegdoaaGreatDoor
open Go.RowKit Go.Shelf Dec
theorem akY (a:ByteArray):(aj a).natAbs <10^a.size:=by
 unfold aj;rw[uz];have h1:=lH (ic (bytes a)) (oV _);have h2:=lY (bytes a);rw[←bP]at h2;have h3:10^(ic (bytes a)).length ≤10^a.size:=Nat.pow_le_pow_right (by omega) (by omega);omega
theorem pU {z:Int}{k:Nat}(h:z.natAbs<10^k):(ag z).size ≤k+1:=by
 unfold ag;rw[fQ];have:=aad.2 h;unfold canon;split<;>simp<;>omega
def Fit (k:Nat)(z:Int):Prop:=z.natAbs<10^k
theorem Fit.val {a:ByteArray}{k:Nat}(h:a.size≤k):Fit k (aj a):=alx (akY a) (Nat.pow_le_pow_right (by omega) h)
theorem Fit.mono {k m:Nat}{z:Int}(h:Fit k z)(hk:k≤m):Fit m z:=alx h (Nat.pow_le_pow_right (by omega) hk)
theorem Fit.sub {k:Nat}{y z:Int}(h:Fit k y)(h2:Fit k z):Fit (k+1) (y-z):=by
 unfold Fit at*
 rw[Nat.pow_succ];have:(y-z).natAbs ≤y.natAbs+z.natAbs:=Int.natAbs_sub_le y z;omega
theorem Fit.mul {k m:Nat}{y z:Int}(h:Fit k y)(h2:Fit m z):Fit (k+m) (y*z):=by
 unfold Fit at*
 rw[Nat.pow_add,Int.natAbs_mul];exact Nat.mul_lt_mul_of_lt_of_le h (Nat.le_of_lt h2) (Nat.pow_pos (by omega))
theorem Fit.size {k:Nat}{z:Int}(h:Fit k z):(ag z).size ≤k+1:=pU h
def Vs (s:ByteArray)(z:Int):Prop:=aj s=z∧s.size≤1000000
theorem Vs.arg {s:ByteArray}(h:s.size≤1000000):Vs s (aj s):=⟨rfl,h⟩
theorem Vs.can {z:Int}{k:Nat}(h:Fit k z)(hk:k≤999999):Vs (ag z) z:=⟨aW z,by have:=h.size;omega⟩
theorem Vs.nil:Vs ⟨#[]⟩ 0:=⟨rfl,by decide⟩
theorem Fit.fdiv {k:Nat}{x y:Int}(h:Fit k x):Fit (k+1) (x.fdiv y):=by
 unfold Fit at*
 rw[Nat.pow_succ];have h1:(x.fdiv y).natAbs ≤x.natAbs+1:=by
  rcases Int.lt_trichotomy y 0 with hy|hy|hy
  ·have e:x.fdiv y=(-x).fdiv (-y):=(Int.neg_fdiv_neg x y).symm
   rw[e];have h2:=Int.fdiv_eq_ediv_of_nonneg (-x) (b:= -y) (by omega);rw[h2];have:=Int.natAbs_ediv_le_natAbs (-x) (-y);omega
  ·subst hy;simp
  ·rw[Int.fdiv_eq_ediv_of_nonneg x (by omega)]
   have:=Int.natAbs_ediv_le_natAbs x y;omega
 have:1≤10^k:=Nat.pow_pos (by omega);omega
theorem AddV {a b:ByteArray}{x y:Int}(h1:Vs a x)(h2:Vs b y)(w:World)(hg:Gl w):
 Calls Tryz.prog 20 #[.string a,.string b] w fun e w'=>e= .returned (.string (ag (x+y)))∧Below w.heap.size w w':=by
 have:=ak9 a b w (by have:=h1.2;omega) (by have:=h2.2;omega) hg;rw[h1.1,h2.1]at this;exact this
theorem SubV {a b:ByteArray}{x y:Int}(h1:Vs a x)(h2:Vs b y)(w:World)(hg:Gl w):
 Calls Tryz.prog 47 #[.string a,.string b] w fun e w'=>e= .returned (.string (ag (x-y)))∧Below w.heap.size w w':=by
 have:=ak0 a b w (by have:=h1.2;omega) (by have:=h2.2;omega) hg;rw[h1.1,h2.1]at this;exact this
theorem MulV {a b:ByteArray}{x y:Int}(h1:Vs a x)(h2:Vs b y)(w:World)(hg:Gl w):
 Calls Tryz.prog 88 #[.string a,.string b] w fun e w'=>e= .returned (.string (ag (x*y)))∧Below w.heap.size w w':=by
 have:=ak2 a b w (by have:=h1.2;omega) (by have:=h2.2;omega) hg;rw[h1.1,h2.1]at this;exact this
theorem NegV {a:ByteArray}{x:Int}(h1:Vs a x)(w:World)(hg:Gl w):
 Calls Tryz.prog 157 #[.string a] w fun e w'=>e= .returned (.string (ag (-x)))∧Below w.heap.size w w':=by
 have:=ak1 a w (by have:=h1.2;omega) hg;rw[h1.1]at this;exact this
theorem CmpV {a b:ByteArray}{x y:Int}(h1:Vs a x)(h2:Vs b y)(w:World):
 Calls Tryz.prog 38 #[.string a,.string b] w fun e w'=>e= .returned (.int .i64 (fA x y))∧Below w.heap.size w w':=by
 have:=aaw a b w (by have:=h1.2;omega) (by have:=h2.2;omega);rw[h1.1,h2.1]at this;exact this
theorem DivV {a b:ByteArray}{x y:Int}(h1:Vs a x)(h2:Vs b y)(w:World)(hg:Gl w):
 Calls Tryz.prog 159 #[.string a,.string b] w fun e w'=>e= .returned (.tuple #[.string (yP x y).1,.string (yP x y).2.1,.int .i64 (yP x y).2.2])∧Below w.heap.size w w':=by
 have:=ak5 a b w (by have:=h1.2;omega) (by have:=h2.2;omega) hg;rw[h1.1,h2.1]at this;exact this.mono fun _ _ h=>h
theorem DivN {a b:ByteArray}{x y:Int}(h1:Vs a x)(h2:Vs b y)(hy:y≠0)(w:World)(hg:Gl w):
 Calls Tryz.prog 159 #[.string a,.string b] w fun e w'=>e= .returned (.tuple #[.string (ag (x.fdiv y)),.string (ag (x.fmod y)),.int .i64 0])∧Below w.heap.size w w':=by
 have:=DivV h1 h2 w hg;unfold yP at this;rw[if_neg hy]at this;exact this
theorem GcdV {a b:ByteArray}{x y:Int}(h1:Vs a x)(h2:Vs b y)(w:World)(hg:Gl w):
 Calls Tryz.prog 158 #[.string a,.string b] w fun e w'=>e= .returned (.string (ag (Nat.gcd x.natAbs y.natAbs:Nat)))∧Below w.heap.size w w':=by
 have:=ak4 a b w (by have:=h1.2;omega) (by have:=h2.2;omega) hg;rw[h1.1,h2.1]at this;exact this
theorem CanV {a:ByteArray}{x:Int}(h1:Vs a x)(w:World):
 Calls Tryz.prog 187 #[.string a] w fun e w'=>e= .returned (.string (ag x))∧Below w.heap.size w w':=by
 have:=gm a w (by have:=h1.2;omega);unfold aj at this;have e:=h1.1;unfold aj at e;rw[e]at this;exact this
theorem SmlV {a:ByteArray}{x:Int}(h1:Vs a x)(w:World)(hg:Gl w):
 Calls Tryz.prog 267 #[.string a] w fun e w'=>e= .returned (.tuple #[.int .i64 (sml x).1,.bool (sml x).2])∧Below w.heap.size w w':=by
 have:=agc a w (by have:=h1.2;omega) hg;rw[h1.1]at this;exact this
theorem iX (n:Nat)(h:n≠0):Lib.decDigits n=dec n:=by
 induction n using qP with
 |h0=>exact absurd rfl h
 |hs n h0 ih=>
  rw[iW h0];by_cases h10:n/10=0
  ·rw[h10,fZ]
   have hl:n<10:=by omega
   unfold Lib.decDigits;rw[dif_pos hl];unfold ah6;rw[Nat.mod_eq_of_lt hl];rfl
  ·rw[←ih h10]
   have hl:¬n<10:=by omega
   conv=>lhs;unfold Lib.decDigits
   rw[dif_neg hl];rfl
theorem agt (n:Int):val (Lib.itoa n)=n:=by
 by_cases h0:n=0
 ·subst h0
  have e:Lib.itoa 0=[48]:=by
   unfold Lib.itoa;rw[if_neg (by omega)];unfold Lib.decDigits;rw[dif_pos (by decide)];rfl
  rw[e];decide
 ·have e:Lib.itoa n=canon n:=by
   unfold Lib.itoa canon;by_cases h:n<0
   ·rw[if_pos h,if_pos h,iX _ (by omega)]
   ·rw[if_neg h,if_neg h,show n.toNat=n.natAbs by omega,iX _ (by omega)]
  rw[e,kZ]
theorem ai4 (n:Int)(w:World)(h0: -9223372036854775808≤n)(h1:n≤9223372036854775807)(hg:Gl w):
 Calls Tryz.prog 203 #[.int .i64 n] w fun e w'=>e= .returned (.string (ag n))∧Below w.heap.size w w':=by
 have HT:=ala hg.1;have hl:=Lib.itoa_length_le n h0 h1;have H2:Hid (∀w,Calls Tryz.prog 187 #[.string ⟨(Lib.itoa n).toArray⟩] w fun e w'=>e= .returned (.string (ag n))∧Below w.heap.size w w'):=by
  intro w;have:=gm ⟨(Lib.itoa n).toArray⟩ w (by show (Lib.itoa n).toArray.size ≤_;simp;omega);have e:aj ⟨(Lib.itoa n).toArray⟩=n:=by unfold aj;exact agt n
  rw[e]at this;exact this
 have H1:=ala (fun w (h:Lib.TabIs Tryz.prog w "internal/strconv.uint64pow10" .u64 Lib.pow10Tab)=>Any.strconv_Itoa Tryz.laysM171 n h0 h1 w h);clear hg hl;generalize (⟨(Lib.itoa n).toArray⟩:ByteArray)=t at*
 go_enter Tryz.func203,Tryz.ntmps203
 go_wp2_with fail
 refine(H1.out _ HT.out).mono ?_;rintro e w1 ⟨rfl,k,os,hw1⟩;have HB1:Hid (Below w.heap.size w w1):=by
  show Below _ _ _;rw[hw1];exact Lib.below_grow _ w alK k os
 clear hw1
 go_wp2_with fail
 refine(H2.out _).mono ?_;rintro e w2 ⟨rfl,hb2⟩
 go_wp2_with fail
 go_ret
 exact⟨rfl,HB1.out.trans (hb2.mono HB1.out.size)⟩
end Go.Proofs.YtjknklinhegdoaaGreatDoor
