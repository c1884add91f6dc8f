/- Names: the contracts of instrument.Name and of the reference's. Condition: the string's length fits a machine integer. Lots: their cells, what is asked of them, lists of them. Plain definitions and facts; no condition. Texts cut at a byte; numbers out of texts; ids of lots. Conditions: the library's variables lie as the program's text lays them; texts of bounded length. Lots: valid, Check. Conditions: texts and numbers of bounded length; the library's variables lie as the program's text lays them. Fraction: contracts of the operations, apply, Add, Sub, Mul, Quo. Conditions: strings of up to a million bytes. -/
import Derived.Test.YtjknklinhegdoaaGreatDoorAa
import Derived.Test.YtjknklinhegdoaaGreatDoorProg
import Derived.WalkKit
import Derived.WalkLawsBesides
import Derived.Deep.QuietTactic
import Derived.Deep.LoopGhost
import Derived.BigQuiet
import Derived.Below
import Derived.Lib.Hide
import Derived.Lib.ConvBytes
import Derived.Lib.Bytealg
import Derived.Lib.AtoiAll
import Derived.Test.YtjknklinhegdoaaGreatDoorGag
import Derived.Laws.Externs
import Derived.Lib.IndexLaws
import Derived.Shelf.Strconv.ErrVarAll
import Derived.LoopN
import Derived.Deep.RegionHeld3
import Derived.Laws.EntriesVeiled
import Derived.Laws.NewBlocks
set_option linter.unusedSimpArgs false
set_option linter.unusedVariables false
set_option maxHeartbeats 4000000
set_option maxRecDepth 100000
namespace Go.Proofs.YtjknklinhegdoaaGreatDoor
open Go.RowKit
def aho (c:UInt8):Bool:=(decide (97≤c.toNat)&&decide (c.toNat≤122))||(decide (48≤c.toNat)&&decide (c.toNat≤57))||c.toNat==95
def aG (s:ByteArray):Bool:=decide (0<s.size)&&decide (s.size≤16)&&s.data.toList.all aho
def ww (s:ByteArray)(i:Nat):Nat:=(s.data.toList.getD i 0).toNat
def zK (x:Nat):Bool:=(decide (97≤x)&&decide (x≤122))||(decide (48≤x)&&decide (x≤57))||x==95
theorem lJ (x:Nat):zK x=true↔(97≤x∧x≤122)∨(48≤x∧x≤57)∨x=95:=by
 unfold zK;simp only[Bool.or_eq_true,ale,decide_eq_true_eq,beq_iff_eq];omega
theorem acg (x:Nat):(97≤x∧x≤122)∨(48≤x∧x≤57)∨x=95∨x<48∨(57<x∧x<97∧x≠95)∨122<x:=by omega
theorem ahm {s:ByteArray}(h:∀i,i<s.size→zK (ww s i)=true):s.data.toList.all aho=true:=by
 rw[alz];intro c hc;obtain⟨i,hi,rfl⟩:=List.mem_iff_getElem.1 hc;have:=h i (by simpa using hi);unfold ww at this;rw[List.getD_eq_getElem?_getD,ald hi]at this;exact this
theorem ahk {s:ByteArray}{i:Nat}(hi:i<s.size)(h:zK (ww s i)=false):s.data.toList.all aho=false:=by
 rw[List.all_eq_false];have hi2:i<s.data.toList.length:=by simpa using hi
 refine⟨s.data.toList[i],List.getElem_mem hi2,?_⟩;unfold ww at h;rw[List.getD_eq_getElem?_getD,ald hi2]at h;rw[Bool.not_eq_true];exact h
theorem ahj {s:ByteArray}(h0:0<s.size)(h1:s.size≤16)(h:∀i,i<s.size→zK (ww s i)=true):aG s=true:=by
 unfold aG;rw[alI h0,alI h1,ahm h];rfl
theorem ajT {s:ByteArray}{i:Nat}(hi:i<s.size)(h:zK (ww s i)=false):aG s=false:=by
 unfold aG;rw[ahk hi h,Bool.and_false]
theorem qX (w:World)(e:TypeId)(s:ByteArray):Below w.heap.size w (Lib.bytesWorld w e s):=
 ⟨by simp[Lib.bytesWorld,World.freeze,World.alloc,World.drew, -World.alloc_eq, -World.drew_eq],by simp[Lib.bytesWorld,World.freeze,World.alloc,World.drew, -World.alloc_eq, -World.drew_eq],by simp[Lib.bytesWorld,World.freeze,World.alloc,World.drew, -World.alloc_eq, -World.drew_eq],by rw[Lib.bytesWorld_size];omega,fun j hj=>Lib.bytesWorld_at_old w e s j hj⟩
theorem ahl (s:ByteArray)(hs:s.size≤4611686018427387904)(w:World):Calls Tryz.prog 59 #[.string s] w fun e w'=>e= .returned (.bool (aG s))∧Below w.heap.size w w':=by
 by_cases h0:s.size=0
 ·have hn:aG s=false:=by unfold aG;rw[alH (by omega)];rfl
  have q:((s.size:Int)==0)=true:=by rw[h0];rfl
  rw[hn];clear hn h0
  go_enter Tryz.func59,Tryz.ntmps59
  go_wp2_with fail
  go_ret
  exact⟨rfl,alJ _ _⟩
 have q0:((s.size:Int)==0)=false:=by rw[beq_eq_false_iff_ne];omega
 by_cases h16:16<s.size
 ·have hn:aG s=false:=by unfold aG;rw[alH (by omega:¬s.size≤16),Bool.and_false];rfl
  have q:decide ((16:Int)<(s.size:Int))=true:=alI (by omega);have qn:decide (16<s.size)=true:=alI h16;rw[hn];clear hn h0 h16
  go_enter Tryz.func59,Tryz.ntmps59
  go_wp2_with fail
  go_ret
  exact⟨rfl,alJ _ _⟩
 have q16:decide ((16:Int)<(s.size:Int))=false:=alH (by omega);have q16n:decide (16<s.size)=false:=alH h16;have hcv:=Lib.run_convert_string_bytes (P:=Tryz.prog) w 9 192 5 s Tryz.underlying9 Tryz.underlying192 Tryz.underlying5;have HY:=ala (fun h=>ahj (s:=s) (by omega) (by omega) h);have HNO:=ala (fun i hi=>ajT (s:=s) (i:=i) hi);have HBL:=ala (qX w 5 s);have HCELL:=ala (fun j hj=>Lib.bytesWorld_cell w 5 s j hj);generalize Lib.bytesWorld w 5 s=W at*
 generalize grownCap w s.size 0 5=cap at*
 generalize w.heap.size=B at*
 clear h0 h16
 go_enter Tryz.func59,Tryz.ntmps59
 go_wp2_with fail
 go_loopw [16] (fun t wr=>∃k:Nat,k≤s.size∧t= .int .i64 (k:Int)∧wr=W∧Hid (∀i,i<k→zK (ww s i)=true)) (fun t _=>(s.size-intOf t).toNat)
 case atStart=>exact⟨0,by omega,rfl,rfl,fun i h=>by omega⟩
 case round=>
  obtain⟨k,hk,rfl,rfl,HP⟩:=hrel;by_cases hkn:k=s.size
  ·subst hkn
   have q:decide ((s.size:Int)<(s.size:Int))=false:=alH (by omega)
   go_wp2_with fail
   go_ret
   exact⟨by rw[HY.out HP.out];rfl,HBL.out⟩
  have q:decide ((k:Int)<(s.size:Int))=true:=alI (by omega);have qn:decide (k<s.size)=true:=alI (by omega);have hks:k<s.size:=by omega
  have x0:=HCELL.out k hks;have hpB:B<wr.heap.size:=block_lt_of_cell x0;have HB:=ala (HNO.out k hks);obtain⟨x,hx⟩:∃x,ww s k=x:=⟨_,rfl⟩;change wr.cell? _=some (.int .u8 ((ww s k:Nat):Int))at x0;rw[hx]at x0 HB;have HX:=ala hx;have HBF:Hid (¬((97≤x∧x≤122)∨(48≤x∧x≤57)∨x=95)→aG s=false):=fun h=>HB.out (by rw[←Bool.not_eq_true,lJ];exact h)
  clear hx hkn HB;rcases acg x with hx0|hx1|hx2|hx3|hx4|hx5
  ·have hc:97≤x∧x≤122:=hx0
   have lt97:decide ((x:Int)<97)=false:=by simp;omega
   have lt97n:decide (x<97)=false:=by simp;omega
   have gt122:decide ((122:Int)<(x:Int))=false:=by simp;omega
   have gt122n:decide (122<x)=false:=by simp;omega
   have HC:=ala hc;clear hc hx0
   go_wp2_with fail
   go_roundw
   case rel=>exact⟨k+1,by omega,by go_num,trivial,fun i hi=>by
    by_cases e:i=k
    ·subst e;rw[HX.out];exact(lJ x).2 (by have:=HC.out;omega)
    ·exact HP.out i (by omega)⟩
   case measure=>simp[intOf];omega
  ·have hc:48≤x∧x≤57:=hx1
   have lt97:decide ((x:Int)<97)=true:=by simp;omega
   have lt97n:decide (x<97)=true:=by simp;omega
   have lt48:decide ((x:Int)<48)=false:=by simp;omega
   have lt48n:decide (x<48)=false:=by simp;omega
   have gt57:decide ((57:Int)<(x:Int))=false:=by simp;omega
   have gt57n:decide (57<x)=false:=by simp;omega
   have HC:=ala hc;clear hc hx1
   go_wp2_with fail
   go_roundw
   case rel=>exact⟨k+1,by omega,by go_num,trivial,fun i hi=>by
    by_cases e:i=k
    ·subst e;rw[HX.out];exact(lJ x).2 (by have:=HC.out;omega)
    ·exact HP.out i (by omega)⟩
   case measure=>simp[intOf];omega
  ·have hc:x=95:=hx2
   have lt97:decide ((x:Int)<97)=true:=by simp;omega
   have lt97n:decide (x<97)=true:=by simp;omega
   have lt48:decide ((x:Int)<48)=false:=by simp;omega
   have lt48n:decide (x<48)=false:=by simp;omega
   have gt57:decide ((57:Int)<(x:Int))=true:=by simp;omega
   have gt57n:decide (57<x)=true:=by simp;omega
   have ne95:((x:Int) !=95)=false:=by simp;omega
   have ne95n:(x !=95)=false:=by simp;omega
   have HC:=ala hc;clear hc hx2
   go_wp2_with fail
   go_roundw
   case rel=>exact⟨k+1,by omega,by go_num,trivial,fun i hi=>by
    by_cases e:i=k
    ·subst e;rw[HX.out];exact(lJ x).2 (by have:=HC.out;omega)
    ·exact HP.out i (by omega)⟩
   case measure=>simp[intOf];omega
  ·have hc:x<48:=hx3
   have lt97:decide ((x:Int)<97)=true:=by simp;omega
   have lt97n:decide (x<97)=true:=by simp;omega
   have lt48:decide ((x:Int)<48)=true:=by simp;omega
   have lt48n:decide (x<48)=true:=by simp;omega
   have ne95:((x:Int) !=95)=true:=by simp;omega
   have ne95n:(x !=95)=true:=by simp;omega
   have HC:=ala hc;clear hc hx3
   go_wp2_with fail
   go_ret
   exact⟨by rw[HBF.out (by have:=HC.out;omega)];rfl,HBL.out⟩
  ·have hc:57<x∧x<97∧x≠95:=hx4
   have lt97:decide ((x:Int)<97)=true:=by simp;omega
   have lt97n:decide (x<97)=true:=by simp;omega
   have lt48:decide ((x:Int)<48)=false:=by simp;omega
   have lt48n:decide (x<48)=false:=by simp;omega
   have gt57:decide ((57:Int)<(x:Int))=true:=by simp;omega
   have gt57n:decide (57<x)=true:=by simp;omega
   have ne95:((x:Int) !=95)=true:=by simp;omega
   have ne95n:(x !=95)=true:=by simp;omega
   have HC:=ala hc;clear hc hx4
   go_wp2_with fail
   go_ret
   exact⟨by rw[HBF.out (by have:=HC.out;omega)];rfl,HBL.out⟩
  ·have hc:122<x:=hx5
   have lt97:decide ((x:Int)<97)=false:=by simp;omega
   have lt97n:decide (x<97)=false:=by simp;omega
   have gt122:decide ((122:Int)<(x:Int))=true:=by simp;omega
   have gt122n:decide (122<x)=true:=by simp;omega
   have lt48:decide ((x:Int)<48)=false:=by simp;omega
   have lt48n:decide (x<48)=false:=by simp;omega
   have gt57:decide ((57:Int)<(x:Int))=true:=by simp;omega
   have gt57n:decide (57<x)=true:=by simp;omega
   have ne95:((x:Int) !=95)=true:=by simp;omega
   have ne95n:(x !=95)=true:=by simp;omega
   have HC:=ala hc;clear hc hx5
   go_wp2_with fail
   go_ret
   exact⟨by rw[HBF.out (by have:=HC.out;omega)];rfl,HBL.out⟩
end Go.Proofs.YtjknklinhegdoaaGreatDoor
namespace Go.Proofs.YtjknklinhegdoaaGreatDoor
open Go.RowKit Go.Shelf Dec QQ
structure Lt where
 id:ByteArray
 ins:ByteArray
 acq:Int
 opn:Int
 q:ByteArray
 c:ByteArray
 u:ByteArray
instance:Inhabited Lt:=⟨⟨⟨#[]⟩,⟨#[]⟩,0,0,⟨#[]⟩,⟨#[]⟩,⟨#[]⟩⟩⟩
def ltA (x:Lt):Array Value:= #[.string x.id,.string x.ins,.int .i64 x.acq,.int .i64 x.opn,.string x.q,.string x.c,.string x.u]
def aa (x:Lt):List Value:=[.string x.id,.string x.ins,.int .i64 x.acq,.int .i64 x.opn,.string x.q,.string x.c,.string x.u]
def ltV (x:Lt):Value:=.agg (ltA x)
theorem aM (x:Lt):(aa x).length =7:=rfl
def iB (s:ByteArray)(c:UInt8):Int:=Lib.indexByte s.data.toList c
def aag (s:ByteArray)(c:UInt8):ByteArray:=bif decide (0≤iB s c)then s.extract 0 (iB s c).toNat else s
def vZ (s:ByteArray)(c:UInt8):ByteArray:=bif decide (0≤iB s c)then s.extract ((iB s c).toNat +1) s.size else⟨#[]⟩
def eqB (a b:ByteArray):Bool:=a.toList==b.toList
theorem gI {a b:ByteArray}:eqB a b=true↔a=b:=by
 unfold eqB;rw[aD,aD,beq_iff_eq];exact⟨fun h=>bytes_inj h,fun h=>by rw[h]⟩
def nlB (s:ByteArray):Bool:=s.toList== []
def ahi (s:ByteArray):Bool:=match Lib.atoiAll s.data.toList with
 | .ok v=>decide (1≤v)&&(decide (v≤9999)&&(eqB (ag v) s))
 |_=>false
def ac2 (s:ByteArray):Bool:=ahi (vZ s 47)&&aG (aag s 47)
def qQ (d:Int):Bool:=decide (-25567≤d)&&decide (d≤84005)
def mD (x:Lt):Int:=
 bif !(ac2 x.id)then 23 else bif !(aG x.ins)then 23 else bif !(qQ x.acq)then 13 else bif !(qQ x.opn)then 13 else bif decide (x.opn<x.acq)then 8 else
 bif chk x.q !=0 then 1 else bif chk x.c !=0 then 1 else bif chk x.u !=0 then 1 else
 bif decide (fA (aj x.q) 0≤0)then 2 else bif decide (fA (aj x.c) 0<0)then 2 else bif !(nlB x.u)&& !(eqB x.u x.q)then 2 else 0
def ac5 (seen:List ByteArray):List Lt→Int
 | []=>0
 |x::l=>bif mD x !=0 then mD x else bif seen.any (fun i=>eqB i x.id)then 5 else ac5 (x.id::seen) l
def aL (l:List Lt):Int:=bif decide (1000<l.length)then 4 else ac5 [] l
structure Lt.le (x:Lt) (k:Nat):Prop where
 id:x.id.size≤100
 ins:x.ins.size≤100
 q:x.q.size≤k
 c:x.c.size≤k
 u:x.u.size≤k
end Go.Proofs.YtjknklinhegdoaaGreatDoor
namespace Go.Proofs.YtjknklinhegdoaaGreatDoor
open Go.RowKit Go.Shelf Dec QQ
theorem NmR {s:ByteArray}(h:s.size≤4611686018427387904):Ret 59 #[.string s] (.bool (aG s)):=fun w _=>ahl s h w
theorem ibsX (s:ByteArray)(c:Int)(w:World):(callFunc 298 #[.string s,.int .u8 c]).run Tryz.prog w= .ok (.value (.int .i64 (Lib.indexByte s.data.toList c.toNat.toUInt8))) w:=by
 rw[run_callFunc_extern (fn:=Tryz.f298) (by kernel_rfl) (by kernel_rfl) (by kernel_rfl) (by kernel_rfl) (e:=Extern.BytealgIndexByte.indexByte) (by kernel_rfl),Lib.run_indexByteString];rfl
theorem ahC (s:ByteArray)(c:Int):Ret 282 #[.string s,.int .u8 c] (.int .i64 (Lib.indexByte s.data.toList c.toNat.toUInt8)):=by
 intro w hg;have hs:=St.refl hg;have X:=fun u:World=>ibsX s c u
 generalize Lib.indexByte s.data.toList c.toNat.toUInt8=i at*
 go_enter Tryz.func282,Tryz.ntmps282
 go_wp2_with fail
 go_ret
 exact⟨rfl,hs.2⟩
theorem acs (s:ByteArray)(c:UInt8):Ret 270 #[.string s,.string ⟨#[c]⟩] (.int .i64 (iB s c)):=by
 intro w hg;have hs:=St.refl hg;have K:=ahC s (c.toNat:Int);rw[show ((c.toNat:Int).toNat.toUInt8)=c by simp]at K;have z:(⟨#[c]⟩:ByteArray).size =1:=rfl;cases hq:(([c]:List UInt8)==s.toList)with
 |true=>
  have e0:iB s c=0:=by
   have h1: [c]=s.toList:=by simpa using hq
   rw[aD]at h1;unfold iB;rw[show s.data.toList=bytes s from rfl, ←h1];simp[Lib.indexByte]
  rw[e0];clear e0 K
  go_enter Tryz.func270,Tryz.ntmps270
  go_wp2_with fail
  go_ret
  exact⟨rfl,hs.2⟩
 |false=>
  unfold iB;generalize Lib.indexByte s.data.toList c=i at*
  go_enter Tryz.func270,Tryz.ntmps270
  go_wp2_with fail
  refine(show Ret _ #[.string s,.int .u8 (({data:= #[c]}:ByteArray)[0].toNat :Int)] (.int .i64 i)from K).step hs ?_;intro w1 hs hb
  go_wp2_with fail
  go_ret
  exact⟨rfl,hs.2⟩
theorem iB_lt {s:ByteArray}{c:UInt8}(h:0≤iB s c):(iB s c).toNat <s.size:=by
 obtain⟨n,hn⟩:=Int.eq_ofNat_of_zero_le h;have h1:=(Lib.indexByte_some (l:=s.data.toList) (c:=c) (o:=n) hn).1;have h2:=(alj.1 h1).1;rw[hn];simpa using h2
theorem adw (s:ByteArray)(c:UInt8)(hz:s.size≤1000000):Ret 244 #[.string s,.string ⟨#[c]⟩] (.tuple #[.string (aag s c),.string (vZ s c),.bool (decide (0≤iB s c))]):=by
 intro w hg;have hs:=St.refl hg;have K:=ala (acs s c);have HL:= @iB_lt s c;unfold aag vZ;generalize iB s c=i at*
 by_cases h:0≤i
 ·have q:decide (0≤i)=true:=alI h
  rw[q];obtain⟨n,rfl⟩:=Int.eq_ofNat_of_zero_le h;have hl:n<s.size:=HL h;have hn:((n:Int)).toNat =n:=Int.toNat_natCast n;rw[hn];have hl1:(n:Int)≤(s.size:Int):=by omega
  have hl2:(n:Int)+1≤(s.size:Int):=by omega
  have hp:(0:Int)≤(n:Int)+1:=by omega
  have z:(({data:= #[c]}:ByteArray).size :Int)=1:=rfl;have ew:IntKind.i64.wrap ((n:Int)+1)=(n:Int)+1:=by rw[IntKind.wrap_i64];omega
  have et:((n:Int)+1).toNat =n+1:=by omega
  clear HL h
  go_enter Tryz.func244,Tryz.ntmps244
  go_wp2_with fail
  refine K.out.step hs ?_;intro w1 hs hb;clear K
  go_wp2_with fail
  go_quiet (fail)
  go_wp2_with fail
  go_ret3
  exact⟨rfl,hs.2.trans ((below_drewN _ _ _).mono hs.2.size)⟩
 ·have q:decide (0≤i)=false:=alH h
  rw[q];clear HL
  go_enter Tryz.func244,Tryz.ntmps244
  go_wp2_with fail
  refine K.out.step hs ?_;intro w1 hs hb;clear K
  go_wp2_with fail
  go_ret3
  exact⟨rfl,hs.2⟩
theorem aaG (s:ByteArray)(c:UInt8)(hz:s.size≤1000000):Ret 195 #[.string s,.string ⟨#[c]⟩] (.tuple #[.string (aag s c),.string (vZ s c),.bool (decide (0≤iB s c))]):=by
 intro w hg;have hs:=St.refl hg;have K:=adw s c hz;generalize aag s c=a at*
 generalize vZ s c=z at*
 generalize decide (0≤iB s c)=b at*
 go_enter Tryz.func195,Tryz.ntmps195
 go_wp2_with fail
 refine K.step hs ?_;intro w1 hs hb
 go_wp2_with fail
 go_ret3
 exact⟨rfl,hs.2⟩
theorem afe (s:ByteArray)(c:UInt8):(aag s c).size ≤s.size:=by
 unfold aag;cases decide (0≤iB s c)
 ·exact Nat.le_refl _
 ·show (s.extract 0 _).size ≤_
  rw[ByteArray.size_extract];omega
theorem afd (s:ByteArray)(c:UInt8):(vZ s c).size ≤s.size:=by
 unfold vZ;cases decide (0≤iB s c)
 ·exact Nat.zero_le _
 ·show (s.extract _ _).size ≤_
  rw[ByteArray.size_extract];omega
theorem afV {s:ByteArray}(hz:s.size≤1000000){v:Int}(h:Lib.atoiAll s.data.toList= .ok v):Ret 196 #[.string s] (.tuple #[.int .i64 v,.nilIface]):=by
 intro w hg;refine(Any.strconv_Atoi_ok Tryz.laysC172 s (by omega) v h w).mono ?_;rintro e w' ⟨rfl,h1⟩;refine⟨rfl,?_⟩;rcases h1 with rfl|⟨t,rfl⟩
 ·exact alJ _ _
 ·exact qX _ _ _
theorem afW {s:ByteArray}(hz:s.size≤1000000)(h:∀v,Lib.atoiAll s.data.toList≠ .ok v)(w:World)(hg:Gl w):Calls Tryz.prog 196 #[.string s] w fun e w'=>∃m t p,e= .returned (.tuple #[.int .i64 m,.iface t p])∧Below w.heap.size w w':=by
 obtain⟨_,tp,p,h1,tq,q,h2⟩:=hg;cases hx:Lib.atoiAll s.data.toList with
 |ok v=>exact absurd hx (h v)
 |range=>
  refine(Any.strconv_Atoi_range_var Tryz.laysC172 s (by omega) hx tp p w h1).mono ?_;rintro e w' ⟨N,rfl,_,_,hb⟩;exact⟨_,_,_,rfl,hb⟩
 |_=>
  refine(Any.strconv_Atoi_syntax_var Tryz.laysC172 s (by omega) hx tq q w h2).mono ?_;rintro e w' ⟨N,rfl,_,_,hb⟩;exact⟨_,_,_,rfl,hb⟩
theorem aa8 {n:Int}(h0:1≤n)(h1:n≤9223372036854775807):Ret 48 #[.int .i64 n] (.string (ag n)):=by
 intro w hg;have e:Lib.itoa n=canon n:=by
  unfold Lib.itoa canon;rw[if_neg (by omega),if_neg (by omega),show n.toNat=n.natAbs by omega,iX _ (by omega)]
 have:=Any.strconv_Itoa Tryz.laysM171 n (by omega) h1 w hg.1;rw[e]at this;refine this.mono ?_;rintro e w' ⟨rfl,k,os,rfl⟩;exact⟨rfl,Lib.below_grow _ w alK k os⟩
theorem ahy {s:ByteArray}(hz:s.size≤1000):Ret 144 #[.string s] (.bool (ac2 s)):=by
 intro w hg;have hs:=St.refl hg;have K1:=ala (aaG s 47 (by omega));have HA:=afe s 47;have HZ:=afd s 47;have K4:=ala (NmR (s:=aag s 47) (by omega));have K2:=ala (fun v (h:Lib.atoiAll (vZ s 47).data.toList = .ok v)=>afV (s:=vZ s 47) (by omega) h);have K2n:=ala (fun(h:∀v,Lib.atoiAll (vZ s 47).data.toList ≠ .ok v)=>afW (s:=vZ s 47) (by omega) h);unfold ac2 ahi;generalize aG (aag s 47)=bn at*
 generalize aag s 47=a at*
 generalize vZ s 47=z at*
 generalize decide (0≤iB s 47)=b at*
 generalize hr:Lib.atoiAll z.data.toList=r at*
 clear hz HA HZ
 go_enter Tryz.func144,Tryz.ntmps144
 go_wp2_with fail
 refine K1.out.step hs ?_;intro w1 hs hb;clear hb K1
 go_wp2_with fail
 cases r with
 |ok v=>
  have K2':=ala (K2.out v rfl);clear K2 K2n;refine K2'.out.step hs ?_;intro w2 hs hb;clear hb K2';by_cases h1:1≤v
  ·have q1:decide (1≤v)=true:=alI h1
   by_cases h2:v≤9999
   ·have q2:decide (v≤9999)=true:=alI h2
    have K3:=ala (aa8 h1 (by omega));obtain⟨cv,hcv⟩:∃x,ag v=x:=⟨_,rfl⟩;rw[hcv]at K3;have HCV:=ala hcv;clear hcv
    go_wp2_with fail
    refine K3.out.step hs ?_;intro w3 hs hb;clear hb K3;cases h5:(cv.toList==z.toList)with
    |true=>
     go_wp2_with fail
     refine K4.out.step hs ?_;intro w4 hs hb;clear hb K4
     go_wp2_with fail
     go_ret
     exact⟨by simp[HCV.out,eqB,h5,q1,q2],hs.2⟩
    |false=>
     go_wp2_with fail
     go_ret
     exact⟨by simp[HCV.out,eqB,h5,q1,q2],hs.2⟩
   ·have q2:decide (v≤9999)=false:=alH h2
    go_wp2_with fail
    go_ret
    exact⟨by simp[q1,q2],hs.2⟩
  ·have q1:decide (1≤v)=false:=alH h1
   go_wp2_with fail
   go_ret
   exact⟨by simp[q1],hs.2⟩
 |range=>
  refine(K2n.out (fun v h=>by cases h) _ hs.gl).mono ?_;rintro e w2 ⟨m,t,p,rfl,hb⟩;replace hs:=hs.on hb;clear hb K2 K2n
  go_wp2_with fail
  go_ret
  exact⟨rfl,hs.2⟩
 |_=>
  refine(K2n.out (fun v h=>by cases h) _ hs.gl).mono ?_;rintro e w2 ⟨m,t,p,rfl,hb⟩;replace hs:=hs.on hb;clear hb K2 K2n
  go_wp2_with fail
  go_ret
  exact⟨rfl,hs.2⟩
theorem aeG {s:ByteArray}(hz:s.size≤1000):Ret 181 #[.string s] (.bool (ac2 s)):=by
 intro w hg;have hs:=St.refl hg;have K1:=ala (aaG s 47 (by omega));have HA:=afe s 47;have HZ:=afd s 47;have K4:=ala (NmR (s:=aag s 47) (by omega));have K2:=ala (fun v (h:Lib.atoiAll (vZ s 47).data.toList = .ok v)=>afV (s:=vZ s 47) (by omega) h);have K2n:=ala (fun(h:∀v,Lib.atoiAll (vZ s 47).data.toList ≠ .ok v)=>afW (s:=vZ s 47) (by omega) h);unfold ac2 ahi;generalize aG (aag s 47)=bn at*
 generalize aag s 47=a at*
 generalize vZ s 47=z at*
 generalize decide (0≤iB s 47)=b at*
 generalize hr:Lib.atoiAll z.data.toList=r at*
 clear hz HA HZ
 go_enter Tryz.func181,Tryz.ntmps181
 go_wp2_with fail
 refine K1.out.step hs ?_;intro w1 hs hb;clear hb K1
 go_wp2_with fail
 cases r with
 |ok v=>
  have K2':=ala (K2.out v rfl);clear K2 K2n;refine K2'.out.step hs ?_;intro w2 hs hb;clear hb K2'
  go_wp2_with fail
  refine K4.out.step hs ?_;intro w4 hs hb;clear hb K4;cases bn
  case false=>(go_wp2_with fail;go_ret;exact⟨by simp,hs.2⟩)
  by_cases h1:1≤v
  ·have q1:decide (1≤v)=true:=alI h1
   by_cases h2:v≤9999
   ·have q2:decide (v≤9999)=true:=alI h2
    have K3:=ala (aa8 h1 (by omega));obtain⟨cv,hcv⟩:∃x,ag v=x:=⟨_,rfl⟩;rw[hcv]at K3;have HCV:=ala hcv;clear hcv
    go_wp2_with fail
    refine K3.out.step hs ?_;intro w3 hs hb;clear hb K3;cases h5:(cv.toList==z.toList)with
    |true=>
     go_wp2_with fail
     go_ret
     exact⟨by simp[HCV.out,eqB,h5,q1,q2],hs.2⟩
    |false=>
     go_wp2_with fail
     go_ret
     exact⟨by simp[HCV.out,eqB,h5,q1,q2],hs.2⟩
   ·have q2:decide (v≤9999)=false:=alH h2
    go_wp2_with fail
    go_ret
    exact⟨by simp[q1,q2],hs.2⟩
  ·have q1:decide (1≤v)=false:=alH h1
   go_wp2_with fail
   go_ret
   exact⟨by simp[q1],hs.2⟩
 |range=>
  refine(K2n.out (fun v h=>by cases h) _ hs.gl).mono ?_;rintro e w2 ⟨m,t,p,rfl,hb⟩;replace hs:=hs.on hb;clear hb K2 K2n
  go_wp2_with fail
  refine K4.out.step hs ?_;intro w4 hs hb;clear hb K4;cases bn
  case false=>(go_wp2_with fail;go_ret;exact⟨by simp,hs.2⟩)
  go_wp2_with fail
  go_ret
  exact⟨by simp,hs.2⟩
 |_=>
  refine(K2n.out (fun v h=>by cases h) _ hs.gl).mono ?_;rintro e w2 ⟨m,t,p,rfl,hb⟩;replace hs:=hs.on hb;clear hb K2 K2n
  go_wp2_with fail
  refine K4.out.step hs ?_;intro w4 hs hb;clear hb K4;cases bn
  case false=>(go_wp2_with fail;go_ret;exact⟨by simp,hs.2⟩)
  go_wp2_with fail
  go_ret
  exact⟨by simp,hs.2⟩
end Go.Proofs.YtjknklinhegdoaaGreatDoor
namespace Go.Proofs.YtjknklinhegdoaaGreatDoor
open Go.RowKit Go.Shelf Dec QQ
theorem aa6 (d:Int):Ret 145 #[.int .i64 d] (.bool (qQ d)):=by
 intro w hg;have hs:=St.refl hg;unfold qQ;by_cases h1: -25567≤d
 ·have q1:decide (-25567≤d)=true:=alI h1
  rw[q1]
  go_enter Tryz.func145,Tryz.ntmps145
  go_wp2_with fail
  go_ret
  exact⟨by simp,hs.2⟩
 ·have q1:decide (-25567≤d)=false:=alH h1
  rw[q1]
  go_enter Tryz.func145,Tryz.ntmps145
  go_wp2_with fail
  go_ret
  exact⟨rfl,hs.2⟩
theorem aa7 {x:Lt}(hz:x.le 1000):Ret 75 #[ltV x] (.int .i64 (mD x)):=by
 intro w hg;have hs:=(St.refl hg).alloc (.cells (ltA x) 47);have X:=Bx.new w (ltA x) 47;have HX:=ala X;clear X;have K1:=ala (ahy (s:=x.id) (by have:=hz.id;omega));have K2:=ala (NmR (s:=x.ins) (by have:=hz.ins;omega));have K3:=ala (aa6 x.acq);have K4:=ala (aa6 x.opn);have K6:=ala (ChkR (a:=x.q) (by have:=hz.q;omega));have K7:=ala (ChkR (a:=x.c) (by have:=hz.c;omega));have K8:=ala (ChkR (a:=x.u) (by have:=hz.u;omega));have K9:=ala (ac7 (Vs.arg (s:=x.q) (by have:=hz.q;omega)) Vs.nil);have K10:=ala (ac7 (Vs.arg (s:=x.c) (by have:=hz.c;omega)) Vs.nil);unfold mD;obtain⟨id,ins,acq,opn,q,c,u⟩:=x;unfold ltV ltA;simp only[ltA]at*
 generalize ac2 id=b1 at*
 generalize aG ins=b2 at*
 generalize qQ acq=b3 at*
 generalize qQ opn=b4 at*
 generalize chk q=e6 at*
 generalize chk c=e7 at*
 generalize chk u=e8 at*
 generalize fA (aj q) 0=c9 at*
 generalize fA (aj c) 0=c10 at*
 unfold nlB eqB;generalize q5:decide (opn<acq)=b5 at*
 generalize q6:(e6 !=0)=b6 at*
 generalize q7:(e7 !=0)=b7 at*
 generalize q8:(e8 !=0)=b8 at*
 generalize q9:decide (c9≤0)=b9 at*
 generalize q10:decide (c10<0)=b10 at*
 generalize q11:(u.toList== [])=b11 at*
 generalize q12:(u.toList==q.toList)=b12 at*
 clear hz;have x0:=HX.out.cell (i:=0) (v:=.string id) rfl
 go_enter Tryz.func75,Tryz.ntmps75
 go_wp2_with fail
 clear x0;refine K1.out.step hs ?_;intro w1 hs hb;replace HX:=ala (HX.out.on hb);clear hb K1;cases b1
 case false=>(go_wp2_with fail;go_ret;exact⟨rfl,hs.2⟩)
 have x1:=HX.out.cell (i:=1) (v:=.string ins) rfl
 go_wp2_with fail
 clear x1;refine K2.out.step hs ?_;intro w2 hs hb;replace HX:=ala (HX.out.on hb);clear hb K2;cases b2
 case false=>(go_wp2_with fail;go_ret;exact⟨rfl,hs.2⟩)
 have x2:=HX.out.cell (i:=2) (v:=.int .i64 acq) rfl
 go_wp2_with fail
 clear x2;refine K3.out.step hs ?_;intro w3 hs hb;replace HX:=ala (HX.out.on hb);clear hb K3;cases b3
 case false=>(go_wp2_with fail;go_ret;exact⟨rfl,hs.2⟩)
 have x3:=HX.out.cell (i:=3) (v:=.int .i64 opn) rfl
 go_wp2_with fail
 clear x3;refine K4.out.step hs ?_;intro w4 hs hb;replace HX:=ala (HX.out.on hb);clear hb K4;cases b4
 case false=>(go_wp2_with fail;go_ret;exact⟨rfl,hs.2⟩)
 have x2:=HX.out.cell (i:=2) (v:=.int .i64 acq) rfl;have x3:=HX.out.cell (i:=3) (v:=.int .i64 opn) rfl;have x4:=HX.out.cell (i:=4) (v:=.string q) rfl;have x5:=HX.out.cell (i:=5) (v:=.string c) rfl;have x6:=HX.out.cell (i:=6) (v:=.string u) rfl;cases b5
 case true=>(go_wp2_with fail;go_ret;exact⟨rfl,hs.2⟩)
 go_wp2_with fail
 have Y:=Bx.new w4 #[.string q,.string c,.string u] 24;have hbA:Below w4.heap.size w4 (w4.alloc (.cells #[.string q,.string c,.string u] 24)):=alL;replace HX:=ala (HX.out.on hbA);replace hs:=hs.on hbA;have HY:=ala Y;have y0:=HY.out.cell (i:=0) (v:=.string q) rfl;clear Y hbA;refine wp_loop_rounds 4 ?_;rw[rounds_succ]
 go_wp2_with fail
 clear x2 x3 x4 x5 x6;clear y0;refine K6.out.step hs ?_;intro w5 hs hb;replace HX:=ala (HX.out.on hb);replace HY:=ala (HY.out.on hb);clear hb K6;cases b6
 case true=>(go_wp2_with fail;go_ret;exact⟨rfl,hs.2⟩)
 have y1:=HY.out.cell (i:=1) (v:=.string c) rfl
 go_wp2_with fail
 rw[rounds_succ]
 go_wp2_with fail
 clear y1;refine K7.out.step hs ?_;intro w6 hs hb;replace HX:=ala (HX.out.on hb);replace HY:=ala (HY.out.on hb);clear hb K7;cases b7
 case true=>(go_wp2_with fail;go_ret;exact⟨rfl,hs.2⟩)
 have y2:=HY.out.cell (i:=2) (v:=.string u) rfl
 go_wp2_with fail
 rw[rounds_succ]
 go_wp2_with fail
 clear y2;refine K8.out.step hs ?_;intro w7 hs hb;replace HX:=ala (HX.out.on hb);replace HY:=ala (HY.out.on hb);clear hb K8;cases b8
 case true=>(go_wp2_with fail;go_ret;exact⟨rfl,hs.2⟩)
 have x4:=HX.out.cell (i:=4) (v:=.string q) rfl;have x5:=HX.out.cell (i:=5) (v:=.string c) rfl;have x6:=HX.out.cell (i:=6) (v:=.string u) rfl
 go_wp2_with fail
 rw[rounds_succ]
 go_wp2_with fail
 clear HY;refine K9.out.step hs ?_;intro w8 hs hb;replace HX:=ala (HX.out.on hb);clear hb K9;cases b9
 case true=>(go_wp2_with fail;go_ret;exact⟨rfl,hs.2⟩)
 clear x4 x5 x6;have x5:=HX.out.cell (i:=5) (v:=.string c) rfl
 go_wp2_with fail
 clear x5;refine K10.out.step hs ?_;intro w9 hs hb;replace HX:=ala (HX.out.on hb);clear hb K10;cases b10
 case true=>(go_wp2_with fail;go_ret;exact⟨rfl,hs.2⟩)
 have x4:=HX.out.cell (i:=4) (v:=.string q) rfl;have x6:=HX.out.cell (i:=6) (v:=.string u) rfl;cases b11
 case true=>(go_wp2_with fail;go_ret;exact⟨rfl,hs.2⟩)
 cases b12
 case false=>(go_wp2_with fail;go_ret;exact⟨rfl,hs.2⟩)
 go_wp2_with fail
 go_ret
 exact⟨rfl,hs.2⟩
end Go.Proofs.YtjknklinhegdoaaGreatDoor
namespace Go.Proofs.YtjknklinhegdoaaGreatDoor
open Go.RowKit Go.Shelf Dec QQ
def opV (f:FuncId)(b:Nat):Value:=.func (.func f) #[] #[.pointer (some ⟨b,0,none⟩)]
def opsV (b:Nat):Value:=.agg #[opV 89 b,opV 90 b,opV 91 b,opV 92 b]
def rQ:Value:=.func (.func 88) #[] #[]
theorem gV (w:World):
 Calls Tryz.prog 40 #[] w fun e w'=>∃b,e= .returned (opsV b)∧Bx w' b #[rQ]∧Below w.heap.size w w':=by
 go_enter Tryz.func40,Tryz.ntmps40
 go_wp2_with fail
 have B0:=(Bx.new w #[opV 89 (w.heap.size+1),opV 90 (w.heap.size+1),opV 91 (w.heap.size+1),opV 92 (w.heap.size+1)] 98).alloc (.cells #[rQ] 61);have y0:=B0.cell (i:=0) (v:=opV 89 (w.heap.size+1)) rfl;have y1:=B0.cell (i:=1) (v:=opV 90 (w.heap.size+1)) rfl;have y2:=B0.cell (i:=2) (v:=opV 91 (w.heap.size+1)) rfl;have y3:=B0.cell (i:=3) (v:=opV 92 (w.heap.size+1)) rfl;refine bodyPost_ret (v:=opsV (w.heap.size+1)) ?_ rfl ⟨_,rfl,Bx.new1 _ _ _ _,((alJ _ w).alloc alK _).alloc (by simp) _⟩;unfold opV rQ at y0 y1 y2 y3;unfold opsV opV;simp[results,Tryz.results40,go_sem]
theorem ahr {a b c d:ByteArray}{x y z u:Int}(ha:Vs a x)(hb:Vs b y)(hc:Vs c z)(hd:Vs d u)(g:Nat)(w:World)(hg:Gl w)(hx:Bx w g #[rQ])(v1:Vs (ag (x*u)) (x*u))(v2:Vs (ag (z*y)) (z*y)):
 Calls Tryz.prog 90 #[.string a,.string b,.string c,.string d,.pointer (some ⟨g,0,none⟩)] w fun e w'=>e= .returned (.tuple #[.string (ag (x*u-z*y)),.string (ag (y*u))])∧Below w.heap.size w w':=by
 have hs:=St.refl hg;have K1:=aiG ha hd;have K2:=aiG hc hb;have K3:=SubR v1 v2;have K4:=aiG hb hd;generalize ag (x*u)=r1 at*
 generalize ag (z*y)=r2 at*
 generalize ag (x*u-z*y)=r3 at*
 generalize ag (y*u)=r4 at*
 have x0:=Kept.cell_of (hx.cell (i:=0) (v:=rQ) rfl);unfold rQ at x0
 go_enter Tryz.func90,Tryz.ntmps90
 go_wp2_with fail
 refine ax (by kernel_rfl) (by kernel_rfl) ?_
 repeat (go_big_quiet_step (first|(with_reducible exact K1.kept hs)|(with_reducible exact K2.kept hs)|(with_reducible exact K3.kept hs)|(with_reducible exact K4.kept hs)))
 refine wpQuiet_nil ?_;rintro _ ⟨u1,rfl⟩
 go_wp2_with fail
 go_ret2
 exact⟨rfl,u1.low⟩
theorem aaq {a b c d p q:ByteArray}{r:Rat}(g:Nat)(w:World)(hg:Gl w)(hx:Bx w g #[rQ])(s1:b.size≤999999)(s2:d.size≤999999)
 (KO:Hid (∀w,Gl w→Bx w g #[rQ]→Calls Tryz.prog 90 #[.string a,.string (dn b),.string c,.string (dn d),.pointer (some ⟨g,0,none⟩)] w fun e w'=>e= .returned (.tuple #[.string p,.string q])∧Below w.heap.size w w'))
 (KM:Ret 41 #[.string p,.string q] (FR r)):
 Calls Tryz.prog 39 #[opV 90 g,FV a b,FV c d] w fun e w'=>e= .returned (FR r)∧Below w.heap.size w w':=by
 have hs:=St.refl hg;have K1:=dL (n:=a) s1;have K2:=dL (n:=c) s2;unfold FR at KM⊢
 unfold FV at K1 K2⊢
 unfold opV;generalize dn b=b' at*
 generalize dn d=d' at*
 generalize frN r=rn at*
 generalize frD r=rd at*
 go_enter Tryz.func39,Tryz.ntmps39
 go_wp2_with fail
 refine K1.step (((hs.alloc _).alloc _).alloc _) ?_;intro w1 hs hb;have hx1:=(((hx.alloc _).alloc _).alloc _).on hb;have B1:=((Bx.new1 w _ #[.string c,.string d] 26).alloc _).on hb;have B2:=(Bx.new2 w _ _ #[.string ⟨#[]⟩,.string ⟨#[]⟩] 26).on hb;have x0:=B1.cell (i:=0) (v:=.string c) rfl;have x1:=B1.cell (i:=1) (v:=.string d) rfl
 go_wp2_with fail
 refine K2.step hs ?_;intro w2 hs hb;have hx2:=hx1.on hb;have B3:=B2.on hb
 go_wp2_with fail
 refine(KO.out _ hs.gl hx2).mono ?_;rintro e w3 ⟨rfl,hb⟩;replace hs:=hs.on hb;have B4:=B3.on hb
 go_wp2_with fail
 refine KM.step hs ?_;intro w4 hs hb;have B5:=B4.on hb;have x2:=B5.cell (i:=0) (v:=.string ⟨#[]⟩) rfl;have x3:=B5.cell (i:=1) (v:=.string ⟨#[]⟩) rfl;have f2:=B5.frozen 0;have f3:=B5.frozen 1
 go_wp2_with fail
 have B6:=(B5.set 0 (.string rn)).set 1 (.string rd);have y0:=B6.cell (i:=0) (v:=.string rn) rfl;have y1:=B6.cell (i:=1) (v:=.string rd) rfl;have hs2:=(hs.set (b:=w.heap.size+2) (by omega) 0 (.string rn)).set (b:=w.heap.size+2) (by omega) 1 (.string rd);exact bodyPost_ret (v:=.agg #[.string rn,.string rd]) (by simp[results,Tryz.results39,go_sem,y0,y1]) rfl ⟨rfl,hs2.2⟩
theorem agu {a b c d:ByteArray}{x y z u:Int}(ha:Vs a x)(hb:Vs b y)(hc:Vs c z)(hd:Vs d u)(g:Nat)(w:World)(hg:Gl w)(hx:Bx w g #[rQ]):
 Calls Tryz.prog 91 #[.string a,.string b,.string c,.string d,.pointer (some ⟨g,0,none⟩)] w fun e w'=>e= .returned (.tuple #[.string (ag (x*z)),.string (ag (y*u))])∧Below w.heap.size w w':=by
 have hs:=St.refl hg;have K1:=aiG ha hc;have K2:=aiG hb hd;generalize ag (x*z)=r1 at*
 generalize ag (y*u)=r2 at*
 have x0:=Kept.cell_of (hx.cell (i:=0) (v:=rQ) rfl);unfold rQ at x0
 go_enter Tryz.func91,Tryz.ntmps91
 go_wp2_with fail
 refine ax (by kernel_rfl) (by kernel_rfl) ?_
 repeat (go_big_quiet_step (first|(with_reducible exact K1.kept hs)|(with_reducible exact K2.kept hs)))
 refine wpQuiet_nil ?_;rintro _ ⟨u1,rfl⟩
 go_wp2_with fail
 go_ret2
 exact⟨rfl,u1.low⟩
theorem aap {a b c d p q:ByteArray}{r:Rat}(g:Nat)(w:World)(hg:Gl w)(hx:Bx w g #[rQ])(s1:b.size≤999999)(s2:d.size≤999999)
 (KO:Hid (∀w,Gl w→Bx w g #[rQ]→Calls Tryz.prog 91 #[.string a,.string (dn b),.string c,.string (dn d),.pointer (some ⟨g,0,none⟩)] w fun e w'=>e= .returned (.tuple #[.string p,.string q])∧Below w.heap.size w w'))
 (KM:Ret 41 #[.string p,.string q] (FR r)):
 Calls Tryz.prog 39 #[opV 91 g,FV a b,FV c d] w fun e w'=>e= .returned (FR r)∧Below w.heap.size w w':=by
 have hs:=St.refl hg;have K1:=dL (n:=a) s1;have K2:=dL (n:=c) s2;unfold FR at KM⊢
 unfold FV at K1 K2⊢
 unfold opV;generalize dn b=b' at*
 generalize dn d=d' at*
 generalize frN r=rn at*
 generalize frD r=rd at*
 go_enter Tryz.func39,Tryz.ntmps39
 go_wp2_with fail
 refine K1.step (((hs.alloc _).alloc _).alloc _) ?_;intro w1 hs hb;have hx1:=(((hx.alloc _).alloc _).alloc _).on hb;have B1:=((Bx.new1 w _ #[.string c,.string d] 26).alloc _).on hb;have B2:=(Bx.new2 w _ _ #[.string ⟨#[]⟩,.string ⟨#[]⟩] 26).on hb;have x0:=B1.cell (i:=0) (v:=.string c) rfl;have x1:=B1.cell (i:=1) (v:=.string d) rfl
 go_wp2_with fail
 refine K2.step hs ?_;intro w2 hs hb;have hx2:=hx1.on hb;have B3:=B2.on hb
 go_wp2_with fail
 refine(KO.out _ hs.gl hx2).mono ?_;rintro e w3 ⟨rfl,hb⟩;replace hs:=hs.on hb;have B4:=B3.on hb
 go_wp2_with fail
 refine KM.step hs ?_;intro w4 hs hb;have B5:=B4.on hb;have x2:=B5.cell (i:=0) (v:=.string ⟨#[]⟩) rfl;have x3:=B5.cell (i:=1) (v:=.string ⟨#[]⟩) rfl;have f2:=B5.frozen 0;have f3:=B5.frozen 1
 go_wp2_with fail
 have B6:=(B5.set 0 (.string rn)).set 1 (.string rd);have y0:=B6.cell (i:=0) (v:=.string rn) rfl;have y1:=B6.cell (i:=1) (v:=.string rd) rfl;have hs2:=(hs.set (b:=w.heap.size+2) (by omega) 0 (.string rn)).set (b:=w.heap.size+2) (by omega) 1 (.string rd);exact bodyPost_ret (v:=.agg #[.string rn,.string rd]) (by simp[results,Tryz.results39,go_sem,y0,y1]) rfl ⟨rfl,hs2.2⟩
theorem ajF {a b c d:ByteArray}{x y z u:Int}(ha:Vs a x)(hb:Vs b y)(hc:Vs c z)(hd:Vs d u)(g:Nat)(w:World)(hg:Gl w)(hx:Bx w g #[rQ]):
 Calls Tryz.prog 92 #[.string a,.string b,.string c,.string d,.pointer (some ⟨g,0,none⟩)] w fun e w'=>e= .returned (.tuple #[.string (ag (x*u)),.string (ag (y*z))])∧Below w.heap.size w w':=by
 have hs:=St.refl hg;have K1:=aiG ha hd;have K2:=aiG hb hc;generalize ag (x*u)=r1 at*
 generalize ag (y*z)=r2 at*
 have x0:=Kept.cell_of (hx.cell (i:=0) (v:=rQ) rfl);unfold rQ at x0
 go_enter Tryz.func92,Tryz.ntmps92
 go_wp2_with fail
 refine ax (by kernel_rfl) (by kernel_rfl) ?_
 repeat (go_big_quiet_step (first|(with_reducible exact K1.kept hs)|(with_reducible exact K2.kept hs)))
 refine wpQuiet_nil ?_;rintro _ ⟨u1,rfl⟩
 go_wp2_with fail
 go_ret2
 exact⟨rfl,u1.low⟩
theorem acW {a b c d p q:ByteArray}{r:Rat}(g:Nat)(w:World)(hg:Gl w)(hx:Bx w g #[rQ])(s1:b.size≤999999)(s2:d.size≤999999)
 (KO:Hid (∀w,Gl w→Bx w g #[rQ]→Calls Tryz.prog 92 #[.string a,.string (dn b),.string c,.string (dn d),.pointer (some ⟨g,0,none⟩)] w fun e w'=>e= .returned (.tuple #[.string p,.string q])∧Below w.heap.size w w'))
 (KM:Ret 41 #[.string p,.string q] (FR r)):
 Calls Tryz.prog 39 #[opV 92 g,FV a b,FV c d] w fun e w'=>e= .returned (FR r)∧Below w.heap.size w w':=by
 have hs:=St.refl hg;have K1:=dL (n:=a) s1;have K2:=dL (n:=c) s2;unfold FR at KM⊢
 unfold FV at K1 K2⊢
 unfold opV;generalize dn b=b' at*
 generalize dn d=d' at*
 generalize frN r=rn at*
 generalize frD r=rd at*
 go_enter Tryz.func39,Tryz.ntmps39
 go_wp2_with fail
 refine K1.step (((hs.alloc _).alloc _).alloc _) ?_;intro w1 hs hb;have hx1:=(((hx.alloc _).alloc _).alloc _).on hb;have B1:=((Bx.new1 w _ #[.string c,.string d] 26).alloc _).on hb;have B2:=(Bx.new2 w _ _ #[.string ⟨#[]⟩,.string ⟨#[]⟩] 26).on hb;have x0:=B1.cell (i:=0) (v:=.string c) rfl;have x1:=B1.cell (i:=1) (v:=.string d) rfl
 go_wp2_with fail
 refine K2.step hs ?_;intro w2 hs hb;have hx2:=hx1.on hb;have B3:=B2.on hb
 go_wp2_with fail
 refine(KO.out _ hs.gl hx2).mono ?_;rintro e w3 ⟨rfl,hb⟩;replace hs:=hs.on hb;have B4:=B3.on hb
 go_wp2_with fail
 refine KM.step hs ?_;intro w4 hs hb;have B5:=B4.on hb;have x2:=B5.cell (i:=0) (v:=.string ⟨#[]⟩) rfl;have x3:=B5.cell (i:=1) (v:=.string ⟨#[]⟩) rfl;have f2:=B5.frozen 0;have f3:=B5.frozen 1
 go_wp2_with fail
 have B6:=(B5.set 0 (.string rn)).set 1 (.string rd);have y0:=B6.cell (i:=0) (v:=.string rn) rfl;have y1:=B6.cell (i:=1) (v:=.string rd) rfl;have hs2:=(hs.set (b:=w.heap.size+2) (by omega) 0 (.string rn)).set (b:=w.heap.size+2) (by omega) 1 (.string rd);exact bodyPost_ret (v:=.agg #[.string rn,.string rd]) (by simp[results,Tryz.results39,go_sem,y0,y1]) rfl ⟨rfl,hs2.2⟩
end Go.Proofs.YtjknklinhegdoaaGreatDoor
