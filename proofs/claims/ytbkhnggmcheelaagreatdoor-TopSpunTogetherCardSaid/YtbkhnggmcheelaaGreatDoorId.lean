/- TopSpunTogether: Integer. Conditions: bounded sizes; variables as laid. -/
import Derived.Test.YtbkhnggmcheelaaGreatDoorShelf
import Derived.Lib.AppendIntMem
import Derived.Lib.SmallJoins
import Derived.Shelf.Strings.Repeat
import Derived.Deep.RegionHeld3
import Derived.Deep.DrawnRows
import Derived.Test.YtbkhnggmcheelaaGreatDoorIb
set_option maxHeartbeats 4000000
set_option maxRecDepth 100000
namespace Go.Proofs.YtbkhnggmcheelaaGreatDoor
open Tryz
open Go.RowKit Go.Shelf Dec
def bytes (s:BA):Bytes:=s.data.toList
def str (l:Bytes):BA:=⟨l.toArray⟩
theorem fI (l:Bytes):bytes (str l)=l:=by simp[bytes,str]
theorem qW (s:BA):str (bytes s)=s:=by simp[bytes,str]
theorem bR (s:BA):s.size=(bytes s).length :=by unfold bytes;rw[Array.length_toList];rfl
theorem gB (l:Bytes):(str l).size =l.length:=by rw[bR,fI]
theorem pM (s:Bytes):Lib.trimPrefix s [45]=bare s:=by
 unfold Lib.trimPrefix Lib.hasPrefix bare;cases s with
 |nil=>simp
 |cons a t=>
  by_cases h:a=45
  ·subst h;simp
  ·simp[h,Ne.symm h]
theorem su (s:Bytes):Lib.hasPrefix s [45]=decide (s.head? =some 45):=by
 unfold Lib.hasPrefix;cases s with
 |nil=>simp
 |cons a t=>
  by_cases h:a=45
  ·subst h;simp
  ·have h':((45:UInt8)==a)=false:=by simp[Ne.symm h]
   simp[List.isPrefixOf,h,h']
def tens:Bytes:=[48,49,50,51,52,53,54,55,56,57]
theorem acN (b:UInt8):tens.contains b=dF b:=by
 have key:∀n:Fin 256,tens.contains (UInt8.ofNat n.val)=dF (UInt8.ofNat n.val):=by decide+kernel
 have:=key ⟨b.toNat,b.toNat_lt⟩;simpa using this
theorem jA (p:UInt8->Bool):∀l:Bytes,l.dropWhile p=[]↔l.all p=true:=by
 intro l
 induction l with
 |nil=>simp
 |cons a l ih=>by_cases h:p a=true<;>simp[h,ih]
theorem qR (s:Bytes):Lib.trimS s tens=[]↔s.all dF=true:=by
 unfold Lib.trimS Lib.trimLeftS Lib.trimRightS;simp only[acN];rw[jA];constructor
 ·intro h
  rw[List.all_reverse]at h;have h1:(s.reverse.dropWhile dF)=[]:=by
   cases hd:s.reverse.dropWhile dF with
   |nil=>rfl
   |cons a t=>
    have h2:=kY dF s.reverse a (by rw[hd];rfl);rw[hd]at h;simp[h2]at h
  rw[jA,List.all_reverse]at h1;exact h1
 ·intro h
  have:s.reverse.dropWhile dF=[]:=by rw[jA,List.all_reverse];exact h
  rw[this];rfl
theorem tT (s:Bytes):Lib.trimLeftS s [48]=s.dropWhile (· ==48):=by
 unfold Lib.trimLeftS;congr 1;funext b;simp only[List.contains_cons,List.contains_nil,Bool.or_false]
theorem gD (s:BA):s.toList.isEmpty=(bytes s).isEmpty :=by rw[ByteArray.toList_eq];rfl
theorem agT (s t:BA):(s.toList==t.toList)=decide (bytes s=bytes t):=by
 rw[ByteArray.toList_eq,ByteArray.toList_eq,Bool.eq_iff_iff];simp[bytes]
theorem bytes_inj {s t:BA}(h:bytes s=bytes t):s=t:=by rw[<-qW s,h,qW]
theorem xK (p:UInt8->Bool)(l:Bytes):(l.dropWhile p).length <=l.length:=(List.dropWhile_sublist p).length_le
theorem acv (s:Bytes):(bare s).length <=s.length:=by unfold bare;split<;>simp
theorem nG (s:Bytes):(iN s).length <=s.length:=by
 unfold iN;split
 ·exact amG (xK _ _) (acv s)
 ·simp
theorem oO (a:BA)(w:World)(ha:a.size<=9223372036854775807):
 Calls prog 99 #[.string a] w fun e w'=>e= .returned (.tuple #[.string (str (iN (bytes a))),.bool (wV (bytes a))])/\Below w.heap.size w w':=by
 have h1:∀w,Calls prog 160 #[.string a,.string ⟨#[45]⟩] w fun e w'=>e= .returned (.tuple #[.string (str (bare (bytes a))),.bool (decide ((bytes a).head? =some 45))])/\w'=w:=fun w=>by
  have:=Any.strings_CutPrefix lays103 a ⟨#[45]⟩ w;rw[show (⟨#[45]⟩:BA).data.toList =[45]from rfl,pM,su]at this;exact this
 obtain⟨t,ht⟩:=eX (str (bare (bytes a)));have hbt:bytes t=bare (bytes a):=by rw[<-ht,fI]
 have hts:t.size<=9223372036854775807:=by have:=acv (bytes a);rw[bR,hbt];rw[bR]at ha;omega
 have h2:∀w,Calls prog 161 #[.string t,.string ⟨#[48,49,50,51,52,53,54,55,56,57]⟩] w fun e w'=>e= .returned (.string (str (Lib.trimS (bytes t) tens)))/\Below w.heap.size w w':=fun w=>
  Any.strings_Trim_laid lays160 (by kernel_rfl) t ⟨#[48,49,50,51,52,53,54,55,56,57]⟩ w hts (by decide) (ascii_of_all (by decide))
 have h3:∀w,Calls prog 162 #[.string t,.string ⟨#[48]⟩] w fun e w'=>e= .returned (.string (str ((bytes t).dropWhile (· ==48))))/\Below w.heap.size w w':=fun w=>by
  have:=Any.strings_TrimLeft_laid lays161 (by kernel_rfl) t ⟨#[48]⟩ w (by decide) (ascii_of_all (by decide));rw[show (⟨#[48]⟩:BA).data.toList =[48]from rfl,tT]at this;exact this
 rw[ht]at h1;have H1:=amy h1;have HB:=amy hbt;clear h1 ht hbt;obtain⟨m,hm⟩:=eX (decide ((bytes a).head? =some 45));obtain⟨u,hu⟩:=eX (str (Lib.trimS (bytes t) tens));have HU:Hid (bytes u=Lib.trimS (bytes t) tens):=by show bytes u=_;rw[<-hu,fI]
 obtain⟨v,hv⟩:=eX (str ((bytes t).dropWhile (· ==48)));have HV:Hid (bytes v=(bytes t).dropWhile (· ==48)):=by show bytes v=_;rw[<-hv,fI]
 rw[hu]at h2;rw[hv]at h3;have H2:=amy h2;have H3:=amy h3;have HM:=amy hm;clear h2 h3 hu hv hm;have H1':=H1.o;rw[HM.o]at H1';have H1b:=amy H1';clear H1' H1;by_cases hall:(bare (bytes a)).all dF=true
 ·have hue:bytes u=[]:=by rw[HU.o,qR,HB.o];exact hall
  have q:u.toList.isEmpty=true:=by rw[gD,hue];rfl
  have HD:Hid (iN (bytes a)=bytes v):=by show iN (bytes a)=bytes v;rw[HV.o,HB.o];unfold iN;rw[if_pos hall]
  have HDv:Hid (str (iN (bytes a))=v):=by show str (iN (bytes a))=v;rw[HD.o,qW]
  have HN:Hid (wV (bytes a)=(m&& !v.toList.isEmpty)):=by show wV (bytes a)=_;rw[gD, <-HD.o];unfold wV;rw[HM.o]
  clear hue hall;cases m with
  |true=>
   go_enter func99,ntmps99
   go_wp2_with fail
   refine(H1b.o _).mono ?_;rintro e w1 ⟨rfl,rfl⟩
   go_wp2_with fail
   refine(H2.o _).mono ?_;rintro e w2 ⟨rfl,hb2⟩
   go_wp2_with fail
   refine(H3.o _).mono ?_;rintro e w3 ⟨rfl,hb3⟩
   go_wp2_with fail
   go_ret2
   refine⟨lw (by rw[HDv.o];rfl) ?_,hb2.trans (hb3.mono hb2.size)⟩;rw[HN.o];simp
  |false=>
   go_enter func99,ntmps99
   go_wp2_with fail
   refine(H1b.o _).mono ?_;rintro e w1 ⟨rfl,rfl⟩
   go_wp2_with fail
   refine(H2.o _).mono ?_;rintro e w2 ⟨rfl,hb2⟩
   go_wp2_with fail
   refine(H3.o _).mono ?_;rintro e w3 ⟨rfl,hb3⟩
   go_wp2_with fail
   go_ret2
   refine⟨lw (by rw[HDv.o];rfl) ?_,hb2.trans (hb3.mono hb2.size)⟩;rw[HN.o];rfl
 ·have hue:bytes u≠ []:=by rw[HU.o];intro e;rw[qR,HB.o]at e;exact hall e
  have q:u.toList.isEmpty=false:=by rw[gD];cases h:bytes u with|nil=>exact absurd h hue|cons _ _=>rfl
  have HD:Hid (iN (bytes a)=[]):=by show iN (bytes a)=[];unfold iN;rw[if_neg hall]
  clear hue hall
  go_enter func99,ntmps99
  go_wp2_with fail
  refine(H1b.o _).mono ?_;rintro e w1 ⟨rfl,rfl⟩
  go_wp2_with fail
  refine(H2.o _).mono ?_;rintro e w2 ⟨rfl,hb2⟩
  go_wp2_with fail
  go_ret2
  refine⟨lw (by rw[HD.o];rfl) ?_,hb2⟩;unfold wV;rw[HD.o];simp
open Go.Sort
def Gl (w:World):Prop:=Lib.TabIs prog w "internal/strconv.uint64pow10" .u64 Lib.pow10Tab/\∃tp p,w.var? prog "strconv.ErrRange" =some #[.iface tp p]/\∃tq q,w.var? prog "strconv.ErrSyntax" =some #[.iface tq q]
theorem qP {P:Program}{w w':World}{n:String}{cs:Array Value}(h:w.var? P n=some cs)(hb:Below w.heap.size w w'):w'.var? P n=some cs:=by
 unfold World.var? at*
 cases hg:P.globalNamed n with
 |none=>simp[hg]at h
 |some g=>
  simp only[hg,Option.bind_some]at h⊢
  have hlt:g<w.heap.size:=by
   rcases Nat.lt_or_ge g w.heap.size with h'|h'
   ·exact h'
   ·rw[Array.getElem?_eq_none h']at h;simp at h
  rw[hb.block g hlt];exact h
theorem Gl.below {w w':World}(h:Gl w)(hb:Below w.heap.size w w'):Gl w':=by
 obtain⟨h1,tp,p,h2,tq,q,h3⟩:=h;exact⟨Lib.tabBelow_of_tabIs h1 w' hb,tp,p,qP h2 hb,tq,q,qP h3 hb⟩
theorem xO (u:Nat):Lib.decDigits u=fmt u:=by
 induction u using Nat.strongRecOn with
 |_ u ih=>
  by_cases h:u<10
  ·rw[Lib.decDigits,dif_pos h]
   unfold fmt;by_cases h0:u=0
   ·subst h0;rfl
   ·rw[if_neg h0,jB h0,show u/10=0 by omega,gJ,List.nil_append]
    unfold aje;rw[Nat.mod_eq_of_lt h]
  ·rw[Lib.decDigits,dif_neg h,ih (u/10) (by omega)]
   unfold fmt;rw[if_neg (show u/10≠0 by omega),if_neg (show u≠0 by omega),jB (show u≠0 by omega)];rfl
theorem fmt_in (u:Nat)(hu64:u<1000000000)(w:World)(htab:Gl w):
 Calls prog 166 #[.int .u64 (u:Int),.int .i64 10] w fun e w'=>e= .returned (.string (str (fmt u)))/\Below w.heap.size w w':=by
 rw[<-xO];by_cases hs:u<100
 ·go_enter func166,ntmps166
  go_wp2_with fail
  refine(Any.internal_strconv_small lays283 u hs _).mono ?_;rintro e w' ⟨rfl,rfl⟩
  go_wp2_with fail
  go_ret
  exact⟨rfl,am3 _ _⟩
 ·have hu1:1<=u:=by omega
  have hnd20:Lib.nDigits u<=20:=by have:=Lib.numDigits_eq u hu1 (by omega);split at this<;>omega
  have hal:prog.arrayLen 280=24:=by kernel_rfl
  have hsl:∀W,(Instr.sliceAt 280 (.pointer (some ⟨w.heap.size,0,none⟩)) none (some (.int .i64 (Lib.nDigits u:Int))) none).run prog W= .ok (.slice (some ⟨w.heap.size,0,none⟩) (Lib.nDigits u) 24) W:=fun W=>by
   rw[run_sliceAt_array_h W 280 ⟨w.heap.size,0,none⟩ (by kernel_rfl) .i64 (Lib.nDigits u:Int) (by omega) (by rw[hal];omega)];rw[hal];rfl
  have hH0:=Lib.holds_zero0 w 280 (Lib.nDigits u) (by omega);have hfmt:=Any.internal_strconv_formatBase10 lays285 w.heap.size 0 24 u (Array.replicate (Lib.nDigits u) 0) (w.alloc (.cells Lib.zeros24 280)) hH0 (by rw[Array.size_replicate];exact Lib.lt_pow_nDigits u) (by omega) (by rw[Array.size_replicate];omega);rw[Array.size_replicate]at hfmt;have HH0:=amy hH0;have Hfmt:=amy hfmt;have Htab:=amy htab.1;clear hH0 hal hfmt htab
  go_enter func166,ntmps166
  go_wp2_with fail
  refine(Any.internal_strconv_numDigits laysM284 u hu1 (by omega) _ (Lib.tabIs_alloc Htab.o _)).mono ?_;rintro e w' ⟨rfl,rfl⟩
  go_wp2_with fail
  refine Hfmt.o.mono ?_;rintro e w' ⟨rfl,k,v',dk,rfl,hF⟩;obtain⟨os,eo⟩:=Lib.fin_at w (.cells Lib.zeros24 280) dk k 0;have hcv:=run_convert_bytes_back (P:=prog) ((putRow (fun(b:UInt8)=>Value.int .u8 (b.toNat:Int)) (w.alloc (.cells Lib.zeros24 280)) w.heap.size 0 dk).drewN k) 186 9 5 ⟨w.heap.size,0,none⟩ 24 (Lib.decDigits u) (by kernel_rfl) (by kernel_rfl) (by kernel_rfl) (fun j hj=>by
   rw[Lib.row_is_numeral hF j hj,Lib.add_plain,World.cell?_drewN];exact cell?_putRow (fun(b:UInt8)=>Value.int .u8 (b.toNat:Int)) _ w.heap.size 0 _ dk HH0.o (by rw[hF.size,Array.size_replicate]) j (by rw[hF.size];rw[Lib.decDigits_length]at hj;exact hj))
  rw[Lib.decDigits_length]at hcv;have HB:Hid (Below w.heap.size w ((putRow (fun(b:UInt8)=>Value.int .u8 (b.toNat:Int)) (w.alloc (.cells Lib.zeros24 280)) w.heap.size 0 dk).drewN k)):=by
   show Below _ _ _;rw[eo];exact Lib.below_grow _ w ano k os
  clear eo hF;generalize (putRow (fun(b:UInt8)=>Value.int .u8 (b.toNat:Int)) (w.alloc (.cells Lib.zeros24 280)) w.heap.size 0 dk).drewN k=W2 at*
  go_wp2_with fail
  go_ret
  exact⟨rfl,HB.o⟩
theorem afQ (u:Nat)(hu:u<1000000000)(w:World)(htab:Gl w):
 Calls prog 104 #[.int .u64 (u:Int),.int .i64 10] w fun e w'=>e= .returned (.string (str (fmt u)))/\Below w.heap.size w w':=by
 have Htab:=amy htab;clear htab
 go_enter func104,ntmps104
 go_wp2_with fail
 refine(fmt_in u hu w Htab.o).mono ?_;rintro e w1 ⟨rfl,hb⟩
 go_wp2_with fail
 go_ret
 exact⟨rfl,hb⟩
theorem ac0 (m:Nat)(hM:m<=18446744073709551615):∀(l:Bytes) (n:Nat),(∀d∈l,dF d=true)->n*10^l.length+bB l<=m->Lib.parseUintM m n l= .ok (n*10^l.length+bB l):=by
 intro l
 induction l with
 |nil=>intro n _ _;simp[Lib.parseUintM,bB]
 |cons d l ih=>
  intro n h hm;have hd:=h d amJ;unfold dF at hd;simp at hd;rw[iX,amT,anb]at hm⊢
  have e:(n*10+(d.toNat-48))*10^l.length+bB l=n*(10^l.length*10)+((d.toNat-48)*10^l.length+bB l):=by rw[Nat.add_mul];grind
  have:=ih (n*10+(d.toNat-48)) (fun x hx=>h x (amL _ hx)) (by omega);have h1:n*(1*10)<=n*(10^l.length*10):=ana _ (Nat.mul_le_mul_right _ (Nat.pow_pos (by omega)));have h2:(d.toNat-48)*1<=(d.toNat-48)*10^l.length:=ana _ (Nat.pow_pos (by omega));rw[Lib.parseUintM,if_pos hd,if_neg (by omega),if_neg (by omega),this,e]
theorem aid (l:Bytes)(h0:l≠ [])(h:∀d∈l,dF d=true)(h9:l.length<=9):Lib.parseUintB 64 l= .ok (bB l):=by
 unfold Lib.parseUintB;rw[if_neg h0];have h1:=mU l h;have h2:10^l.length<=10^9:=Nat.pow_le_pow_right (by omega) h9;have:=ac0 (2^64-1) (by omega) l 0 h (by simp only[Nat.zero_mul,am5];omega);simpa using this
theorem xX (t:BA)(i j:Nat):bytes (t.extract i j)=((bytes t).take j).drop i:=by
 unfold bytes;rw[ByteArray.data_extract,Array.toList_extract,List.extract_eq_take_drop,List.drop_take]
theorem akw {P:Program}{T:TypeId}(h:P.underlying T=some .string)(t:BA)(e:Nat)(he:e<=t.size)(u:World):
 (Instr.slice T (.string t) (some (.int .i64 (max 0 ((e:Int)-9)))) (some (.int .i64 (e:Int))) none).run P u= .ok (.string (t.extract (e-9) e)) u:=by
 rw[run_slice_string_if u T t .i64 .i64 _ _ h,if_pos ⟨by omega,by omega⟩,if_pos ⟨by omega,by omega⟩];rw[show (max 0 ((e:Int)-9)).toNat =e-9 by omega,anm]
def NumRet (z:Int)(w:World)(e:Ending)(w':World):Prop:=
 ∃A c,e= .returned (.agg #[.bool (decide (z<0)),.slice A (mag z.natAbs).length c])/\fV w' A c z.natAbs/\Below w.heap.size w w'
theorem ah1 (a:BA)(w:World)(ha:a.size<=1099511627776):
 Calls prog 45 #[.string a] w (NumRet (val (bytes a)) w):=by
 obtain⟨t,ht⟩:=eX (str (iN (bytes a)));have HT:Hid (bytes t=iN (bytes a)):=by show _=_;rw[<-ht,fI]
 have hts:t.size<=1099511627776:=by have:=nG (bytes a);rw[bR,HT.o];rw[bR]at ha;omega
 have H1:Hid (∀w,Calls prog 99 #[.string a] w fun e w'=>e= .returned (.tuple #[.string t,.bool (wV (bytes a))])/\Below w.heap.size w w'):=by
  intro w;rw[<-ht];exact oO a w (by omega)
 have Hdig:Hid (∀d∈bytes t,dF d=true):=by show∀d∈bytes t,_;rw[HT.o];exact qC _
 have Hhd:Hid (∀d,(bytes t).head? =some d->d≠48):=by show∀d,(bytes t).head? =some d->_;rw[HT.o];exact zO _
 have HV:Hid (decide (val (bytes a)<0)=wV (bytes a)/\(val (bytes a)).natAbs =bB (bytes t)):=by
  refine⟨?_,by rw[vU,HT.o]⟩;cases h:wV (bytes a)with
  |true=>exact am2 ((vT _).2 h)
  |false=>exact am1 (fun hh=>by rw[(vT _).1 hh]at h;cases h)
 generalize wV (bytes a)=ng at*
 generalize val (bytes a)=z at*
 clear ht;obtain⟨L,hL⟩:=eX (t.size);have HL:Hid ((bytes t).length =L):=by show _=_;rw[<-bR,hL]
 have HLs:=amy hL;rw[hL]at hts;clear hL
 go_enter func45,ntmps45
 go_wp2_with fail
 refine(H1.o _).mono ?_;rintro e w1 ⟨rfl,hb1⟩;have HB1:=amy hb1;clear hb1
 go_wp2_with fail
 rw[HLs.o]
 go_loopw [6,5] (fun s m wr=>∃(k:Nat) (A:Option Addr) (c:Nat),9*k<=L+8/\s= .int .i64 ((L:Int)-9*k)/\m= .slice A k c/\Hid (Ow .u64 179 wr w1.heap.size A c (rdG (bytes t) k)/\Below w1.heap.size w1 wr)) (fun s _ _=>(intOf s).toNat)
 case atStart=>exact⟨0,none,0,by omega,by simp,rfl,⟨rfl,.inl ⟨rfl,rfl⟩⟩,am3 _ _⟩
 case round=>
  obtain⟨k,A,c,hk,rfl,rfl,H⟩:=hrel;by_cases hlt:9*k<L
  ·obtain⟨e,he⟩:∃e,L=9*k+e:=⟨L-9*k,by omega⟩
   have hei:(L:Int)-9*k=(e:Int):=by omega
   have he0:0<e:=by omega
   rw[hei];have HE:=amy he;have hel:e<=L:=by omega
   clear he hei;have hsl:∀u:World,(Instr.slice 9 (.string t) (some (.int .i64 (max 0 ((e:Int)-9)))) (some (.int .i64 (e:Int))) none).run prog u= .ok (.string (t.extract (e-9) e)) u:=akw (by kernel_rfl) t e (by rw[HLs.o];exact hel);obtain⟨sub,hsub⟩:=eX (t.extract (e-9) e);rw[hsub]at hsl;have Hsub:Hid (bytes sub=((bytes t).take e).drop (e-9)):=by show _=_;rw[<-hsub,xX]
   have hslen:(bytes sub).length <=9:=by rw[Hsub.o,am8,amO];omega
   have hsn:bytes sub≠ []:=by
    intro h0;have:=congrArg List.length h0;rw[Hsub.o,am8,amO,HL.o]at this;simp at this;omega
   have Hp:=amy (aid (bytes sub) hsn (fun d hd=>Hdig.o d (by rw[Hsub.o]at hd;exact aaN hd)) hslen);have hss:sub.size<=9:=by rw[bR];exact hslen
   have Hg:Hid (rdG (bytes t) (k+1)=rdG (bytes t) k++ [bB (bytes sub)]):=by
    show _=_;rw[Hsub.o,rdG,HL.o,show L-9*k=e by have:=HE.o;omega,show L-9*(k+1)=e-9 by have:=HE.o;omega]
   have hgb:bB (bytes sub)<1000000000:=by
    have h1:=mU (bytes sub) (fun d hd=>Hdig.o d (by rw[Hsub.o]at hd;exact aaN hd));have h2:10^(bytes sub).length <=10^9:=Nat.pow_le_pow_right (by omega) hslen;omega
   clear hsub hslen hsn;generalize bB (bytes sub)=gg at*
   obtain⟨i0,hi,hz0,hz1,hz2⟩:=info_parts adk;have Hi:=amy hi;have Hz0:=amy hz0;have Hz1:=amy hz1;have Hz2:=amy hz2;clear hi hz0 hz1 hz2
   go_wp2_with fail
   refine(Any.strconv_ParseUint_10_at64_ok laysPu14 sub (by omega) gg Hp.o _).mono ?_;rintro e2 w3 ⟨rfl,hw3⟩;have HB3:Hid (Below wr.heap.size wr w3):=by
    rcases hw3 with rfl|rfl
    ·exact am3 _ _
    ·exact Lib.bytesWorld_below _ _ _
   clear hw3;have HO3:Hid (w3.ownsRow w1.heap.size 179 1 (.slice A k c) k ((rdG (bytes t) k).map (gvK .u64))):=by
    have:=H.o.1.below HB3.o;unfold Ow at this;rw[rD]at this;exact this
   have hsz3:w1.heap.size<=w3.heap.size:=amG H.o.2.size HB3.o.size
   go_wp2_with (at_builtin;refine aB _ rfl (.tmp 30) (.tmp 32) 114 rfl w1.heap.size 179 i0 (.int .u64 0) 1 8 (by kernel_rfl) Hi.o Hz0.o Hz1.o Hz2.o rfl (by omega) _ k ((rdG (bytes t) k).map (gvK .u64)) rfl (HO3.o.alloc _) (w3.heap.size+1) (some ⟨w3.heap.size,0,none⟩) 1 1 [.int .u64 (gg:Int)] rfl (rA w3 _ _) (sw [gg]) (by unfold maxLen;omega) (by omega) (by simp;omega) ?_;intro v4 w4 hown4 hg4 _;have HO4:=amy hown4;have HG4:=amy hg4;clear hown4 hg4)
   obtain⟨A4,c4,hv4,ho4⟩:=aeV (l:=rdG (bytes t) (k+1)) (n:=k+1) (by have:=HO4.o;rw[Hg.o,List.map_append];exact this) (rD _ _);subst hv4;have Ho4:=amy ho4;clear ho4
   go_roundw
   case rel=>
    refine⟨k+1,A4,c4,by have:=HE.o;omega,by have:=HE.o;congr 1;omega,rfl,Ho4.o,?_⟩;exact((H.o.2.trans (HB3.o.mono H.o.2.size)).alloc hsz3 _).grown HG4.o (by simp;omega) (abO HO3.o)
   case measure=>simp[intOf];omega
  ·have hz1:wr.heap[w.heap.size]? =some (.cells #[.bool false,.slice none 0 0] 116 (0,0)):=by
    rw[H.o.2.block _ (by have:=HB1.o.size;rw[amD]at this;omega),HB1.o.block _ (by rw[amD];omega)];exact bJ w _
   have hc0:wr.cell? ⟨w.heap.size,0,none⟩=some (.bool false):=by simp[World.cell?,hz1]
   have hc1:wr.cell? ⟨w.heap.size,1,none⟩=some (.slice none 0 0):=by simp[World.cell?,hz1]
   have hf0:wr.frozen? ⟨w.heap.size,0,none⟩=false:=by simp[World.frozen?,hz1]
   have hf1:wr.frozen? ⟨w.heap.size,1,none⟩=false:=by simp[World.frozen?,hz1]
   have Hz:=amy hz1;clear hz1
   go_wp2_with fail
   have hall:rdG (bytes t) k=mag z.natAbs:=by rw[HV.o.2];exact akC (bytes t) Hdig.o Hhd.o k (by rw[HL.o];omega) (by rw[HL.o];exact hk)
   have hlen:(mag z.natAbs).length =k:=by rw[<-hall,rD]
   have hlow:w.heap.size<w1.heap.size:=by have:=HB1.o.size;rw[amD]at this;omega
   have ho:Ow .u64 179 ((wr.setCell ⟨w.heap.size,0,none⟩ (.bool ng)).setCell ⟨w.heap.size,1,none⟩ (.slice A k c)) w1.heap.size A c (mag z.natAbs):=by
    rw[<-hall];exact ownsRow_setCell_below (ownsRow_setCell_below H.o.1 hlow _) hlow _
   refine bodyPost_ret (v:=.agg #[.bool ng,.slice A k c]) (by simp[results,results45,go_sem,hc0,hc1]) rfl ⟨A,c,by rw[HV.o.1,hlen],ho.mg,?_⟩;have hb:Below w.heap.size w wr:=(anp.trans (HB1.o.mono (by rw[amD];omega))).trans (H.o.2.mono (by omega));exact(hb.setCell ano _).setCell ano _
def Bu (w:World)(B b:Nat)(l:Bytes):Prop:=Lib.IsBuilder 188 5 B b (Lib.byteCells l) w
theorem Bu.below {w w':World}{B b:Nat}{l:Bytes}(h:Bu w B b l)(hb:Below w.heap.size w w'):Bu w' B b l:=by
 have key:∀p,Lib.BuilderAt 188 5 B b p (Lib.byteCells l) w->Lib.BuilderAt 188 5 B b p (Lib.byteCells l) w':=by
  rintro p ⟨hB,v,hbk,hown,hne⟩;refine⟨hB,v,(hb.block b (amA.1 hbk).1).trans hbk,⟨hown.1,?_⟩,hne⟩;rcases hown.2 with h0|⟨g,cap,cur,hv,hg,hh,r⟩
  ·exact .inl h0
  ·exact .inr ⟨g,cap,cur,hv,hg,(hb.block g (amA.1 hh).1).trans hh,r⟩
 rcases h with h|h
 ·exact .inl (key _ h)
 ·exact .inr (key _ h)
theorem Bu.new (w:World):Bu (w.alloc (.cells #[.pointer none,.slice none 0 0] 188)) w.heap.size w.heap.size []:=Lib.fresh_isBuilder _ _ _
theorem Bu.low {w:World}{B B' b:Nat}{l:Bytes}(h:Bu w B b l)(hB':B'<=B):Bu w B' b l:=by
 have key:∀p,Lib.BuilderAt 188 5 B b p (Lib.byteCells l) w->Lib.BuilderAt 188 5 B' b p (Lib.byteCells l) w:=by
  rintro p ⟨hB,v,hbk,hown,hne⟩;refine⟨by omega,v,hbk,⟨hown.1,?_⟩,hne⟩;rcases hown.2 with h0|⟨g,cap,cur,hv,hg,r⟩
  ·exact .inl h0
  ·exact .inr ⟨g,cap,cur,hv,by omega,r⟩
 rcases h with h|h
 ·exact .inl (key _ h)
 ·exact .inr (key _ h)
theorem wbyte (B b:Nat)(l:Bytes)(w:World)(h:Bu w B b l)(hlen:l.length+1<=140737488355328)(hBw:B<=w.heap.size):
 Calls prog 102 #[.pointer (some ⟨b,0,none⟩),.int .u8 45] w fun e w'=>e= .returned .nilIface /\Bu w' B b (l++ [45])/\Below B w w':=by
 refine(Any.Builder_WriteByte lays167 Builder_Extra_167 B b (Lib.byteCells l) 45 w h (by rw[Lib.byteCells_length];exact hlen) hBw).mono ?_;rintro e w' ⟨he,h1,h2⟩;refine⟨he,.inr ?_,h2⟩;have:Lib.byteCells (l++ [45])=Lib.byteCells l++ [.int .u8 45]:=by simp[Lib.byteCells]
 rw[this];exact h1
theorem wstr (B b:Nat)(l m:Bytes)(w:World)(h:Bu w B b l)(hlen:l.length+m.length<=140737488355328)(hBw:B<=w.heap.size):
 Calls prog 103 #[.pointer (some ⟨b,0,none⟩),.string (str m)] w fun e w'=>e= .returned (.tuple #[.int .i64 m.length,.nilIface])/\Bu w' B b (l++m)/\Below B w w':=by
 refine(Any.Builder_WriteString lays166 Builder_Extra_105 B b (Lib.byteCells l) (str m) w h (by rw[Lib.byteCells_length,gB];exact hlen) hBw).mono ?_;rintro e w' ⟨he,h1,h2⟩;refine⟨by rw[he,gB],.inr ?_,h2⟩;have:Lib.byteCells (l++m)=Lib.byteCells l++Lib.strCells (str m):=by simp[Lib.byteCells,Lib.strCells,str]
 rw[this];exact h1
theorem bstr (B b:Nat)(l:Bytes)(w:World)(h:Bu w B b l)(hBw:B<=w.heap.size):
 Calls prog 106 #[.pointer (some ⟨b,0,none⟩)] w fun e w'=>e= .returned (.string (str l))/\Below B w w':=
 Any.Builder_String_any lays169 Builder_Extra_169 B b l w h hBw
theorem akB (c:Nat):Lib.repeatL [48] c=List.replicate c 48:=by
 induction c with
 |zero=>rfl
 |succ c ih=>rw[Lib.repeatL,ih];rfl
theorem rep0 (c:Nat)(w:World)(hc:c<=9):
 Calls prog 105 #[.string ⟨#[48]⟩,.int .i64 (c:Int)] w fun e w'=>e= .returned (.string (str (List.replicate c 48)))/\Below w.heap.size w w':=by
 refine(Any.strings_Repeat lays105 Builder_Extra_105 ⟨#[48]⟩ c w (by omega) (by show 1*c<=_;omega)).mono ?_;rintro e w' ⟨he,h⟩;refine⟨?_,h⟩;rw[he,show (⟨#[48]⟩:BA).data.toList =[48]from rfl,akB];rfl
theorem akn (a b:Bytes):str a++str b=str (a++b):=by apply bytes_inj;rw[fI];simp[bytes,str]
theorem al6 {g:Nat}(h:g≠0):fmt g=dec g:=by unfold fmt;rw[if_neg h]
theorem acm (A:Option Addr)(c n:Nat)(l:List Nat)(w:World)(hn:l.length=n)(hcut:aae l=l)(hl:Small l)(hc:Mg .u64 w w.heap.size A l)(hcap:n<=c)(hcm:c<=9223372036854775807):
 Calls prog 101 #[.slice A n c] w fun e w'=>e= .returned (.slice A n c)/\w=w':=by
 subst hn;refine(lV A c l w hl hc hcap hcm).mono ?_;rintro e w' ⟨he,h⟩;exact⟨by rw[he,hcut],h⟩
def sgn (neg:Bool)(n:Nat):Int:=if neg then-(n:Int)else n
theorem agM {neg:Bool}{n:Nat}(h:n≠0):canon (sgn neg n)=(if neg then [45]else [])++dec n:=by
 unfold sgn canon;cases neg with
 |true=>
  simp only[if_true];rw[if_pos (by omega),show (-(n:Int)).natAbs =n by omega];rfl
 |false=>
  simp only[amQ,if_false];rw[if_neg (by omega)];rfl
theorem adL (neg:Bool):canon (sgn neg 0)=[]:=by cases neg<;>rfl
theorem al8 (n:Nat):aae (mag n)=mag n:=by unfold aae;rw[bu]
theorem ajg {l:List Nat}{j g:Nat}(hs:Small l)(hg:l[j]? =some g)(hz:au (l.drop (j+1))≠0):dec (au (l.drop j))=dec (au (l.drop (j+1)))++aho g:=by
 rw[aM hg];exact ajf hz (hs.at hg)
theorem ady {l:List Nat}(hs:Small l)(j:Nat):(dec (au (l.drop j))).length <=9*l.length:=by
 rw[aa5, <-acE];have h:=jW _ (hs.drop j);have h2:BB^(l.drop j).length <=BB^l.length:=Nat.pow_le_pow_right dx (by rw[am8];omega);omega
theorem ai7 {l:List Nat}{k v:Nat}(hk:l.length=k+1)(hv:l[k]? =some v)(hv0:v≠0):∀j,j<=k->au (l.drop j)≠0:=by
 intro j hj
 induction hd:k-j generalizing j with
 |zero=>
  obtain rfl:j=k:=by omega
  rw[aM hv];omega
 |succ d ih=>
  have:=ih (j+1) (by omega) (by omega);obtain⟨x,hx⟩:=bM l j (by omega);rw[aM hx];have h2:=Nat.mul_pos dx (Nat.pos_of_ne_zero this);omega
theorem ahw (neg:Bool)(A:Option Addr)(c n:Nat)(w:World)(hc:fV w A c n)(hm:(mag n).length <=274877906944)(hg:Gl w):
 Calls prog 46 #[.agg #[.bool neg,.slice A (mag n).length c]] w fun e w'=>e= .returned (.string (str (canon (sgn neg n))))/\Below w.heap.size w w':=by
 have Hc:=amy hc;have Hg:=amy hg;clear hc hg;by_cases h0:n=0
 ·subst h0
  have HE:=amy (adL neg);have hn:(mag 0).length =0:=rfl;have hc2:=Hc.o.2.2;have HM:Hid (Mg .u64 (w.alloc (.cells #[.bool neg,.slice A 0 c] 116)) (w.alloc (.cells #[.bool neg,.slice A 0 c] 116)).heap.size A []):=Mg.nil _ _ _ _;rw[hn];clear hn hm
  go_enter func46,ntmps46
  go_wp2_with fail
  refine(acm A c 0 [] _ rfl rfl (fun g hg=>by simp at hg) HM.o (Nat.zero_le _) hc2).mono ?_;rintro e w1 ⟨rfl,rfl⟩
  go_wp2_with fail
  go_ret
  exact⟨by rw[HE.o];rfl,anp⟩
 ·have HE:=amy (agM (neg:=neg) h0)
  have hlen:(mag n).length ≠0:=fun e=>h0 (oC.1 (amX e))
  obtain⟨k,hk⟩:∃k,(mag n).length =k+1:=⟨(mag n).length -1,by omega⟩;have HS:=amy (aX n);have HV:=amy (bu n);have HL:=amy (abY n);have HC:=amy (al8 n);have Hc1:=amy Hc.o.1;have hc2:=Hc.o.2.1;have hc3:=Hc.o.2.2;clear hlen;generalize mag n=l at*
  rw[hk]at hm hc2⊢
  have HK:=amy hk;clear hk;obtain⟨v,hv⟩:=bM l k (by rw[HK.o];omega);have hvb:v<1000000000:=HS.o.at hv;have hv0:v≠0:=by
   rintro rfl;apply HL.o;rw[List.getLast?_eq_getElem?,HK.o,Nat.add_sub_cancel];exact hv
  have Hp:=amy (ai7 HK.o hv hv0);obtain⟨b1,o1,hA,hB,h1⟩:=Hc1.o k v hv;subst hA;have Htop:Hid (fmt v=dec (au (l.drop k))):=by
   show _=_;rw[al6 hv0,aM hv,List.drop_eq_nil_of_le (by rw[HK.o];omega)];simp[au]
  clear hv hv0;have q0:((k:Int)+1==0)=false:=by simp;omega
  obtain⟨wb,hwb⟩:∃wb,wb=w.alloc (.cells #[.bool neg,.slice (some ⟨b1,o1,none⟩) (k+1) c] 116):=⟨_,rfl⟩;have Hb0:Hid (Below w.heap.size w wb):=by show Below _ _ _;rw[hwb];exact anp
  have hsz:wb.heap.size=w.heap.size+1:=by rw[hwb,amD]
  have Hsz:=amy hsz;have hcn:wb.cell? ⟨w.heap.size,0,none⟩=some (.bool neg):=by
   have:=bJ w (.cells #[.bool neg,.slice (some ⟨b1,o1,none⟩) (k+1) c] 116);rw[hwb];unfold World.cell?;rw[this];rfl
  have hcn2:∀o,(wb.alloc o).cell? ⟨w.heap.size,0,none⟩=some (.bool neg):=fun o=>by rw[World.cell?_alloc_lt _ _ _ (by rw[hsz];simp)];exact hcn
  have Hbu:Hid (Bu (wb.alloc (.cells #[.pointer none,.slice none 0 0] 188)) w.heap.size wb.heap.size []):=(Bu.new wb).low (B':=w.heap.size) (by rw[hsz];omega);have Hb1:Hid (Below w.heap.size w (wb.alloc (.cells #[.pointer none,.slice none 0 0] 188))):=Hb0.o.alloc (by rw[hsz];omega) _;clear hsz
  go_enter func46,ntmps46
  go_wp2_with fail
  rw[<-hwb];clear hwb;refine(acm _ c (k+1) l _ HK.o HC.o HS.o (Hc1.o.up Hb0.o) hc2 hc3).mono ?_;rintro e w1 ⟨rfl,rfl⟩;have h1b:(wb.alloc (.cells #[.pointer none,.slice none 0 0] 188)).cell? ⟨b1,o1+k,none⟩=some (.int .u64 v):=(Hb1.o.cell (p:=⟨b1,o1+k,none⟩) hB).trans h1;cases neg
  case' true=>
   go_wp2_with fail
   refine(wbyte w.heap.size wb.heap.size [] _ Hbu.o (by simp) Hb1.o.size).mono ?_;rintro e W2 ⟨rfl,hbu2,hb2⟩;have HB2:Hid (Below w.heap.size w W2):=Hb1.o.trans hb2;have h1c:W2.cell? ⟨b1,o1+k,none⟩=some (.int .u64 v):=(hb2.cell (p:=⟨b1,o1+k,none⟩) hB).trans h1b;obtain⟨pre,hpre⟩:∃pre:Bytes,pre=[45]:=⟨_,rfl⟩;have HE2:Hid (canon (sgn true n)=pre++dec n):=by show _=_;rw[hpre];exact HE.o
   have hpl:pre.length<=1:=by rw[hpre];simp
   have HBu2:Hid (Bu W2 w.heap.size wb.heap.size pre):=by show Bu _ _ _ _;rw[hpre];exact hbu2
   clear hpre hbu2 hb2 hcn2 hcn h1b Hbu Hb1
   go_wp2_with fail
   clear h1c
  case' false=>
   go_wp2_with fail
   obtain⟨pre,hpre⟩:∃pre:Bytes,pre=[]:=⟨_,rfl⟩;have HE2:Hid (canon (sgn false n)=pre++dec n):=by show _=_;rw[hpre];exact HE.o
   have hpl:pre.length<=1:=by rw[hpre];simp
   clear hcn2 hcn h1b;obtain⟨W2,hW2⟩:=eX (wb.alloc (.cells #[.pointer none,.slice none 0 0] 188));have HB2:Hid (Below w.heap.size w W2):=by show Below _ _ _;rw[<-hW2];exact Hb1.o
   have HBu2:Hid (Bu W2 w.heap.size wb.heap.size pre):=by show Bu _ _ _ _;rw[hpre, <-hW2];exact Hbu.o
   rw[hW2];clear hW2 hpre Hbu Hb1
  all_goals
   refine(afQ v hvb W2 (Hg.o.below HB2.o)).mono ?_;rintro e w3 ⟨rfl,hb3⟩;have HBu3:=amy (HBu2.o.below hb3);have HB3:Hid (Below w.heap.size w w3):=HB2.o.trans (hb3.mono HB2.o.size);clear hb3
   go_wp2_with fail
   have hfl:=(aaY (n:=v) hvb).2;refine(wstr w.heap.size wb.heap.size pre (fmt v) w3 HBu3.o (by omega) HB3.o.size).mono ?_;rintro e w4 ⟨rfl,hbu4,hb4⟩;rw[Htop.o]at hbu4;have HBu4:=amy hbu4;have HB4:Hid (Below w.heap.size w w4):=HB3.o.trans hb4;clear hbu4 hb4 HBu2 HBu3 HB2 HB3
   go_wp2_with fail
   go_loopw [5] (fun s wr=>∃j:Nat,j<=k/\s= .int .i64 ((j:Int)-1)/\Hid (Bu wr w.heap.size wb.heap.size (pre++dec (au (l.drop j)))/\Below w.heap.size w wr)) (fun s _=>(intOf s+1).toNat)
   case atStart=>exact⟨k,am4 _,by go_num,HBu4.o,HB4.o⟩
   case round=>
    obtain⟨j,hj,rfl,H⟩:=hrel;by_cases hj0:j=0
    ·subst hj0
     go_wp2_with fail
     refine(bstr w.heap.size wb.heap.size _ wr H.o.1 H.o.2.size).mono ?_;rintro e w5 ⟨rfl,hb5⟩
     go_wp2_with fail
     go_ret
     refine⟨?_,H.o.2.trans hb5⟩;rw[HE2.o,HV.o];rfl
    ·obtain⟨i,rfl⟩:∃i,j=i+1:=⟨j-1,by omega⟩
     rw[show (((i+1:Nat):Int)-1)=(i:Int)by omega];clear hj0;obtain⟨x,hx⟩:=bM l i (by rw[HK.o];omega);have hxb:x<1000000000:=HS.o.at hx;obtain⟨b2,o2,hA2,hB2,h2⟩:=Hc1.o i x hx;injection hA2 with hA2
     injection hA2 with e1 e2
     subst e1 e2;have hcx:wr.cell? ⟨b1,o1+i,none⟩=some (.int .u64 x):=(H.o.2.cell (p:=⟨b1,o1+i,none⟩) hB).trans h2;have Hdd:=amy (ajg HS.o hx (Hp.o (i+1) (by omega)));have hdl:=ady HS.o (i+1);rw[HK.o]at hdl;have hfl2:=aaY (n:=x) hxb;clear hx h2
     go_wp2_with fail
     refine(afQ x hxb wr (Hg.o.below H.o.2)).mono ?_;rintro e w5 ⟨rfl,hb5⟩;have HB5:Hid (Below w.heap.size w w5):=H.o.2.trans (hb5.mono H.o.2.size);have HBu5:=amy (H.o.1.below hb5);clear hb5 hcx;have hss:(str (fmt x)).size <=9:=by rw[gB];exact hfl2.2
     go_wp2_with fail
     rw[show (9:Int)-((str (fmt x)).size :Int)=((9-(fmt x).length :Nat):Int)by rw[gB];omega];refine(rep0 (9-(fmt x).length) w5 (by omega)).mono ?_;rintro e w6 ⟨rfl,hb6⟩;have HB6:Hid (Below w.heap.size w w6):=HB5.o.trans (hb6.mono HB5.o.size);have HBu6:=amy (HBu5.o.below hb6);clear hb6;have hsr:(str (List.replicate (9-(fmt x).length) 48)).size <=9:=by rw[gB];simp
     go_wp2_with fail
     rw[akn];refine(wstr w.heap.size wb.heap.size _ (aho x) w6 HBu6.o (by rw[abM hxb,am0];omega) HB6.o.size).mono ?_;rintro e w7 ⟨rfl,hbu7,hb7⟩;rw[List.append_assoc, <-Hdd.o]at hbu7;have HBu7:=amy hbu7;have HB7:Hid (Below w.heap.size w w7):=HB6.o.trans hb7;clear hbu7 hb7
     go_wp2_with fail
     go_roundw
     case rel=>exact⟨i,by omega,rfl,HBu7.o,HB7.o⟩
     case measure=>simp[intOf]
attribute [local go_sem ↓] Go.wp_at_zero Go.wp_at_succ
def num (neg:Bool)(A:Option Addr)(n c:Nat):Value:=.agg #[.bool neg,.slice A n c]
def acF (z:Int)(w:World)(e:Ending)(w':World):Prop:=
 ∃neg n A c,sgn neg n=z/\e= .returned (.agg #[.bool neg,.slice A (mag n).length c])/\fV w' A c n/\Below w.heap.size w w'
theorem plus' (A A':Option Addr)(c c' n m:Nat)(a b:Nat)(w:World)(hn:(mag a).length =n)(hn':(mag b).length =m)(hc:Mg .u64 w w.heap.size A (mag a))(hc':Mg .u64 w w.heap.size A' (mag b))(hm:n<=1099511627776)(hm':m<=1099511627776):
 Calls prog 97 #[.slice A n c,.slice A' m c'] w (um (mag (a+b)) w):=by
 subst hn hn';exact aib A A' c c' a b w hc hc' hm hm'
theorem afp (A A':Option Addr)(c c' n m:Nat)(a b:Nat)(w:World)(hn:(mag a).length =n)(hn':(mag b).length =m)(hc:Mg .u64 w w.heap.size A (mag a))(hc':Mg .u64 w w.heap.size A' (mag b))(hm:n<=1099511627776)(hle:b<=a):
 Calls prog 98 #[.slice A n c,.slice A' m c'] w (um (mag (a-b)) w):=by
 subst hn hn';exact afo A A' c c' a b w hc hc' hm hle
theorem xQ (A A':Option Addr)(c c' n m:Nat)(a b:Nat)(w:World)(hn:(mag a).length =n)(hn':(mag b).length =m)(hc:Mg .u64 w w.heap.size A (mag a))(hc':Mg .u64 w w.heap.size A' (mag b))(hm:n<=4611686018427387904)(hm':m<=4611686018427387904):
 Calls prog 77 #[.slice A n c,.slice A' m c'] w (akf a b w):=by
 subst hn hn';exact jE A A' c c' a b w hc hc' hm hm'
theorem four {w1:World}{B:Nat}{x0 x1 y1 v0 v1 u0 u1:Value}(h00:w1.cell? ⟨B,0,none⟩=some x0)(h01:w1.cell? ⟨B,1,none⟩=some x1)(h11:w1.cell? ⟨B+1,1,none⟩=some y1):
 ∃W2,W2=(((w1.setCell ⟨B,0,none⟩ v0).setCell ⟨B,1,none⟩ v1).setCell ⟨B+1,0,none⟩ u0).setCell ⟨B+1,1,none⟩ u1/\W2.cell? ⟨B,0,none⟩=some v0/\W2.cell? ⟨B,1,none⟩=some v1/\W2.cell? ⟨B+1,1,none⟩=some u1/\
  (∀o,W2.cell? ⟨B+1+1,o,none⟩=w1.cell? ⟨B+1+1,o,none⟩)/\(∀o,W2.frozen? ⟨B+1+1,o,none⟩=w1.frozen? ⟨B+1+1,o,none⟩)/\W2.heap.size=w1.heap.size/\(∀base w,base<=B->Below base w w1->Below base w W2):=by
 have n1:∀o o':Nat,(⟨B+1,o,none⟩:Addr)≠⟨B,o',none⟩:=fun o o' h=>by injection h with h;omega
 have n2:∀o o':Nat,(⟨B+1,o,none⟩:Addr)≠⟨B+1+1,o',none⟩:=fun o o' h=>by injection h with h;omega
 have n3:∀o o':Nat,(⟨B,o,none⟩:Addr)≠⟨B+1+1,o',none⟩:=fun o o' h=>by injection h with h;omega
 have m1:(⟨B,1,none⟩:Addr)≠⟨B,0,none⟩:=by simp
 have m2:(⟨B,0,none⟩:Addr)≠⟨B,1,none⟩:=by simp
 have m3:(⟨B+1,0,none⟩:Addr)≠⟨B+1,1,none⟩:=by simp
 refine⟨_,rfl,?_,?_,?_,?_,?_,by simp[World.setCell],?_⟩
 ·rw[amY _ _ _ _ (n1 _ _),amY _ _ _ _ (n1 _ _),amY _ _ _ _ m1]
  exact World.cell?_setCell_same _ _ _ h00
 ·rw[amY _ _ _ _ (n1 _ _),amY _ _ _ _ (n1 _ _)]
  exact World.cell?_setCell_same _ _ _ (by rw[amY _ _ _ _ m2];exact h01)
 ·exact World.cell?_setCell_same _ _ _ (by rw[amY _ _ _ _ m3,amY _ _ _ _ (n1 _ _).symm,amY _ _ _ _ (n1 _ _).symm];exact h11)
 ·intro o
  rw[amY _ _ _ _ (n2 _ _),amY _ _ _ _ (n2 _ _),amY _ _ _ _ (n3 _ _),amY _ _ _ _ (n3 _ _)]
 ·intro o
  simp[go_sem]
 ·intro base w hB hb
  exact(((hb.setCell hB _).setCell hB _).setCell (by simp;omega) _).setCell (by simp;omega) _
def boxes (w:World)(na nb:Bool)(A A':Option Addr)(n m c c':Nat):World:=
 ((w.alloc (.cells #[.bool na,.slice A n c] 116)).alloc (.cells #[.bool nb,.slice A' m c'] 116)).alloc (.cells #[.bool false,.slice none 0 0] 116)
theorem ajJ (na:Bool)(A A':Option Addr)(c c' a b:Nat)(w:World)(hc:fV w A c a)(hc':fV w A' c' b)(hm:(mag a).length <=274877906944)(hm':(mag b).length <=274877906944):
 Calls prog 44 #[.agg #[.bool na,.slice A (mag a).length c],.agg #[.bool na,.slice A' (mag b).length c']] w (acF (sgn na a+sgn na b) w):=by
 have HZ:Hid (sgn na (a+b)=sgn na a+sgn na b):=by show _=_;unfold sgn;cases na<;>simp<;>omega
 have Hc:=amy hc;have Hc':=amy hc';clear hc hc';generalize hla:(mag a).length =n at*
 generalize hlb:(mag b).length =m at*
 have HLa:=amy hla;have HLb:=amy hlb;clear hla hlb;have q:(na==na)=true:=by simp
 have HBx:Hid (Below w.heap.size w (boxes w na na A A' n m c c')):=by
  show Below _ _ _;exact(anp.alloc (by simp) _).alloc (by simp;omega) _
 obtain⟨W,hW⟩:=eX (boxes w na na A A' n m c c');have hsz:W.heap.size=w.heap.size+3:=by rw[<-hW];simp[boxes]
 have c00:W.cell? ⟨w.heap.size,0,none⟩=some (.bool na):=by rw[<-hW];simp[boxes,go_sem]
 have c01:W.cell? ⟨w.heap.size,1,none⟩=some (.slice A n c):=by rw[<-hW];simp[boxes,go_sem]
 have c11:W.cell? ⟨w.heap.size+1,1,none⟩=some (.slice A' m c'):=by rw[<-hW];simp[boxes,go_sem]
 have c20:W.cell? ⟨w.heap.size+1+1,0,none⟩=some (.bool false):=by rw[<-hW];simp[boxes,go_sem]
 have c21:W.cell? ⟨w.heap.size+1+1,1,none⟩=some (.slice none 0 0):=by rw[<-hW];simp[boxes,go_sem]
 have f20:W.frozen? ⟨w.heap.size+1+1,0,none⟩=false:=by rw[<-hW];simp[boxes,go_sem]
 have f21:W.frozen? ⟨w.heap.size+1+1,1,none⟩=false:=by rw[<-hW];simp[boxes,go_sem]
 have HW:=amy hW;have Hsz:=amy hsz;rw[hW]at HBx;clear hW hsz
 go_enter func44,ntmps44
 go_wp2_with fail
 rw[show ((w.alloc (.cells #[.bool na,.slice A n c] 116)).alloc (.cells #[.bool na,.slice A' m c'] 116)).alloc (.cells #[.bool false,.slice none 0 0] 116)=W from HW.o];clear HW
 go_region_held3 (fun w'=>w'.cell? ⟨w.heap.size,0,none⟩=some (.bool na)/\w'.cell? ⟨w.heap.size,1,none⟩=some (.slice A n c)/\w'.cell? ⟨w.heap.size+1,1,none⟩=some (.slice A' m c'))
  (first
   |(go_keep;done)
   |(go_split_ands;have hz:=Hsz.o;refine⟨(hb2.cell (p:=⟨w.heap.size,0,none⟩) (by simp;omega)).trans ?_,(hb2.cell (p:=⟨w.heap.size,1,none⟩) (by simp;omega)).trans ?_,(hb2.cell (p:=⟨w.heap.size+1,1,none⟩) (by simp;omega)).trans ?_⟩<;>(first|assumption|(simp;assumption)))
   |(refine⟨?_,?_,?_⟩<;>(rw[amY _ _ _ _ (by intro h;injection h with h1 h2;omega),amY _ _ _ _ (by intro h;injection h with h1 h2;omega)];(first|assumption|exact(hb2.cell (p:=⟨w.heap.size,0,none⟩) (by have hz:=Hsz.o;simp;omega)).trans c00|exact(hb2.cell (p:=⟨w.heap.size,1,none⟩) (by have hz:=Hsz.o;simp;omega)).trans c01|exact(hb2.cell (p:=⟨w.heap.size+1,1,none⟩) (by have hz:=Hsz.o;simp;omega)).trans c11))))
  (first
   |(go_at_call 97;refine(plus' A A' c c' n m a b _ HLa.o HLb.o (by exact Hc.o.1.up HBx.o.drew) (by exact Hc'.o.1.up HBx.o.drew) (by omega) (by omega)).mono ?_;rintro e w2 ⟨A2,c2,rfl,hm2,hb2⟩;have r20:w2.cell? ⟨w.heap.size+1+1,0,none⟩=some (.bool false):=(hb2.cell (p:=⟨w.heap.size+1+1,0,none⟩) (by have hz:=Hsz.o;simp;omega)).trans c20;have r21:w2.cell? ⟨w.heap.size+1+1,1,none⟩=some (.slice none 0 0):=(hb2.cell (p:=⟨w.heap.size+1+1,1,none⟩) (by have hz:=Hsz.o;simp;omega)).trans c21;have s20:w2.frozen? ⟨w.heap.size+1+1,0,none⟩=false:=(hb2.frozen (p:=⟨w.heap.size+1+1,0,none⟩) (by have hz:=Hsz.o;simp;omega)).trans f20;have s21:w2.frozen? ⟨w.heap.size+1+1,1,none⟩=false:=(hb2.frozen (p:=⟨w.heap.size+1+1,1,none⟩) (by have hz:=Hsz.o;simp;omega)).trans f21;have HM2:=amy hm2;clear hm2))
 go_wp2_with fail
 refine bodyPost_ret (v:=.agg #[.bool na,.slice A2 (mag (a+b)).length c2]) (by simp[results,results44,go_sem,r20,r21]) rfl ⟨na,a+b,A2,c2,HZ.o,rfl,?_,?_⟩
 ·have hz:w.heap.size+1+1<W.drew.heap.size:=by have hz:=Hsz.o;show _<W.heap.size;omega
  exact Ow.mg (ownsRow_setCell_below (ownsRow_setCell_below HM2.o hz _) hz _)
 ·have hb:Below w.heap.size w w2:=HBx.o.drew.trans (hb2.mono (by have hz:=Hsz.o;show _<=W.heap.size;omega))
  exact(hb.setCell (by simp;omega) _).setCell (by simp;omega) _
theorem add_ge (na nb:Bool)(A A':Option Addr)(c c' a b:Nat)(w:World)(hne:(na==nb)=false)(hle:b<=a)(hc:fV w A c a)(hc':fV w A' c' b)(hm:(mag a).length <=274877906944)(hm':(mag b).length <=274877906944):
 Calls prog 44 #[.agg #[.bool na,.slice A (mag a).length c],.agg #[.bool nb,.slice A' (mag b).length c']] w (acF (sgn na a+sgn nb b) w):=by
 have HZ:Hid (sgn na (a-b)=sgn na a+sgn nb b):=by show _=_;unfold sgn;cases na<;>cases nb<;>simp at hne⊢ <;>omega
 have Hle:=amy hle;clear hle;have Hc:=amy hc;have Hc':=amy hc';clear hc hc';generalize hla:(mag a).length =n at*
 generalize hlb:(mag b).length =m at*
 have HLa:=amy hla;have HLb:=amy hlb;clear hla hlb;have HBx:Hid (Below w.heap.size w (boxes w na nb A A' n m c c')):=by
  show Below _ _ _;exact(anp.alloc (by simp) _).alloc (by simp;omega) _
 obtain⟨W,hW⟩:=eX (boxes w na nb A A' n m c c');have hsz:W.heap.size=w.heap.size+3:=by rw[<-hW];simp[boxes]
 have c00:W.cell? ⟨w.heap.size,0,none⟩=some (.bool na):=by rw[<-hW];simp[boxes,go_sem]
 have c01:W.cell? ⟨w.heap.size,1,none⟩=some (.slice A n c):=by rw[<-hW];simp[boxes,go_sem]
 have c11:W.cell? ⟨w.heap.size+1,1,none⟩=some (.slice A' m c'):=by rw[<-hW];simp[boxes,go_sem]
 have c20:W.cell? ⟨w.heap.size+1+1,0,none⟩=some (.bool false):=by rw[<-hW];simp[boxes,go_sem]
 have c21:W.cell? ⟨w.heap.size+1+1,1,none⟩=some (.slice none 0 0):=by rw[<-hW];simp[boxes,go_sem]
 have f20:W.frozen? ⟨w.heap.size+1+1,0,none⟩=false:=by rw[<-hW];simp[boxes,go_sem]
 have f21:W.frozen? ⟨w.heap.size+1+1,1,none⟩=false:=by rw[<-hW];simp[boxes,go_sem]
 have HW:=amy hW;have Hsz:=amy hsz;rw[hW]at HBx;clear hW hsz;have c10:W.cell? ⟨w.heap.size+1,0,none⟩=some (.bool nb):=by rw[<-HW.o];simp[boxes,go_sem]
 go_enter func44,ntmps44
 go_wp2_with fail
 rw[show ((w.alloc (.cells #[.bool na,.slice A n c] 116)).alloc (.cells #[.bool nb,.slice A' m c'] 116)).alloc (.cells #[.bool false,.slice none 0 0] 116)=W from HW.o];clear HW;refine(xQ A A' c c' n m a b _ HLa.o HLb.o (Hc.o.1.up HBx.o) (Hc'.o.1.up HBx.o) (by omega) (by omega)).mono ?_;rintro e w1 ⟨r,rfl,hr,hr1,hr2,nn,hw1⟩;have q:decide (r<0)=false:=am1 (fun h=>by have:=hr.1.1 h;have:=Hle.o;omega);have HBx1:Hid (Below w.heap.size w w1):=by show Below _ _ _;rw[hw1];exact HBx.o.trans (below_drewN _ _ _)
 have Hs1:Hid (w1.heap.size=w.heap.size+3):=by show _=_;rw[hw1];exact Hsz.o
 have d00:w1.cell? ⟨w.heap.size,0,none⟩=some (.bool na):=by rw[hw1];exact c00
 have d01:w1.cell? ⟨w.heap.size,1,none⟩=some (.slice A n c):=by rw[hw1];exact c01
 have d10:w1.cell? ⟨w.heap.size+1,0,none⟩=some (.bool nb):=by rw[hw1];exact c10
 have d11:w1.cell? ⟨w.heap.size+1,1,none⟩=some (.slice A' m c'):=by rw[hw1];exact c11
 have d20:w1.cell? ⟨w.heap.size+1+1,0,none⟩=some (.bool false):=by rw[hw1];exact c20
 have d21:w1.cell? ⟨w.heap.size+1+1,1,none⟩=some (.slice none 0 0):=by rw[hw1];exact c21
 have e20:w1.frozen? ⟨w.heap.size+1+1,0,none⟩=false:=by rw[hw1];exact f20
 have e21:w1.frozen? ⟨w.heap.size+1+1,1,none⟩=false:=by rw[hw1];exact f21
 clear hr hw1 c00 c01 c10 c11 c20 c21 f20 f21 HBx Hsz
 go_wp2_with fail
 go_region_held3 (fun w'=>w'.cell? ⟨w.heap.size,0,none⟩=some (.bool na)/\w'.cell? ⟨w.heap.size,1,none⟩=some (.slice A n c)/\w'.cell? ⟨w.heap.size+1,1,none⟩=some (.slice A' m c'))
  (first
   |(go_keep;done)
   |(go_split_ands;have hz:=Hs1.o;refine⟨(hb2.cell (p:=⟨w.heap.size,0,none⟩) (by simp;omega)).trans ?_,(hb2.cell (p:=⟨w.heap.size,1,none⟩) (by simp;omega)).trans ?_,(hb2.cell (p:=⟨w.heap.size+1,1,none⟩) (by simp;omega)).trans ?_⟩<;>(first|assumption|(simp;assumption)))
   |(refine⟨?_,?_,?_⟩<;>(rw[amY _ _ _ _ (by intro h;injection h with h1 h2;omega),amY _ _ _ _ (by intro h;injection h with h1 h2;omega)];(first|assumption|exact(hb2.cell (p:=⟨w.heap.size,0,none⟩) (by have hz:=Hs1.o;simp;omega)).trans d00|exact(hb2.cell (p:=⟨w.heap.size,1,none⟩) (by have hz:=Hs1.o;simp;omega)).trans d01|exact(hb2.cell (p:=⟨w.heap.size+1,1,none⟩) (by have hz:=Hs1.o;simp;omega)).trans d11))))
  (first
   |(go_at_call 98;refine(afp A A' c c' n m a b _ HLa.o HLb.o (by exact Hc.o.1.up HBx1.o.drew) (by exact Hc'.o.1.up HBx1.o.drew) (by omega) Hle.o).mono ?_;rintro e w2 ⟨A2,c2,rfl,hm2,hb2⟩;have r20:w2.cell? ⟨w.heap.size+1+1,0,none⟩=some (.bool false):=(hb2.cell (p:=⟨w.heap.size+1+1,0,none⟩) (by have hz:=Hs1.o;simp;omega)).trans d20;have r21:w2.cell? ⟨w.heap.size+1+1,1,none⟩=some (.slice none 0 0):=(hb2.cell (p:=⟨w.heap.size+1+1,1,none⟩) (by have hz:=Hs1.o;simp;omega)).trans d21;have s20:w2.frozen? ⟨w.heap.size+1+1,0,none⟩=false:=(hb2.frozen (p:=⟨w.heap.size+1+1,0,none⟩) (by have hz:=Hs1.o;simp;omega)).trans e20;have s21:w2.frozen? ⟨w.heap.size+1+1,1,none⟩=false:=(hb2.frozen (p:=⟨w.heap.size+1+1,1,none⟩) (by have hz:=Hs1.o;simp;omega)).trans e21;have HM2:=amy hm2;clear hm2))
 go_wp2_with fail
 refine bodyPost_ret (v:=.agg #[.bool na,.slice A2 (mag (a-b)).length c2]) (by simp[results,results44,go_sem,r20,r21]) rfl ⟨na,a-b,A2,c2,HZ.o,rfl,?_,?_⟩
 ·have hz:w.heap.size+1+1<w1.drew.heap.size:=by have hz:=Hs1.o;show _<w1.heap.size;omega
  exact Ow.mg (ownsRow_setCell_below (ownsRow_setCell_below HM2.o hz _) hz _)
 ·have hb:Below w.heap.size w w2:=HBx1.o.drew.trans (hb2.mono (by have hz:=Hs1.o;show _<=w1.heap.size;omega))
  exact(hb.setCell (by simp;omega) _).setCell (by simp;omega) _
theorem add_lt (na nb:Bool)(A A':Option Addr)(c c' a b:Nat)(w:World)(hne:(na==nb)=false)(hle:a<=b)(hlt:a<b)(hc:fV w A c a)(hc':fV w A' c' b)(hm:(mag a).length <=274877906944)(hm':(mag b).length <=274877906944):
 Calls prog 44 #[.agg #[.bool na,.slice A (mag a).length c],.agg #[.bool nb,.slice A' (mag b).length c']] w (acF (sgn na a+sgn nb b) w):=by
 have HZ:Hid (sgn nb (b-a)=sgn na a+sgn nb b):=by show _=_;unfold sgn;cases na<;>cases nb<;>simp at hne⊢ <;>omega
 have Hle:=amy hle;have Hlt:=amy hlt;clear hle hlt;have Hc:=amy hc;have Hc':=amy hc';clear hc hc';generalize hla:(mag a).length =n at*
 generalize hlb:(mag b).length =m at*
 have HLa:=amy hla;have HLb:=amy hlb;clear hla hlb;have HBx:Hid (Below w.heap.size w (boxes w na nb A A' n m c c')):=by
  show Below _ _ _;exact(anp.alloc (by simp) _).alloc (by simp;omega) _
 obtain⟨W,hW⟩:=eX (boxes w na nb A A' n m c c');have hsz:W.heap.size=w.heap.size+3:=by rw[<-hW];simp[boxes]
 have c00:W.cell? ⟨w.heap.size,0,none⟩=some (.bool na):=by rw[<-hW];simp[boxes,go_sem]
 have c01:W.cell? ⟨w.heap.size,1,none⟩=some (.slice A n c):=by rw[<-hW];simp[boxes,go_sem]
 have c11:W.cell? ⟨w.heap.size+1,1,none⟩=some (.slice A' m c'):=by rw[<-hW];simp[boxes,go_sem]
 have c20:W.cell? ⟨w.heap.size+1+1,0,none⟩=some (.bool false):=by rw[<-hW];simp[boxes,go_sem]
 have c21:W.cell? ⟨w.heap.size+1+1,1,none⟩=some (.slice none 0 0):=by rw[<-hW];simp[boxes,go_sem]
 have f20:W.frozen? ⟨w.heap.size+1+1,0,none⟩=false:=by rw[<-hW];simp[boxes,go_sem]
 have f21:W.frozen? ⟨w.heap.size+1+1,1,none⟩=false:=by rw[<-hW];simp[boxes,go_sem]
 have HW:=amy hW;have Hsz:=amy hsz;rw[hW]at HBx;clear hW hsz;have y00:W.frozen? ⟨w.heap.size,0,none⟩=false:=by rw[<-HW.o];simp[boxes,go_sem]
 have y01:W.frozen? ⟨w.heap.size,1,none⟩=false:=by rw[<-HW.o];simp[boxes,go_sem]
 have y10:W.frozen? ⟨w.heap.size+1,0,none⟩=false:=by rw[<-HW.o];simp[boxes,go_sem]
 have y11:W.frozen? ⟨w.heap.size+1,1,none⟩=false:=by rw[<-HW.o];simp[boxes,go_sem]
 have c10:W.cell? ⟨w.heap.size+1,0,none⟩=some (.bool nb):=by rw[<-HW.o];simp[boxes,go_sem]
 go_enter func44,ntmps44
 go_wp2_with fail
 rw[show ((w.alloc (.cells #[.bool na,.slice A n c] 116)).alloc (.cells #[.bool nb,.slice A' m c'] 116)).alloc (.cells #[.bool false,.slice none 0 0] 116)=W from HW.o];clear HW;refine(xQ A A' c c' n m a b _ HLa.o HLb.o (Hc.o.1.up HBx.o) (Hc'.o.1.up HBx.o) (by omega) (by omega)).mono ?_;rintro e w1 ⟨r,rfl,hr,hr1,hr2,nn,hw1⟩;have q:decide (r<0)=true:=am2 (hr.1.2 Hlt.o);have HBx1:Hid (Below w.heap.size w w1):=by show Below _ _ _;rw[hw1];exact HBx.o.trans (below_drewN _ _ _)
 have Hs1:Hid (w1.heap.size=w.heap.size+3):=by show _=_;rw[hw1];exact Hsz.o
 have d00:w1.cell? ⟨w.heap.size,0,none⟩=some (.bool na):=by rw[hw1];exact c00
 have d01:w1.cell? ⟨w.heap.size,1,none⟩=some (.slice A n c):=by rw[hw1];exact c01
 have d10:w1.cell? ⟨w.heap.size+1,0,none⟩=some (.bool nb):=by rw[hw1];exact c10
 have d11:w1.cell? ⟨w.heap.size+1,1,none⟩=some (.slice A' m c'):=by rw[hw1];exact c11
 have d20:w1.cell? ⟨w.heap.size+1+1,0,none⟩=some (.bool false):=by rw[hw1];exact c20
 have d21:w1.cell? ⟨w.heap.size+1+1,1,none⟩=some (.slice none 0 0):=by rw[hw1];exact c21
 have e20:w1.frozen? ⟨w.heap.size+1+1,0,none⟩=false:=by rw[hw1];exact f20
 have e21:w1.frozen? ⟨w.heap.size+1+1,1,none⟩=false:=by rw[hw1];exact f21
 have z00:w1.frozen? ⟨w.heap.size,0,none⟩=false:=by rw[hw1];exact y00
 have z01:w1.frozen? ⟨w.heap.size,1,none⟩=false:=by rw[hw1];exact y01
 have z10:w1.frozen? ⟨w.heap.size+1,0,none⟩=false:=by rw[hw1];exact y10
 have z11:w1.frozen? ⟨w.heap.size+1,1,none⟩=false:=by rw[hw1];exact y11
 clear y00 y01 y10 y11;clear hr hw1 c00 c01 c10 c11 c20 c21 f20 f21 HBx Hsz
 go_wp2_with fail
 obtain⟨W2,hW2,g00,g01,g11,g2,k2,hs2,hbw⟩:=four (v0:=.bool nb) (v1:=.slice A' m c') (u0:=.bool na) (u1:=.slice A n c) d00 d01 d11;rw[<-hW2];have HBx2:Hid (Below w.heap.size w W2):=hbw _ _ ano HBx1.o;have Hs2:Hid (W2.heap.size=w.heap.size+3):=hs2.trans Hs1.o;have g20:W2.cell? ⟨w.heap.size+1+1,0,none⟩=some (.bool false):=(g2 0).trans d20;have g21:W2.cell? ⟨w.heap.size+1+1,1,none⟩=some (.slice none 0 0):=(g2 1).trans d21;have k20:W2.frozen? ⟨w.heap.size+1+1,0,none⟩=false:=(k2 0).trans e20;have k21:W2.frozen? ⟨w.heap.size+1+1,1,none⟩=false:=(k2 1).trans e21;clear hW2 g2 k2 hs2 hbw d00 d01 d10 d11 d20 d21 e20 e21 HBx1 Hs1 z00 z01 z10 z11
 go_region_held3 (fun w'=>w'.cell? ⟨w.heap.size,0,none⟩=some (.bool nb)/\w'.cell? ⟨w.heap.size,1,none⟩=some (.slice A' m c')/\w'.cell? ⟨w.heap.size+1,1,none⟩=some (.slice A n c))
  (first
   |(go_keep;done)
   |(go_split_ands;have hz:=Hs2.o;refine⟨(hb2.cell (p:=⟨w.heap.size,0,none⟩) (by simp;omega)).trans ?_,(hb2.cell (p:=⟨w.heap.size,1,none⟩) (by simp;omega)).trans ?_,(hb2.cell (p:=⟨w.heap.size+1,1,none⟩) (by simp;omega)).trans ?_⟩<;>(first|assumption|(simp;assumption)))
   |(refine⟨?_,?_,?_⟩<;>(rw[amY _ _ _ _ (by intro h;injection h with h1 h2;omega),amY _ _ _ _ (by intro h;injection h with h1 h2;omega)];(first|assumption|exact(hb2.cell (p:=⟨w.heap.size,0,none⟩) (by have hz:=Hs2.o;simp;omega)).trans g00|exact(hb2.cell (p:=⟨w.heap.size,1,none⟩) (by have hz:=Hs2.o;simp;omega)).trans g01|exact(hb2.cell (p:=⟨w.heap.size+1,1,none⟩) (by have hz:=Hs2.o;simp;omega)).trans g11))))
  (first
   |(go_at_call 98;refine(afp A' A c' c m n b a _ HLb.o HLa.o (by exact Hc'.o.1.up HBx2.o.drew) (by exact Hc.o.1.up HBx2.o.drew) (by omega) Hle.o).mono ?_;rintro e w2 ⟨A2,c2,rfl,hm2,hb2⟩;have r20:w2.cell? ⟨w.heap.size+1+1,0,none⟩=some (.bool false):=(hb2.cell (p:=⟨w.heap.size+1+1,0,none⟩) (by have hz:=Hs2.o;simp;omega)).trans g20;have r21:w2.cell? ⟨w.heap.size+1+1,1,none⟩=some (.slice none 0 0):=(hb2.cell (p:=⟨w.heap.size+1+1,1,none⟩) (by have hz:=Hs2.o;simp;omega)).trans g21;have s20:w2.frozen? ⟨w.heap.size+1+1,0,none⟩=false:=(hb2.frozen (p:=⟨w.heap.size+1+1,0,none⟩) (by have hz:=Hs2.o;simp;omega)).trans k20;have s21:w2.frozen? ⟨w.heap.size+1+1,1,none⟩=false:=(hb2.frozen (p:=⟨w.heap.size+1+1,1,none⟩) (by have hz:=Hs2.o;simp;omega)).trans k21;have HM2:=amy hm2;clear hm2))
 go_wp2_with fail
 refine bodyPost_ret (v:=.agg #[.bool nb,.slice A2 (mag (b-a)).length c2]) (by simp[results,results44,go_sem,r20,r21]) rfl ⟨nb,b-a,A2,c2,HZ.o,rfl,?_,?_⟩
 ·have hz:w.heap.size+1+1<W2.drew.heap.size:=by have hz:=Hs2.o;show _<W2.heap.size;omega
  exact Ow.mg (ownsRow_setCell_below (ownsRow_setCell_below HM2.o hz _) hz _)
 ·have hb:Below w.heap.size w w2:=HBx2.o.drew.trans (hb2.mono (by have hz:=Hs2.o;show _<=W2.heap.size;omega))
  exact(hb.setCell (by simp;omega) _).setCell (by simp;omega) _
theorem ami (na nb:Bool)(A A':Option Addr)(c c' a b:Nat)(w:World)(hc:fV w A c a)(hc':fV w A' c' b)(hm:(mag a).length <=274877906944)(hm':(mag b).length <=274877906944):
 Calls prog 44 #[.agg #[.bool na,.slice A (mag a).length c],.agg #[.bool nb,.slice A' (mag b).length c']] w (acF (sgn na a+sgn nb b) w):=by
 by_cases h:na=nb
 ·subst h;exact ajJ na A A' c c' a b w hc hc' hm hm'
 ·have hne:(na==nb)=false:=by simp[h]
  rcases Nat.lt_or_ge a b with hl|hl
  ·exact add_lt na nb A A' c c' a b w hne (by omega) hl hc hc' hm hm'
  ·exact add_ge na nb A A' c c' a b w hne hl hc hc' hm hm'
end Go.Proofs.YtbkhnggmcheelaaGreatDoor
