/- Mappings of lots: one, sign, whole, rounded, sum, divide, Weekday, Check. Conditions: numbers of bounded length; the library's variables lie as the program's text lays them. Mappings of lots: Check and valid, where all is in order. Conditions: numbers of bounded length; the library's variables lie as the program's text lays them. Mappings of lots: plans; id, moved, fraction, fresh, gains. Conditions: numbers of bounded length; the library's variables lie as the program's text lays them. -/
import Derived.Deep.QuietTactic
import Derived.OwnWalk
import Derived.Laws.MakeOwn
import Derived.Test.YtjknklinhegdoaaGreatDoorGak
import Derived.Test.YtjknklinhegdoaaGreatDoorGan
import Derived.BigQuiet
import Derived.Laws.Concat
set_option linter.unusedSimpArgs false
set_option linter.unusedVariables false
set_option maxHeartbeats 4000000
set_option maxRecDepth 100000
namespace Go.Proofs.YtjknklinhegdoaaGreatDoor
open Go.RowKit Go.Shelf Dec QQ SP
theorem vq0:Vq ⟨#[]⟩ ⟨#[]⟩ 0:=⟨rfl,by decide,by decide⟩
theorem vq1:Vq ⟨#[49]⟩ ⟨#[]⟩ 1:=⟨by decide+kernel,by decide,by decide⟩
theorem fit0:bH 1 (0:Rat):=⟨by decide,by decide⟩
theorem fit1:bH 1 (1:Rat):=⟨by decide,by decide⟩
theorem aeR {k:Nat}{q:Rat}(h:bH k q):Fit k q.floor:=by
 have h1:q.floor=q.num.fdiv (q.den:Int):=by
  rw[jD (by have:=q.den_nz;omega),bJ]
 rw[h1];exact abm h.1 (by omega)
theorem qI {k:Nat}{z:Int}(h:Fit k z)(hk:1≤k):bH k (z:Rat):=bH.int h hk
def FR1:Value:=.agg #[.string ⟨#[49]⟩,.string ⟨#[]⟩]
theorem abj:FR (1:Rat)=FR1:=by
 unfold FR FR1;rw[show frN (1:Rat)=⟨#[49]⟩from by decide+kernel,show frD (1:Rat)=⟨#[]⟩from by decide+kernel]
theorem aeP:FR (0:Rat)= .agg #[.string ⟨#[]⟩,.string ⟨#[]⟩]:=by
 unfold FR;rw[show frN (0:Rat)=⟨#[]⟩from by decide+kernel,show frD (0:Rat)=⟨#[]⟩from by decide+kernel]
theorem ahq:Ret 198 #[] (.agg #[.string ⟨#[49]⟩,.string ⟨#[]⟩]):=by
 intro w hg;have hs:=(St.refl hg).alloc (.cells #[.string ⟨#[]⟩,.string ⟨#[]⟩] 26);have B:=Bx.new w #[.string ⟨#[]⟩,.string ⟨#[]⟩] 26;have K1:=OfF (a:=⟨#[49]⟩) (x:=1) ⟨ajL,by decide⟩ (by decide);rw[show ((1:Int):Rat)=1 from rfl,abj]at K1;unfold FR1 at K1
 go_enter Tryz.func198,Tryz.ntmps198
 go_wp2_with fail
 refine K1.step hs ?_;intro w1 hs hb;replace B:=B.on hb;have e0:=B.cell (i:=0) (v:=.string ⟨#[]⟩) rfl;have e1:=B.cell (i:=1) (v:=.string ⟨#[]⟩) rfl;have g0:=B.frozen 0;have g1:=B.frozen 1
 go_wp2_with fail
 obtain⟨W,hW,y0,y1,hbe⟩:=aaK hs (by omega) B ⟨#[49]⟩ ⟨#[]⟩;rw[hW];exact bodyPost_ret (v:=.agg #[.string ⟨#[49]⟩,.string ⟨#[]⟩]) (by simp[results,Tryz.results198,go_sem,y0,y1]) rfl ⟨rfl,hbe⟩
theorem jA {a b:ByteArray}{q:Rat}{k:Nat}(h:Vq a b q)(hf:bH k q)(hk:k≤99999):Ret 154 #[FV a b] (.int .i64 (iI q 0)):=by
 intro w hg;have hs:=(St.refl hg).alloc (.cells #[.string a,.string b] 26);have B:=Bx.new w #[.string a,.string b] 26;have K:=CmpF h vq0 (k:=k) (by rw[show q-0=q by grind];exact hf) hk;unfold FV at K⊢
 generalize iI q 0=c at*
 have x0:=B.cell (i:=0) (v:=.string a) rfl;have x1:=B.cell (i:=1) (v:=.string b) rfl
 go_enter Tryz.func154,Tryz.ntmps154
 go_wp2_with fail
 refine K.step hs ?_;intro w1 hs hb
 go_wp2_with fail
 go_ret
 exact⟨rfl,hs.2⟩
theorem aa1 {a b:ByteArray}{q:Rat}{k:Nat}(h:Vq a b q)(hf:bH k q)(hk:k≤90000):Ret 148 #[FV a b] (.string (agU 1 q)):=by
 intro w hg;have hs:=(St.refl hg).alloc (.cells #[.string a,.string b] 26);have B:=Bx.new w #[.string a,.string b] 26;have K:=agf 1 h hf hk;unfold FV at K⊢
 generalize agU 1 q=c at*
 generalize adH 1=e at*
 have x0:=B.cell (i:=0) (v:=.string a) rfl;have x1:=B.cell (i:=1) (v:=.string b) rfl
 go_enter Tryz.func148,Tryz.ntmps148
 go_wp2_with fail
 refine K.step hs ?_;intro w1 hs hb
 go_wp2_with fail
 go_ret
 exact⟨rfl,hs.2⟩
theorem wkd_ok {d:Int}(h:qQ d=true):∃v:Int,Ret 197 #[.int .i64 d] (.tuple #[.int .i64 v,.int .i64 0]):=by
 unfold qQ at h;simp only[ale,decide_eq_true_eq]at h;obtain⟨h1,h2⟩:=h;have KV:Ret 246 #[.int .i64 d] (.bool true):=by
  intro w hg;have hs:=St.refl hg;have q1:decide (-25567≤d)=true:=alI h1;have q2:decide (d≤84005)=true:=alI h2
  go_enter Tryz.func246,Tryz.ntmps246
  go_wp2_with fail
  go_ret
  exact⟨by simp[h1,h2],hs.2⟩
 refine⟨(d+3+28000)%7,?_⟩;intro w hg;have hs:=St.refl hg;have e1:IntKind.i64.wrap (d+3)=d+3:=by rw[IntKind.wrap_i64];omega
 have e2:IntKind.i64.wrap (d+3+28000)=d+3+28000:=by rw[IntKind.wrap_i64];omega
 go_enter Tryz.func197,Tryz.ntmps197
 go_wp2_with fail
 refine KV.step hs ?_;intro w1 hs hb
 go_wp2_with fail
 go_ret2
 exact⟨rfl,hs.2⟩
theorem lL {A:Option Addr}{n c k0:Nat}{ws:List ByteArray}(hn:ws.length=n)(h12:n≤1000)(hk0:k0≤5000)(hz:∀s∈ws,s.size≤k0):
 ig (fun w=>Row w A (ws.map sv)) 82 #[.slice A n c] (.string (ag (iv ws).sum)):=by
 intro w hg hi;have hs:=St.refl hg;have HN:=ala hn;have HI:=ala hi;have HZ:=ala hz;have HF:Hid (∀k,Fit (k0+3) ((iv ws).take k).sum):=fun k=>jH hz (by omega)
 obtain⟨r1,hr1⟩:∃v,ag (iv ws).sum =v:=⟨_,rfl⟩;rw[hr1];have HR1:=ala hr1;have HZ0:Hid (ag ((iv ws).take 0).sum =⟨#[]⟩):=qU;clear hn hi hz hr1
 go_enter Tryz.func82,Tryz.ntmps82
 go_wp2_with fail
 go_loopw [8,3] (fun s a wr=>∃k:Nat,k≤n∧s= .int .i64 (k:Int)∧a= .string (ag ((iv ws).take k).sum)∧St w wr) (fun s _ _=>(n-intOf s).toNat)
 case atStart=>exact⟨0,by omega,rfl,by rw[HZ0.out],hs⟩
 case round=>
  obtain⟨k,hk,rfl,rfl,hs⟩:=hrel;by_cases hkn:k=n
  ·subst hkn
   have q:decide ((k:Int)<(k:Int))=false:=alH (by omega);have e1:ag ((iv ws).take k).sum =r1:=by rw[aln (by rw[aP,HN.out];omega)];exact HR1.out
   rw[e1];clear e1
   go_wp2_with fail
   go_ret
   exact⟨rfl,hs.2⟩
  ·have hkl:k<n:=by omega
   have q:decide ((k:Int)<(n:Int))=true:=alI (by omega);have qn:decide (k<n)=true:=alI hkl;obtain⟨s,hd⟩:∃s,ws[k]? =some s:=⟨ws[k]'(by rw[HN.out];exact hkl),by simp⟩;obtain⟨b,o,hA,hb,hc⟩:=(HI.out.on hs.2) k (sv s) (by rw[als,hd];rfl);subst hA;have zs:=HZ.out s (alk hd);have K:=agr (Vs.can (HF.out k) (by omega)) (Vs.arg (s:=s) (by omega));rw[←qC hd]at K;unfold sv at hc;generalize ag ((iv ws).take k).sum =a at*
   obtain⟨a',ha'⟩:∃v,ag ((iv ws).take (k+1)).sum =v:=⟨_,rfl⟩;rw[ha']at K;have HA':=ala ha';clear hd ha' hkn zs
   go_wp2_with fail
   refine K.step hs ?_;intro w1 hs hb1
   go_wp2_with fail
   go_roundw
   case rel=>exact⟨k+1,by omega,by go_num,by rw[HA'.out],hs⟩
   case measure=>simp[intOf];omega
theorem ach {a b:ByteArray}{q:Rat}{k:Nat}(h:Vq a b q)(hf:bH k q)(h1:1≤k)(hk:k≤90000):Ret 147 #[FV a b] (.tuple #[.string (ag q.floor),FR (q-(q.floor:Rat))]):=by
 intro w hg;have hs:=((St.refl hg).alloc (.cells #[.string a,.string b] 26)).alloc (.cells #[.string ⟨#[]⟩,.string ⟨#[]⟩] 26);have B:=(Bx.new w #[.string a,.string b] 26).alloc (.cells #[.string ⟨#[]⟩,.string ⟨#[]⟩] 26);have C:=Bx.new1 w (.cells #[.string a,.string b] 26) #[.string ⟨#[]⟩,.string ⟨#[]⟩] 26;have K1:=FloorF h;have hfl:Fit k q.floor:=aeR hf;have K2:=OfF (Vs.can (k:=k) hfl (by omega)) (by have:=hfl.size;omega);have K3:=SubF h (Vq.fr (q:=((q.floor:Int):Rat)) (k:=k) (qI hfl h1) (by omega));unfold FR FV at*
 generalize ag q.floor=fl at*
 generalize frN ((q.floor:Int):Rat)=on at*
 generalize frD ((q.floor:Int):Rat)=od at*
 generalize frN (q-(q.floor:Rat))=rn at*
 generalize frD (q-(q.floor:Rat))=rd at*
 have x0:=B.cell (i:=0) (v:=.string a) rfl;have x1:=B.cell (i:=1) (v:=.string b) rfl;clear h hf hfl
 go_enter Tryz.func147,Tryz.ntmps147
 go_wp2_with fail
 refine K1.step hs ?_;intro w1 hs hb;replace B:=B.on hb;replace C:=C.on hb;clear x0 x1 hb K1
 go_wp2_with fail
 have k0:=B.keeps (i:=0) (v:=.string a) rfl;have k1:=B.keeps (i:=1) (v:=.string b) rfl;refine bI 6 (by kernel_rfl) (by kernel_rfl) ?_;simp only[List.take_succ_cons,List.take_zero,List.drop_succ_cons,List.drop_zero]
 repeat (go_big_quiet_step (first|(with_reducible exact K2.kept hs)|(with_reducible exact K3.kept hs)))
 refine wpQuiet_nil ?_;rintro _ ⟨u1,rfl⟩;have hs3:=hs.kept u1;have C1:=C.kept u1;have y0:=C1.cell (i:=0) (v:=.string ⟨#[]⟩) rfl;have y1:=C1.cell (i:=1) (v:=.string ⟨#[]⟩) rfl;have f0:=C1.frozen 0;have f1:=C1.frozen 1;clear k0 k1
 go_wp2_with fail
 obtain⟨W,hW,z0,z1,hbe⟩:=aaK hs3 (by omega) C1 rn rd;rw[hW];exact bodyPost_ret (v:=.tuple #[.string fl,.agg #[.string rn,.string rd]]) (by simp[results,Tryz.results147,go_sem,z0,z1]) rfl ⟨rfl,hbe⟩
def dM (t:ByteArray)(ws:List ByteArray):List Int:=if alE t ws≠0 then List.replicate ws.length 0 else wP (aj t) (iv ws)
theorem ags {w:World}{n:Nat}(hn:n≤1000000):fM dD 24 1 w.heap.size (w.alloc (.cells (madeCells #[.string ⟨#[]⟩] n) 24)) (.slice (some ⟨w.heap.size,0,none⟩) n n) n (List.replicate n 0):=by
 refine⟨by simp,by rw[qH tX];simp,.inr ⟨w.heap.size,n,madeCells #[.string ⟨#[]⟩] n,rfl,Nat.le_refl _,aZ w _,Nat.le_refl _,by unfold maxLen;omega,by rw[size_madeCells,Nat.mul_one],?_⟩⟩;have e:au dD (List.replicate n (0:Int))=List.replicate n (.string ⟨#[]⟩):=by
  clear hn
  induction n with
  |zero=>rfl
  |succ n ih=>
   rw[List.replicate_succ,List.replicate_succ];show dD 0++au dD _=_;rw[ih];rfl
 rw[e];apply List.ext_getElem?;intro i;rw[alF,Nat.mul_one];by_cases hi:i<n
 ·rw[if_pos hi,alA,List.getElem?_replicate,if_pos hi]
  unfold madeCells;rw[Array.getElem?_map,Array.getElem?_range];simp[hi,Nat.mod_one]
 ·rw[if_neg hi,List.getElem?_replicate,if_neg hi]
theorem oJ {A:Option Addr}{n c k0:Nat}{t:ByteArray}{ws:List ByteArray}(hn:ws.length=n)(h12:n≤1000)(hk0:k0≤4000)(ht:t.size≤k0)(hz:∀s∈ws,s.size≤k0)(w:World)(hg:Gl w)(hr:Row w A (ws.map sv)):
 Calls Tryz.prog 149 #[.string t,.slice A n c] w fun e w'=>∃v,e= .returned v∧fM dD 24 1 w.heap.size w' v n (dM t ws)∧Below w.heap.size w w':=by
 have hs:=St.refl hg;have K:=ala (abW (A:=A) (c:=c) (n:=n) (k0:=k0) (t:=t) (ws:=ws) hn (.inl h12) (by omega) hk0 ht hz w hg hr);obtain⟨i0,hi,hz0,hz1,hz2⟩:=info_parts (P:=Tryz.prog) (e:=24) (z:=.string ⟨#[]⟩) (size:=1) (bytes:=16) (by kernel_rfl);have HM:∀u:World,(Instr.makeSlice 160 (.int .i64 (n:Int)) (.int .i64 (n:Int))).run Tryz.prog u= .ok (.slice (some ⟨u.heap.size,0,none⟩) n n) (u.alloc (.cells (madeCells #[.string ⟨#[]⟩] n) 24)):=by
  intro u;have:=run_make u 160 24 i0 (.string ⟨#[]⟩) (by kernel_rfl) hi hz0 .i64 .i64 (n:Int) (n:Int) (by omega) (Int.le_refl _) (by rw[hz2];omega) (by omega);rw[Int.toNat_natCast,hz1,Nat.mul_one]at this;exact this
 clear hi hz0 hz1 hz2;have HLn:Hid ((wP (aj t) (iv ws)).length =n):=by show _=_;rw[dI,aP,hn]
 unfold dM;rw[hn];by_cases he:alE t ws=0
 ·have e1:alS t ws=wP (aj t) (iv ws):=if_pos he
  rw[if_neg (by simp[he])];rw[he,e1]at K;generalize wP (aj t) (iv ws)=xs at*
  clear he e1 hr hz ht HM
  go_enter Tryz.func149,Tryz.ntmps149
  go_wp2_with fail
  refine K.out.mono ?_;rintro e w1 ⟨v,rfl,ho,hb⟩;have hl:=ho.1;have HO:=ala ho;have HB:=ala hb;clear ho hb K
  go_wp2_with fail
  go_ret
  refine⟨v,rfl,⟨HLn.out,?_⟩,HB.out⟩;have:=HO.out.2;rw[HLn.out]at this;exact this
 ·have q:(alE t ws !=0)=true:=by simpa using he
  rw[if_pos he];generalize alE t ws=ee at*
  generalize alS t ws=xs at*
  clear hr hz ht he
  go_enter Tryz.func149,Tryz.ntmps149
  go_wp2_with fail
  refine K.out.mono ?_;rintro e w1 ⟨v,rfl,ho,hb⟩;have HB:=ala hb;clear ho hb K
  go_wp2_with fail
  go_ret
  have:=ags (w:=w1) (n:=n) (by omega);exact⟨.slice (some ⟨w1.heap.size,0,none⟩) n n,rfl,⟨this.1,dB this.2 HB.out.size⟩,HB.out.alloc HB.out.size _⟩
end Go.Proofs.YtjknklinhegdoaaGreatDoor
namespace Go.Proofs.YtjknklinhegdoaaGreatDoor
open Go.RowKit Go.Shelf Dec QQ SP
structure MapS where
 cause:ByteArray
 day:Int
 ins:ByteArray
 oth:ByteArray
 rn:ByteArray
 rd:ByteArray
 sn:ByteArray
 sd:ByteArray
 pn:ByteArray
 pd:ByteArray
 keep:Bool
def mpA (m:MapS):Array Value:= #[.string m.cause,.int .i64 m.day,.string m.ins,.string m.oth,.string m.rn,.string m.rd,.string m.sn,.string m.sd,.string m.pn,.string m.pd,.bool m.keep]
def mpV (m:MapS):Value:=.agg (mpA m)
def MapS.r (m:MapS):Rat:=cK m.rn m.rd
def MapS.s (m:MapS):Rat:=cK m.sn m.sd
def MapS.p (m:MapS):Rat:=cK m.pn m.pd
structure MOk (m:MapS):Prop where
 cause:aG m.cause=true
 ins:aG m.ins=true
 oth:aG m.oth=true
 day:qQ m.day=true
 cr:aak m.rn m.rd=0
 cs:aak m.sn m.sd=0
 cp:aak m.pn m.pd=0
 zr:m.rn.size≤100∧m.rd.size≤100
 zs:m.sn.size≤100∧m.sd.size≤100
 zp:m.pn.size≤100∧m.pd.size≤100
 pr:0<m.r
 ps:0≤m.s∧m.s≤1
 pp:0≤m.p
 kp:m.keep=true→m.oth≠m.ins
 nk:m.keep=false→m.sn=⟨#[49]⟩∧m.sd=⟨#[]⟩
theorem ve {s:ByteArray}(h:aG s=true):s.size≤16:=by
 unfold aG at h;simp only[ale,decide_eq_true_eq]at h;exact h.1.2
theorem aia {p q:Rat}(h:q<p):¬iI p q≤0:=by
 unfold iI;rw[if_neg (by grind),if_neg (by grind)];decide
theorem abz {p q:Rat}(h:q≤p):¬iI p q<0:=by
 unfold iI;rw[if_neg (by grind)];split<;>decide
theorem aib {p q:Rat}(h:p≤q):¬0<iI p q:=by
 unfold iI;by_cases h1:p<q
 ·rw[if_pos h1];decide
 ·rw[if_neg h1,if_pos (by grind)];decide
theorem ajV {m:MapS}(h:MOk m):Ret 146 #[mpV m] (.int .i64 0):=by
 intro w hg;have hs:=(St.refl hg).alloc (.cells (mpA m) 75);have X:=Bx.new w (mpA m) 75;have HX:=ala X;clear X;obtain⟨wv,KW0⟩:=wkd_ok h.day;have KW:=ala KW0;clear KW0;have K1:=NmR (s:=m.cause) (by have:=ve h.cause;omega);have K2:=NmR (s:=m.ins) (by have:=ve h.ins;omega);have K3:=NmR (s:=m.oth) (by have:=ve h.oth;omega);rw[h.cause]at K1;rw[h.ins]at K2;rw[h.oth]at K3;have C1:=ChkF (a:=m.rn) (b:=m.rd) (by have:=h.zr;omega) (by have:=h.zr;omega);have C2:=ChkF (a:=m.sn) (b:=m.sd) (by have:=h.zs;omega) (by have:=h.zs;omega);have C3:=ChkF (a:=m.pn) (b:=m.pd) (by have:=h.zp;omega) (by have:=h.zp;omega);rw[h.cr]at C1;rw[h.cs]at C2;rw[h.cp]at C3;have vr:Vq m.rn m.rd m.r:=Vq.arg (by have:=h.zr;omega) (by have:=h.zr;omega);have vs:Vq m.sn m.sd m.s:=Vq.arg (by have:=h.zs;omega) (by have:=h.zs;omega);have vp:Vq m.pn m.pd m.p:=Vq.arg (by have:=h.zp;omega) (by have:=h.zp;omega);have fr:bH 100 m.r:=bH.arg h.zr.1 h.zr.2 (by omega);have fs:bH 100 m.s:=bH.arg h.zs.1 h.zs.2 (by omega);have fp:bH 100 m.p:=bH.arg h.zp.1 h.zp.2 (by omega);have S1:=jA vr fr (by omega);have S2:=jA vs fs (by omega);have S3:=jA vp fp (by omega);have S4:=CmpF vs vq1 (fs.sub (fit1.mono (by omega:1≤100))) (by omega);have KO:=ahq;have g1:=aia h.pr;have g2:=abz h.ps.1;have g3:=aib h.ps.2;have g4:=abz h.pp;have HK:=ala h.kp;have HNK:=ala h.nk;obtain⟨cause,day,ins,oth,rn,rd,sn,sd,pn,pd,keep⟩:=m;dsimp only[mpV,mpA,MapS.r,MapS.s,MapS.p,FV]at*
 obtain⟨c1,hc1⟩:∃c,iI (cK rn rd) 0=c:=⟨_,rfl⟩;rw[hc1]at S1 g1;clear hc1;replace g1:=alH g1;obtain⟨c2,hc2⟩:∃c,iI (cK sn sd) 0=c:=⟨_,rfl⟩;rw[hc2]at S2 g2;clear hc2;replace g2:=alH g2;obtain⟨c3,hc3⟩:∃c,iI (cK sn sd) 1=c:=⟨_,rfl⟩;rw[hc3]at S4 g3;clear hc3;replace g3:=alH g3;obtain⟨c4,hc4⟩:∃c,iI (cK pn pd) 0=c:=⟨_,rfl⟩;rw[hc4]at S3 g4;clear hc4;replace g4:=alH g4;clear h vr vs vp fr fs fp;have HK1:=ala K1;have HK2:=ala K2;have HK3:=ala K3;have HC1:=ala C1;have HC2:=ala C2;have HC3:=ala C3;clear K1 K2 K3 C1 C2 C3;have x1:=HX.out.cell (i:=1) (v:=.int .i64 day) rfl
 go_enter Tryz.func146,Tryz.ntmps146
 go_wp2_with fail
 clear x1;refine KW.out.step hs ?_;intro w1 hs hb;replace HX:=ala (HX.out.on hb);clear hb KW;have x0:=HX.out.cell (i:=0) (v:=.string cause) rfl
 go_wp2_with fail
 clear x0;refine HK1.out.step hs ?_;intro w2 hs hb;replace HX:=ala (HX.out.on hb);clear hb HK1;have x2:=HX.out.cell (i:=2) (v:=.string ins) rfl
 go_wp2_with fail
 clear x2;refine HK2.out.step hs ?_;intro w3 hs hb;replace HX:=ala (HX.out.on hb);clear hb HK2;have x3:=HX.out.cell (i:=3) (v:=.string oth) rfl
 go_wp2_with fail
 clear x3;refine HK3.out.step hs ?_;intro w4 hs hb;replace HX:=ala (HX.out.on hb);clear hb HK3;have x4:=HX.out.cell (i:=4) (v:=.string rn) rfl;have x5:=HX.out.cell (i:=5) (v:=.string rd) rfl
 go_wp2_with fail
 clear x4 x5;refine HC1.out.step hs ?_;intro w5 hs hb;replace HX:=ala (HX.out.on hb);clear hb HC1;have x6:=HX.out.cell (i:=6) (v:=.string sn) rfl;have x7:=HX.out.cell (i:=7) (v:=.string sd) rfl
 go_wp2_with fail
 clear x6 x7;refine HC2.out.step hs ?_;intro w6 hs hb;replace HX:=ala (HX.out.on hb);clear hb HC2;have x8:=HX.out.cell (i:=8) (v:=.string pn) rfl;have x9:=HX.out.cell (i:=9) (v:=.string pd) rfl
 go_wp2_with fail
 clear x8 x9;refine HC3.out.step hs ?_;intro w7 hs hb;replace HX:=ala (HX.out.on hb);clear hb HC3
 go_wp2_with fail
 have k4:=HX.out.keeps (i:=4) (v:=.string rn) rfl;have k5:=HX.out.keeps (i:=5) (v:=.string rd) rfl;have k6:=HX.out.keeps (i:=6) (v:=.string sn) rfl;have k7:=HX.out.keeps (i:=7) (v:=.string sd) rfl;have k8:=HX.out.keeps (i:=8) (v:=.string pn) rfl;have k9:=HX.out.keeps (i:=9) (v:=.string pd) rfl;refine ax (by kernel_rfl) (by kernel_rfl) ?_
 repeat (go_big_quiet_step (first|(with_reducible exact S1.kept hs)|(with_reducible exact S2.kept hs)|(with_reducible exact KO.kept hs)|(with_reducible exact S4.kept hs)|(with_reducible exact S3.kept hs)))
 refine wpQuiet_nil ?_;rintro _ ⟨u1,rfl⟩;replace HX:=ala (HX.out.kept u1);have h8:=hs.kept u1;clear k4 k5 k6 k7 k8 k9 S1 S2 S3 S4;generalize u1.W=w8 at*
 have x10:=HX.out.cell (i:=10) (v:=.bool keep) rfl;have x2:=HX.out.cell (i:=2) (v:=.string ins) rfl;have x3:=HX.out.cell (i:=3) (v:=.string oth) rfl;cases keep with
 |true=>
  have q1:(oth.toList==ins.toList)=false:=by
   cases hq:(oth.toList==ins.toList)with
   |false=>rfl
   |true=>exact absurd (gI.1 hq) (HK.out rfl)
  go_wp2_with fail
  have k10:=HX.out.keeps (i:=10) (v:=.bool true) rfl;refine ax (by kernel_rfl) (by kernel_rfl) ?_
  repeat (go_big_quiet_step (fail))
  refine wpQuiet_nil ?_;rintro _ ⟨u2,rfl⟩;have h9:=h8.kept u2;clear k10
  go_wp2_with fail
  go_ret
  exact⟨rfl,h9.2⟩
 |false=>
  obtain⟨e1,e2⟩:=HNK.out rfl;subst e1 e2
  go_wp2_with fail
  have k10:=HX.out.keeps (i:=10) (v:=.bool false) rfl;have k6:=HX.out.keeps (i:=6) (v:=.string ⟨#[49]⟩) rfl;have k7:=HX.out.keeps (i:=7) (v:=.string ⟨#[]⟩) rfl;refine ax (by kernel_rfl) (by kernel_rfl) ?_
  repeat (go_big_quiet_step (with_reducible exact KO.kept h8))
  refine wpQuiet_nil ?_;rintro _ ⟨u2,rfl⟩;have h9:=h8.kept u2;clear k10 k6 k7
  go_wp2_with fail
  go_ret
  exact⟨rfl,h9.2⟩
theorem mY {A:Option Addr}{n c:Nat}{l:List Lt}{m:MapS}(hn:l.length=n)(hm:n≤1000000)(hz:∀x∈l,x.le 1000)(h:MOk m):ig (fun w=>Row w A (au aa l)) 76 #[.slice A n c,mpV m] (.bool (aL l==0)):=by
 intro w hg hi;have hs:=(St.refl hg).alloc (.cells (mpA m) 75);have X:=Bx.new w (mpA m) 75;have HX:=ala X;have HR:=ala (hi.on ((alJ _ _).alloc alK (.cells (mpA m) 75)));have K1:=ala (vF (A:=A) (c:=c) hn hm hz);have K2:=ala (ajV h);generalize aL l=e at*
 generalize q0:(e==0)=b at*
 obtain⟨cause,day,ins,oth,rn,rd,sn,sd,pn,pd,keep⟩:=m;dsimp only[mpV,mpA]at*
 clear X h hi hn hz
 go_enter Tryz.func76,Tryz.ntmps76
 go_wp2_with fail
 refine K1.out.step hs HR.out ?_;intro w1 hs hb;replace HX:=ala (HX.out.on hb);clear hb K1;cases b with
 |false=>
  go_wp2_with fail
  go_ret
  exact⟨rfl,hs.2⟩
 |true=>
  have x0:=HX.out.cell (i:=0) (v:=.string cause) rfl;have x1:=HX.out.cell (i:=1) (v:=.int .i64 day) rfl;have x2:=HX.out.cell (i:=2) (v:=.string ins) rfl;have x3:=HX.out.cell (i:=3) (v:=.string oth) rfl;have x4:=HX.out.cell (i:=4) (v:=.string rn) rfl;have x5:=HX.out.cell (i:=5) (v:=.string rd) rfl;have x6:=HX.out.cell (i:=6) (v:=.string sn) rfl;have x7:=HX.out.cell (i:=7) (v:=.string sd) rfl;have x8:=HX.out.cell (i:=8) (v:=.string pn) rfl;have x9:=HX.out.cell (i:=9) (v:=.string pd) rfl;have x10:=HX.out.cell (i:=10) (v:=.bool keep) rfl
  go_wp2_with fail
  refine K2.out.step hs ?_;intro w2 hs hb;clear x0 x1 x2 x3 x4 x5 x6 x7 x8 x9 x10
  go_wp2_with fail
  go_ret
  exact⟨rfl,hs.2⟩
end Go.Proofs.YtjknklinhegdoaaGreatDoor
namespace Go.Proofs.YtjknklinhegdoaaGreatDoor
open Go.RowKit Go.Shelf Dec QQ SP
structure PlS where
 m:MapS
 A:Option Addr
 n:Nat
 c:Nat
 parts:ByteArray
 an:ByteArray
 ad:ByteArray
 AN:Option Addr
 cN:Nat
 AM:Option Addr
 cM:Nat
 AF:Option Addr
 cF:Nat
 AP:Option Addr
 cP:Nat
def plA (p:PlS):Array Value:= #[.string p.m.cause,.int .i64 p.m.day,.string p.m.ins,.string p.m.oth,.string p.m.rn,.string p.m.rd,.string p.m.sn,.string p.m.sd,.string p.m.pn,.string p.m.pd,.bool p.m.keep,.slice p.A p.n p.c,.string p.parts,.string p.an,.string p.ad,.slice p.AN p.n p.cN,.slice p.AM p.n p.cM,.slice p.AF p.n p.cF,.slice p.AP p.n p.cP]
def plV (p:PlS):Value:=.agg (plA p)
theorem dK {I:World→Prop}{f:FuncId}{args:Array Value}{V:Value}{w0 w:World}(h:ig I f args V)(hs:St w0 w)(hI:∀u:Kept w,I u.W){u:Kept w}:Calls Tryz.prog f args u.W fun e w''=>e= .returned V∧∃u':Kept w,w''=u'.W:=
 (h u.W (hs.gl.below u.low) (hI u)).mono fun _ w' ⟨he,hb⟩=>⟨he,⟨⟨w',u.low.trans (hb.mono u.low.size)⟩,rfl⟩⟩
def idS (cause:ByteArray)(k:Nat):ByteArray:=cause++⟨#[47]⟩++ag (k:Int)
theorem PrtK {k:Nat}(h:1≤k)(hk:k≤1000000):Ret 202 #[.string (ag (k:Int))] (.string (ag (k:Int))):=fun w _=>by
 have hf:Fit 7 (k:Int):=by show (k:Int).natAbs <10^7;omega
 have:=xm (ag (k:Int)) w (by have:=hf.size;omega);rw[aW]at this;unfold prt at this;rw[if_neg (by omega)]at this;exact this
theorem OfK {k:Nat}(hk:k≤1000000):Ret 203 #[.int .i64 (k:Int)] (.string (ag (k:Int))):=fun w hg=>ai4 (k:Int) w (by omega) (by omega) hg
theorem ajD (p:PlS){k:Nat}(hc:p.m.cause.size≤1000)(h:1≤k)(hk:k≤1000000):Ret 153 #[plV p,.int .i64 (k:Int)] (.string (idS p.m.cause k)):=by
 intro w hg;have hs:=(St.refl hg).alloc (.cells (plA p) 162);have X:=Bx.new w (plA p) 162;have K1:=OfK hk;have K2:=PrtK h hk;have hz:(ag (k:Int)).size ≤8:=by
  have hf:Fit 7 (k:Int):=by show (k:Int).natAbs <10^7;omega
  exact hf.size
 unfold idS;obtain⟨⟨cause,day,ins,oth,rn,rd,sn,sd,pn,pd,keep⟩,A,n,c,parts,an,ad,AN,cN,AM,cM,AF,cF,AP,cP⟩:=p;dsimp only[plV,plA]at*
 generalize ag (k:Int)=ck at*
 have q1:∀u,(Op.stringOp .add cause ⟨#[47]⟩).run Tryz.prog u= .ok (.string (cause++⟨#[47]⟩)) u:=fun u=>run_string_add_sum _ _ _ (by show cause.size+1≤_;omega)
 have q2:∀u,(Op.stringOp .add (cause++⟨#[47]⟩) ck).run Tryz.prog u= .ok (.string (cause++⟨#[47]⟩++ck)) u:=fun u=>run_string_add_sum _ _ _ (by rw[ByteArray.size_append];show cause.size+1+_≤_;omega)
 go_enter Tryz.func153,Tryz.ntmps153
 go_wp2_with fail
 have k0:=X.keeps (i:=0) (v:=.string cause) rfl;refine ax (by kernel_rfl) (by kernel_rfl) ?_
 repeat (go_big_quiet_step (first|(with_reducible exact K1.kept hs)|(with_reducible exact K2.kept hs)))
 refine wpQuiet_nil ?_;rintro _ ⟨u,rfl⟩;have hs1:=hs.kept u
 go_wp2_with fail
 go_ret
 exact⟨rfl,hs1.2⟩
def si (w:World)(A:Option Addr)(xs:List Int):Prop:=Row w A (au dD xs)
theorem si.at {w:World}{A:Option Addr}{xs:List Int}(h:si w A xs){k:Nat}(hk:k<xs.length):∃b o,A=some ⟨b,o,none⟩∧b<w.heap.size∧w.cell? ⟨b,o+k,none⟩=some (.string (ag xs[k])):=by
 obtain⟨b,o,hA,hb,hc⟩:=eT (cs:=dD) (m:=1) tX (by decide) h (ald hk);refine⟨b,o,hA,hb,?_⟩;have:=hc 0 (.string (ag xs[k])) rfl;rw[Nat.mul_one,Nat.add_zero]at this;exact this
theorem si.on {w w':World}{A:Option Addr}{xs:List Int}(h:si w A xs)(hb:Below w.heap.size w w'):si w' A xs:=Row.on h hb
theorem tu (p:PlS){ms fs:List Int}{k K:Nat}(hm:ms.length=p.n)(hf:fs.length=p.n)(hk:k<p.n)(hK:K≤5000)(zm:∀x∈ms,Fit K x)(zf:∀x∈fs,Fit K x)(hn:p.n≤1000000):
 ig (fun w=>si w p.AM ms∧si w p.AF fs) 152 #[plV p,.int .i64 (k:Int)] (.string (ag (ms[k]! -fs[k]!))):=by
 intro w hg hi;have hs:=(St.refl hg).alloc (.cells (plA p) 162);have X:=Bx.new w (plA p) 162;have hbA:Below w.heap.size w (w.alloc (.cells (plA p) 162)):=alL;obtain⟨b1,o1,e1,l1,c1⟩:=(hi.1.on hbA).at (k:=k) (by omega);obtain⟨b2,o2,e2,l2,c2⟩:=(hi.2.on hbA).at (k:=k) (by omega);have g1:ms[k]! =ms[k]'(by omega):=getElem!_pos ms k (by omega);have g2:fs[k]! =fs[k]'(by omega):=getElem!_pos fs k (by omega);have f1:=zm _ (List.getElem_mem (by omega:k<ms.length));have f2:=zf _ (List.getElem_mem (by omega:k<fs.length));have KS:=SubR (Vs.can f1 (by omega)) (Vs.can f2 (by omega));rw[g1,g2];generalize ms[k]'(by omega)=x at*
 generalize fs[k]'(by omega)=y at*
 generalize ag (x-y)=r at*
 generalize ag x=sx at*
 generalize ag y=sy at*
 have qk:(k:Int)<(p.n:Int):=by omega
 obtain⟨⟨cause,day,ins,oth,rn,rd,sn,sd,pn,pd,keep⟩,A,n,c,parts,an,ad,AN,cN,AM,cM,AF,cF,AP,cP⟩:=p;dsimp only[plV,plA]at*
 subst e1 e2;clear hi hbA g1 g2 f1 f2 zm zf hm hf
 go_enter Tryz.func152,Tryz.ntmps152
 go_wp2_with fail
 have k16:=X.keeps (i:=16) (v:=.slice (some ⟨b1,o1,none⟩) n cM) rfl;have k17:=X.keeps (i:=17) (v:=.slice (some ⟨b2,o2,none⟩) n cF) rfl;have d1:∀u:Kept _,u.W.cell? ⟨b1,o1+k,none⟩=some (.string sx):=Kept.cell_of c1;have d2:∀u:Kept _,u.W.cell? ⟨b2,o2+k,none⟩=some (.string sy):=Kept.cell_of c2;clear c1 c2;refine ax (by kernel_rfl) (by kernel_rfl) ?_
 repeat (go_big_quiet_step (with_reducible exact KS.kept hs))
 refine wpQuiet_nil ?_;rintro _ ⟨u,rfl⟩;have hs1:=hs.kept u
 go_wp2_with fail
 go_ret
 exact⟨rfl,hs1.2⟩
theorem ab7 (p:PlS)(h1:p.an=⟨#[]⟩)(h2:p.ad=⟨#[]⟩):Ret 80 #[plV p] (.slice none 0 0):=by
 intro w hg;have hs:=(St.refl hg).alloc (.cells (plA p) 162);have X:=Bx.new w (plA p) 162;have K:=jA (a:=⟨#[]⟩) (b:=⟨#[]⟩) (q:=0) (k:=1) vq0 fit0 (by omega);rw[show iI 0 0=0 by decide+kernel]at K;unfold FV at*
 obtain⟨⟨cause,day,ins,oth,rn,rd,sn,sd,pn,pd,keep⟩,A,n,c,parts,an,ad,AN,cN,AM,cM,AF,cF,AP,cP⟩:=p;dsimp only[plV,plA]at*
 subst h1 h2;have x13:=X.cell (i:=13) (v:=.string ⟨#[]⟩) rfl;have x14:=X.cell (i:=14) (v:=.string ⟨#[]⟩) rfl
 go_enter Tryz.func80,Tryz.ntmps80
 go_wp2_with fail
 refine K.step hs ?_;intro w1 hs hb
 go_wp2_with fail
 go_ret
 exact⟨rfl,hs.2⟩
theorem mO (p:PlS)(w:World):Calls Tryz.prog 78 #[plV p] w fun e w'=>e= .returned (.func (.func 151) #[] #[.pointer (some ⟨w.heap.size,0,none⟩)])∧w'=w.alloc (.cells (plA p) 162):=by
 obtain⟨⟨cause,day,ins,oth,rn,rd,sn,sd,pn,pd,keep⟩,A,n,c,parts,an,ad,AN,cN,AM,cM,AF,cF,AP,cP⟩:=p;dsimp only[plV,plA]at*
 go_enter Tryz.func78,Tryz.ntmps78
 go_wp2
 go_ret
 exact⟨rfl,rfl⟩
end Go.Proofs.YtjknklinhegdoaaGreatDoor
