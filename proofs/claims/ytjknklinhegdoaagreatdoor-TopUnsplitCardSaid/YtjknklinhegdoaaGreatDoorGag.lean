/- Integer: what a row's listed variables give: the table of powers, the library's error. No condition. Integer: what turns a law's walk into its contract. No condition. Integer: the reference's digits. Integer: the reference's digits, Canonical, Print, Parse: they answer as the implementation's do. Conditions: sizes. Integer: the reference's Print and Parse. Conditions: sizes; the library's table and error lie as the program's text lays them. Integer, the reference: contracts of short, Of, Small, Neg, Check and Compare. Conditions: sizes below 2^40. Integer, the reference: contracts of Of, Small, Neg, Check and Compare. Conditions: sizes below 2^40. Integer, the reference: contracts of Small, Neg, Check and Compare. Conditions: sizes below 2^40. Integer, the reference: contracts of Neg, Check and Compare. Conditions: sizes below 2^62. Fractions as rational numbers: numerators, denominators, sizes, comparisons. No condition. Fractions: strings and values. No condition. Regions that leave their order open: reads and calls that turn nothing old, then stores in one forced order. Plain facts; no condition. The state of a walk; contracts of calls that turn nothing old. Plain facts; condition: the library's table and error lie as the program's text lays them. Integer: the contracts in the walk's form. Conditions: strings of up to a million bytes. Fraction: contracts of reduced, made, parts. Conditions: strings of up to a million bytes. Dates: the contracts of the package date's Leap, length, begin, Of, Parts and AddMonths. Conditions: days and years of the calendar. Dates: the contracts of the package date's Leap, length, begin, Of, Parts and AddMonths. Conditions: days and years of the calendar. Dates: the contracts of the package date's Leap, length, begin, Of, Parts and AddMonths. Conditions: days and years of the calendar. Dates: the contracts of the package date's Leap, length, begin, Of, Parts and AddMonths. Conditions: days and years of the calendar. Dates: the contracts of Parts outside the calendar and of AddMonths. Conditions: none on the machine integers. Dates: the plain laws of years, months and days from 1900 on. No condition. Parts of years as rational numbers: the plain laws. No condition. Parts of years: what Fraction returns, and the plain laws of it. No condition. -/
import Derived.Test.YtjknklinhegdoaaGreatDoorCards
import Derived.Test.YtjknklinhegdoaaGreatDoorTie
import Derived.ProofKit
import Derived.OpenShut
import Derived.Deep.DeepHandedRow
import Derived.Lib.LaidTab
import Derived.Lib.LaidU8
import Derived.LaidLaws
import Derived.Lay
import Derived.ChangeMaps5
import Derived.Test.YtjknklinhegdoaaGreatDoorIe
import Derived.IntWalk
import Derived.Deep.DeepCutAuto
import Derived.RangeFuncNested
import Derived.RangeFuncBound
import Derived.RangeFuncCalls
import Derived.RangeFuncLeaves
import Derived.Shelf.Abstract
import Derived.Shelf.RegionOpen
import Derived.OwnWalkIn
import Derived.TacticsInMore
import Derived.LoopNIn
import Derived.LoopIn
import Derived.Sort.LoopGhostIn
import Derived.Lib.ItoaLen
import Derived.Test.YtjknklinhegdoaaGreatDoorId
import Derived.Below
import Derived.Deep.QuietTactic
import Derived.BigQuiet
import Derived.StillTail
import Derived.Handy
set_option maxHeartbeats 1000000
namespace Go.Proofs.YtjknklinhegdoaaGreatDoor
open Go.ChangeShapes Go.WideShapes Go.ChangeAt Go.RowKit Go.Deep
theorem own:ownKnob Tryz.prog.godebug =none:=by kernel_rfl
theorem gPow:Tryz.prog.globalNamed "internal/strconv.uint64pow10" =some 0:=by kernel_rfl
theorem gPowT:(Tryz.prog.globals[0]?).map (·.type)=some 320:=by kernel_rfl
theorem gErr:Tryz.prog.globalNamed "strconv.ErrRange" =some 2:=by kernel_rfl
theorem gErrT:(Tryz.prog.globals[2]?).map (·.type)=some 187:=by kernel_rfl
theorem gSyn:Tryz.prog.globalNamed "strconv.ErrSyntax" =some 1:=by kernel_rfl
theorem gSynT:(Tryz.prog.globals[1]?).map (·.type)=some 187:=by kernel_rfl
theorem gl_of {W:World}{l:List (String×DataW Unit)}(h:laidMetH Tryz.prog l W)(hh:(l.all fun x=>x.2.handleName?.isNone)=true)
 (h1:(l.filter fun x=>x.1== "internal/strconv.uint64pow10")=[("internal/strconv.uint64pow10",Lib.tabData .u64 Lib.pow10Tab)]) (h2:(l.filter fun x=>x.1== "strconv.ErrRange")=[("strconv.ErrRange",Rows.laid_strconv_ErrRange)])
 (h3:(l.filter fun x=>x.1== "strconv.ErrSyntax")=[("strconv.ErrSyntax",Rows.laid_strconv_ErrSyntax)]):Gl W:=by
 rw[MakeChecks.laidMetH_plain _ _ _ hh]at h;refine⟨?_,?_⟩
 ·have:=laidMet.filter (fun x=>x.1== "internal/strconv.uint64pow10") h
  rw[h1]at this;exact Lib.tabIs_of_head (rest:=[]) (n:=20) (e:=185) gPow gPowT (by kernel_rfl) (by kernel_rfl) (by kernel_rfl) (by kernel_rfl) this
 ·have e1:=laidMet.filter (fun x=>x.1== "strconv.ErrRange") h
  have e2:=laidMet.filter (fun x=>x.1== "strconv.ErrSyntax") h;rw[h2]at e1;rw[h3]at e2;obtain⟨ps,⟨g,t,cs,fuel,p,q,hg,ht,hv,hd,_,_⟩,_⟩:=e1;obtain⟨ps',⟨g',t',cs',fuel',p',q',hg',ht',hv',hd',_,_⟩,_⟩:=e2;obtain rfl:=Option.some.inj (gErr.symm.trans hg);obtain rfl:=Option.some.inj (gErrT.symm.trans ht);obtain rfl:=Option.some.inj (gSyn.symm.trans hg');obtain rfl:=Option.some.inj (gSynT.symm.trans ht');obtain⟨_,u,v,hcs,_,_⟩:=iface_of_trod Tryz.underlying187 hd;obtain⟨_,u',v',hcs',_,_⟩:=iface_of_trod Tryz.underlying187 hd';refine⟨u,v,?_,u',v',?_⟩
  ·rw[hv]
   obtain⟨l⟩:=cs;simp at hcs;rw[hcs]
  ·rw[hv']
   obtain⟨l⟩:=cs';simp at hcs';rw[hcs']
theorem laidOut:laidOutB Tryz.prog =true:=by kernel_rfl
section
variable {H:Type} {enc:TypeId×Value→H} {P:Program} {w:World} {base:Nat} {spare:Nat→Bool} {held:Bool}
theorem uN {f:Func}{s:ChangeSpec}{apart fresh handsOn again:Bool}{W W':World}{args:Array Value}{v:Value}{ds gs:List (DataW H)}{before pa pv:List MemPlace}
 (hW:DataW.Whole enc P f.params.toList s.vars apart W args.toList ds gs before)
 (hres:∀(b:Nat) (sp:Nat→Bool) (hd:Bool),DataW.TrodAll enc P W' b sp hd f.resultTypes.toList (v.resultList f.resultTypes.size) (s.fn H (ds++gs)).results [])
 (hargs:∀sp:Nat→Bool,(∀p∈before,sp p.block=true)→DataW.TrodAll enc P W' 0 sp true f.params.toList args.toList (s.fn H (ds++gs)).args pa)
 (hvars:∀sp:Nat→Bool,(∀p∈before,sp p.block=true)→DataW.TrodVars enc P W' sp s.vars (s.fn H (ds++gs)).vars pv)
 (hps:before=pa++pv) (hb:Below W.heap.size W W')
 (hok:∀(j:Nat) (t:TypeId) (r:Value),f.resultTypes[j]? =some t→(v.resultList f.resultTypes.size)[j]? =some r→Value.okWide P W' .any 0 t r):
 s.post enc P f apart fresh handsOn again W args v W':=by
 have hlt:∀p∈before,p.block<W.heap.size:=fun p hp=>hW.lt p hp
 have hold:∀p∈before,(fun b=>decide (b<W.heap.size)) p.block=true:=fun p hp=>by simpa using hlt p hp
 refine⟨ds,gs,before,[],pa,pv,hW,hres _ _ _,hargs _ hold,hvars _ hold,World.keptBut_mono (fun p hp=>⟨hp,?_⟩) (hb.frame (· ∈before)),fun _=>?_⟩
 ·rw[hps,List.mem_append]at hp
  exact Or.inr hp
 ·obtain⟨_,_,_,_,_,hz,hn⟩:=hW
  refine⟨hok,_,_,([]++pa)++pv,⟨[]++pa,pv,trodAll_append (hargs _ (fun _ _=>rfl)) (hres _ _ _),hvars _ (fun _ _=>rfl),rfl,?_,?_⟩,?_⟩
  ·intro b off hp
   have hin:MemPlace.cell b off∈before:=by rw[hps];simpa using hp
   rw[hb.frozen (hlt _ hin)];exact hz b off hin
  ·intro ha
   have:=hn ha;rw[hps]at this;simpa using this
  ·intro p hp _
   rw[hps];simpa using hp
theorem uB (hl:laidOutB P=true){W W':World}(hb:Below W.heap.size W W'){sp:Nat→Bool}:∀(ts:List TypeId) (vs:List Value) (ds:List (DataW H)) (ps:List MemPlace),
 (∀t∈ts,P.readableRec t=true∧t<P.types.size)→DataW.TrodAll enc P W 0 (fun _=>true) true ts vs ds ps→(∀x∈ps,x.block<W.heap.size)→(∀x∈ps,sp x.block=true)→
 DataW.TrodAll enc P W' 0 sp true ts vs ds ps:=by
 intro ts
 induction ts with
 |nil=>
  intro vs ds ps _ h _ _;obtain⟨rfl,rfl,rfl⟩:=trodAll_nil h;exact trodAll_mk0
 |cons t ts ih=>
  intro vs ds ps ht h hlt hsp;obtain⟨v,vs',d,ds',p,q,rfl,rfl,rfl,h1,h2⟩:=trodAll_cons h;refine trodAll_cons_mk ?_ (ih vs' ds' q (fun u hu=>ht u (alo _ hu)) h2 (fun x hx=>hlt x (List.mem_append_right _ hx)) (fun x hx=>hsp x (List.mem_append_right _ hx)));exact WideElems.Trod_stays hl (ht t (alm)).1 (ht t (alm)).2 h1 (fun x hx=>hb.same (hlt x (List.mem_append_left _ hx))) (fun x hx=>hsp x (List.mem_append_left _ hx))
theorem xN {fn:Func}{s:ChangeSpec}{tb:TypeId}{f:FuncId}(hl:laidOutB P=true)(hts:∀t∈fn.params.toList,P.readableRec t=true∧t<P.types.size)
 (hrt:fn.resultTypes= #[tb]) (hub:P.underlying tb=some .bool) (hv:s.vars=[])
 {W:World} {args:Array Value} {ds gs:List (DataW H)} {before:List MemPlace}
 (hspec:gs=[]→s.fn H (ds++gs)= {results:=[.lit (.bool true)],args:=ds})
 (hW:DataW.Whole enc P fn.params.toList s.vars false W args.toList ds gs before)
 (core:DataW.TrodAll enc P W 0 (fun _=>true) true fn.params.toList args.toList ds before→gs=[]→(∀x∈before,x.block<W.heap.size)→Calls P f args W fun e W'=>e= .returned (.bool true)∧Below W.heap.size W W'):
 Calls P f args W fun e W'=>∃v,e= .returned v∧s.post enc P fn false true false false W args v W':=by
 have hW':=hW;have hlt:∀p∈before,p.block<W.heap.size:=fun p hp=>hW.lt p hp
 obtain⟨p,q,hA,hV,hbe,hfz,hnd⟩:=hW;rw[hv]at hV;obtain⟨rfl,rfl⟩:=trodVars_none hV;rw[List.append_nil]at hbe;subst hbe;refine(core hA rfl hlt).mono fun e W' ⟨he,hb⟩=>⟨_,he,?_⟩
 refine uN (pa:=before) (pv:=[]) hW' ?_ ?_ ?_ (by simp) hb (ok_one hrt rfl (okWide_bool_mk hub _))
 ·intro b sp hd
  rw[hspec rfl,hrt];exact trodAll_mk1 (shut_bool hub true)
 ·intro sp hsp
  rw[hspec rfl];exact uB hl hb _ _ _ _ hts hA hlt hsp
 ·intro sp hsp
  rw[hspec rfl,hv];rfl
end
end Go.Proofs.YtjknklinhegdoaaGreatDoor
namespace Go.Proofs.YtjknklinhegdoaaGreatDoor
open Go.RowKit Go.Shelf Dec
theorem aD (s:ByteArray):s.toList=bytes s:=by
 unfold bytes;rw[ByteArray.toList_eq]
end Go.Proofs.YtjknklinhegdoaaGreatDoor
namespace QQ
def rat (n d:Int):Rat:=if d=0 then(n:Rat)else(n:Rat)/(d:Rat)
theorem lv (n:Int):rat n 0=(n:Rat):=if_pos rfl
theorem dA {n d:Int}(h:d≠0):rat n d=(n:Rat)/(d:Rat):=if_neg h
theorem eY {n d:Int}(h:d≠0):rat n d=Rat.divInt n d:=by rw[dA h,Rat.divInt_eq_div]
theorem zt (n:Int):rat n 1=(n:Rat):=by rw[dA (by decide)];show (n:Rat)/1=n;grind
theorem bA {d:Int}(h:d≠0):(d:Rat)≠0:=by
 intro e;exact h (Rat.intCast_inj.1 (by rw[e];rfl))
theorem adO (n d:Int)(h:d≠0):rat (-n) (-d)=rat n d:=by
 rw[dA h,dA (by omega)];have:=bA h;rw[Rat.intCast_neg,Rat.intCast_neg]
 grind
theorem abp (n:Int)(d:Int)(m:Int):m.fdiv (Nat.gcd n.natAbs d.natAbs:Nat)=m/(Int.gcd d n:Nat):=by
 rw[Int.fdiv_eq_ediv_of_nonneg _ (Int.natCast_nonneg _)];show _=m/((Nat.gcd d.natAbs n.natAbs:Nat):Int);rw[Nat.gcd_comm]
theorem adN {n d:Int}(h:0<d):(rat n d).num =n.fdiv (Nat.gcd n.natAbs d.natAbs:Nat):=by
 rw[eY (by omega),Rat.num_divInt,Int.sign_eq_one_of_pos h,Int.one_mul,abp]
theorem adQ {n d:Int}(h:0<d):((rat n d).den :Int)=d.fdiv (Nat.gcd n.natAbs d.natAbs:Nat):=by
 rw[eY (by omega),Rat.den_divInt,if_neg (by omega),abp];rw[Int.natCast_ediv];congr 1;omega
theorem bJ (q:Rat):rat q.num q.den=q:=by
 rw[eY (by have:=q.den_nz;omega),Rat.num_divInt_den]
theorem rat_le {n d:Int}:(rat n d).num.natAbs ≤n.natAbs∧(d≠0→(rat n d).den ≤d.natAbs)∧(d=0→(rat n d).den =1):=by
 by_cases h:d=0
 ·subst h
  rw[lv];exact⟨by simp,by simp,by simp⟩
 ·refine⟨?_,fun _=>?_,fun e=>absurd e h⟩
  ·rw[eY h,Rat.num_divInt]
   refine ali (Int.natAbs_ediv_le_natAbs _ _) ?_;rw[Int.natAbs_mul]
   have:d.sign.natAbs≤1:=by rcases Int.lt_trichotomy d 0 with h1|h1|h1
                            ·rw[Int.sign_eq_neg_one_of_neg h1];decide
                            ·exact absurd h1 h
                            ·rw[Int.sign_eq_one_of_pos h1];decide
   calc d.sign.natAbs*n.natAbs≤1*n.natAbs:=Nat.mul_le_mul_right _ this
    _=n.natAbs:=Nat.one_mul _
  ·rw[eY h,Rat.den_divInt,if_neg h]
   exact Nat.div_le_self _ _
theorem ajv {a b c d:Int}(hb:b≠0)(hd:d≠0):rat (a*d+c*b) (b*d)=rat a b+rat c d:=by
 have h1:=bA hb;have h2:=bA hd;rw[dA hb,dA hd,dA (Int.mul_ne_zero hb hd)];rw[Rat.intCast_add,Rat.intCast_mul,Rat.intCast_mul,Rat.intCast_mul]
 grind
theorem ajt {a b c d:Int}(hb:b≠0)(hd:d≠0):rat (a*d-c*b) (b*d)=rat a b-rat c d:=by
 have h1:=bA hb;have h2:=bA hd;rw[dA hb,dA hd,dA (Int.mul_ne_zero hb hd)];rw[Rat.intCast_sub,Rat.intCast_mul,Rat.intCast_mul,Rat.intCast_mul]
 grind
theorem adP {a b c d:Int}(hb:b≠0)(hd:d≠0):rat (a*c) (b*d)=rat a b*rat c d:=by
 have h1:=bA hb;have h2:=bA hd;rw[dA hb,dA hd,dA (Int.mul_ne_zero hb hd)];rw[Rat.intCast_mul,Rat.intCast_mul]
 grind
theorem aju {a b c d:Int}(hb:b≠0)(hc:c≠0)(hd:d≠0):rat (a*d) (b*c)=rat a b/rat c d:=by
 have h1:=bA hb;have h2:=bA hd;have h3:=bA hc;rw[dA hb,dA hd,dA (Int.mul_ne_zero hb hc)];rw[Rat.intCast_mul,Rat.intCast_mul]
 grind
theorem rat_ne {c d:Int}(hc:c≠0):rat c d≠0:=by
 have h3:=bA hc;by_cases hd:d=0
 ·subst hd;rw[lv];exact h3
 ·have h2:=bA hd
  rw[dA hd]
  grind
theorem zu {c d:Int}:rat c d=0↔c=0:=by
 refine⟨fun h=>Decidable.byContradiction fun hc=>rat_ne hc h,fun h=>?_⟩;subst h;unfold rat;split
 ·rfl
 ·show (0:Rat)/(d:Rat)=0;rw[Rat.div_def,Rat.zero_mul]
def iI (x y:Rat):Int:=if x<y then-1 else if x=y then 0 else 1
theorem ah9 {x y:Rat}:iI x y<0↔x<y:=by
 unfold iI;split
 ·simp[*]
 ·split<;>simp[*]
theorem qm (x y:Rat):(x-y).num <0↔x<y:=by
 have h:(x-y).num <0↔¬0≤x-y:=by rw[←Rat.num_nonneg];omega
 rw[h]
 grind
theorem xD (x y:Rat):(x-y).num =0↔x=y:=by
 rw[Rat.num_eq_zero]
 grind
theorem akM (x y:Rat):(if (x-y).num <0 then-1 else if (x-y).num =0 then 0 else 1:Int)=iI x y:=by
 unfold iI;simp only[qm,xD]
theorem afk {a b c d:Int}(hb:0<b)(hd:0<d):(if a*d<c*b then-1 else if a*d=c*b then 0 else 1:Int)=iI (rat a b) (rat c d):=by
 have h1:(0:Rat)<(b:Rat):=Rat.intCast_pos.2 hb;have h2:(0:Rat)<(d:Rat):=Rat.intCast_pos.2 hd;have e1:a*d<c*b↔rat a b<rat c d:=by
  rw[dA (by omega),dA (by omega),Rat.div_lt_iff h1, ←Rat.intCast_lt_intCast,Rat.intCast_mul,Rat.intCast_mul];have:(c:Rat)/d*b=c*b/d:=by grind
  rw[this,Rat.lt_div_iff h2]
 have e2:a*d=c*b↔rat a b=rat c d:=by
  rw[dA (by omega),dA (by omega), ←Rat.intCast_inj,Rat.intCast_mul,Rat.intCast_mul]
  grind
 unfold iI;simp only[e1,e2]
theorem jD {n d:Int}(h:d≠0):n.fdiv d=(rat n d).floor :=by
 rcases Int.lt_trichotomy d 0 with h1|h1|h1
 ·rw[←Int.neg_fdiv_neg, ←adO _ _ h]
  rw[Int.fdiv_eq_ediv_of_nonneg _ (by omega)];have hm:=eY (n:= -n) (d:= -d) (by omega);obtain⟨m,hm2⟩:∃m:Nat, -d=m:=⟨(-d).toNat,by omega⟩;rw[hm2]at hm⊢
  rw[hm];apply Int.le_antisymm
  ·rw[Rat.le_floor_iff,Rat.divInt_eq_div]
   have hp:(0:Rat)<((m:Int):Rat):=Rat.intCast_pos.2 (by omega);rw[←Rat.not_lt,Rat.div_lt_iff hp,Rat.not_lt, ←Rat.intCast_mul,Rat.intCast_le_intCast];exact Int.ediv_mul_le _ (by omega)
  ·have:(Rat.divInt (-n) m).floor <(-n)/(m:Int)+1:=by
    rw[Rat.floor_lt_iff,Rat.divInt_eq_div];have hp:(0:Rat)<((m:Int):Rat):=Rat.intCast_pos.2 (by omega);rw[Rat.div_lt_iff hp, ←Rat.intCast_mul,Rat.intCast_lt_intCast];exact Int.lt_ediv_add_one_mul_self _ (by omega)
   omega
 ·exact absurd h1 h
 ·rw[Int.fdiv_eq_ediv_of_nonneg _ (by omega)]
  have hm:=eY (n:=n) (d:=d) (by omega);rw[hm];have hp:(0:Rat)<(d:Rat):=Rat.intCast_pos.2 (by omega);apply Int.le_antisymm
  ·rw[Rat.le_floor_iff,Rat.divInt_eq_div]
   rw[←Rat.not_lt,Rat.div_lt_iff hp,Rat.not_lt, ←Rat.intCast_mul,Rat.intCast_le_intCast];exact Int.ediv_mul_le _ (by omega)
  ·have:(Rat.divInt n d).floor <n/d+1:=by
    rw[Rat.floor_lt_iff,Rat.divInt_eq_div];rw[Rat.div_lt_iff hp, ←Rat.intCast_mul,Rat.intCast_lt_intCast];exact Int.lt_ediv_add_one_mul_self _ (by omega)
   omega
def bH (k:Nat)(q:Rat):Prop:=q.num.natAbs<10^k∧q.den<10^k
theorem qf {k m:Nat}(h:k≤m):10^k≤10^m:=Nat.pow_le_pow_right (by omega) h
theorem bH.mono {k m:Nat}{q:Rat}(h:bH k q)(hk:k≤m):bH m q:=⟨alx h.1 (qf hk),alx h.2 (qf hk)⟩
theorem bH.rat {k m:Nat}{n d:Int}(hn:n.natAbs<10^k)(hd:d.natAbs<10^m)(hm:1≤m):bH (max k m) (rat n d):=by
 have h:=rat_le (n:=n) (d:=d);refine⟨alx (Nat.lt_of_le_of_lt h.1 hn) (qf (by omega)),?_⟩;by_cases e:d=0
 ·rw[h.2.2 e]
  have:=qf (show 1≤max k m by omega);omega
 ·exact alx (Nat.lt_of_le_of_lt (h.2.1 e) hd) (qf (by omega))
theorem bH.int {k:Nat}{z:Int}(h:z.natAbs<10^k)(hk:1≤k):bH k (z:Rat):=by
 refine⟨h,?_⟩;have:=qf hk;simp;omega
theorem akI (q:Rat):1≤q.den:=Nat.pos_of_ne_zero q.den_nz
theorem bH.of_rat {k m:Nat}{q:Rat}{n d:Int}(e:q=QQ.rat n d)(hn:n.natAbs<10^k)(hd:d.natAbs<10^m)(hm:m≤k)(h1:1≤m):bH k q:=by
 rw[e];exact(bH.rat hn hd h1).mono (by omega)
theorem lK {a b k m:Nat}(ha:a<10^k)(hb:b<10^m):a*b<10^(k+m):=by
 rw[Nat.pow_add];exact Nat.mul_lt_mul_of_lt_of_le ha (Nat.le_of_lt hb) (Nat.pow_pos (by omega))
theorem bH.pos {k:Nat}{q:Rat}(h:bH k q):1≤k:=by
 rcases Nat.lt_or_ge k 1 with h1|h1
 ·have h2:=h.2
  have h3:=akI q;obtain rfl:k=0:=by omega
  simp at h2;omega
 ·exact h1
theorem nz (q:Rat):(q.den:Int)≠0:=by have:=q.den_nz;omega
theorem bH.mul {k m:Nat}{p q:Rat}(h:bH k p)(h2:bH m q):bH (k+m) (p*q):=by
 refine bH.of_rat (n:=p.num*q.num) (d:=p.den*q.den) (k:=k+m) (m:=k+m) ?_ ?_ ?_ alK (by have:=h.pos;omega)
 ·rw[adP (nz p) (nz q),bJ,bJ]
 ·rw[Int.natAbs_mul];exact lK h.1 h2.1
 ·rw[Int.natAbs_mul];exact lK h.2 h2.2
theorem bH.add {k m:Nat}{p q:Rat}(h:bH k p)(h2:bH m q):bH (k+m+1) (p+q):=by
 refine bH.of_rat (n:=p.num*q.den+q.num*p.den) (d:=p.den*q.den) (k:=k+m+1) (m:=k+m) ?_ ?_ ?_ (by omega) (by have:=h.pos;omega)
 ·rw[ajv (nz p) (nz q),bJ,bJ]
 ·have a1:=lK h.1 h2.2
  have a2:=lK h2.1 h.2;rw[Nat.add_comm m k]at a2;have:=Int.natAbs_add_le (p.num*q.den) (q.num*p.den);rw[Int.natAbs_mul,Int.natAbs_mul,Int.natAbs_natCast,Int.natAbs_natCast]at this;rw[Nat.pow_succ];omega
 ·rw[Int.natAbs_mul];exact lK h.2 h2.2
theorem bH.neg {k:Nat}{q:Rat}(h:bH k q):bH k (-q):=by
 refine⟨?_,h.2⟩;rw[Rat.neg_num,Int.natAbs_neg];exact h.1
theorem bH.sub {k m:Nat}{p q:Rat}(h:bH k p)(h2:bH m q):bH (k+m+1) (p-q):=by
 rw[Rat.sub_eq_add_neg];exact h.add h2.neg
theorem bH.inv {k:Nat}{q:Rat}(h:bH k q):bH k q⁻¹:=by
 have hp:=qf h.pos;refine⟨?_,?_⟩
 ·rw[Rat.num_inv,Int.natAbs_mul,Int.natAbs_natCast]
  have:q.num.sign.natAbs≤1:=by
   rcases Int.lt_trichotomy q.num 0 with h1|h1|h1
   ·rw[Int.sign_eq_neg_one_of_neg h1];decide
   ·rw[h1];decide
   ·rw[Int.sign_eq_one_of_pos h1];decide
  exact Nat.lt_of_le_of_lt (ali (Nat.mul_le_mul_right _ this) (by omega)) h.2
 ·rw[Rat.den_inv]
  split
  ·omega
  ·exact h.1
theorem bH.div {k m:Nat}{p q:Rat}(h:bH k p)(h2:bH m q):bH (k+m) (p/q):=by
 rw[Rat.div_def];exact h.mul h2.inv
end QQ
namespace Go.Proofs.YtjknklinhegdoaaGreatDoor
open Go.RowKit Go.Shelf Dec QQ
def frN (q:Rat):ByteArray:=ag q.num
def frD (q:Rat):ByteArray:=if q.den=1 then⟨#[]⟩else ag q.den
def cK (n d:ByteArray):Rat:=rat (aj n) (aj d)
def FV (n d:ByteArray):Value:=.agg #[.string n,.string d]
def FR (q:Rat):Value:=.agg #[.string (frN q),.string (frD q)]
theorem ajw (q:Rat):cK (frN q) (frD q)=q:=by
 unfold cK frN frD;by_cases h:q.den=1
 ·rw[if_pos h,aW]
  have:=bJ q;rw[h]at this;show rat q.num 0=q;rw[lv];rw[←zt];exact this
 ·rw[if_neg h,aW,aW,bJ]
def Vq (n d:ByteArray)(q:Rat):Prop:=cK n d=q∧n.size≤100000∧d.size≤100000
theorem Vq.arg {n d:ByteArray}(h:n.size≤100000)(h2:d.size≤100000):Vq n d (cK n d):=⟨rfl,h,h2⟩
theorem bH.sizes {k:Nat}{q:Rat}(h:bH k q):(frN q).size ≤k+1∧(frD q).size ≤k+1:=by
 refine⟨pU h.1,?_⟩;unfold frD;split
 ·exact Nat.zero_le _
 ·exact pU (by have:=h.2;omega)
theorem Vq.fr {k:Nat}{q:Rat}(h:bH k q)(hk:k≤99999):Vq (frN q) (frD q) q:=by
 have:=bH.sizes h;exact⟨ajw q,by omega,by omega⟩
theorem bH.arg {n d:ByteArray}{k:Nat}(h:n.size≤k)(h2:d.size≤k)(hk:1≤k):bH k (cK n d):=by
 have:=bH.rat (Fit.val h) (Fit.val h2) hk;rwa[Nat.max_self]at this
section
variable {P:Program} {ops:Array Oper} {md:Region.Mode} {C:World→Prop}
def dH (P:Program)(md:Region.Mode)(ops:Array Oper)(C:World→Prop)(n:Nat)(L:Array Bool→Act→Prop):Nat→Array Bool→Act→Prop
 |0,s,a=>L s a
 |f+1,s,a=>Region.ready md ops s≠ []∧∀i∈Region.ready md ops s,i<n∧qOp P ops C i (dH P md ops C n L f (s.setIfInBounds i true)) a
theorem dH.sound {n g:Nat}{L:Array Bool→Act→Prop}{Q:Exit→Act→World→Prop}(hL:∀s a w,C w→L s a→wpAny P md ops Q g s a w):
 ∀(f:Nat) (s:Array Bool) (a:Act) (w:World),C w→dH P md ops C n L f s a→wpAny P md ops Q (f+g) s a w
 |0,s,a,w,hw,h=>by rw[Nat.zero_add];exact hL s a w hw h
 |f+1,s,a,w,hw,h=>by
  rw[Nat.succ_add];exact⟨fun h0=>absurd h0 h.1,fun i hi=>wpOp_of_qOp hw (fun a' w' hw' h'=>dH.sound hL f _ a' w' hw' h') (h.2 i hi).2⟩
theorem dH.first {n i:Nat}{oi:Oper}{v:Value}{L:Array Bool→Act→Prop}(hi:ops[i]? =some oi)(hns:Region.noSelect ops=true)
 (hs:Region.sinkB md ops n=true) (hc:Region.chainB md ops n=true) (hn:n<ops.size) (hin:i<n)
 (hend:∀s a,L s a→∀j∈Region.ready md ops s,n≤j):
 ∀(f:Nat) (s:Array Bool) (a:Act),HeadInv md ops n s→
  (∀j oj,ops[j]? =some oj→j≠i→s.getD j true=false→(∀e∈oj.after,Region.binds md e=true→e.on≠i)→oi.apart ops oj=true)→
  i∈Region.ready md ops s→YieldsIn P ops C oi v a→
  dH P md ops C n L f (s.setIfInBounds i true) (a.put oi.dst v)→dH P md ops C n L (f+1) s a:=by
 intro f
 induction f with
 |zero=>
  intro s a inv _ hr hy H;refine⟨List.ne_nil_of_mem hr,fun j hj=>?_⟩;have hlow:j<n:=Nat.lt_of_not_le fun h=>tail_waits hs hc hn inv _ i rfl hin (mem_ready.1 hr).1 j h hj
  refine⟨hlow,?_⟩;by_cases e:j=i
  ·subst e;exact hy.qOp hi H
  ·exact absurd (hend _ _ H j (ready_mono hj e)) (Nat.not_le_of_lt hlow)
 |succ f ih=>
  intro s a inv hfree hr hy H;have hun:=(mem_ready.1 hr).1;refine⟨List.ne_nil_of_mem hr,fun j hj=>?_⟩;have hlow:j<n:=Nat.lt_of_not_le fun h=>tail_waits hs hc hn inv _ i rfl hin hun j h hj
  refine⟨hlow,?_⟩;by_cases e:j=i
  ·subst e;exact hy.qOp hi H
  ·obtain⟨hju,oj,hoj,hall⟩:=mem_ready.1 hj
   have hno:∀x∈oj.after,Region.binds md x=true→x.on≠i:=by
    intro x hx hb hxi;have:=hall x hx hb;rw[hxi,getD_both hun]at this;cases this
   have step:=qOp_put hoj (hfree j oj hoj e hju hno) (fun cs b=>Region.noSelect_spec hns i oi cs b hi) (fun cs b=>Region.noSelect_spec hns j oj cs b hoj) hy (H.2 j (ready_mono hj e)).2;refine qOp_mono (fun a' h3=>ih _ a' (inv.set hj hlow) ?_ (ready_mono hr (Ne.symm e)) h3.1 (by rw[Array.setIfInBounds_comm _ _ e];exact h3.2)) step;intro k ok hk hki hku hkn;refine hfree k ok hk hki ?_ hkn;by_cases hjk:j=k
   ·subst hjk;exact hju
   ·rwa[getD_set_ne true hjk]at hku
theorem dH.lex {n g:Nat}{R:Act→Prop}(hns:Region.noSelect ops=true)(hs:Region.sinkB md ops n=true)(hc:Region.chainB md ops n=true)(hn:n<ops.size):
 ∀(l:List Oper) (k:Nat) (s:Array Bool) (a:Act),(∀j,j<l.length→l[j]? =ops[k+j]?)→k+l.length=n→HeadInv md ops n s→
 Region.lexHead md ops g l.length k s=true→wpQuiet P ops C R l a→
 dH P md ops C n (fun s' a'=>Region.seqB md ops g n s'=true∧R a') l.length s a:=by
 intro l
 induction l with
 |nil=>
  intro k s a _ hk _ hB h;obtain rfl:k=n:=hk;exact⟨hB,h⟩
 |cons o l ih=>
  intro k s a hl hk inv hB h;have h0:ops[k]? =some o:=(hl 0 (Nat.succ_pos _)).symm;rw[aly]at hk hB;rw[Region.lexHead,ale,ale]at hB;have hr:k∈Region.ready md ops s:=List.contains_iff_mem.1 hB.1.1;have hq:qOp P ops C k (wpQuiet P ops C R l) a:=by unfold qOp;rw[h0];exact h
  obtain⟨v,hy,hK⟩:=yieldsIn_of_qOp h0 hq;refine dH.first h0 hns hs hc hn (by omega) (fun s' a' h'=>seqB_ready h'.1) l.length s a inv (Region.free_spec h0 hB.1.2) hr hy ?_;refine ih (k+1) _ _ (fun j hj=>?_) (by omega) (inv.set hr (by omega)) hB.2 hK;have:=hl (j+1) (by rw[aly];omega);rw[List.getElem?_cons_succ]at this;rw[this];congr 1;omega
end
structure Kept (w:World) where
 W:World
 low:Below w.heap.size w W
instance kept_some (w:World):Nonempty (Kept w):=⟨⟨w,alJ _ _⟩⟩
section
variable {P:Program} {w:World}
theorem Kept.cell (u:Kept w){p:Addr}(h:p.block<w.heap.size):u.W.cell? p=w.cell? p:=u.low.cell h
theorem Kept.cell_of {p:Addr}{v:Value}(h:w.cell? p=some v)(u:Kept w):u.W.cell? p=some v:=by rw[u.cell (block_lt_of_cell h)];exact h
theorem qB (w:World):∃u:Kept w,{w with drawn:=w.drawn+1}=u.W:=⟨⟨{w with drawn:=w.drawn+1},⟨rfl,rfl,rfl,Nat.le_refl _,fun _ _=>rfl⟩⟩,rfl⟩
theorem ax {id:Nat}{Q:Exit→Act→World→Prop}{a:Act}{l:List Oper}(hm:P.follows .mixedOrders =true)(hB:Region.lexB .any l.toArray=true)
 (h:wpQuiet P l.toArray (fun w'=>∃u:Kept w,w'=u.W) (fun a'=>∀w',(∃u:Kept w,w'=u.W)→Q .normal a' w') l a):(Code.region id l.toArray true).wp P Q a w:=
 wp_region_quiet (C:=fun w'=>∃u:Kept w,w'=u.W) hm hB (qB w) (by simpa using h)
theorem bI {id:Nat}{Q:Exit→Act→World→Prop}{a:Act}{l:List Oper}(n:Nat)(hm:P.follows .mixedOrders =true)(hB:Region.lexTailB .any l.toArray n=true)
 (h:wpQuiet P l.toArray (fun w'=>∃u:Kept w,w'=u.W) (fun a'=>∀w',(∃u:Kept w,w'=u.W)→wpList P l.toArray Q (l.drop n) a' w') (l.take n) a):(Code.region id l.toArray true).wp P Q a w:=by
 simp only[Region.lexTailB,ale,decide_eq_true_eq]at hB;obtain⟨⟨⟨⟨hns,hn⟩,hs⟩,hc⟩,hlex⟩:=hB;have hn':n<l.length:=hn;have htl:(l.take n).length =n:=by rw[alr];omega
 have hdl:(l.drop n).length =l.toArray.size-n:=by rw[List.length_drop];rfl
 have inv0:HeadInv .any l.toArray n (Array.replicate l.toArray.size false):=
  ⟨by simp,fun j oj _ hl=>(by rw[getD_replicate_false]at hl;cases hl),fun t _ ht=>getD_in (by simpa using ht) (getD_replicate_false _ _)⟩
 have H:=dH.lex (md:=.any) (g:=l.toArray.size-n) hns hs hc hn (l.take n) 0 _ a (fun j hj=>by
  rw[htl]at hj;simp[hj]) (by rw[htl];exact Nat.zero_add n) inv0 (by rw[htl];exact hlex) h
 have H2:=dH.sound (Q:=Q) (g:=l.toArray.size-n) (fun s a' w' hw hL=>by
  have:=wpAny_of_seq (md:=.any) (Q':=Q) (l.drop n) n s a' w' (fun j=>by simp[List.getElem?_drop]) (by rw[hdl];exact hL.1) (hL.2 w' hw);rwa[hdl]at this) _ _ _ _ (qB w) H
 rw[htl,show n+(l.toArray.size-n)=l.toArray.size by omega]at H2;exact wp_region_any hm H2
end
end Go.Proofs.YtjknklinhegdoaaGreatDoor
namespace Go.Proofs.YtjknklinhegdoaaGreatDoor
open Go.RowKit Go.Shelf Dec
def Ret (f:FuncId)(args:Array Value)(V:Value):Prop:=∀w,Gl w→Calls Tryz.prog f args w fun e w'=>e= .returned V∧Below w.heap.size w w'
def St (w0 w:World):Prop:=Gl w0∧Below w0.heap.size w0 w
section
variable {w0 w w':World} {f:FuncId} {args:Array Value} {V:Value}
theorem St.refl (h:Gl w):St w w:=⟨h,alJ _ _⟩
theorem St.gl (h:St w0 w):Gl w:=h.1.below h.2
theorem St.on (h:St w0 w)(hb:Below w.heap.size w w'):St w0 w':=⟨h.1,h.2.trans (hb.mono h.2.size)⟩
theorem St.alloc (h:St w0 w)(o:Obj):St w0 (w.alloc o):=h.on ((alJ _ _).alloc alK o)
theorem St.drew (h:St w0 w):St w0 w.drew:=h.on (alJ _ w).drew
theorem St.drewN (h:St w0 w)(n:Nat):St w0 (w.drewN n):=h.on (below_drewN _ _ _)
theorem St.kept (h:St w0 w)(u:Kept w):St w0 u.W:=h.on u.low
theorem St.set (h:St w0 w){b:Nat}(hb:w0.heap.size≤b)(i:Nat)(v:Value):St w0 (w.setCell ⟨b,i,none⟩ v):=⟨h.1,h.2.setCell hb v⟩
theorem Ret.step {Q:Ending→World→Prop}(h:Ret f args V)(hs:St w0 w)(k:∀w',St w0 w'→Below w.heap.size w w'→Q (.returned V) w'):Calls Tryz.prog f args w Q:=
 (h w hs.gl).mono fun _ w' ⟨he,hb⟩=>he▸k w' (hs.on hb) hb
theorem Ret.kept (h:Ret f args V)(hs:St w0 w){u:Kept w}:Calls Tryz.prog f args u.W fun e w''=>e= .returned V∧∃u':Kept w,w''=u'.W:=
 (h u.W (hs.gl.below u.low)).mono fun _ w' ⟨he,hb⟩=>⟨he,⟨⟨w',u.low.trans (hb.mono u.low.size)⟩,rfl⟩⟩
def Bx (w:World)(b:Nat)(cs:Array Value):Prop:=∃T,w.heap[b]? =some (.cells cs T (0,0))
theorem Bx.lt {b:Nat}{cs:Array Value}(h:Bx w b cs):b<w.heap.size:=by obtain⟨T,h⟩:=h;exact(alc.1 h).1
theorem Bx.cell {b:Nat}{cs:Array Value}(h:Bx w b cs){i:Nat}{v:Value}(hi:cs[i]? =some v):w.cell? ⟨b,i,none⟩=some v:=by obtain⟨T,h⟩:=h;simp[World.cell?,h,hi]
theorem Bx.frozen {b:Nat}{cs:Array Value}(h:Bx w b cs)(i:Nat):w.frozen? ⟨b,i,none⟩=false:=by obtain⟨T,h⟩:=h;simp[World.frozen?,h]
theorem Bx.on {b:Nat}{cs:Array Value}(h:Bx w b cs)(hb:Below w.heap.size w w'):Bx w' b cs:=by obtain⟨T,h'⟩:=h;exact⟨T,(hb.block b (alc.1 h').1).trans h'⟩
theorem Bx.new (w:World)(cs:Array Value)(T:TypeId):Bx (w.alloc (.cells cs T)) w.heap.size cs:=⟨T,aZ w _⟩
theorem Bx.new1 (w:World)(o:Obj)(cs:Array Value)(T:TypeId):Bx ((w.alloc o).alloc (.cells cs T)) (w.heap.size+1) cs:=by have:=Bx.new (w.alloc o) cs T;rwa[alf]at this
theorem Bx.new2 (w:World)(o o':Obj)(cs:Array Value)(T:TypeId):Bx (((w.alloc o).alloc o').alloc (.cells cs T)) (w.heap.size+2) cs:=by have:=Bx.new1 (w.alloc o) o' cs T;rwa[alf]at this
theorem Bx.drew {b:Nat}{cs:Array Value}(h:Bx w b cs):Bx w.drew b cs:=h.on (alJ _ w).drew
theorem Bx.kept {b:Nat}{cs:Array Value}(h:Bx w b cs)(u:Kept w):Bx u.W b cs:=h.on u.low
theorem Bx.keeps {b:Nat}{cs:Array Value}(h:Bx w b cs){i:Nat}{v:Value}(hi:cs[i]? =some v)(u:Kept w):u.W.cell? ⟨b,i,none⟩=some v:=(h.kept u).cell hi
theorem Bx.alloc {b:Nat}{cs:Array Value}(h:Bx w b cs)(o:Obj):Bx (w.alloc o) b cs:=h.on ((alJ _ _).alloc alK o)
theorem Bx.set {b:Nat}{cs:Array Value}(h:Bx w b cs)(i:Nat)(v:Value):Bx (w.setCell ⟨b,i,none⟩ v) b (cs.setIfInBounds i v):=by
 obtain⟨T,h⟩:=h;refine⟨T,?_⟩;simp[World.setCell,Array.getElem?_modify,h]
theorem Bx.other {b c:Nat}{cs:Array Value}(h:Bx w b cs)(hc:b≠c)(i:Nat)(v:Value):Bx (w.setCell ⟨c,i,none⟩ v) b cs:=by
 obtain⟨T,h⟩:=h;exact⟨T,(alv w _ v b hc).trans h⟩
end
end Go.Proofs.YtjknklinhegdoaaGreatDoor
namespace Go.Proofs.YtjknklinhegdoaaGreatDoor
open Go.RowKit Go.Shelf Dec
section
variable {a b:ByteArray} {x y:Int}
theorem agr (h1:Vs a x)(h2:Vs b y):Ret 20 #[.string a,.string b] (.string (ag (x+y))):=fun w hg=>AddV h1 h2 w hg
theorem SubR (h1:Vs a x)(h2:Vs b y):Ret 47 #[.string a,.string b] (.string (ag (x-y))):=fun w hg=>SubV h1 h2 w hg
theorem aiG (h1:Vs a x)(h2:Vs b y):Ret 88 #[.string a,.string b] (.string (ag (x*y))):=fun w hg=>MulV h1 h2 w hg
theorem NegR (h1:Vs a x):Ret 157 #[.string a] (.string (ag (-x))):=fun w hg=>NegV h1 w hg
theorem ac7 (h1:Vs a x)(h2:Vs b y):Ret 38 #[.string a,.string b] (.int .i64 (fA x y)):=fun w _=>CmpV h1 h2 w
theorem ak6 (h1:Vs a x)(h2:Vs b y)(hy:y≠0):Ret 159 #[.string a,.string b] (.tuple #[.string (ag (x.fdiv y)),.string (ag (x.fmod y)),.int .i64 0]):=fun w hg=>DivN h1 h2 hy w hg
theorem GcdR (h1:Vs a x)(h2:Vs b y):Ret 158 #[.string a,.string b] (.string (ag (Nat.gcd x.natAbs y.natAbs:Nat))):=fun w hg=>GcdV h1 h2 w hg
theorem CanR (h1:Vs a x):Ret 187 #[.string a] (.string (ag x)):=fun w _=>CanV h1 w
theorem ChkR (h1:a.size≤1000000):Ret 128 #[.string a] (.int .i64 (chk a)):=fun w _=>afK a w (by omega)
end
end Go.Proofs.YtjknklinhegdoaaGreatDoor
namespace Go.Proofs.YtjknklinhegdoaaGreatDoor
open Go.RowKit Go.Shelf Dec QQ
theorem aai {x y:Int}:decide (fA x y<0)=decide (x<y):=by
 unfold fA;split
 ·simp[*]
 ·split<;>simp[*]
theorem afl {x y:Int}:(fA x y==0)=decide (x=y):=by
 unfold fA;split
 ·simp;omega
 ·split<;>simp[*]
theorem abg {x y:Int}(h:y≠0):((Nat.gcd x.natAbs y.natAbs:Nat):Int)≠0:=by
 have:0<Nat.gcd x.natAbs y.natAbs:=Nat.gcd_pos_of_pos_right _ (by omega);omega
theorem Vs.can' {a:ByteArray}{x z:Int}(h:Vs a x)(hz:z.natAbs≤x.natAbs)(hs:a.size≤999999):Vs (ag z) z:=
 Vs.can (k:=999999) (Nat.lt_of_le_of_lt hz (by have:=Fit.val (a:=a) hs;rw[h.1]at this;exact this)) alK
theorem Vs.gcd {b:ByteArray}{x y:Int}(h:Vs b y)(hb:b.size≤999999)(hy:y≠0):Vs (ag (Nat.gcd x.natAbs y.natAbs:Nat)) (Nat.gcd x.natAbs y.natAbs:Nat):=
 h.can' (by rw[Int.natAbs_natCast];exact Nat.le_of_dvd (by omega) (Nat.gcd_dvd_right _ _)) hb
theorem pY {n d:ByteArray}{x y:Int}(h1:Vs n x)(h2:Vs d y)(s1:n.size≤999999)(s2:d.size≤999999)(hy:y≠0):
 Ret 93 #[.string n,.string d] (.tuple #[.string (ag (rat x y).num),.string (ag (rat x y).den)]):=by
 intro w hg;have hs:=St.refl hg;have K1:=ac7 h2 Vs.nil;by_cases hneg:y<0
 ·have q:decide (fA y 0<0)=true:=by rw[aai];simpa using hneg
  have v1:Vs (ag (-x)) (-x):=h1.can' (by omega) s1;have v2:Vs (ag (-y)) (-y):=h2.can' (by omega) s2;have K2:=NegR h1;have K3:=NegR h2;have K4:=GcdR v1 v2;have v3:Vs (ag (Nat.gcd (-x).natAbs (-y).natAbs :Nat)) (Nat.gcd (-x).natAbs (-y).natAbs :Nat):=h2.can' (by rw[Int.natAbs_natCast];exact ali (Nat.le_of_dvd (by omega) (Nat.gcd_dvd_right _ _)) (by omega)) s2;have K5:=ak6 v1 v3 (abg (by omega));have K6:=ak6 v2 v3 (abg (by omega));have e1:=ala (adN (n:= -x) (d:= -y) (by omega));have e2:=ala (adQ (n:= -x) (d:= -y) (by omega));rw[adO x y hy]at e1 e2;rw[←e1.out]at K5;rw[←e2.out]at K6;generalize ag (rat x y).num =rn at*
  generalize ag (rat x y).den =rd at*
  clear e1 e2;generalize ag (Nat.gcd (-x).natAbs (-y).natAbs :Nat)=g at*
  generalize fA y 0=c at*
  generalize ag (-x)=m at*
  generalize ag (-y)=k at*
  go_enter Tryz.func93,Tryz.ntmps93
  go_wp2_with fail
  refine K1.step hs ?_;intro w1 hs _
  go_wp2_with fail
  refine K2.step hs ?_;intro w1 hs _
  go_wp2_with fail
  refine K3.step hs ?_;intro w1 hs _
  go_wp2_with fail
  refine K4.step hs ?_;intro w1 hs _
  go_wp2_with fail
  refine K5.step hs ?_;intro w1 hs _
  go_wp2_with fail
  refine K6.step hs ?_;intro w1 hs _
  go_wp2_with fail
  go_ret2
  exact⟨rfl,hs.2⟩
 ·have q:decide (fA y 0<0)=false:=by rw[aai];simpa using hneg
  have K4:=GcdR h1 h2;have v3:=h2.gcd (x:=x) s2 hy;have K5:=ak6 h1 v3 (abg hy);have K6:=ak6 h2 v3 (abg hy);have e1:=ala (adN (n:=x) (d:=y) (by omega));have e2:=ala (adQ (n:=x) (d:=y) (by omega));rw[←e1.out]at K5;rw[←e2.out]at K6;generalize ag (rat x y).num =rn at*
  generalize ag (rat x y).den =rd at*
  clear e1 e2;generalize ag (Nat.gcd x.natAbs y.natAbs:Nat)=g at*
  generalize fA y 0=c at*
  go_enter Tryz.func93,Tryz.ntmps93
  go_wp2_with fail
  refine K1.step hs ?_;intro w1 hs _
  go_wp2_with fail
  refine K4.step hs ?_;intro w1 hs _
  go_wp2_with fail
  refine K5.step hs ?_;intro w1 hs _
  go_wp2_with fail
  refine K6.step hs ?_;intro w1 hs _
  go_wp2_with fail
  go_ret2
  exact⟨rfl,hs.2⟩
def dn (d:ByteArray):ByteArray:=if aj d=0 then⟨#[49]⟩else d
theorem rX (d:ByteArray):aj (dn d)≠0:=by
 unfold dn;split
 ·decide
 ·assumption
theorem lX (n d:ByteArray):rat (aj n) (aj (dn d))=cK n d:=by
 unfold dn cK;split
 ·rename_i h
  rw[h,lv];exact zt _
 ·rfl
theorem vW (d:ByteArray):(dn d).size ≤d.size+1:=by
 unfold dn;split
 ·show 1≤_;omega
 ·omega
theorem ai1 (z:Int)(s:ByteArray)(x:Int)(hx:ag x=s):((ag z).toList ==s.toList)=decide (z=x):=by
 by_cases h:z=x
 ·subst h
  rw[hx,alI rfl];simp
 ·rw[alH h,beq_eq_false_iff_ne]
  intro e;rw[aD,aD]at e;have e2:aj (ag z)=aj s:=by unfold aj;rw[e]
  rw[←hx,aW,aW]at e2;exact h e2
theorem one_eq (z:Int):((ag z).toList == [49])=decide (z=1):=by have:=ai1 z ⟨#[49]⟩ 1 (by decide+kernel);rwa[aD ⟨#[49]⟩]at this
theorem nil_eq (z:Int):((ag z).toList == [])=decide (z=0):=by have:=ai1 z ⟨#[]⟩ 0 (by decide+kernel);rwa[aD ⟨#[]⟩]at this
theorem dL {n d:ByteArray}(s2:d.size≤999999):
 Ret 87 #[FV n d] (.tuple #[.string n,.string (dn d)]):=by
 intro w hg;unfold FV;have hs:=St.refl hg;have K1:=ac7 (Vs.arg (s:=d) (by omega)) Vs.nil;have q:(fA (aj d) 0==0)=decide (aj d=0):=afl;have e:dn d=if aj d=0 then⟨#[49]⟩else d:=rfl
 by_cases h:aj d=0
 ·rw[if_pos h]at e
  rw[alI h]at q;rw[e];clear e h;generalize fA (aj d) 0=c at*
  go_enter Tryz.func87,Tryz.ntmps87
  go_wp2_with fail
  refine K1.step (hs.alloc _) ?_;intro w1 hs hb;have x0:=((Bx.new w #[.string n,.string d] 26).on hb).cell (i:=0) rfl
  go_wp2_with fail
  go_ret2
  exact⟨rfl,hs.2⟩
 ·rw[if_neg h]at e
  rw[alH h]at q;rw[e];clear e h;generalize fA (aj d) 0=c at*
  go_enter Tryz.func87,Tryz.ntmps87
  go_wp2_with fail
  refine K1.step (hs.alloc _) ?_;intro w1 hs hb;have x0:=((Bx.new w #[.string n,.string d] 26).on hb).cell (i:=0) rfl;have x1:=((Bx.new w #[.string n,.string d] 26).on hb).cell (i:=1) rfl
  go_wp2_with fail
  go_quiet (fail)
  go_wp2_with fail
  go_ret2
  exact⟨rfl,(hs.drewN _).2⟩
theorem lQ {n d:ByteArray}{x y:Int}(h1:Vs n x)(h2:Vs d y)(s1:n.size≤999999)(s2:d.size≤999999)(hy:y≠0):
 Ret 41 #[.string n,.string d] (FR (rat x y)):=by
 intro w hg;have hs:=St.refl hg;have K1:=pY h1 h2 s1 s2 hy;have e:=one_eq ((rat x y).den :Int);have e2:frD (rat x y)=if (rat x y).den =1 then⟨#[]⟩else ag (rat x y).den :=rfl
 unfold FR frN;generalize ag (rat x y).num =rn at*
 generalize ag (rat x y).den =rd at*
 by_cases h:(rat x y).den =1
 ·rw[alI (by omega:((rat x y).den :Int)=1)]at e
  rw[if_pos h]at e2;rw[e2];clear e2 h
  go_enter Tryz.func41,Tryz.ntmps41
  go_wp2_with fail
  refine K1.step (hs.alloc _) ?_;intro w1 hs hb;have hx:=(Bx.new w #[.string ⟨#[]⟩,.string ⟨#[]⟩] 26).on hb;have x0:=hx.cell (i:=0) (v:=.string ⟨#[]⟩) rfl;have x1:=hx.cell (i:=1) (v:=.string ⟨#[]⟩) rfl;have f0:=hx.frozen 0;have f1:=hx.frozen 1
  go_wp2_with fail
  have hx2:=(hx.set 0 (.string rn)).set 1 (.string ⟨#[]⟩);have y0:=hx2.cell (i:=0) (v:=.string rn) rfl;have y1:=hx2.cell (i:=1) (v:=.string ⟨#[]⟩) rfl;have hs2:=(hs.set (b:=w.heap.size) alK 0 (.string rn)).set (b:=w.heap.size) alK 1 (.string ⟨#[]⟩);exact bodyPost_ret (v:=.agg #[.string rn,.string ⟨#[]⟩]) (by simp[results,Tryz.results41,go_sem,y0,y1]) rfl ⟨rfl,hs2.2⟩
 ·rw[alH (by omega:¬((rat x y).den :Int)=1)]at e
  rw[if_neg h]at e2;rw[e2];clear e2 h
  go_enter Tryz.func41,Tryz.ntmps41
  go_wp2_with fail
  refine K1.step (hs.alloc _) ?_;intro w1 hs hb;have hx:=(Bx.new w #[.string ⟨#[]⟩,.string ⟨#[]⟩] 26).on hb;have x0:=hx.cell (i:=0) (v:=.string ⟨#[]⟩) rfl;have x1:=hx.cell (i:=1) (v:=.string ⟨#[]⟩) rfl;have f0:=hx.frozen 0;have f1:=hx.frozen 1
  go_wp2_with fail
  have hx2:=(hx.set 0 (.string rn)).set 1 (.string rd);have y0:=hx2.cell (i:=0) (v:=.string rn) rfl;have y1:=hx2.cell (i:=1) (v:=.string rd) rfl;have hs2:=(hs.set (b:=w.heap.size) alK 0 (.string rn)).set (b:=w.heap.size) alK 1 (.string rd);exact bodyPost_ret (v:=.agg #[.string rn,.string rd]) (by simp[results,Tryz.results41,go_sem,y0,y1]) rfl ⟨rfl,hs2.2⟩
end Go.Proofs.YtjknklinhegdoaaGreatDoor
namespace Go.Proofs.YtjknklinhegdoaaGreatDoor
open Go.RowKit Go.Shelf Dec
theorem wW {fn:Func}{t u v x:Tmp}(h:fn.results= #[.tmp t,.tmp u,.tmp v,.tmp x])(tmps:Array Value)(P:Program)(w:World):
 (results fn tmps).run P w= .ok (.tuple #[tmps.getD t undef,tmps.getD u undef,tmps.getD v undef,tmps.getD x undef]) w:=by
 simp[results,h]
end Go.Proofs.YtjknklinhegdoaaGreatDoor
namespace Go.Proofs.YtjknklinhegdoaaGreatDoor
open Go.RowKit Go.Shelf Dec
def leapN (y:Nat):Bool:=(y%4==0&& !(y%100==0))||y%400==0
def afT (y:Nat):Nat:=365*(y-1900)+((y-1)/4+(y-1)/400-(y-1)/100)-460
def lenN (y m:Nat):Nat:=if m=2∧leapN y=true then 29 else [0,31,28,31,30,31,30,31,31,30,31,30,31].getD m 0
def cumN (y:Nat):Nat→Nat
 |0=>0
 |m+1=>cumN y m+lenN y m
def yFrom (n:Nat):Nat→Nat→Nat
 |0,y=>y
 |k+1,y=>if afT (y+1)≤n then yFrom n k (y+1)else y
def mFrom (y r:Nat):Nat→Nat→Nat
 |0,m=>m
 |k+1,m=>if cumN y (m+1)≤r then mFrom y r k (m+1)else m
def yN (n:Nat):Nat:=yFrom n 300 1900
def mN (n:Nat):Nat:=mFrom (yN n) (n-afT (yN n)) 12 1
def dN (n:Nat):Nat:=n-afT (yN n)-cumN (yN n) (mN n)+1
open QQ
def eN (n:Nat):Int:=360*(yN n:Int)+30*(mN n:Int)+(min (dN n) 30:Nat)
end Go.Proofs.YtjknklinhegdoaaGreatDoor
