/- Lots: slices.Insert at lists of lots. Condition: lists of bounded length. Lots: lot.Open. Condition: lists and texts of bounded length; the library's variables lie as the program's text lays them. -/
import Derived.Deep.MidRow
import Derived.Lib.AppendZerosOnto
import Derived.Lib.Overlaps
import Derived.Shelf.RegionOpenPlain
import Derived.Test.YtjknklinhegdoaaGreatDoorGak
import Derived.Test.YtjknklinhegdoaaGreatDoorGbd
import Derived.Deep.RegionHeld3
set_option linter.unusedSimpArgs false
set_option linter.unusedVariables false
set_option maxHeartbeats 4000000
set_option maxRecDepth 100000
namespace Go.Proofs.YtjknklinhegdoaaGreatDoor
open Go.RowKit Go.Shelf Dec QQ
theorem aba:(Tryz.prog.info? 47).map (·.size)=some 7:=by kernel_rfl
theorem undL:Tryz.prog.underlying 22=some (.slice 47):=by kernel_rfl
theorem overX (w:World)(a b:Addr)(la ca lb cb:Nat)(hne:a.block≠b.block)(tA tB:TypeId)(kA kB:Nat)
 (hsa:w.shape? a.block=some (tA,kA)) (hsb:w.shape? b.block=some (tB,kB)) (hkB:kB≠0)
 (hfa:w.frozen? a=false) (hfe:w.frozen? {block:=a.block,off:=kA}=false):
 (callFunc 164 #[.slice (some a) la ca,.slice (some b) lb cb]).run Tryz.prog w= .ok (.value (.bool false)) w:=by
 rw[run_callFunc_extern (fn:=Tryz.f164) (by kernel_rfl) (by kernel_rfl) (by kernel_rfl) (by kernel_rfl) (e:=Extern.SlicesOverlaps.overlaps #[22,22] #[4]) (by kernel_rfl),
  Lib.run_overlaps_apart w 22 4 47 undL 7 (fun u=>by kernel_rfl) a b la ca lb cb hne tA tB kA kB hsa hsb hkB hfa hfe]
 rfl
theorem xY {w:World}{g k:Nat}{cs:Array Value}{t:TypeId}(h:w.heap[g]? =some (.cells cs t (0,0))):w.frozen? ⟨g,k,none⟩=false:=by
 simp[World.frozen?,h]
theorem aaD {w:World}{g:Nat}{cs:Array Value}{t:TypeId}(h:w.heap[g]? =some (.cells cs t (0,0))):w.shape? g=some (t,cs.size):=by
 simp[World.shape?,h]
theorem wy {w:World}{g:Nat}{cs:List Value}{t:TypeId}(h:w.heap[g]? =some (.cells cs.toArray t (0,0))):∀j v,cs[j]? =some v→w.cell? ((⟨g,0,none⟩:Addr).add j)=some v:=by
 intro j v hv;rw[show (⟨g,0,none⟩:Addr).add j=⟨g,j,none⟩by unfold Addr.add;by_cases h:j=0<;>simp[h]];simp[World.cell?,h,hv]
theorem abA {w:World}{g o:Nat}{cs:List Value}{t:TypeId}(h:w.heap[g]? =some (.cells cs.toArray t (0,0))):∀j v,(cs.drop o)[j]? =some v→w.cell? ((⟨g,o,none⟩:Addr).add j)=some v:=by
 intro j v hv;rw[List.getElem?_drop]at hv;rw[Addr.add_mid];simp[World.cell?,h,hv]
theorem mh {w w1 w2:World}{r:Option Nat}(h1:w.grownBy w1 r)(h2:w1.grownBy w2 r):w.grownBy w2 r:=
 ⟨h2.os.trans h1.os,h2.tape.trans h1.tape,h2.output.trans h1.output,ali h1.size h2.size,fun k hk hr=>(h2.block k (alx hk h1.size) hr).trans (h1.block k hk hr)⟩
theorem ait {w w1 w2:World}{r:Option Nat}{N:Nat}(h1:w.grownBy w1 r)(h2:w1.grownBy w2 (some N))(hN:w.heap.size≤N):w.grownBy w2 r:=
 ⟨h2.os.trans h1.os,h2.tape.trans h1.tape,h2.output.trans h1.output,ali h1.size h2.size,fun k hk hr=>(h2.block k (alx hk h1.size) (by intro e;injection e;omega)).trans (h1.block k hk hr)⟩
theorem aan (w:World)(g:Nat):w.grownBy w.drew (some g):=⟨rfl,rfl,rfl,Nat.le_refl _,fun _ _ _=>rfl⟩
theorem ahz {w:World}{g n cap i gy:Nat}{cur xs ys:List Value}{tt:TypeId}(hcur:w.heap[g]? =some (.cells cur.toArray 47 (0,0)))(hnc:n+1≤cap)(hm:n≤1000000)(hcap:cap≤9223372036854775807)(hcs:cur.length=cap*7)
 (hx:cur.take (n*7)=xs) (hi:i<n) (hy:w.heap[gy]? =some (.cells ys.toArray tt (0,0))) (hyl:ys.length=7) (hne:gy≠g) (h1:∀u∈xs,u.oneCell'=true) (h1y:∀u∈ys,u.oneCell'=true):
 Calls Tryz.prog 103 #[.slice (some ⟨g,0,none⟩) n cap,.int .i64 i,.slice (some ⟨gy,0,none⟩) 1 1] w fun e w'=>
  e= .returned (.slice (some ⟨g,0,none⟩) (n+1) cap)∧w.grownBy w' (some g)∧w'.heap[g]? =some (.cells (splice (splice cur ((i+1)*7) (xs.drop (i*7))) (i*7) ys).toArray 47 (0,0)):=by
 have q1:¬((i:Int)=(n:Int)):=by omega
 have q2:¬((cap:Int)<(n:Int)+1):=by omega
 have hov:∀(u:World) off lb cb,u.heap=w.heap→(callFunc 164 #[.slice (some ⟨gy,0,none⟩) 1 1,.slice (some ⟨g,off,none⟩) lb cb]).run Tryz.prog u= .ok (.value (.bool false)) u:=fun u off lb cb hu=>
  overX u ⟨gy,0,none⟩ ⟨g,off,none⟩ 1 1 lb cb hne tt 47 ys.toArray.size cur.toArray.size (aaD (by rw[hu];exact hy)) (aaD (by rw[hu];exact hcur)) (by rw[List.size_toArray,hcs];omega) (xY (by rw[hu];exact hy)) (xY (by rw[hu];exact hy))
 have mixed:Tryz.prog.follows .mixedOrders =true:=by kernel_rfl
 have hin:i≤n:=by omega
 have htn:((i:Int)+1).toNat =i+1:=by omega
 have hw1:IntKind.i64.wrap ((i:Int)+1)=(i:Int)+1:=by rw[IntKind.wrap_i64];omega
 have hb1:(0:Int)≤(i:Int)+1:=by omega
 have hb2:¬(cap=i+1):=by omega
 have hb3:(i:Int)≤(n:Int)+1:=by omega
 have hb4:¬(cap=i):=by omega
 have hxl:xs.length=n*7:=by rw[←hx,alr];omega
 have hdl:(xs.drop (i*7)).length =(n-i)*7:=by rw[List.length_drop,hxl];omega
 have hdx:xs.drop (i*7)=(cur.drop (i*7)).take ((n-i)*7):=by rw[←hx,List.drop_take];congr 1;omega
 have hsrc:∀j v,(xs.drop (i*7))[j]? =some v→w.cell? ((⟨g,i*7,none⟩:Addr).add j)=some v:=fun j v hj=>by
  rw[hdx,alF]at hj;split at hj
  ·exact abA hcur j v hj
  ·cases hj
 obtain⟨Z,hZ⟩:∃Z,Z=xs.drop (i*7):=⟨_,rfl⟩;rw[←hZ]at hdl hsrc⊢
 have h1Z:∀v∈Z,v.oneCell'=true:=fun v hv=>h1 v (List.mem_of_mem_drop (by rw[←hZ];exact hv))
 have HC:=ala hcur;have HY:=ala hy;have HX:=ala hx;have HL:=ala hcs;have HD:=ala hdl;have HR:=ala hsrc;clear hcur hy hx hcs hZ hdl hsrc hdx hxl
 go_enter Tryz.func103,Tryz.ntmps103
 go_wp2_with (simp only[hov _ _ _ _ rfl])
 go_region_law_o (refine il rfl (.tmp 73) (.tmp 76) 22 22 rfl 47 7 undL aba (by omega) (some ⟨g,(i+1)*7,none⟩) (some ⟨g,i*7,none⟩) (n-i) (cap-(i+1)) (n+1-i) (cap-i) (by simp[Act.eval,Act.put]) (by simp[Act.eval,Act.put]) g ((i+1)*7) cur 47 HC.out Z (by rw[HD.out];congr 1;simp only[Nat.min_def];split<;>omega) (fun _=>⟨rfl,_,rfl,HR.out⟩) (by rw[HD.out,HL.out];omega) h1Z ?_;intro w2 HS2)
 have hne':some gy≠some g:=fun e=>hne (by injection e)
 have hyw:gy<w.heap.size:=(alc.1 HY.out).1;have HY2:Hid (w2.heap[gy]? =some (.cells ys.toArray tt (0,0))):=(HS2.out.by'.block gy hyw hne').trans HY.out;have HZ:Hid ((splice cur ((i+1)*7) Z).length =cap*7):=by
  show _=_;rw[length_splice _ _ _ (by rw[HD.out,HL.out];omega),HL.out]
 have HN7:Hid (ys.length=Nat.min 1 (n+1-i)*7):=by show _=_;rw[show Nat.min 1 (n+1-i)=1 from Nat.min_eq_left (by omega),hyl]
 obtain⟨w3,hs3,hrun3⟩:=fF (P:=Tryz.prog) w2 22 22 47 7 undL aba (some ⟨g,i*7,none⟩) (some ⟨gy,0,none⟩) (n+1-i) (cap-i) 1 1 g (i*7) (splice cur ((i+1)*7) Z) 47 HS2.out.row ys HN7.out (by omega) (fun _=>⟨rfl,_,rfl,wy HY2.out⟩) (by rw[hyl,HZ.out];omega) h1y;have HS3:=ala hs3;clear hs3
 go_wp2_with fail
 go_ret
 exact⟨rfl,mh (mh (aan w g) HS2.out.by') HS3.out.by',HS3.out.row⟩
theorem ahA {w:World}{g n cap i gy:Nat}{cur xs ys:List Value}{tt:TypeId}(hcur:w.heap[g]? =some (.cells cur.toArray 47 (0,0)))(hnc:n≤cap)(hroom:cap<n+1)(hm:n≤1000000)(hcs:cur.length=cap*7)
 (hx:cur.take (n*7)=xs) (hi:i<n) (hy:w.heap[gy]? =some (.cells ys.toArray tt (0,0))) (hyl:ys.length=7) (hne:gy≠g) (h1:∀u∈xs,u.oneCell'=true) (h1y:∀u∈ys,u.oneCell'=true):
 Calls Tryz.prog 103 #[.slice (some ⟨g,0,none⟩) n cap,.int .i64 i,.slice (some ⟨gy,0,none⟩) 1 1] w fun e w'=>
  ∃G row,e= .returned (.slice (some ⟨w.heap.size,0,none⟩) (n+1) G)∧w.grownBy w' (some g)∧n+1≤G∧G≤maxLen∧row.length=G*7∧row.take (i*7)=xs.take (i*7)∧
   w'.heap[w.heap.size]? =some (.cells (splice (splice row (i*7) ys) ((i+1)*7) (xs.drop (i*7))).toArray 47 (0,0)):=by
 obtain rfl:cap=n:=by omega
 have q1:¬((i:Int)=(cap:Int)):=by omega
 have q2:(cap:Int)<(cap:Int)+1:=by omega
 have mixed:Tryz.prog.follows .mixedOrders =true:=by kernel_rfl
 have hin:i≤cap:=by omega
 have htn:((i:Int)+1).toNat =i+1:=by omega
 have hw1:IntKind.i64.wrap ((i:Int)+1)=(i:Int)+1:=by rw[IntKind.wrap_i64];omega
 have hb1:(0:Int)≤(i:Int)+1:=by omega
 have hb3:(i:Int)≤(cap:Int)+1:=by omega
 have hb4:¬(cap=i):=by omega
 have hxl:xs.length=cap*7:=by rw[←hx,alr];omega
 have hdl:(xs.drop (i*7)).length =(cap-i)*7:=by rw[List.length_drop,hxl];omega
 have hcx:cur=xs:=by rw[←hx,aln (by omega)]
 subst hcx;clear hx;obtain⟨i0,hi0,hz0,hz1,hz2⟩:=info_parts aeH;have hold:(Builtin.firstCells i0.size i (.slice (some ⟨g,0,none⟩) i cap)).run Tryz.prog w.drew= .ok (cur.take (i*7)).toArray w.drew:=by
  rw[hz1];exact run_firstCells_some w.drew 7 i ⟨g,0,none⟩ i cap (cur.take (i*7)) (by rw[alr];omega) (fun j v hj=>by
   rw[alF]at hj;split at hj
   ·exact wy (w:=w.drew) hcur j v hj
   ·cases hj)
 have hkk:(cap:Int)+1-(i:Int)=((cap+1-i:Nat):Int):=by omega
 have hik:i+(cap+1-i)=cap+1:=by omega
 have hrz:∀ty,(Builtin.append_ #[22,3] ty #[.slice (some ⟨g,0,none⟩) i cap,.int .i64 ((cap:Int)+1-(i:Int))]).run Tryz.prog w=
  .ok (.slice (some ⟨w.heap.size,0,none⟩) (cap+1) (grownCap w (cap+1) cap 47)) (w.drew.alloc (.cells ((cur.take (i*7)).toArray ++Builtin.zeroCells (ltV default).cells (cap+1-i)++Builtin.zeroCells (ltV default).cells (grownCap w (cap+1) cap 47-(cap+1))) 47)):=fun ty=>by
  have h:=Lib.run_append_grow_zeros w 22 3 ty 47 i0 _ .i64 .i64 undL (by kernel_rfl) hi0 hz0 (some ⟨g,0,none⟩) i cap (cur.take (i*7)) hold (cap+1-i) (by omega) (by omega) (by omega) (by omega) (by rw[hz2];omega) (by rw[hz2,hik];exact growslice_fits hroom (by omega));rw[hik]at h;rw[hkk];exact h
 obtain⟨G,hG⟩:∃G,G=grownCap w (cap+1) cap 47:=⟨_,rfl⟩;have hGn:cap+1≤G:=by rw[hG];exact grownCap_ge w _ _ _
 have hGm:G≤maxLen:=by rw[hG];exact grownCap_le_maxLen w _ _ _ (by unfold maxLen;omega)
 rw[←hG]at hrz;obtain⟨ROW,hROW⟩:∃ROW:List Value,ROW=cur.take (i*7)++(Builtin.zeroCells (ltV default).cells (cap+1-i)++Builtin.zeroCells (ltV default).cells (G-(cap+1))).toList :=⟨_,rfl⟩;have hRa:(cur.take (i*7)).toArray ++Builtin.zeroCells (ltV default).cells (cap+1-i)++Builtin.zeroCells (ltV default).cells (G-(cap+1))=ROW.toArray:=by rw[hROW];apply Array.toList_inj.1;simp
 have hzl:∀k,(Builtin.zeroCells (ltV default).cells k).size =k*7:=fun k=>by simp[Builtin.zeroCells,Value.cells,ltV,ltA];try omega
 have hRl:ROW.length=G*7:=by rw[hROW];simp[hzl];omega
 have hRt:ROW.take (i*7)=cur.take (i*7):=by rw[hROW,List.take_append_of_le_length (by rw[alr];omega),List.take_take,Nat.min_self]
 rw[hRa]at hrz;obtain⟨W1,hW1⟩:∃W1,W1=w.drew.alloc (.cells ROW.toArray 47):=⟨_,rfl⟩;rw[←hW1]at hrz;have hgw:g<w.heap.size:=(alc.1 hcur).1;have hyw:gy<w.heap.size:=(alc.1 hy).1;have HB1:Hid (w.grownBy W1 (some g)):=by rw[hW1];exact mh (aan w g) (World.grownBy_alloc _ _ _)
 have HN1:Hid (W1.heap[w.heap.size]? =some (.cells ROW.toArray 47 (0,0))):=by rw[hW1];exact World.alloc_heap_new w.drew _
 have HC1:Hid (W1.heap[g]? =some (.cells cur.toArray 47 (0,0))):=by rw[hW1];exact(Below.heap_alloc w.drew _ _ hgw).trans hcur
 have HY1:Hid (W1.heap[gy]? =some (.cells ys.toArray tt (0,0))):=by rw[hW1];exact(Below.heap_alloc w.drew _ _ hyw).trans hy
 have hb2:¬(G=i+1):=by omega
 have hb5:¬(G=i):=by omega
 have HRL:=ala hRl;have HRT:=ala hRt;have hGm':G≤9223372036854775807:=by unfold maxLen at hGm;omega
 have HCL:=ala hcs;have HD:=ala hdl;obtain⟨Z,hZ⟩:∃Z,Z=cur.drop (i*7):=⟨_,rfl⟩;have HZ:=ala hZ;have h1Z:∀v∈Z,v.oneCell'=true:=fun v hv=>h1 v (List.mem_of_mem_drop (by rw[←hZ];exact hv))
 obtain⟨N,hN⟩:∃N,N=w.heap.size:=⟨_,rfl⟩;rw[←hN]at HN1 hrz hgw hyw⊢
 have HNN:=ala hN;rw[←hZ]at HD⊢
 replace hN:=Nat.le_of_eq hN;clear hcur hy hcs hold hz0 hi0 hz1 hz2 hkk hik hROW hRa hzl hRl hRt hW1 hG hGm hdl hxl hZ;obtain⟨w2,hs2,hrun2⟩:=fF (P:=Tryz.prog) W1 22 22 47 7 undL aba (some ⟨N,i*7,none⟩) (some ⟨gy,0,none⟩) (cap+1-i) (G-i) 1 1 N (i*7) ROW 47 HN1.out ys (by rw[show Nat.min 1 (cap+1-i)=1 from Nat.min_eq_left (by omega),hyl]) (by omega) (fun _=>⟨rfl,_,rfl,wy HY1.out⟩) (by rw[hyl,HRL.out];omega) h1y;have HS2:=ala hs2;clear hs2
 go_enter Tryz.func103,Tryz.ntmps103
 go_wp2_with (at_builtin;refine Lib.wpList_append_run _ rfl _ _ _ _ rfl _ _ rfl rfl _ _ (hrz _) ?_)
 have HC2:Hid (w2.heap[g]? =some (.cells cur.toArray 47 (0,0))):=(HS2.out.by'.block g (alc.1 HC1.out).1 (by intro e;injection e;omega)).trans HC1.out;have HSL:Hid ((splice ROW (i*7) ys).length =G*7):=by
  show _=_;rw[length_splice _ _ _ (by rw[hyl,HRL.out];omega),HRL.out]
 have HSR:Hid (∀j v,Z[j]? =some v→w2.drew.cell? ((⟨g,i*7,none⟩:Addr).add j)=some v):=fun j v hj=>by
  rw[HZ.out]at hj;exact abA (w:=w2.drew) HC2.out j v hj
 go_region_law_o (refine il rfl (.tmp 50) (.tmp 53) 22 22 rfl 47 7 undL aba (by omega) (some ⟨N,(i+1)*7,none⟩) (some ⟨g,i*7,none⟩) (cap-i) (G-(i+1)) (cap-i) (cap-i) (by simp[Act.eval,Act.put]) (by simp[Act.eval,Act.put]) N ((i+1)*7) (splice ROW (i*7) ys) 47 HS2.out.row Z (by rw[HD.out];congr 1;simp only[Nat.min_def];split<;>omega) (fun _=>⟨rfl,_,rfl,HSR.out⟩) (by rw[HD.out,HSL.out];omega) h1Z ?_;intro w3 HS3)
 go_wp2_with fail
 go_ret
 refine⟨G,ROW,rfl,?_,hGn,by unfold maxLen;omega,HRL.out,HRT.out,HS3.out.row⟩;exact ait HB1.out (mh (mh HS2.out.by' (aan w2 N)) HS3.out.by') (by have:=HNN.out;omega)
theorem aka {w:World}{base n gy:Nat}{v:Value}{xs ys:List Value}{tt:TypeId}(hown:w.ownsRow base 47 7 v n xs)(hb:base≤w.heap.size)(hm:n≤1000000)(hy:w.heap[gy]? =some (.cells ys.toArray tt (0,0)))(hyl:ys.length=7)(h1y:∀u∈ys,u.oneCell'=true):
 Calls Tryz.prog 103 #[v,.int .i64 n,.slice (some ⟨gy,0,none⟩) 1 1] w fun e w'=>
  ∃v',e= .returned v'∧w.grownBy w' v.ownBlock∧w'.ownsRow base 47 7 v' (n+1) (xs++ys):=by
 have hyr:Reads w w.heap.size 7 (some ⟨gy,0,none⟩) 1 ys:=⟨by omega,fun _=>⟨_,rfl,(alc.1 hy).1,wy hy⟩⟩;obtain⟨i0,hi,hz0,hz1,hz2⟩:=info_parts aeH;have Hi:=ala hi;have Hz0:=ala hz0;have Hz1:=ala hz1;have Hz2:=ala hz2;have HO:=ala hown;have HR:=ala hyr;have h0v:∀u,u=v→(u= .slice none 0 0∧n=0)∨∃g cap,u= .slice (some ⟨g,0,none⟩) n cap∧n≤cap∧cap≤9223372036854775807:=fun u hu=>by
  subst hu;rcases hown.2 with h|⟨g,cap,cur,e1,_,_,e4,e5,_⟩
  ·exact .inl h
  ·exact .inr ⟨g,cap,e1,e4,by unfold maxLen at e5;omega⟩
 clear hi hz0 hz1 hz2 hown hyr hy;rcases h0v v rfl with ⟨rfl,rfl⟩|⟨g,cap,rfl,hnc,hcap⟩
 ·clear h0v
  go_enter Tryz.func103,Tryz.ntmps103
  go_wp2_with (at_builtin;refine aF _ rfl (.tmp 23) (.tmp 24) 22 rfl base 47 i0 (.agg #[.string ⟨#[]⟩,.string ⟨#[]⟩,.int .i64 0,.int .i64 0,.string ⟨#[]⟩,.string ⟨#[]⟩,.string ⟨#[]⟩]) 7 96 (by kernel_rfl) Hi.out Hz0.out Hz1.out Hz2.out rfl (by omega) (.slice none 0 0) 0 xs rfl HO.out _ (some ⟨gy,0,none⟩) 1 1 ys rfl HR.out h1y (by unfold maxLen;omega) (by omega) hb ?_;intro v3 w3 hown3 hg3 _;have HO3:=ala hown3;have HG3:=ala hg3;clear hown3 hg3)
  go_ret
  exact⟨_,rfl,HG3.out,HO3.out⟩
 ·clear h0v
  go_enter Tryz.func103,Tryz.ntmps103
  go_wp2_with (at_builtin;refine aF _ rfl (.tmp 23) (.tmp 24) 22 rfl base 47 i0 (.agg #[.string ⟨#[]⟩,.string ⟨#[]⟩,.int .i64 0,.int .i64 0,.string ⟨#[]⟩,.string ⟨#[]⟩,.string ⟨#[]⟩]) 7 96 (by kernel_rfl) Hi.out Hz0.out Hz1.out Hz2.out rfl (by omega) (.slice (some ⟨g,0,none⟩) n cap) n xs rfl HO.out _ (some ⟨gy,0,none⟩) 1 1 ys rfl HR.out h1y (by unfold maxLen;omega) (by omega) hb ?_;intro v3 w3 hown3 hg3 _;have HO3:=ala hown3;have HG3:=ala hg3;clear hown3 hg3)
  all_goals (go_ret;exact⟨_,rfl,HG3.out,HO3.out⟩)
theorem insL {w:World}{base n i gy:Nat}{v:Value}{xs ys:List Value}{tt:TypeId}(hown:w.ownsRow base 47 7 v n xs)(hb:base≤w.heap.size)(hi:i≤n)(hm:n≤1000000)(hy:w.heap[gy]? =some (.cells ys.toArray tt (0,0)))(hyl:ys.length=7)(hne:some gy≠v.ownBlock)
 (h1:∀u∈xs,u.oneCell'=true) (h1y:∀u∈ys,u.oneCell'=true):
 Calls Tryz.prog 103 #[v,.int .i64 i,.slice (some ⟨gy,0,none⟩) 1 1] w fun e w'=>
  ∃v',e= .returned v'∧w.grownBy w' v.ownBlock∧w'.ownsRow base 47 7 v' (n+1) (ji xs (i*7) ys):=by
 have hxl:=hown.1;by_cases hin:i=n
 ·subst hin
  rw[adU xs ys _ (by omega)];exact aka hown hb hm hy hyl h1y
 have hlt:i<n:=by omega
 rcases hown.2 with ⟨_,h0⟩|⟨g,cap,cur,rfl,hbg,hcur,hnc,hcap,hcs,hx⟩
 ·omega
 have hne':gy≠g:=fun e=>hne (by rw[e];rfl)
 have hcur':w.heap[g]? =some (.cells cur.toList.toArray 47 (0,0)):=by simpa using hcur
 have hlen:cur.toList.length=cap*7:=by simpa using hcs
 have hdl:(xs.drop (i*7)).length =(n-i)*7:=by rw[List.length_drop,hxl];omega
 have hpl:(ji xs (i*7) ys).length =(n+1)*7:=by
  unfold ji;rw[alG,alG,alr,hdl,hyl,hxl];omega
 by_cases hr:n+1≤cap
 ·refine(ahz hcur' hr hm (by unfold maxLen at hcap;omega) hlen hx hlt hy hyl hne' h1 h1y).mono ?_
  rintro e w' ⟨rfl,hgr,hrow⟩;refine⟨_,rfl,hgr,hpl,.inr ⟨g,cap,_,rfl,hbg,hrow,hr,hcap,?_,?_⟩⟩
  ·rw[List.size_toArray,length_splice,length_splice,hlen]
   ·rw[hdl,hlen];omega
   ·rw[length_splice _ _ _ (by rw[hdl,hlen];omega),hyl,hlen];omega
  ·rw[List.toList_toArray]
   have:=zb cur.toList xs ys (i*7) (n*7) hx hxl (by omega) (by rw[hyl,hlen];omega);rw[hyl]at this;rw[show (i+1)*7=i*7+7 by omega,show (n+1)*7=n*7+7 by omega];exact this
 ·refine(ahA hcur' hnc (by omega) hm hlen hx hlt hy hyl hne' h1 h1y).mono ?_
  rintro e w' ⟨G,row,rfl,hgr,hG1,hG2,hrl,hrt,hrow⟩;refine⟨_,rfl,hgr,hpl,.inr ⟨_,G,_,rfl,hb,hrow,hG1,hG2,?_,?_⟩⟩
  ·rw[List.size_toArray,length_splice,length_splice,hrl]
   ·rw[hyl,hrl];omega
   ·rw[length_splice _ _ _ (by rw[hyl,hrl];omega),hdl,hrl];omega
  ·rw[List.toList_toArray]
   have:=abY row xs ys (i*7) (n*7) hxl (by omega) hrt (by rw[hyl,hrl];omega);rw[hyl]at this;rw[show (i+1)*7=i*7+7 by omega,show (n+1)*7=n*7+7 by omega];exact this
theorem ahN {l:List Lt}{i:Nat}{x:Lt}(hi:i≤l.length):au aa (ji l i [x])=ji (au aa l) (i*7) (aa x):=by
 have ht:au aa (l.take i)=(au aa l).take (i*7):=by rw[tZ aM,Nat.mul_comm]
 have hd:au aa (l.drop i)=(au aa l).drop (i*7):=by
  have e:au aa l=au aa (l.take i)++au aa (l.drop i):=by
   conv=>lhs;rw[←List.take_append_drop i l]
   unfold au;rw[List.flatMap_append]
  rw[e,List.drop_left' (by rw[qH aM,alr];omega)]
 unfold ji;rw[←ht, ←hd];unfold au;rw[List.flatMap_append,List.flatMap_append];simp
end Go.Proofs.YtjknklinhegdoaaGreatDoor
namespace Go.Proofs.YtjknklinhegdoaaGreatDoor
open Go.RowKit Go.Shelf Dec QQ
attribute [local go_sem] Oper.semAt_some
theorem ajE {w:World}{base n s:Nat}{T:TypeId}{v:Value}{xs:List Value}(h:w.ownsRow base T s v n xs){g:Nat}(hg:v.ownBlock=some g):g<w.heap.size:=by
 rcases h.2 with ⟨rfl,_⟩|⟨g',cap,cur,rfl,_,h3,_⟩
 ·cases hg
 ·have:g'=g:=by simpa[Value.ownBlock]using hg
  rw[←this];exact(alc.1 h3).1
theorem ahd {A:Option Addr}{n c:Nat}{l:List Lt}{x:Lt}(hn:l.length=n)(hm:n≤1000000)(hz:∀y∈l,y.le 1000)(hx:x.le 1000)(w:World)(hg:Gl w)(hr:Row w A (au aa l)):
 Calls Tryz.prog 50 #[.slice A n c,ltV x] w fun e w'=>Below w.heap.size w w'∧∃v,e= .returned (.tuple #[v,.int .i64 (mP l x)])∧(mP l x=0→∃L,yM l x L∧fM aa 47 7 w.heap.size w' v (n+1) L):=by
 have hs:=(St.refl hg).alloc (.cells (ltA x) 47);have X:=Bx.new w (ltA x) 47;have K1:=ala (vF (A:=A) (c:=c) hn hm hz);have K2:=ala (aa7 hx);have K3:=ala (xM (A:=A) (c:=c) (id:=x.id) hn hm);have HR:=ala (hr.on ((alJ _ _).alloc alK (.cells (ltA x) 47)));have HN:=ala hn;have HX:=ala X;have hE:mP l x=bif aL l !=0 then 1 else bif mD x !=0 then mD x else bif l.any (fun y=>eqB y.id x.id)then 5 else bif decide (1000≤n)then 4 else 0:=by rw[←hn];rfl
 have HE:=ala hE;obtain⟨x0,hx0⟩:∃x0,x0=x:=⟨_,rfl⟩;have HX0:=ala hx0;generalize hoe:mP l x=oe at*
 generalize (l.any fun y=>eqB y.id x.id)=bf at*
 generalize mD x=le at*
 generalize aL l=la at*
 generalize max (ahu l x.id) 0=ix at*
 obtain⟨xid,xins,xacq,xopn,xq,xc,xu⟩:=x;dsimp only[ltV,ltA]at*
 clear hn hz hr hE hg hx hx0 hoe;have z0:=X.cell (i:=0) (v:=.string xid) rfl;have z1:=X.cell (i:=1) (v:=.string xins) rfl
 go_enter Tryz.func50,Tryz.ntmps50
 go_wp2_with fail
 refine(K1.out).step hs HR.out ?_;intro w1 hs hb1;have X1:=HX.out.on hb1;have HR1:=ala (HR.out.on hb1);have HX1:=ala X1;clear K1 z0 z1 X hb1 X1 HR HX;by_cases hla:la=0
 case neg=>
  have q:(la !=0)=true:=by simpa using hla
  have q2:(la==0)=false:=by simpa using hla
  have hoe:oe=1:=by rw[HE.out,q];rfl
  subst hoe;clear HE
  go_wp2_with fail
  go_ret2
  exact⟨hs.2,_,rfl,fun h=>absurd h (by decide)⟩
 subst hla;have HE:=ala (show oe=bif le !=0 then le else bif bf then 5 else bif decide (1000≤n)then 4 else 0 from HE.out);have z0:=HX1.out.cell (i:=0) (v:=.string xid) rfl;have z1:=HX1.out.cell (i:=1) (v:=.string xins) rfl;have z2:=HX1.out.cell (i:=2) (v:=.int .i64 xacq) rfl;have z3:=HX1.out.cell (i:=3) (v:=.int .i64 xopn) rfl;have z4:=HX1.out.cell (i:=4) (v:=.string xq) rfl;have z5:=HX1.out.cell (i:=5) (v:=.string xc) rfl;have z6:=HX1.out.cell (i:=6) (v:=.string xu) rfl
 go_wp2_with fail
 refine(K2.out).step hs ?_;intro w2 hs hb2;have HR2:=ala (HR1.out.on hb2);have HX2:=ala (HX1.out.on hb2);clear z0 z1 z2 z3 z4 z5 z6 HX1 HR1 hb2 K2;by_cases hle:le=0
 case neg=>
  have q:(le !=0)=true:=by simpa using hle
  have q2:(le==0)=false:=by simpa using hle
  have hoe:oe=le:=by rw[HE.out,q];rfl
  subst hoe;clear HE
  go_wp2_with fail
  go_ret2
  exact⟨hs.2,_,rfl,fun h=>absurd h hle⟩
 subst hle;have HE:=ala (show oe=bif bf then 5 else bif decide (1000≤n)then 4 else 0 from HE.out);have z0:=HX2.out.cell (i:=0) (v:=.string xid) rfl
 go_wp2_with fail
 refine(K3.out).step hs HR2.out ?_;intro w3 hs hb3;have HR3:=ala (HR2.out.on hb3);have HX3:=ala (HX2.out.on hb3);clear z0 HX2 HR2 hb3 K3;cases bf with
 |true=>
  have hoe:oe=5:=HE.out;subst hoe;clear HE
  go_wp2_with fail
  go_ret2
  exact⟨hs.2,_,rfl,fun h=>absurd h (by decide)⟩
 |false=>
  have HE:=ala (show oe=bif decide (1000≤n)then 4 else 0 from HE.out);by_cases h1000:1000≤n
  ·have q:decide ((1000:Int)≤(n:Int))=true:=alI (by omega)
   have q2:(1000:Int)≤(n:Int):=by omega
   have hoe:oe=4:=by rw[HE.out,alI h1000];rfl
   subst hoe;clear HE
   go_wp2_with fail
   go_ret2
   exact⟨hs.2,_,rfl,fun h=>absurd h (by decide)⟩
  have q:decide ((1000:Int)≤(n:Int))=false:=alH (by omega);have hoe:oe=0:=by rw[HE.out,alH h1000];rfl
  subst hoe;clear HE
  go_wp2_with fail
  clear q
  go_loopw [33,9] (fun s t wr=>∃k a:Nat,k≤n∧a≤k∧s= .int .i64 (k:Int)∧t= .int .i64 (a:Int)∧St w wr∧Hid (Row wr A (au aa l))∧Hid (Bx wr w.heap.size #[.string xid,.string xins,.int .i64 xacq,.int .i64 xopn,.string xq,.string xc,.string xu])∧Hid (∀i,a≤i→i<k→∀y,l[i]? =some y→eqB y.ins xins=false)) (fun s _ _=>(n-intOf s).toNat)
  case atStart=>exact⟨0,0,by omega,by omega,rfl,rfl,hs,HR3,HX3,fun i _ h=>by omega⟩
  case round=>
   clear HR3 HX3;obtain⟨k,a,hk,ha,rfl,rfl,hs,HR3,HX3,HL⟩:=hrel;by_cases hkn:k=n
   ·subst hkn
    have q:decide ((k:Int)<(k:Int))=false:=alH (by omega)
    go_wp2_with fail
    have BL0:Hid (Below wr.heap.size wr wr.drew):=(alJ _ _).drew;have BL0a:Hid (Below wr.heap.size wr (wr.drew.alloc (.cells #[.string xid,.string xins,.int .i64 xacq,.int .i64 xopn,.string xq,.string xc,.string xu] 47))):=BL0.out.alloc BL0.out.size _;have BL0c:Hid (Below wr.heap.size wr ((wr.alloc (.cells #[.string xid,.string xins,.int .i64 xacq,.int .i64 xopn,.string xq,.string xc,.string xu] 47)).drew)):=BL0a.out;have hSOK:Hid (∀v,Below wr.heap.size wr v→v.cell? ⟨w.heap.size,0,none⟩=some (.string xid)∧v.cell? ⟨w.heap.size,1,none⟩=some (.string xins)∧v.cell? ⟨w.heap.size,2,none⟩=some (.int .i64 xacq)∧v.cell? ⟨w.heap.size,3,none⟩=some (.int .i64 xopn)∧v.cell? ⟨w.heap.size,4,none⟩=some (.string xq)∧v.cell? ⟨w.heap.size,5,none⟩=some (.string xc)∧v.cell? ⟨w.heap.size,6,none⟩=some (.string xu)):=fun v hv=>
     have h:=HX3.out.on hv
     ⟨h.cell (i:=0) rfl,h.cell (i:=1) rfl,h.cell (i:=2) rfl,h.cell (i:=3) rfl,h.cell (i:=4) rfl,h.cell (i:=5) rfl,h.cell (i:=6) rfl⟩
    go_region_held3 (fun v=>v.cell? ⟨w.heap.size,0,none⟩=some (.string xid)∧v.cell? ⟨w.heap.size,1,none⟩=some (.string xins)∧v.cell? ⟨w.heap.size,2,none⟩=some (.int .i64 xacq)∧v.cell? ⟨w.heap.size,3,none⟩=some (.int .i64 xopn)∧v.cell? ⟨w.heap.size,4,none⟩=some (.string xq)∧v.cell? ⟨w.heap.size,5,none⟩=some (.string xc)∧v.cell? ⟨w.heap.size,6,none⟩=some (.string xu))
     (first|with_reducible exact hSOK.out _ BL4.out|with_reducible exact hSOK.out _ BL1b.out|with_reducible exact hSOK.out _ BL1a.out|with_reducible exact hSOK.out _ (BL1a.out.alloc BL1a.out.size _)|with_reducible exact hSOK.out _ BL0.out|with_reducible exact hSOK.out _ BL0a.out|with_reducible exact hSOK.out _ BL0c.out)
     (first
      |(go_at_call 42;refine(afJ HN.out hm wr.drew (HR3.out.on BL0.out)).mono ?_;rintro e w3 ⟨v3,rfl,ho3,hb3⟩;have BL1a:Hid (Below wr.heap.size wr w3):=BL0.out.trans (hb3.mono BL0.out.size);have HO3a:=ala ho3;clear ho3 hb3)
      |(go_at_call 42;refine(afJ HN.out hm (wr.drew.alloc (.cells #[.string xid,.string xins,.int .i64 xacq,.int .i64 xopn,.string xq,.string xc,.string xu] 47)) (HR3.out.on BL0a.out)).mono ?_;rintro e w3 ⟨v3,rfl,ho3,hb3⟩;have BL1b:Hid (Below wr.heap.size wr w3):=BL0a.out.trans (hb3.mono BL0a.out.size);have HO3b:=ala ho3;have HB3b:=ala hb3;clear ho3 hb3)
      |(go_at_call 103;refine(insL (w:=w3.alloc (.cells #[.string xid,.string xins,.int .i64 xacq,.int .i64 xopn,.string xq,.string xc,.string xu] 47)) (base:=wr.heap.size) (n:=k) (i:=a) (gy:=w3.heap.size) (xs:=au aa l) (ys:=aa ⟨xid,xins,xacq,xopn,xq,xc,xu⟩) (HO3a.out.2.alloc _) (by have:=BL1a.out.size;simp;omega) ha hm (World.alloc_heap_new w3 _) rfl (fun e=>by have:=ajE HO3a.out.2 e.symm;omega) (vK dQ l) (dQ _)).mono ?_;rintro e w4 ⟨v4,rfl,hg4,ho4⟩;have BL4:Hid (Below wr.heap.size wr w4):=(BL1a.out.alloc BL1a.out.size _).grown hg4 (by have:=BL1a.out.size;simp;omega) (uP HO3a.out.2);have HO4:=ala ho4;clear hg4 ho4)
      |(go_at_call 103;refine(insL (w:=w3) (base:=wr.heap.size) (n:=k) (i:=a) (gy:=wr.heap.size) (xs:=au aa l) (ys:=aa ⟨xid,xins,xacq,xopn,xq,xc,xu⟩) (dB HO3b.out.2 (by simp)) (by have:=BL1b.out.size;omega) ha hm ((HB3b.out.block wr.heap.size (by simp)).trans (World.alloc_heap_new wr.drew _)) rfl (fun e=>by have:=uP HO3b.out.2 _ e.symm;simp at this;omega) (vK dQ l) (dQ _)).mono ?_;rintro e w4 ⟨v4,rfl,hg4,ho4⟩;have BL4:Hid (Below wr.heap.size wr w4):=BL1b.out.grown hg4 BL1b.out.size (uP (dB HO3b.out.2 (by simp)));have HO4:=ala ho4;clear hg4 ho4))
    all_goals
     go_wp2_with fail
     go_ret2
     refine⟨hs.2.trans (BL4.out.mono hs.2.size),_,rfl,⟨ji l a [x0],⟨a,by rw[HN.out];exact ha,by rw[HX0.out],?_⟩,?_⟩⟩
     ·intro y hy
      obtain⟨i,hi⟩:=List.mem_iff_getElem?.1 hy;rw[List.getElem?_drop]at hi;exact HL.out (a+i) (by omega) (by have:=(alj.1 hi).1;rw[HN.out]at this;exact this) y hi
     ·refine⟨by unfold ji;simp[HN.out];omega,?_⟩
      rw[ahN (by rw[HN.out];exact ha),HX0.out];exact dB HO4.out hs.2.size
   ·have hkl:k<n:=by omega
    have q:decide ((k:Int)<(n:Int))=true:=alI (by omega);have qn:decide (k<n)=true:=alI hkl;obtain⟨d,hd⟩:∃d,l[k]? =some d:=⟨l[k]'(by rw[HN.out];exact hkl),by simp⟩;obtain⟨b,o,hA,hb,hcells⟩:=eT (cs:=aa) (m:=7) aM (by decide) HR3.out hd;subst hA;have HD:=ala hd;obtain⟨x0,x1,x2,x3,x4,x5,x6⟩:=eD hcells;clear hcells hd;have hba:Below wr.heap.size wr (wr.alloc (.cells (ltA d) 47)):=alL;have Y:=(HX3.out.on hba).cell (i:=1) (v:=.string xins) rfl;have YD:=(Bx.new wr (ltA d) 47).cell (i:=1) (v:=.string d.ins) rfl;dsimp only[ltA]at Y YD
    go_wp2_with fail
    ·refine⟨⟨k+1,k+1,by omega,Nat.le_refl _,by go_num,by go_num,hs.alloc _,HR3.out.on hba,HX3.out.on hba,fun i h1 h2=>by omega⟩,?_⟩
     simp[intOf];omega
    ·rename_i hq
     refine⟨⟨k+1,a,by omega,by omega,by go_num,rfl,hs.alloc _,HR3.out.on hba,HX3.out.on hba,fun i h1 h2 y hy=>?_⟩,?_⟩
     ·by_cases e:i=k
      ·subst e
       have:=Option.some.inj (HD.out.symm.trans hy);subst this;exact hq.2
      ·exact HL.out i h1 (by omega) y hy
     ·simp[intOf]
      omega
end Go.Proofs.YtjknklinhegdoaaGreatDoor
