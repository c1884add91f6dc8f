/- Facts: Same, for a cancelled fact, second half. Conditions: texts of bounded length; the library's variables lie as the program's text lays them. -/
import Derived.Test.YtjknklinhegdoaaGreatDoorGau
import Derived.Test.YtjknklinhegdoaaGreatDoorGba
set_option linter.unusedSimpArgs false
set_option linter.unusedVariables false
set_option maxHeartbeats 20000000
set_option maxRecDepth 100000
namespace Go.Proofs.YtjknklinhegdoaaGreatDoor
open Go.RowKit Go.Shelf Dec QQ SP
attribute [local go_sem] Oper.semAt_some
attribute [-go_sem] loadVar
attribute [local go_sem] aa3
theorem ajk (f:Fct)(hc:f.canc=true)(h0:(f.day==0)=true)(h1:(f.kind==0)=true)(h2:(f.ins.toList.isEmpty)=true)(h3:(f.oth.toList.isEmpty)=true)(h4:(f.cur.toList.isEmpty)=true)(h5:(f.tgt.toList.isEmpty)=true)(h6:(f.q.toList.isEmpty)=true)(h7:(f.a.toList.isEmpty)=true):Ret 60 #[fI f,.agg (gA f)] (.bool (eU f)):=by
 intro w hg;obtain⟨b,hb⟩:∃b,eU f=b:=⟨_,rfl⟩;rw[hb];have HB:=ala hb;clear hb;have hs:St w ((w.alloc (.cells (bv f) 30)).alloc (.cells (gA f) 30)):=⟨hg,alL.alloc (by simp) _⟩;have HX:=ala ((TBx.new w (bv f) 30).alloc (.cells (gA f) 30));have HY:=ala (Bx.new1 w (.cells (bv f) 30) (gA f) 30);have hcc:(bv f)= #[.string f.key,.int .i64 f.st,.bool true,.int .i64 f.day,.int .i64 f.kind,.string f.ins,.string f.oth,.string f.cur,.string f.tgt,.string f.q,.string f.a,.string f.fee,.string f.pn,.string f.pd,.string f.rn,.string f.rd,.string f.sn,.string f.sd,.slice f.P f.np f.cp,.slice f.O f.no f.co,.int .i64 f.cho]:=by rw[←hc];rfl
 unfold gA at HX HY hs⊢
 rw[hcc]at HX hs HY;unfold fI;rw[hcc];clear hg hcc;have KP:=eqPk0 f.P f.np f.cp;have KO:=eqOt0 f.O f.no f.co;have x0:=HX.out.bx.cell (i:=0) (v:=.string f.key) rfl;have y0:=HY.out.cell (i:=0) (v:=.string f.key) rfl;have x1:=HX.out.bx.cell (i:=1) (v:=.int .i64 f.st) rfl;have y1:=HY.out.cell (i:=1) (v:=.int .i64 f.st) rfl;have x2:=HX.out.bx.cell (i:=2) (v:=.bool true) rfl;have y2:=HY.out.cell (i:=2) (v:=.bool true) rfl;have x3:=HX.out.bx.cell (i:=3) (v:=.int .i64 f.day) rfl;have y3:=HY.out.cell (i:=3) (v:=.int .i64 0) rfl;have x4:=HX.out.bx.cell (i:=4) (v:=.int .i64 f.kind) rfl;have y4:=HY.out.cell (i:=4) (v:=.int .i64 0) rfl;have x5:=HX.out.bx.cell (i:=5) (v:=.string f.ins) rfl;have y5:=HY.out.cell (i:=5) (v:=.string ⟨#[]⟩) rfl;have x6:=HX.out.bx.cell (i:=6) (v:=.string f.oth) rfl;have y6:=HY.out.cell (i:=6) (v:=.string ⟨#[]⟩) rfl;have x7:=HX.out.bx.cell (i:=7) (v:=.string f.cur) rfl;have y7:=HY.out.cell (i:=7) (v:=.string ⟨#[]⟩) rfl;have x8:=HX.out.bx.cell (i:=8) (v:=.string f.tgt) rfl;have y8:=HY.out.cell (i:=8) (v:=.string ⟨#[]⟩) rfl;have x9:=HX.out.bx.cell (i:=9) (v:=.string f.q) rfl;have y9:=HY.out.cell (i:=9) (v:=.string ⟨#[]⟩) rfl;have x10:=HX.out.bx.cell (i:=10) (v:=.string f.a) rfl;have y10:=HY.out.cell (i:=10) (v:=.string ⟨#[]⟩) rfl
 go_enter Tryz.func60,Tryz.ntmps60
 have x11:=HX.out.bx.cell (i:=11) (v:=.string f.fee) rfl;have y11:=HY.out.cell (i:=11) (v:=.string ⟨#[]⟩) rfl;cases h8:(f.fee.toList.isEmpty)
 ·go_wp2_with fail
  go_ret
  exact⟨by rw[←HB.out];simp only[eU,h0,h1,h2,h3,h4,h5,h6,h7,h8];rfl,hs.2⟩
 have x12:=HX.out.bx.cell (i:=12) (v:=.string f.pn) rfl;have y12:=HY.out.cell (i:=12) (v:=.string ⟨#[]⟩) rfl;have x13:=HX.out.bx.cell (i:=13) (v:=.string f.pd) rfl;have y13:=HY.out.cell (i:=13) (v:=.string ⟨#[]⟩) rfl;have E1:=fun u=>eqlF f.pn f.pd ⟨#[]⟩ ⟨#[]⟩ u
 rw[show (⟨#[]⟩:ByteArray).toList =[]from by rw[aD];rfl,show ((f.pn.toList== [])&&(f.pd.toList== []))=(f.pn.toList.isEmpty&&f.pd.toList.isEmpty)by simp]at E1;cases h9:(f.pn.toList.isEmpty&&f.pd.toList.isEmpty)
 ·rw[h9]at E1
  go_wp2_with fail
  go_ret
  exact⟨by rw[←HB.out];simp only[eU,h0,h1,h2,h3,h4,h5,h6,h7,h8,h9];rfl,hs.2⟩
 rw[h9]at E1;have x14:=HX.out.bx.cell (i:=14) (v:=.string f.rn) rfl;have y14:=HY.out.cell (i:=14) (v:=.string ⟨#[]⟩) rfl;have x15:=HX.out.bx.cell (i:=15) (v:=.string f.rd) rfl;have y15:=HY.out.cell (i:=15) (v:=.string ⟨#[]⟩) rfl;have E2:=fun u=>eqlF f.rn f.rd ⟨#[]⟩ ⟨#[]⟩ u
 rw[show (⟨#[]⟩:ByteArray).toList =[]from by rw[aD];rfl,show ((f.rn.toList== [])&&(f.rd.toList== []))=(f.rn.toList.isEmpty&&f.rd.toList.isEmpty)by simp]at E2;cases h10:(f.rn.toList.isEmpty&&f.rd.toList.isEmpty)
 ·rw[h10]at E2
  go_wp2_with fail
  go_ret
  exact⟨by rw[←HB.out];simp only[eU,h0,h1,h2,h3,h4,h5,h6,h7,h8,h9,h10];rfl,hs.2⟩
 rw[h10]at E2;have x16:=HX.out.bx.cell (i:=16) (v:=.string f.sn) rfl;have y16:=HY.out.cell (i:=16) (v:=.string ⟨#[]⟩) rfl;have x17:=HX.out.bx.cell (i:=17) (v:=.string f.sd) rfl;have y17:=HY.out.cell (i:=17) (v:=.string ⟨#[]⟩) rfl;have E3:=fun u=>eqlF f.sn f.sd ⟨#[]⟩ ⟨#[]⟩ u
 rw[show (⟨#[]⟩:ByteArray).toList =[]from by rw[aD];rfl,show ((f.sn.toList== [])&&(f.sd.toList== []))=(f.sn.toList.isEmpty&&f.sd.toList.isEmpty)by simp]at E3;cases h11:(f.sn.toList.isEmpty&&f.sd.toList.isEmpty)
 ·rw[h11]at E3
  go_wp2_with fail
  go_ret
  exact⟨by rw[←HB.out];simp only[eU,h0,h1,h2,h3,h4,h5,h6,h7,h8,h9,h10,h11];rfl,hs.2⟩
 rw[h11]at E3;have x18:=HX.out.bx.cell (i:=18) (v:=.slice f.P f.np f.cp) rfl;have y18:=HY.out.cell (i:=18) (v:=.slice none 0 0) rfl;cases h12:(decide (f.np=0))
 ·rw[h12]at KP
  go_wp2_with fail
  refine KP.step hs ?_;intro w1 hs hb1
  go_wp2_with fail
  go_ret
  exact⟨by rw[←HB.out];simp only[eU,h0,h1,h2,h3,h4,h5,h6,h7,h8,h9,h10,h11,h12];rfl,hs.2⟩
 rw[h12]at KP;have x19:=HX.out.bx.cell (i:=19) (v:=.slice f.O f.no f.co) rfl;have y19:=HY.out.cell (i:=19) (v:=.slice none 0 0) rfl;cases h13:(decide (f.no=0))
 ·rw[h13]at KO
  go_wp2_with fail
  refine KP.step hs ?_;intro w1 hs hb1;replace x19:=(HX.out.on hb1).bx.cell (i:=19) (v:=.slice f.O f.no f.co) rfl;replace y19:=(HY.out.on hb1).cell (i:=19) (v:=.slice none 0 0) rfl
  go_wp2_with fail
  refine KO.step hs ?_;intro w2 hs hb2
  go_wp2_with fail
  go_ret
  exact⟨by rw[←HB.out];simp only[eU,h0,h1,h2,h3,h4,h5,h6,h7,h8,h9,h10,h11,h12,h13];rfl,hs.2⟩
 rw[h13]at KO;have x20:=HX.out.bx.cell (i:=20) (v:=.int .i64 f.cho) rfl;have y20:=HY.out.cell (i:=20) (v:=.int .i64 0) rfl;cases h14:(f.cho==0)
 ·go_wp2_with fail
  refine KP.step hs ?_;intro w1 hs hb1;replace x19:=(HX.out.on hb1).bx.cell (i:=19) (v:=.slice f.O f.no f.co) rfl;replace y19:=(HY.out.on hb1).cell (i:=19) (v:=.slice none 0 0) rfl
  go_wp2_with fail
  refine KO.step hs ?_;intro w2 hs hb2;replace x20:=((HX.out.on hb1).on hb2).bx.cell (i:=20) (v:=.int .i64 f.cho) rfl;replace y20:=((HY.out.on hb1).on hb2).cell (i:=20) (v:=.int .i64 0) rfl
  go_wp2_with fail
  go_ret
  exact⟨by rw[←HB.out];simp only[eU,h0,h1,h2,h3,h4,h5,h6,h7,h8,h9,h10,h11,h12,h13,h14];rfl,hs.2⟩
 go_wp2_with fail
 refine KP.step hs ?_;intro w1 hs hb1;replace x19:=(HX.out.on hb1).bx.cell (i:=19) (v:=.slice f.O f.no f.co) rfl;replace y19:=(HY.out.on hb1).cell (i:=19) (v:=.slice none 0 0) rfl
 go_wp2_with fail
 refine KO.step hs ?_;intro w2 hs hb2;replace x20:=((HX.out.on hb1).on hb2).bx.cell (i:=20) (v:=.int .i64 f.cho) rfl;replace y20:=((HY.out.on hb1).on hb2).cell (i:=20) (v:=.int .i64 0) rfl
 go_wp2_with fail
 go_ret
 exact⟨by rw[←HB.out];simp only[eU,h0,h1,h2,h3,h4,h5,h6,h7,h8,h9,h10,h11,h12,h13,h14];rfl,hs.2⟩
end Go.Proofs.YtjknklinhegdoaaGreatDoor
