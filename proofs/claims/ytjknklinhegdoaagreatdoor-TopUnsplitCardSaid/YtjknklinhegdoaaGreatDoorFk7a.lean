/- Facts: Same, for a cancelled fact, first half. Conditions: texts of bounded length; the library's variables lie as the program's text lays them. -/
import Derived.Test.YtjknklinhegdoaaGreatDoorGba
set_option linter.unusedSimpArgs false
set_option linter.unusedVariables false
set_option maxHeartbeats 20000000
set_option maxRecDepth 100000
namespace Go.Proofs.YtjknklinhegdoaaGreatDoor
open Go.RowKit Go.Shelf Dec QQ SP
attribute [local go_sem] Oper.semAt_some
attribute [-go_sem] loadVar
attribute [local go_sem] aa3
theorem ajj (f:Fct)(hc:f.canc=true)(hH:((f.day==0)&&((f.kind==0)&&((f.ins.toList.isEmpty)&&((f.oth.toList.isEmpty)&&((f.cur.toList.isEmpty)&&((f.tgt.toList.isEmpty)&&((f.q.toList.isEmpty)&&((f.a.toList.isEmpty)))))))))=false):Ret 60 #[fI f,.agg (gA f)] (.bool (eU f)):=by
 intro w hg;have HH:=ala hH;clear hH;obtain⟨b,hb⟩:∃b,eU f=b:=⟨_,rfl⟩;rw[hb];have HB:=ala hb;clear hb;have hs:St w ((w.alloc (.cells (bv f) 30)).alloc (.cells (gA f) 30)):=⟨hg,alL.alloc (by simp) _⟩;have HX:=ala ((TBx.new w (bv f) 30).alloc (.cells (gA f) 30));have HY:=ala (Bx.new1 w (.cells (bv f) 30) (gA f) 30);have hcc:(bv f)= #[.string f.key,.int .i64 f.st,.bool true,.int .i64 f.day,.int .i64 f.kind,.string f.ins,.string f.oth,.string f.cur,.string f.tgt,.string f.q,.string f.a,.string f.fee,.string f.pn,.string f.pd,.string f.rn,.string f.rd,.string f.sn,.string f.sd,.slice f.P f.np f.cp,.slice f.O f.no f.co,.int .i64 f.cho]:=by rw[←hc];rfl
 unfold gA at HX HY hs⊢
 rw[hcc]at HX hs HY;unfold fI;rw[hcc];clear hg hcc;have KP:=eqPk0 f.P f.np f.cp;have KO:=eqOt0 f.O f.no f.co;have x0:=HX.out.bx.cell (i:=0) (v:=.string f.key) rfl;have y0:=HY.out.cell (i:=0) (v:=.string f.key) rfl;have x1:=HX.out.bx.cell (i:=1) (v:=.int .i64 f.st) rfl;have y1:=HY.out.cell (i:=1) (v:=.int .i64 f.st) rfl;have x2:=HX.out.bx.cell (i:=2) (v:=.bool true) rfl;have y2:=HY.out.cell (i:=2) (v:=.bool true) rfl
 go_enter Tryz.func60,Tryz.ntmps60
 have x3:=HX.out.bx.cell (i:=3) (v:=.int .i64 f.day) rfl;have y3:=HY.out.cell (i:=3) (v:=.int .i64 0) rfl;cases h0:(f.day==0)
 ·go_wp2_with fail
  go_ret
  exact⟨by rw[←HB.out];simp only[eU,h0];rfl,hs.2⟩
 have x4:=HX.out.bx.cell (i:=4) (v:=.int .i64 f.kind) rfl;have y4:=HY.out.cell (i:=4) (v:=.int .i64 0) rfl;cases h1:(f.kind==0)
 ·go_wp2_with fail
  go_ret
  exact⟨by rw[←HB.out];simp only[eU,h0,h1];rfl,hs.2⟩
 have x5:=HX.out.bx.cell (i:=5) (v:=.string f.ins) rfl;have y5:=HY.out.cell (i:=5) (v:=.string ⟨#[]⟩) rfl;cases h2:(f.ins.toList.isEmpty)
 ·go_wp2_with fail
  go_ret
  exact⟨by rw[←HB.out];simp only[eU,h0,h1,h2];rfl,hs.2⟩
 have x6:=HX.out.bx.cell (i:=6) (v:=.string f.oth) rfl;have y6:=HY.out.cell (i:=6) (v:=.string ⟨#[]⟩) rfl;cases h3:(f.oth.toList.isEmpty)
 ·go_wp2_with fail
  go_ret
  exact⟨by rw[←HB.out];simp only[eU,h0,h1,h2,h3];rfl,hs.2⟩
 have x7:=HX.out.bx.cell (i:=7) (v:=.string f.cur) rfl;have y7:=HY.out.cell (i:=7) (v:=.string ⟨#[]⟩) rfl;cases h4:(f.cur.toList.isEmpty)
 ·go_wp2_with fail
  go_ret
  exact⟨by rw[←HB.out];simp only[eU,h0,h1,h2,h3,h4];rfl,hs.2⟩
 have x8:=HX.out.bx.cell (i:=8) (v:=.string f.tgt) rfl;have y8:=HY.out.cell (i:=8) (v:=.string ⟨#[]⟩) rfl;cases h5:(f.tgt.toList.isEmpty)
 ·go_wp2_with fail
  go_ret
  exact⟨by rw[←HB.out];simp only[eU,h0,h1,h2,h3,h4,h5];rfl,hs.2⟩
 have x9:=HX.out.bx.cell (i:=9) (v:=.string f.q) rfl;have y9:=HY.out.cell (i:=9) (v:=.string ⟨#[]⟩) rfl;cases h6:(f.q.toList.isEmpty)
 ·go_wp2_with fail
  go_ret
  exact⟨by rw[←HB.out];simp only[eU,h0,h1,h2,h3,h4,h5,h6];rfl,hs.2⟩
 have x10:=HX.out.bx.cell (i:=10) (v:=.string f.a) rfl;have y10:=HY.out.cell (i:=10) (v:=.string ⟨#[]⟩) rfl;cases h7:(f.a.toList.isEmpty)
 ·go_wp2_with fail
  go_ret
  exact⟨by rw[←HB.out];simp only[eU,h0,h1,h2,h3,h4,h5,h6,h7];rfl,hs.2⟩
 exact absurd HH.out (by rw[h0,h1,h2,h3,h4,h5,h6,h7];decide)
end Go.Proofs.YtjknklinhegdoaaGreatDoor
