/- TopSpunTogether: Facts. Conditions: bounded sizes; variables as laid. -/
import Derived.Test.YtbkhnggmcheelaaGreatDoorGax
set_option linter.unusedSimpArgs false
set_option linter.unusedVariables false
set_option maxHeartbeats 20000000
set_option maxRecDepth 100000
namespace Go.Proofs.YtbkhnggmcheelaaGreatDoor
open Proofs.Tryz
open Go.RowKit Go.Shelf Dec QQ SP
attribute [local go_sem] Oper.semAt_some
attribute [-go_sem] loadVar
attribute [local go_sem] afr
theorem akt (f:Fct)(hc:f.canc=true)(hH:((f.day==0)&&((f.kind==0)&&((f.ins.toList.isEmpty)&&((f.oth.toList.isEmpty)&&((f.cur.toList.isEmpty)&&((f.tgt.toList.isEmpty)&&((f.q.toList.isEmpty)&&((f.a.toList.isEmpty)))))))))=false):Ret 52 #[gI f,.agg (gA f)] (.bool (fC f)):=by
 intro w hg;have HH:=amy hH;clear hH;obtain⟨b,hb⟩:=eX (fC f);rw[hb];have HB:=amy hb;clear hb;have hs:St w ((w.alloc (.cells (bK f) 30)).alloc (.cells (gA f) 30)):=⟨hg,anp.alloc (by simp) _⟩;have HX:=amy ((TBx.new w (bK f) 30).alloc (.cells (gA f) 30));have HY:=amy (Bx.new1 w (.cells (bK f) 30) (gA f) 30);have hcc:(bK f)= #[.string f.key,.int .i64 f.st,.bool true,.int .i64 f.day,.int .i64 f.kind,.string f.ins,.string f.oth,.string f.cur,.string f.tgt,.string f.q,.string f.a,.string f.fee,.string f.pn,.string f.pd,.string f.rn,.string f.rd,.string f.sn,.string f.sd,.slice f.P f.np f.cp,.slice f.O f.no f.co,.int .i64 f.cho]:=by rw[<-hc];rfl
 unfold gA at HX HY hs⊢
 rw[hcc]at HX hs HY;unfold gI;rw[hcc];clear hg hcc;have KP:=eqPk0 f.P f.np f.cp;have KO:=eqOt0 f.O f.no f.co;have x0:=HX.o.bx.c 0 (.string f.key) rfl;have y0:=HY.o.c 0 (.string f.key) rfl;have x1:=HX.o.bx.c 1 (.int .i64 f.st) rfl;have y1:=HY.o.c 1 (.int .i64 f.st) rfl;have x2:=HX.o.bx.c 2 (.bool true) rfl;have y2:=HY.o.c 2 (.bool true) rfl
 go_enter func52,ntmps52
 have x3:=HX.o.bx.c 3 (.int .i64 f.day) rfl;have y3:=HY.o.c 3 (.int .i64 0) rfl;cases h0:(f.day==0)
 ·go_wp2_with fail
  go_ret
  exact⟨by rw[<-HB.o];simp only[fC,h0];rfl,hs.2⟩
 have x4:=HX.o.bx.c 4 (.int .i64 f.kind) rfl;have y4:=HY.o.c 4 (.int .i64 0) rfl;cases h1:(f.kind==0)
 ·go_wp2_with fail
  go_ret
  exact⟨by rw[<-HB.o];simp only[fC,h0,h1];rfl,hs.2⟩
 have x5:=HX.o.bx.c 5 (.string f.ins) rfl;have y5:=HY.o.c 5 (.string ⟨#[]⟩) rfl;cases h2:(f.ins.toList.isEmpty)
 ·go_wp2_with fail
  go_ret
  exact⟨by rw[<-HB.o];simp only[fC,h0,h1,h2];rfl,hs.2⟩
 have x6:=HX.o.bx.c 6 (.string f.oth) rfl;have y6:=HY.o.c 6 (.string ⟨#[]⟩) rfl;cases h3:(f.oth.toList.isEmpty)
 ·go_wp2_with fail
  go_ret
  exact⟨by rw[<-HB.o];simp only[fC,h0,h1,h2,h3];rfl,hs.2⟩
 have x7:=HX.o.bx.c 7 (.string f.cur) rfl;have y7:=HY.o.c 7 (.string ⟨#[]⟩) rfl;cases h4:(f.cur.toList.isEmpty)
 ·go_wp2_with fail
  go_ret
  exact⟨by rw[<-HB.o];simp only[fC,h0,h1,h2,h3,h4];rfl,hs.2⟩
 have x8:=HX.o.bx.c 8 (.string f.tgt) rfl;have y8:=HY.o.c 8 (.string ⟨#[]⟩) rfl;cases h5:(f.tgt.toList.isEmpty)
 ·go_wp2_with fail
  go_ret
  exact⟨by rw[<-HB.o];simp only[fC,h0,h1,h2,h3,h4,h5];rfl,hs.2⟩
 have x9:=HX.o.bx.c 9 (.string f.q) rfl;have y9:=HY.o.c 9 (.string ⟨#[]⟩) rfl;cases h6:(f.q.toList.isEmpty)
 ·go_wp2_with fail
  go_ret
  exact⟨by rw[<-HB.o];simp only[fC,h0,h1,h2,h3,h4,h5,h6];rfl,hs.2⟩
 have x10:=HX.o.bx.c 10 (.string f.a) rfl;have y10:=HY.o.c 10 (.string ⟨#[]⟩) rfl;cases h7:(f.a.toList.isEmpty)
 ·go_wp2_with fail
  go_ret
  exact⟨by rw[<-HB.o];simp only[fC,h0,h1,h2,h3,h4,h5,h6,h7];rfl,hs.2⟩
 exact absurd HH.o (by rw[h0,h1,h2,h3,h4,h5,h6,h7];decide)
end Go.Proofs.YtbkhnggmcheelaaGreatDoor
