/- TopSpunTogether: Facts. Conditions: bounded sizes; variables as laid. -/
import Derived.Test.YtbkhnggmcheelaaGreatDoorGax
set_option linter.unusedSimpArgs false
set_option linter.unusedVariables false
set_option maxHeartbeats 20000000
set_option maxRecDepth 100000
namespace Go.Proofs.YtbkhnggmcheelaaGreatDoor
open Proofs.Tryz
open Go.RowKit Go.Shelf Dec QQ SP
attribute [local go_sem] Oper.semAt_some
attribute [-go_sem] loadVar
attribute [local go_sem] afr
theorem aku (f:Fct)(hc:f.canc=true)(h0:(f.day==0)=true)(h1:(f.kind==0)=true)(h2:(f.ins.toList.isEmpty)=true)(h3:(f.oth.toList.isEmpty)=true)(h4:(f.cur.toList.isEmpty)=true)(h5:(f.tgt.toList.isEmpty)=true)(h6:(f.q.toList.isEmpty)=true)(h7:(f.a.toList.isEmpty)=true):Ret 52 #[gI f,.agg (gA f)] (.bool (fC f)):=by
 intro w hg;obtain⟨b,hb⟩:=eX (fC f);rw[hb];have HB:=amy hb;clear hb;have hs:St w ((w.alloc (.cells (bK f) 30)).alloc (.cells (gA f) 30)):=⟨hg,anp.alloc (by simp) _⟩;have HX:=amy ((TBx.new w (bK f) 30).alloc (.cells (gA f) 30));have HY:=amy (Bx.new1 w (.cells (bK f) 30) (gA f) 30);have hcc:(bK f)= #[.string f.key,.int .i64 f.st,.bool true,.int .i64 f.day,.int .i64 f.kind,.string f.ins,.string f.oth,.string f.cur,.string f.tgt,.string f.q,.string f.a,.string f.fee,.string f.pn,.string f.pd,.string f.rn,.string f.rd,.string f.sn,.string f.sd,.slice f.P f.np f.cp,.slice f.O f.no f.co,.int .i64 f.cho]:=by rw[<-hc];rfl
 unfold gA at HX HY hs⊢
 rw[hcc]at HX hs HY;unfold gI;rw[hcc];clear hg hcc;have KP:=eqPk0 f.P f.np f.cp;have KO:=eqOt0 f.O f.no f.co;have x0:=HX.o.bx.c 0 (.string f.key) rfl;have y0:=HY.o.c 0 (.string f.key) rfl;have x1:=HX.o.bx.c 1 (.int .i64 f.st) rfl;have y1:=HY.o.c 1 (.int .i64 f.st) rfl;have x2:=HX.o.bx.c 2 (.bool true) rfl;have y2:=HY.o.c 2 (.bool true) rfl;have x3:=HX.o.bx.c 3 (.int .i64 f.day) rfl;have y3:=HY.o.c 3 (.int .i64 0) rfl;have x4:=HX.o.bx.c 4 (.int .i64 f.kind) rfl;have y4:=HY.o.c 4 (.int .i64 0) rfl;have x5:=HX.o.bx.c 5 (.string f.ins) rfl;have y5:=HY.o.c 5 (.string ⟨#[]⟩) rfl;have x6:=HX.o.bx.c 6 (.string f.oth) rfl;have y6:=HY.o.c 6 (.string ⟨#[]⟩) rfl;have x7:=HX.o.bx.c 7 (.string f.cur) rfl;have y7:=HY.o.c 7 (.string ⟨#[]⟩) rfl;have x8:=HX.o.bx.c 8 (.string f.tgt) rfl;have y8:=HY.o.c 8 (.string ⟨#[]⟩) rfl;have x9:=HX.o.bx.c 9 (.string f.q) rfl;have y9:=HY.o.c 9 (.string ⟨#[]⟩) rfl;have x10:=HX.o.bx.c 10 (.string f.a) rfl;have y10:=HY.o.c 10 (.string ⟨#[]⟩) rfl
 go_enter func52,ntmps52
 have x11:=HX.o.bx.c 11 (.string f.fee) rfl;have y11:=HY.o.c 11 (.string ⟨#[]⟩) rfl;cases h8:(f.fee.toList.isEmpty)
 ·go_wp2_with fail
  go_ret
  exact⟨by rw[<-HB.o];simp only[fC,h0,h1,h2,h3,h4,h5,h6,h7,h8];rfl,hs.2⟩
 have x12:=HX.o.bx.c 12 (.string f.pn) rfl;have y12:=HY.o.c 12 (.string ⟨#[]⟩) rfl;have x13:=HX.o.bx.c 13 (.string f.pd) rfl;have y13:=HY.o.c 13 (.string ⟨#[]⟩) rfl;have E1:=fun u=>eqlF f.pn f.pd ⟨#[]⟩ ⟨#[]⟩ u
 rw[show (⟨#[]⟩:BA).toList =[]from by rw[aF];rfl,show ((f.pn.toList== [])&&(f.pd.toList== []))=(f.pn.toList.isEmpty&&f.pd.toList.isEmpty)by simp]at E1;cases h9:(f.pn.toList.isEmpty&&f.pd.toList.isEmpty)
 ·rw[h9]at E1
  go_wp2_with fail
  go_ret
  exact⟨by rw[<-HB.o];simp only[fC,h0,h1,h2,h3,h4,h5,h6,h7,h8,h9];rfl,hs.2⟩
 rw[h9]at E1;have x14:=HX.o.bx.c 14 (.string f.rn) rfl;have y14:=HY.o.c 14 (.string ⟨#[]⟩) rfl;have x15:=HX.o.bx.c 15 (.string f.rd) rfl;have y15:=HY.o.c 15 (.string ⟨#[]⟩) rfl;have E2:=fun u=>eqlF f.rn f.rd ⟨#[]⟩ ⟨#[]⟩ u
 rw[show (⟨#[]⟩:BA).toList =[]from by rw[aF];rfl,show ((f.rn.toList== [])&&(f.rd.toList== []))=(f.rn.toList.isEmpty&&f.rd.toList.isEmpty)by simp]at E2;cases h10:(f.rn.toList.isEmpty&&f.rd.toList.isEmpty)
 ·rw[h10]at E2
  go_wp2_with fail
  go_ret
  exact⟨by rw[<-HB.o];simp only[fC,h0,h1,h2,h3,h4,h5,h6,h7,h8,h9,h10];rfl,hs.2⟩
 rw[h10]at E2;have x16:=HX.o.bx.c 16 (.string f.sn) rfl;have y16:=HY.o.c 16 (.string ⟨#[]⟩) rfl;have x17:=HX.o.bx.c 17 (.string f.sd) rfl;have y17:=HY.o.c 17 (.string ⟨#[]⟩) rfl;have E3:=fun u=>eqlF f.sn f.sd ⟨#[]⟩ ⟨#[]⟩ u
 rw[show (⟨#[]⟩:BA).toList =[]from by rw[aF];rfl,show ((f.sn.toList== [])&&(f.sd.toList== []))=(f.sn.toList.isEmpty&&f.sd.toList.isEmpty)by simp]at E3;cases h11:(f.sn.toList.isEmpty&&f.sd.toList.isEmpty)
 ·rw[h11]at E3
  go_wp2_with fail
  go_ret
  exact⟨by rw[<-HB.o];simp only[fC,h0,h1,h2,h3,h4,h5,h6,h7,h8,h9,h10,h11];rfl,hs.2⟩
 rw[h11]at E3;have x18:=HX.o.bx.c 18 (.slice f.P f.np f.cp) rfl;have y18:=HY.o.c 18 (.slice none 0 0) rfl;cases h12:(decide (f.np=0))
 ·rw[h12]at KP
  go_wp2_with fail
  refine KP.step hs ?_;intro w1 hs hb1
  go_wp2_with fail
  go_ret
  exact⟨by rw[<-HB.o];simp only[fC,h0,h1,h2,h3,h4,h5,h6,h7,h8,h9,h10,h11,h12];rfl,hs.2⟩
 rw[h12]at KP;have x19:=HX.o.bx.c 19 (.slice f.O f.no f.co) rfl;have y19:=HY.o.c 19 (.slice none 0 0) rfl;cases h13:(decide (f.no=0))
 ·rw[h13]at KO
  go_wp2_with fail
  refine KP.step hs ?_;intro w1 hs hb1;replace x19:=(HX.o.on hb1).bx.c 19 (.slice f.O f.no f.co) rfl;replace y19:=(HY.o.on hb1).c 19 (.slice none 0 0) rfl
  go_wp2_with fail
  refine KO.step hs ?_;intro w2 hs hb2
  go_wp2_with fail
  go_ret
  exact⟨by rw[<-HB.o];simp only[fC,h0,h1,h2,h3,h4,h5,h6,h7,h8,h9,h10,h11,h12,h13];rfl,hs.2⟩
 rw[h13]at KO;have x20:=HX.o.bx.c 20 (.int .i64 f.cho) rfl;have y20:=HY.o.c 20 (.int .i64 0) rfl;cases h14:(f.cho==0)
 ·go_wp2_with fail
  refine KP.step hs ?_;intro w1 hs hb1;replace x19:=(HX.o.on hb1).bx.c 19 (.slice f.O f.no f.co) rfl;replace y19:=(HY.o.on hb1).c 19 (.slice none 0 0) rfl
  go_wp2_with fail
  refine KO.step hs ?_;intro w2 hs hb2;replace x20:=((HX.o.on hb1).on hb2).bx.c 20 (.int .i64 f.cho) rfl;replace y20:=((HY.o.on hb1).on hb2).c 20 (.int .i64 0) rfl
  go_wp2_with fail
  go_ret
  exact⟨by rw[<-HB.o];simp only[fC,h0,h1,h2,h3,h4,h5,h6,h7,h8,h9,h10,h11,h12,h13,h14];rfl,hs.2⟩
 go_wp2_with fail
 refine KP.step hs ?_;intro w1 hs hb1;replace x19:=(HX.o.on hb1).bx.c 19 (.slice f.O f.no f.co) rfl;replace y19:=(HY.o.on hb1).c 19 (.slice none 0 0) rfl
 go_wp2_with fail
 refine KO.step hs ?_;intro w2 hs hb2;replace x20:=((HX.o.on hb1).on hb2).bx.c 20 (.int .i64 f.cho) rfl;replace y20:=((HY.o.on hb1).on hb2).c 20 (.int .i64 0) rfl
 go_wp2_with fail
 go_ret
 exact⟨by rw[<-HB.o];simp only[fC,h0,h1,h2,h3,h4,h5,h6,h7,h8,h9,h10,h11,h12,h13,h14];rfl,hs.2⟩
end Go.Proofs.YtbkhnggmcheelaaGreatDoor
