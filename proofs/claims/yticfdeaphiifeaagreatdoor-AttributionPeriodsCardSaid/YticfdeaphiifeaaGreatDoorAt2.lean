/- Attribution: sums over sectors, the returns of portfolio and benchmark. Conditions: few sectors with numbers of bounded length. -/
import Derived.Test.YticfdeaphiifeaaGreatDoorOv
import Derived.Test.YticfdeaphiifeaaGreatDoorFq
import Derived.Test.YticfdeaphiifeaaGreatDoorAt1
set_option maxHeartbeats 4000000
set_option maxRecDepth 100000
namespace Go.Proofs.YticfdeaphiifeaaGreatDoor
open Go.RowKit Go.Shelf Dec QQ
theorem Check_2 (s : SecS) : Ret 92 #[secV s] (FV s.wn s.wd) := by
 intro w hg
 have hs := ((St.refl hg).alloc (.cells #[.string s.nm, .string s.wn, .string s.wd, .string s.rn, .string s.rd, .string s.vn, .string s.vd, .string s.bn, .string s.bd] 73)).alloc (.cells #[.string ⟨#[]⟩, .string ⟨#[]⟩] 34)
 have B := Bx.new1 w (.cells #[.string s.nm, .string s.wn, .string s.wd, .string s.rn, .string s.rd, .string s.vn, .string s.vd, .string s.bn, .string s.bd] 73) #[.string ⟨#[]⟩, .string ⟨#[]⟩] 34
 unfold secV FV
 obtain ⟨f0, f1, f2, f3, f4, f5, f6, f7, f8⟩ := s
 dsimp only at hs B ⊢
 go_enter Tryz.func92, Tryz.ntmps92
 go_wp2_with fail
 have hs2 := ((St.refl hg).alloc (.cells #[.string f0, .string f1, .string f2, .string f3, .string f4, .string f5, .string f6, .string f7, .string f8] 73)).alloc (.cells #[.string f1, .string f2] 34)
 exact bodyPost_ret (v := .agg #[.string f1, .string f2]) (by simp [results, Tryz.results92, go_sem]) rfl ⟨rfl, hs2.2⟩
theorem Check_3 (s : SecS) : Ret 93 #[secV s] (FV s.vn s.vd) := by
 intro w hg
 have hs := ((St.refl hg).alloc (.cells #[.string s.nm, .string s.wn, .string s.wd, .string s.rn, .string s.rd, .string s.vn, .string s.vd, .string s.bn, .string s.bd] 73)).alloc (.cells #[.string ⟨#[]⟩, .string ⟨#[]⟩] 34)
 have B := Bx.new1 w (.cells #[.string s.nm, .string s.wn, .string s.wd, .string s.rn, .string s.rd, .string s.vn, .string s.vd, .string s.bn, .string s.bd] 73) #[.string ⟨#[]⟩, .string ⟨#[]⟩] 34
 unfold secV FV
 obtain ⟨f0, f1, f2, f3, f4, f5, f6, f7, f8⟩ := s
 dsimp only at hs B ⊢
 go_enter Tryz.func93, Tryz.ntmps93
 go_wp2_with fail
 have hs2 := ((St.refl hg).alloc (.cells #[.string f0, .string f1, .string f2, .string f3, .string f4, .string f5, .string f6, .string f7, .string f8] 73)).alloc (.cells #[.string f5, .string f6] 34)
 exact bodyPost_ret (v := .agg #[.string f5, .string f6]) (by simp [results, Tryz.results93, go_sem]) rfl ⟨rfl, hs2.2⟩
theorem returns_1 (s : SecS) (hz : s.le 90000) : Ret 94 #[secV s] (FR (s.w * s.r)) := by
 intro w hg
 have hs := ((St.refl hg).alloc (.cells #[.string s.nm, .string s.wn, .string s.wd, .string s.rn, .string s.rd, .string s.vn, .string s.vd, .string s.bn, .string s.bd] 73)).alloc (.cells #[.string ⟨#[]⟩, .string ⟨#[]⟩] 34)
 have B := Bx.new1 w (.cells #[.string s.nm, .string s.wn, .string s.wd, .string s.rn, .string s.rd, .string s.vn, .string s.vd, .string s.bn, .string s.bd] 73) #[.string ⟨#[]⟩, .string ⟨#[]⟩] 34
 have B0 := (Bx.new w #[.string s.nm, .string s.wn, .string s.wd, .string s.rn, .string s.rd, .string s.vn, .string s.vd, .string s.bn, .string s.bd] 73).alloc (.cells #[.string ⟨#[]⟩, .string ⟨#[]⟩] 34)
 unfold SecS.le at hz
 have K1 := MulF (Vq.arg (n := s.wn) (d := s.wd) (by omega) (by omega)) (Vq.arg (n := s.rn) (d := s.rd) (by omega) (by omega))
 change Ret _ _ (FR (s.w * s.r)) at K1
 unfold FR at K1 ⊢
 unfold FV at K1
 generalize frN (s.w * s.r) = rn at *
 generalize frD (s.w * s.r) = rd at *
 unfold secV
 obtain ⟨f0, f1, f2, f3, f4, f5, f6, f7, f8⟩ := s
 clear hz
 dsimp only at hs B B0 K1 ⊢
 go_enter Tryz.func94, Tryz.ntmps94
 go_wp2_with fail
 refine K1.step hs ?_
 intro w1 hs hb
 replace B := B.on hb
 have e0 := B.cell (i := 0) (v := .string ⟨#[]⟩) rfl
 have e1 := B.cell (i := 1) (v := .string ⟨#[]⟩) rfl
 have g0 := B.frozen 0
 have g1 := B.frozen 1
 go_wp2_with fail
 obtain ⟨W, hW, y0, y1, hbe⟩ := ret_frac hs (by omega) B rn rd
 rw [hW]
 exact bodyPost_ret (v := .agg #[.string rn, .string rd]) (by simp [results, Tryz.results94, go_sem, y0, y1]) rfl ⟨rfl, hbe⟩
theorem returns_2 (s : SecS) (hz : s.le 90000) : Ret 95 #[secV s] (FR (s.v * s.b)) := by
 intro w hg
 have hs := ((St.refl hg).alloc (.cells #[.string s.nm, .string s.wn, .string s.wd, .string s.rn, .string s.rd, .string s.vn, .string s.vd, .string s.bn, .string s.bd] 73)).alloc (.cells #[.string ⟨#[]⟩, .string ⟨#[]⟩] 34)
 have B := Bx.new1 w (.cells #[.string s.nm, .string s.wn, .string s.wd, .string s.rn, .string s.rd, .string s.vn, .string s.vd, .string s.bn, .string s.bd] 73) #[.string ⟨#[]⟩, .string ⟨#[]⟩] 34
 have B0 := (Bx.new w #[.string s.nm, .string s.wn, .string s.wd, .string s.rn, .string s.rd, .string s.vn, .string s.vd, .string s.bn, .string s.bd] 73).alloc (.cells #[.string ⟨#[]⟩, .string ⟨#[]⟩] 34)
 unfold SecS.le at hz
 have K1 := MulF (Vq.arg (n := s.vn) (d := s.vd) (by omega) (by omega)) (Vq.arg (n := s.bn) (d := s.bd) (by omega) (by omega))
 change Ret _ _ (FR (s.v * s.b)) at K1
 unfold FR at K1 ⊢
 unfold FV at K1
 generalize frN (s.v * s.b) = rn at *
 generalize frD (s.v * s.b) = rd at *
 unfold secV
 obtain ⟨f0, f1, f2, f3, f4, f5, f6, f7, f8⟩ := s
 clear hz
 dsimp only at hs B B0 K1 ⊢
 go_enter Tryz.func95, Tryz.ntmps95
 go_wp2_with fail
 refine K1.step hs ?_
 intro w1 hs hb
 replace B := B.on hb
 have e0 := B.cell (i := 0) (v := .string ⟨#[]⟩) rfl
 have e1 := B.cell (i := 1) (v := .string ⟨#[]⟩) rfl
 have g0 := B.frozen 0
 have g1 := B.frozen 1
 go_wp2_with fail
 obtain ⟨W, hW, y0, y1, hbe⟩ := ret_frac hs (by omega) B rn rd
 rw [hW]
 exact bodyPost_ret (v := .agg #[.string rn, .string rd]) (by simp [results, Tryz.results95, go_sem, y0, y1]) rfl ⟨rfl, hbe⟩
theorem one_any : Ret 41 #[] (FR 1) := by
 intro w hg
 have hs := (St.refl hg).alloc (.cells #[.string ⟨#[]⟩, .string ⟨#[]⟩] 34)
 have B := Bx.new w #[.string ⟨#[]⟩, .string ⟨#[]⟩] 34
 have K1 := OfF (a := ⟨#[49]⟩) (x := 1) ⟨one_val, by decide⟩ (by decide)
 rw [show ((1 : Int) : Rat) = 1 from rfl] at K1
 unfold FR at K1 ⊢
 generalize frN 1 = rn at *
 generalize frD 1 = rd at *
 go_enter Tryz.func41, Tryz.ntmps41
 go_wp2_with fail
 refine K1.step hs ?_
 intro w1 hs hb
 replace B := B.on hb
 have e0 := B.cell (i := 0) (v := .string ⟨#[]⟩) rfl
 have e1 := B.cell (i := 1) (v := .string ⟨#[]⟩) rfl
 have g0 := B.frozen 0
 have g1 := B.frozen 1
 go_wp2_with fail
 obtain ⟨W, hW, y0, y1, hbe⟩ := ret_frac hs (by omega) B rn rd
 rw [hW]
 exact bodyPost_ret (v := .agg #[.string rn, .string rd]) (by simp [results, Tryz.results41, go_sem, y0, y1]) rfl ⟨rfl, hbe⟩
theorem sum_any {A : Option Addr} {n c : Nat} {l : List SecS} {f : FuncId} {cap : Array Value} {g : SecS → Rat} {I : World → Prop} {k0 : Nat} (hI : Stays I) (hn : l.length = n) (hm : n ≤ 4611686018427387904) (hf : ∀ s ∈ l, FitQ k0 (g s)) (hk0 : (k0 + 1) * n + 1 ≤ 90000) (hk1 : k0 ≤ 90000) (hcf : ∀ (args : Array Value) (u : World), (callFunc f args).run Tryz.prog u = .ok (.enter f args) u)
  (KF : Hid (∀ s ∈ l, RetI I f (#[secV s] ++ cap) (FR (g s)))) :
  RetI (fun w => Row w A (flatG scells l) ∧ I w) 91 #[.slice A n c, .func (.func f) #[] cap] (FR (sumQ g l)) := by
 intro w hg hi
 have hs := ((St.refl hg).alloc (.cells #[.string ⟨#[]⟩, .string ⟨#[]⟩] 34)).alloc (.cells #[.string ⟨#[]⟩, .string ⟨#[]⟩] 34)
 have B0 := (Bx.new w #[.string ⟨#[]⟩, .string ⟨#[]⟩] 34).alloc (.cells #[.string ⟨#[]⟩, .string ⟨#[]⟩] 34)
 have B1 := Bx.new1 w (.cells #[.string ⟨#[]⟩, .string ⟨#[]⟩] 34) #[.string ⟨#[]⟩, .string ⟨#[]⟩] 34
 have HN := Lib.hid hn
 have HI := Lib.hid hI
 have Hi := Lib.hid hi
 unfold FR
 obtain ⟨rn0, hrn0⟩ : ∃ x, frN (sumQ g l) = x := ⟨_, rfl⟩
 obtain ⟨rd0, hrd0⟩ : ∃ x, frD (sumQ g l) = x := ⟨_, rfl⟩
 rw [hrn0, hrd0]
 have HRN0 := Lib.hid hrn0
 have HRD0 := Lib.hid hrd0
 clear hrn0 hrd0
 have HF := Lib.hid hf
 have HB0 := Lib.hid B0
 have HB1 : Hid (Bx ((w.alloc (.cells #[.string ⟨#[]⟩, .string ⟨#[]⟩] 34)).alloc (.cells #[.string ⟨#[]⟩, .string ⟨#[]⟩] 34)) (w.heap.size + 1) #[.string (frN 0), .string (frD 0)]) := by
  show Bx _ _ _
  rw [frN_zero, frD_zero]; exact B1
 have HK := Lib.hid hk0
 clear hn hi hI hf B0 B1 hk0
 go_enter Tryz.func91, Tryz.ntmps91
 go_wp2_with fail
 go_loopw [11] (fun s wr => ∃ k : Nat, k ≤ n ∧ s = .int .i64 (k : Int) ∧ St w wr ∧ Hid (Bx wr w.heap.size #[.string ⟨#[]⟩, .string ⟨#[]⟩]) ∧ Hid (Bx wr (w.heap.size + 1) #[.string (frN (sumQ g (l.take k))), .string (frD (sumQ g (l.take k)))])) (fun s _ => (n - intOf s).toNat)
 case atStart => exact ⟨0, by omega, rfl, hs, HB0, HB1⟩
 case round =>
  obtain ⟨k, hk, rfl, hs, HX0, HX1⟩ := hrel
  have H : Hid (Row wr A (flatG scells l) ∧ I wr) := ⟨Hi.out.1.on hs.2, HI.out _ _ Hi.out.2 hs.2⟩
  by_cases hkn : k = n
  ·subst hkn
   have q : decide ((k : Int) < (k : Int)) = false := decide_eq_false (by omega)
   have hl : sumQ g (l.take k) = sumQ g l := by rw [List.take_of_length_le (by have := HN.out; omega)]
   have BX1 := HX1.out
   rw [hl, HRN0.out, HRD0.out] at BX1
   have B := HX0.out
   have e0 := B.cell (i := 0) (v := .string ⟨#[]⟩) rfl
   have e1 := B.cell (i := 1) (v := .string ⟨#[]⟩) rfl
   have g0 := B.frozen 0
   have g1 := B.frozen 1
   have y0 := BX1.cell (i := 0) (v := .string rn0) rfl
   have y1 := BX1.cell (i := 1) (v := .string rd0) rfl
   clear hl BX1
   go_wp2_with fail
   clear y0 y1
   obtain ⟨W, hW, y0, y1, hbe⟩ := ret_frac hs (by omega) B rn0 rd0
   rw [hW]
   exact bodyPost_ret (v := .agg #[.string rn0, .string rd0]) (by simp [results, Tryz.results91, go_sem, y0, y1]) rfl ⟨rfl, hbe⟩
  ·have hkl : k < n := by omega
   have q : decide ((k : Int) < (n : Int)) = true := decide_eq_true (by omega)
   have qn : decide (k < n) = true := decide_eq_true hkl
   obtain ⟨d, hd⟩ : ∃ d, l[k]? = some d := ⟨l[k]'(by rw [HN.out]; exact hkl), by simp⟩
   obtain ⟨b, o, hA, hb, hcells⟩ := row_at (cs := scells) (m := 9) scells_len (by decide) H.out.1 hd
   subst hA
   have KK := KF.out d (List.mem_of_getElem? hd)
   have fS : FitQ 90000 (sumQ g (l.take k)) := FitQ.sum_take (fun a ha => HF.out a ha) (Nat.le_of_eq HN.out) HK.out k
   have KA := AddF (Vq.fr fS (by omega)) (Vq.fr (HF.out d (List.mem_of_getElem? hd)) (by omega))
   rw [← sumQ_take hd] at KA
   have BX1 := HX1.out
   have HX1n : Hid (∀ w' : World, Bx w' (w.heap.size + 1) #[.string (frN (sumQ g (l.take (k + 1)))), .string (frD (sumQ g (l.take (k + 1))))] → Bx w' (w.heap.size + 1) #[.string (frN (sumQ g (l.take (k + 1)))), .string (frD (sumQ g (l.take (k + 1))))]) := fun _ h => h
   unfold FR at KA KK
   unfold FV at KA
   clear hd hkn fS
   generalize hrn : frN (sumQ g (l.take (k + 1))) = rn at *
   generalize hrd : frD (sumQ g (l.take (k + 1))) = rd at *
   have HRN := Lib.hid hrn
   have HRD := Lib.hid hrd
   clear hrn hrd HX1n
   generalize frN (sumQ g (l.take k)) = sn at *
   generalize frD (sumQ g (l.take k)) = sd at *
   generalize frN (g d) = gn at *
   generalize frD (g d) = gd at *
   obtain ⟨f0, f1, f2, f3, f4, f5, f6, f7, f8⟩ := d
   have x0 : wr.cell? ⟨b, o + k * 9, none⟩ = some (.string f0) := hcells 0 _ rfl
   have x1 : wr.cell? ⟨b, o + k * 9 + 1, none⟩ = some (.string f1) := hcells 1 _ rfl
   have x2 : wr.cell? ⟨b, o + k * 9 + 2, none⟩ = some (.string f2) := hcells 2 _ rfl
   have x3 : wr.cell? ⟨b, o + k * 9 + 3, none⟩ = some (.string f3) := hcells 3 _ rfl
   have x4 : wr.cell? ⟨b, o + k * 9 + 4, none⟩ = some (.string f4) := hcells 4 _ rfl
   have x5 : wr.cell? ⟨b, o + k * 9 + 5, none⟩ = some (.string f5) := hcells 5 _ rfl
   have x6 : wr.cell? ⟨b, o + k * 9 + 6, none⟩ = some (.string f6) := hcells 6 _ rfl
   have x7 : wr.cell? ⟨b, o + k * 9 + 7, none⟩ = some (.string f7) := hcells 7 _ rfl
   have x8 : wr.cell? ⟨b, o + k * 9 + 8, none⟩ = some (.string f8) := hcells 8 _ rfl
   clear hcells
   dsimp only [secV] at KK
   have hsz : w.heap.size + 1 < wr.heap.size := BX1.lt
   have hba : Below wr.heap.size wr (wr.alloc (.cells #[.string f0, .string f1, .string f2, .string f3, .string f4, .string f5, .string f6, .string f7, .string f8] 73)) := (Below.refl _ _).alloc (Nat.le_refl _) _
   have BD := Bx.new wr #[.string f0, .string f1, .string f2, .string f3, .string f4, .string f5, .string f6, .string f7, .string f8] 73
   have hs1 := hs.alloc (.cells #[.string f0, .string f1, .string f2, .string f3, .string f4, .string f5, .string f6, .string f7, .string f8] 73)
   have z0 := (BX1.on hba).keeps (i := 0) (v := .string sn) rfl
   have z1 := (BX1.on hba).keeps (i := 1) (v := .string sd) rfl
   have z2 := BD.keeps (i := 0) (v := .string f0) rfl
   have z3 := BD.keeps (i := 1) (v := .string f1) rfl
   have z4 := BD.keeps (i := 2) (v := .string f2) rfl
   have z5 := BD.keeps (i := 3) (v := .string f3) rfl
   have z6 := BD.keeps (i := 4) (v := .string f4) rfl
   have z7 := BD.keeps (i := 5) (v := .string f5) rfl
   have z8 := BD.keeps (i := 6) (v := .string f6) rfl
   have z9 := BD.keeps (i := 7) (v := .string f7) rfl
   have z10 := BD.keeps (i := 8) (v := .string f8) rfl
   have HIk : Hid (∀ u : Kept (wr.alloc (.cells #[.string f0, .string f1, .string f2, .string f3, .string f4, .string f5, .string f6, .string f7, .string f8] 73)), I u.W) := fun u => HI.out _ _ (HI.out _ _ H.out.2 hba) u.low
   have KK2 : Hid (∀ u : Kept (wr.alloc (.cells #[.string f0, .string f1, .string f2, .string f3, .string f4, .string f5, .string f6, .string f7, .string f8] 73)), Calls Tryz.prog f (#[.agg #[.string f0, .string f1, .string f2, .string f3, .string f4, .string f5, .string f6, .string f7, .string f8]] ++ cap) u.W fun e w'' => e = .returned (.agg #[.string gn, .string gd]) ∧ ∃ u' : Kept (wr.alloc (.cells #[.string f0, .string f1, .string f2, .string f3, .string f4, .string f5, .string f6, .string f7, .string f8] 73)), w'' = u'.W) := fun u => KK.keep hs1 HIk.out
   clear KK
   go_wp2_with fail
   refine wp_region_kept_tail 5 (by kernel_rfl) (by kernel_rfl) ?_
   simp only [List.take_succ_cons, List.take_zero, List.drop_succ_cons, List.drop_zero]
   repeat (go_big_quiet_step (first | (with_reducible exact KK2.out _) | (with_reducible exact KA.kept hs1)))
   refine wpQuiet_nil ?_
   rintro _ ⟨u, rfl⟩
   have BU := (BX1.on hba).kept u
   have x20 := BU.cell (i := 0) (v := .string sn) rfl
   have x21 := BU.cell (i := 1) (v := .string sd) rfl
   have f20 := BU.frozen 0
   have f21 := BU.frozen 1
   go_wp2_with fail
   go_roundw
   case rel =>
    refine ⟨k + 1, by omega, by go_num, ((hs1.kept u).set (b := w.heap.size + 1) (by omega) 0 (.string rn)).set (b := w.heap.size + 1) (by omega) 1 (.string rd), (((HX0.out.on hba).kept u).other (by omega) 0 (.string rn)).other (by omega) 1 (.string rd), ?_⟩
    show Bx _ _ _
    rw [HRN.out, HRD.out]
    exact (BU.set 0 (.string rn)).set 1 (.string rd)
   case measure => simp [intOf]; omega
end Go.Proofs.YticfdeaphiifeaaGreatDoor
