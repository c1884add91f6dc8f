/- Attribution: the contract of Drift. Conditions: up to five sectors with numbers of bounded length, or more than 32. -/
import Derived.Test.YtndkglmokhndnaaGreatDoorDr1
namespace Go.Proofs.YtndkglmokhndnaaGreatDoor
open Go.RowKit Go.Shelf Dec QQ

theorem driftL_at {l : List SecS} {k : Nat} {d : SecS} (h : l[k]? = some d) : (driftL l)[k]? = some (driftS (ownG l) (benG l) d) := by unfold driftL; rw [List.getElem?_map, h]; rfl
theorem driftL_len (l : List SecS) : (driftL l).length = l.length := by unfold driftL; rw [List.length_map]
theorem driftS_cells (O B : Rat) (d : SecS) : scells (driftS O B d) = [.string d.nm, .string (frN (d.w * (1 + d.r) / O)), .string (frD (d.w * (1 + d.r) / O)), .string ⟨#[]⟩, .string ⟨#[]⟩, .string (frN (d.v * (1 + d.b) / B)), .string (frD (d.v * (1 + d.b) / B)), .string ⟨#[]⟩, .string ⟨#[]⟩] := by
  unfold driftS mkS scells
  dsimp only
  rw [frN_zero, frD_zero]
set_option maxRecDepth 100000 in
set_option maxHeartbeats 40000000 in
theorem drift_few {A : Option Addr} {n c k0 : Nat} {l : List SecS} (hn : l.length = n) (hl : FewS k0 l) (hc : n ≤ c) (he : chkS l = 0) (w : World) (hg : Gl w) (hr : Row w A (flatG scells l)) :
    Calls Tryz.prog 30 #[.slice A n c] w fun e w' => ∃ v, e = .returned (.tuple #[v, .int .i64 (driE l)]) ∧ OutG scells 54 9 w.heap.size w' v (driR l).length (driR l) ∧ Below w.heap.size w w' := by
  have hs := St.refl hg
  have K1 := scheck_any (A := A) hn (.inr hl) hc
  rw [he] at K1
  have h5 := hl.1
  have hk3 := hl.2.1
  have hp : 0 < n := by have := (chkS_iff.1 he).pos; omega
  have HGW := Lib.hid hl.growths
  have HS1 := Lib.hid (fun B => sum_any (A := A) (c := c) (l := l) (f := 87) (cap := #[.pointer (some ⟨B, 0, none⟩)]) (g := fun s => s.w * (1 + s.r)) (I := fun w => Bx w B #[.func (.func 84) #[] #[]]) (k0 := 2 * k0 + 2) (fun _ _ h hb => h.on hb) hn (by omega) (fun s hs => (hl.grow hs).2.2.1) (by have := Nat.mul_le_mul_left (2 * k0 + 2 + 1) (show n ≤ 5 by omega); omega) (by omega) (fun _ _ => rfl) (fun s hs => drift_2 s ((hl.2.2.2 s hs).mono (by omega)) B))
  have HS2 := Lib.hid (fun B => sum_any (A := A) (c := c) (l := l) (f := 88) (cap := #[.pointer (some ⟨B, 0, none⟩)]) (g := fun s => s.v * (1 + s.b)) (I := fun w => Bx w B #[.func (.func 84) #[] #[]]) (k0 := 2 * k0 + 2) (fun _ _ h hb => h.on hb) hn (by omega) (fun s hs => (hl.grow hs).2.2.2) (by have := Nat.mul_le_mul_left (2 * k0 + 2 + 1) (show n ≤ 5 by omega); omega) (by omega) (fun _ _ => rfl) (fun s hs => drift_3 s ((hl.2.2.2 s hs).mono (by omega)) B))
  have HOE : Hid (sumQ (fun s => s.w * (1 + s.r)) l = ownG l) := rfl
  have HBE : Hid (sumQ (fun s => s.v * (1 + s.b)) l = benG l) := rfl
  rw [HOE.out] at HS1
  rw [HBE.out] at HS2
  have HQE : Hid ((ownG l = 0 → quoE (ownG l) = 10 ∧ driE l = 10 ∧ driR l = []) ∧ (ownG l ≠ 0 → quoE (ownG l) = 0) ∧ (benG l = 0 → quoE (benG l) = 10 ∧ driE l = 10 ∧ driR l = []) ∧ (ownG l ≠ 0 → benG l ≠ 0 → quoE (benG l) = 0 ∧ driE l = 0 ∧ driR l = driftL l)) := by
    have e1 : ownG l = 0 ∨ benG l = 0 → driE l = 10 ∧ driR l = [] := fun h => by
      have : driE l = 10 := by unfold driE; rw [if_neg (by simpa using he), if_pos h]
      exact ⟨this, by unfold driR; rw [this]; rfl⟩
    refine ⟨fun h => ⟨if_pos h, e1 (.inl h)⟩, fun h => if_neg h, fun h => ⟨if_pos h, e1 (.inr h)⟩, fun h h2 => ?_⟩
    have : driE l = 0 := driE_ok.2 ⟨chkS_iff.1 he, h, h2⟩
    exact ⟨if_neg h2, this, if_pos this⟩
  have HDC : Hid (∀ k d, l[k]? = some d → (driftL l)[k]? = some (driftS (ownG l) (benG l) d)) := fun k d h => driftL_at h
  have HDL : Hid ((driftL l).length = n) := by show _ = _; rw [driftL_len]; exact hn
  generalize driE l = DE at *
  generalize driR l = DR at *
  generalize driftL l = DL at *
  generalize ownG l = O at *
  generalize benG l = B at *
  have HVO : Hid (Vq (frN O) (frD O) O) := Vq.fr HGW.out.1 (by omega)
  have HVB : Hid (Vq (frN B) (frD B) B) := Vq.fr HGW.out.2 (by omega)
  unfold FR at HS1 HS2
  generalize frN O = on at *
  generalize frD O = od at *
  generalize frN B = bn at *
  generalize frD B = bd at *
  have HN := Lib.hid hn
  have HL := Lib.hid hl
  have HR := Lib.hid hr
  have h5n : n ≤ 5 := by omega
  clear hn hl hr he h5 HOE HBE
  go_enter Tryz.func30, Tryz.ntmps30
  go_wp2_with fail
  refine K1.step hs HR.out ?_
  intro w1 hs hb1
  go_wp2_with fail
  have XF := Bx.new w1 #[.func (.func 84) #[] #[]] 50
  replace hs := hs.alloc (.cells #[.func (.func 84) #[] #[]] 50)
  refine (HS1.out w1.heap.size).step hs ⟨HR.out.on hs.2, XF⟩ ?_
  intro w2 hs hb2
  replace XF := XF.on hb2
  go_wp2_with fail
  have XO := Bx.new w2 #[.string on, .string od] 42
  replace XF := XF.alloc (.cells #[.string on, .string od] 42)
  replace hs := hs.alloc (.cells #[.string on, .string od] 42)
  refine (HS2.out w1.heap.size).step hs ⟨HR.out.on hs.2, XF⟩ ?_
  intro w3 hs hb3
  replace XF := XF.on hb3
  replace XO := XO.on hb3
  go_wp2_with fail
  have XB := Bx.new w3 #[.string bn, .string bd] 42
  replace XF := XF.alloc (.cells #[.string bn, .string bd] 42)
  replace XO := XO.alloc (.cells #[.string bn, .string bd] 42)
  have lt1 : w1.heap.size < w3.heap.size + 1 := by have := XF.lt; simp at this; omega
  have lt2 : w2.heap.size < w3.heap.size + 1 := by have := XO.lt; simp at this; omega
  have hwb : w.heap.size ≤ w3.heap.size := hs.2.size
  replace hs := hs.alloc (.cells #[.string bn, .string bd] 42)
  have HXF := Lib.hid XF
  have HXO := Lib.hid XO
  have HXB := Lib.hid XB
  have HOW : Hid (World.ownsRow (w3.alloc (.cells #[.string bn, .string bd] 42)) (w3.heap.size + 1) 54 9 (.slice none 0 0) 0 (flatG scells (DL.take 0))) := World.ownsRow_nil _ _ _ _
  clear XF XO XB hb1 hb2 hb3 HS1 HS2
  go_wp2_with fail
  generalize w3.alloc (.cells #[.string bn, .string bd] 42) = w4 at *
  obtain ⟨bF, hbF⟩ : ∃ b, w1.heap.size = b := ⟨_, rfl⟩
  obtain ⟨bO, hbO⟩ : ∃ b, w2.heap.size = b := ⟨_, rfl⟩
  obtain ⟨bB, hbB⟩ : ∃ b, w3.heap.size = b := ⟨_, rfl⟩
  rw [hbF] at HXF lt1 ⊢
  rw [hbO] at HXO lt2 ⊢
  rw [hbB] at HXB HOW lt1 lt2 hwb ⊢
  clear hbF hbO hbB
  go_loopw [28, 8] (fun s v wr => ∃ k : Nat, k ≤ n ∧ s = .int .i64 (k : Int) ∧ St w wr ∧ Hid (Bx wr bF #[.func (.func 84) #[] #[]]) ∧ Hid (Bx wr bO #[.string on, .string od]) ∧ Hid (Bx wr bB #[.string bn, .string bd]) ∧ Hid (wr.ownsRow (bB + 1) 54 9 v k (flatG scells (DL.take k))) ∧ Hid (0 < k → O ≠ 0 ∧ B ≠ 0)) (fun s _ _ => (n - intOf s).toNat)
  case atStart => exact ⟨0, by omega, rfl, hs, HXF, HXO, HXB, HOW, fun h => absurd h (by omega)⟩
  case round =>
    obtain ⟨k, hk, rfl, hs, HX1, HX2, HX3, HO, HNZ0⟩ := hrel
    by_cases hkn : k = n
    · subst hkn
      have q : decide ((k : Int) < (k : Int)) = false := decide_eq_false (by omega)
      obtain ⟨hO0, hB0⟩ := HNZ0.out hp
      obtain ⟨_, e2, e3⟩ := HQE.out.2.2.2 hO0 hB0
      subst e2 e3
      have HDT : Hid (DR.take k = DR) := List.take_of_length_le (Nat.le_of_eq HDL.out)
      rw [HDT.out] at HO
      clear HQE
      go_wp2_with fail
      go_ret2
      exact ⟨_, rfl, ⟨rfl, by have := own_low (base' := w.heap.size) HO.out (by omega); rwa [HDL.out]⟩, hs.2⟩
    · have hkl : k < n := by omega
      have q : decide ((k : Int) < (n : Int)) = true := decide_eq_true (by omega)
      have qn : decide (k < n) = true := decide_eq_true hkl
      obtain ⟨d, hd⟩ : ∃ d, l[k]? = some d := ⟨l[k]'(by rw [HN.out]; exact hkl), by simp⟩
      obtain ⟨b, o, hA, hb, hcells⟩ := row_at (cs := scells) (m := 9) scells_len (by decide) (HR.out.on hs.2) hd
      have hdz := HL.out.2.2.2 d (List.mem_of_getElem? hd)
      have gg := HL.out.grow (List.mem_of_getElem? hd)
      have HDK := Lib.hid (HDC.out k d hd)
      have HSC := Lib.hid (driftS_cells O B d)
      unfold SecS.le at hdz
      have KG1 := drift_1 (Vq.arg (n := d.wn) (d := d.wd) (by omega) (by omega)) (Vq.arg (n := d.rn) (d := d.rd) (by omega) (by omega)) gg.1 (by omega)
      change Ret _ _ (FR (d.w * (1 + d.r))) at KG1
      have KG2 := drift_1 (Vq.arg (n := d.vn) (d := d.vd) (by omega) (by omega)) (Vq.arg (n := d.bn) (d := d.bd) (by omega) (by omega)) gg.2.1 (by omega)
      change Ret _ _ (FR (d.v * (1 + d.b))) at KG2
      have KQ1 := QuoA (Vq.fr gg.2.2.1 (by omega)) HVO.out
      have KQ2 := QuoA (Vq.fr gg.2.2.2 (by omega)) HVB.out
      have HW1 : Hid (O ≠ 0 → quoQ (d.w * (1 + d.r)) O = d.w * (1 + d.r) / O) := fun h => if_neg h
      have HW2 : Hid (B ≠ 0 → quoQ (d.v * (1 + d.b)) B = d.v * (1 + d.b) / B) := fun h => if_neg h
      unfold FR at KG1 KG2 KQ1 KQ2
      unfold FV at KG1 KG2 KQ1 KQ2
      generalize driftS O B d = D at *
      subst hA
      clear hd hkn hdz gg
      obtain ⟨q1, hq1⟩ : ∃ x, quoQ (d.w * (1 + d.r)) O = x := ⟨_, rfl⟩
      obtain ⟨q2, hq2⟩ : ∃ x, quoQ (d.v * (1 + d.b)) B = x := ⟨_, rfl⟩
      rw [hq1] at KQ1 HW1
      rw [hq2] at KQ2 HW2
      clear hq1 hq2
      generalize frN (d.w * (1 + d.r)) = g1 at *
      generalize frD (d.w * (1 + d.r)) = g2 at *
      generalize frN (d.v * (1 + d.b)) = g3 at *
      generalize frD (d.v * (1 + d.b)) = g4 at *
      generalize d.w * (1 + d.r) / O = p1 at *
      generalize d.v * (1 + d.b) / B = p2 at *
      have HWN1 : Hid (O ≠ 0 → frN p1 = frN q1 ∧ frD p1 = frD q1) := fun h => by rw [HW1.out h]; exact ⟨rfl, rfl⟩
      have HWN2 : Hid (B ≠ 0 → frN p2 = frN q2 ∧ frD p2 = frD q2) := fun h => by rw [HW2.out h]; exact ⟨rfl, rfl⟩
      clear HW1 HW2
      generalize frN p1 = p11 at *
      generalize frD p1 = p12 at *
      generalize frN p2 = p21 at *
      generalize frD p2 = p22 at *
      generalize frN q1 = wn at *
      generalize frD q1 = wd at *
      generalize frN q2 = vn at *
      generalize frD q2 = vd at *
      obtain ⟨qe1, hqe1⟩ : ∃ x, quoE O = x := ⟨_, rfl⟩
      obtain ⟨qe2, hqe2⟩ : ∃ x, quoE B = x := ⟨_, rfl⟩
      have HQE2 := HQE
      rw [hqe1] at KQ1 HQE2
      rw [hqe2] at KQ2 HQE2
      clear hqe1 hqe2
      obtain ⟨f0, f1, f2, f3, f4, f5, f6, f7, f8⟩ := d
      have x0 : wr.cell? ⟨b, o + k * 9, none⟩ = some (.string f0) := hcells 0 _ rfl
      have x1 : wr.cell? ⟨b, o + k * 9 + 1, none⟩ = some (.string f1) := hcells 1 _ rfl
      have x2 : wr.cell? ⟨b, o + k * 9 + 2, none⟩ = some (.string f2) := hcells 2 _ rfl
      have x3 : wr.cell? ⟨b, o + k * 9 + 3, none⟩ = some (.string f3) := hcells 3 _ rfl
      have x4 : wr.cell? ⟨b, o + k * 9 + 4, none⟩ = some (.string f4) := hcells 4 _ rfl
      have x5 : wr.cell? ⟨b, o + k * 9 + 5, none⟩ = some (.string f5) := hcells 5 _ rfl
      have x6 : wr.cell? ⟨b, o + k * 9 + 6, none⟩ = some (.string f6) := hcells 6 _ rfl
      have x7 : wr.cell? ⟨b, o + k * 9 + 7, none⟩ = some (.string f7) := hcells 7 _ rfl
      have x8 : wr.cell? ⟨b, o + k * 9 + 8, none⟩ = some (.string f8) := hcells 8 _ rfl
      clear hcells
      dsimp only at KG1 KG2 HSC
      have hlt1 := HX1.out.lt
      have hlt2 := HX2.out.lt
      have hlt3 := HX3.out.lt
      have XD := Bx.new wr #[.string f0, .string f1, .string f2, .string f3, .string f4, .string f5, .string f6, .string f7, .string f8] 54
      have XF := HX1.out.alloc (.cells #[.string f0, .string f1, .string f2, .string f3, .string f4, .string f5, .string f6, .string f7, .string f8] 54)
      have XO := HX2.out.alloc (.cells #[.string f0, .string f1, .string f2, .string f3, .string f4, .string f5, .string f6, .string f7, .string f8] 54)
      have XB := HX3.out.alloc (.cells #[.string f0, .string f1, .string f2, .string f3, .string f4, .string f5, .string f6, .string f7, .string f8] 54)
      have HO3 := Lib.hid (World.ownsRow.alloc HO.out (.cells #[.string f0, .string f1, .string f2, .string f3, .string f4, .string f5, .string f6, .string f7, .string f8] 54))
      have hsX := hs.alloc (.cells #[.string f0, .string f1, .string f2, .string f3, .string f4, .string f5, .string f6, .string f7, .string f8] 54)
      clear HX1 HX2 HX3 hs
      go_wp2_with fail
      clear x0 x1 x2 x3 x4 x5 x6 x7 x8
      obtain ⟨bD, hbD⟩ : ∃ b, wr.heap.size = b := ⟨_, rfl⟩
      rw [hbD] at XD hlt1 hlt2 hlt3 ⊢
      clear hbD
      generalize wr.alloc (.cells #[.string f0, .string f1, .string f2, .string f3, .string f4, .string f5, .string f6, .string f7, .string f8] 54) = W3 at *
      clear HO
      have e3 : W3.drew.heap.size = W3.heap.size := rfl
      have low0 : Below W3.heap.size W3 W3 := Below.refl _ _
      have X0 : Bx W3 bF #[.func (.func 84) #[] #[]] := XF
      have Xl0 := X0.lt
      have X1 : Bx W3 bD #[.string f0, .string f1, .string f2, .string f3, .string f4, .string f5, .string f6, .string f7, .string f8] := XD
      have Xl1 := X1.lt
      have X2 : Bx W3 bO #[.string on, .string od] := XO
      have Xl2 := X2.lt
      have x00 := X0.cell (i := 0) (v := .func (.func 84) #[] #[]) rfl
      have x11 := X1.cell (i := 1) (v := .string f1) rfl
      have x12 := X1.cell (i := 2) (v := .string f2) rfl
      have x13 := X1.cell (i := 3) (v := .string f3) rfl
      have x14 := X1.cell (i := 4) (v := .string f4) rfl
      have x20 := X2.cell (i := 0) (v := .string on) rfl
      have x21 := X2.cell (i := 1) (v := .string od) rfl
      go_region_held3 (fun w' => w'.cell? ⟨bF, 0, none⟩ = some (.func (.func 84) #[] #[]) ∧ w'.cell? ⟨bD, 1, none⟩ = some (.string f1) ∧ w'.cell? ⟨bD, 2, none⟩ = some (.string f2) ∧ w'.cell? ⟨bD, 3, none⟩ = some (.string f3) ∧ w'.cell? ⟨bD, 4, none⟩ = some (.string f4) ∧ w'.cell? ⟨bO, 0, none⟩ = some (.string on) ∧ w'.cell? ⟨bO, 1, none⟩ = some (.string od))
        (first
          | (with_reducible exact ⟨b00, b11, b12, b13, b14, b20, b21⟩)
          | (with_reducible exact ⟨a00, a11, a12, a13, a14, a20, a21⟩)
          | (with_reducible exact ⟨x00, x11, x12, x13, x14, x20, x21⟩)
          | exact ⟨(B0.alloc _).cell (i := 0) (v := .func (.func 84) #[] #[]) rfl, (B1.alloc _).cell (i := 1) (v := .string f1) rfl, (B1.alloc _).cell (i := 2) (v := .string f2) rfl, (B1.alloc _).cell (i := 3) (v := .string f3) rfl, (B1.alloc _).cell (i := 4) (v := .string f4) rfl, (B2.alloc _).cell (i := 0) (v := .string on) rfl, (B2.alloc _).cell (i := 1) (v := .string od) rfl⟩
          | exact ⟨(A0.alloc _).cell (i := 0) (v := .func (.func 84) #[] #[]) rfl, (A1.alloc _).cell (i := 1) (v := .string f1) rfl, (A1.alloc _).cell (i := 2) (v := .string f2) rfl, (A1.alloc _).cell (i := 3) (v := .string f3) rfl, (A1.alloc _).cell (i := 4) (v := .string f4) rfl, (A2.alloc _).cell (i := 0) (v := .string on) rfl, (A2.alloc _).cell (i := 1) (v := .string od) rfl⟩
          | exact ⟨(X0.alloc _).cell (i := 0) (v := .func (.func 84) #[] #[]) rfl, (X1.alloc _).cell (i := 1) (v := .string f1) rfl, (X1.alloc _).cell (i := 2) (v := .string f2) rfl, (X1.alloc _).cell (i := 3) (v := .string f3) rfl, (X1.alloc _).cell (i := 4) (v := .string f4) rfl, (X2.alloc _).cell (i := 0) (v := .string on) rfl, (X2.alloc _).cell (i := 1) (v := .string od) rfl⟩
          | exact ⟨(X0.drew.alloc _).cell (i := 0) (v := .func (.func 84) #[] #[]) rfl, (X1.drew.alloc _).cell (i := 1) (v := .string f1) rfl, (X1.drew.alloc _).cell (i := 2) (v := .string f2) rfl, (X1.drew.alloc _).cell (i := 3) (v := .string f3) rfl, (X1.drew.alloc _).cell (i := 4) (v := .string f4) rfl, (X2.drew.alloc _).cell (i := 0) (v := .string on) rfl, (X2.drew.alloc _).cell (i := 1) (v := .string od) rfl⟩
          | exact ⟨(X0.alloc _).drew.cell (i := 0) (v := .func (.func 84) #[] #[]) rfl, (X1.alloc _).drew.cell (i := 1) (v := .string f1) rfl, (X1.alloc _).drew.cell (i := 2) (v := .string f2) rfl, (X1.alloc _).drew.cell (i := 3) (v := .string f3) rfl, (X1.alloc _).drew.cell (i := 4) (v := .string f4) rfl, (X2.alloc _).drew.cell (i := 0) (v := .string on) rfl, (X2.alloc _).drew.cell (i := 1) (v := .string od) rfl⟩
          | exact ⟨((B0.other (by omega) 0 (.string wn)).other (by omega) 1 (.string wd)).cell (i := 0) (v := .func (.func 84) #[] #[]) rfl, ((B1.other (by omega) 0 (.string wn)).other (by omega) 1 (.string wd)).cell (i := 1) (v := .string f1) rfl, ((B1.other (by omega) 0 (.string wn)).other (by omega) 1 (.string wd)).cell (i := 2) (v := .string f2) rfl, ((B1.other (by omega) 0 (.string wn)).other (by omega) 1 (.string wd)).cell (i := 3) (v := .string f3) rfl, ((B1.other (by omega) 0 (.string wn)).other (by omega) 1 (.string wd)).cell (i := 4) (v := .string f4) rfl, ((B2.other (by omega) 0 (.string wn)).other (by omega) 1 (.string wd)).cell (i := 0) (v := .string on) rfl, ((B2.other (by omega) 0 (.string wn)).other (by omega) 1 (.string wd)).cell (i := 1) (v := .string od) rfl⟩
          | exact ⟨(((B0.alloc _).other (by omega) 0 (.string wn)).other (by omega) 1 (.string wd)).cell (i := 0) (v := .func (.func 84) #[] #[]) rfl, (((B1.alloc _).other (by omega) 0 (.string wn)).other (by omega) 1 (.string wd)).cell (i := 1) (v := .string f1) rfl, (((B1.alloc _).other (by omega) 0 (.string wn)).other (by omega) 1 (.string wd)).cell (i := 2) (v := .string f2) rfl, (((B1.alloc _).other (by omega) 0 (.string wn)).other (by omega) 1 (.string wd)).cell (i := 3) (v := .string f3) rfl, (((B1.alloc _).other (by omega) 0 (.string wn)).other (by omega) 1 (.string wd)).cell (i := 4) (v := .string f4) rfl, (((B2.alloc _).other (by omega) 0 (.string wn)).other (by omega) 1 (.string wd)).cell (i := 0) (v := .string on) rfl, (((B2.alloc _).other (by omega) 0 (.string wn)).other (by omega) 1 (.string wd)).cell (i := 1) (v := .string od) rfl⟩
          | (go_keep; done))
        (first
          | (go_at_call 84
             refine KG1.step (by first | with_reducible exact hsX.drew | with_reducible exact hsX | with_reducible exact (hsX.alloc _).drew | with_reducible exact hsX.alloc _) ?_
             intro wA hsA hbA
             have A0 : Bx wA bF #[.func (.func 84) #[] #[]] := (by first | with_reducible exact X0.drew.on hbA | with_reducible exact X0.on hbA | with_reducible exact (X0.alloc _).drew.on hbA | with_reducible exact (X0.alloc _).on hbA)
             have A1 : Bx wA bD #[.string f0, .string f1, .string f2, .string f3, .string f4, .string f5, .string f6, .string f7, .string f8] := (by first | with_reducible exact X1.drew.on hbA | with_reducible exact X1.on hbA | with_reducible exact (X1.alloc _).drew.on hbA | with_reducible exact (X1.alloc _).on hbA)
             have A2 : Bx wA bO #[.string on, .string od] := (by first | with_reducible exact X2.drew.on hbA | with_reducible exact X2.on hbA | with_reducible exact (X2.alloc _).drew.on hbA | with_reducible exact (X2.alloc _).on hbA)
             have lowA : Below W3.heap.size W3 wA := (by first | with_reducible exact low0.trans (hbA.mono low0.size) | exact low0.drew.trans (hbA.mono low0.drew.size) | exact (low0.alloc low0.size _).trans (hbA.mono (by rw [World.size_alloc]; have := low0.size; omega)) | exact (low0.alloc low0.size _).drew.trans (hbA.mono (by show _ ≤ (World.alloc _ _).heap.size; rw [World.size_alloc]; have := low0.size; omega)))
             have a00 := A0.cell (i := 0) (v := .func (.func 84) #[] #[]) rfl
             have a11 := A1.cell (i := 1) (v := .string f1) rfl
             have a12 := A1.cell (i := 2) (v := .string f2) rfl
             have a13 := A1.cell (i := 3) (v := .string f3) rfl
             have a14 := A1.cell (i := 4) (v := .string f4) rfl
             have a20 := A2.cell (i := 0) (v := .string on) rfl
             have a21 := A2.cell (i := 1) (v := .string od) rfl
             have Al0 := A0.lt
             have Al1 := A1.lt
             have Al2 := A2.lt
             (first | have ZZ := pk_on ZZ hbA | have ZZ := pk_on (pk_new low0) hbA | have ZZ := pk_on (pk_drew (pk_new low0)) hbA | skip)
             (try have zz0 := ZZ.z.cell (i := 0) (v := .string ⟨#[]⟩) rfl)
             (try have zz1 := ZZ.z.cell (i := 1) (v := .string ⟨#[]⟩) rfl)
             (try have zf0 := ZZ.z.frozen 0)
             (try have zf1 := ZZ.z.frozen 1))
          | (go_at_call 42
             refine KQ1.step (by first | with_reducible exact hsA.drew | with_reducible exact hsA | with_reducible exact (hsA.alloc _).drew | with_reducible exact hsA.alloc _) ?_
             intro wB hsB hbB
             have B0 : Bx wB bF #[.func (.func 84) #[] #[]] := (by first | with_reducible exact A0.drew.on hbB | with_reducible exact A0.on hbB | with_reducible exact (A0.alloc _).drew.on hbB | with_reducible exact (A0.alloc _).on hbB)
             have B1 : Bx wB bD #[.string f0, .string f1, .string f2, .string f3, .string f4, .string f5, .string f6, .string f7, .string f8] := (by first | with_reducible exact A1.drew.on hbB | with_reducible exact A1.on hbB | with_reducible exact (A1.alloc _).drew.on hbB | with_reducible exact (A1.alloc _).on hbB)
             have B2 : Bx wB bO #[.string on, .string od] := (by first | with_reducible exact A2.drew.on hbB | with_reducible exact A2.on hbB | with_reducible exact (A2.alloc _).drew.on hbB | with_reducible exact (A2.alloc _).on hbB)
             have lowB : Below W3.heap.size W3 wB := (by first | with_reducible exact lowA.trans (hbB.mono lowA.size) | exact lowA.drew.trans (hbB.mono lowA.drew.size) | exact (lowA.alloc lowA.size _).trans (hbB.mono (by rw [World.size_alloc]; have := lowA.size; omega)) | exact (lowA.alloc lowA.size _).drew.trans (hbB.mono (by show _ ≤ (World.alloc _ _).heap.size; rw [World.size_alloc]; have := lowA.size; omega)))
             have b00 := B0.cell (i := 0) (v := .func (.func 84) #[] #[]) rfl
             have b11 := B1.cell (i := 1) (v := .string f1) rfl
             have b12 := B1.cell (i := 2) (v := .string f2) rfl
             have b13 := B1.cell (i := 3) (v := .string f3) rfl
             have b14 := B1.cell (i := 4) (v := .string f4) rfl
             have b20 := B2.cell (i := 0) (v := .string on) rfl
             have b21 := B2.cell (i := 1) (v := .string od) rfl
             have Bl0 := B0.lt
             have Bl1 := B1.lt
             have Bl2 := B2.lt
             (first | have ZZ := pk_on ZZ hbB | have ZZ := pk_on (pk_new lowA) hbB | have ZZ := pk_on (pk_drew (pk_new lowA)) hbB | skip)
             (try have zz0 := ZZ.z.cell (i := 0) (v := .string ⟨#[]⟩) rfl)
             (try have zz1 := ZZ.z.cell (i := 1) (v := .string ⟨#[]⟩) rfl)
             (try have zf0 := ZZ.z.frozen 0)
             (try have zf1 := ZZ.z.frozen 1)))
      all_goals
        first
          | (have P := pk_set (bz := wA.heap.size) ZZ wn wd; generalize (wB.setCell ⟨wA.heap.size, 0, none⟩ (.string wn)).setCell ⟨wA.heap.size, 1, none⟩ (.string wd) = W4 at P ⊢; generalize wA.heap.size = bz at P ⊢)
          | (have P := pk_set (bz := W3.heap.size) ZZ wn wd; generalize (wB.setCell ⟨W3.heap.size, 0, none⟩ (.string wn)).setCell ⟨W3.heap.size, 1, none⟩ (.string wd) = W4 at P ⊢; generalize W3.heap.size = bz at P ⊢)
          | (have P := pk_alloc (n := wn) (d := wd) lowB; generalize wB.alloc (.cells #[.string wn, .string wd] 42) = W4 at P ⊢; generalize wB.heap.size = bz at P ⊢)
      all_goals
        have hs4 := hsX.on P.low
        have XF4 := XF.on P.low
        have XD4 := XD.on P.low
        have XB4 := XB.on P.low
        have HXO4 := Lib.hid (XO.on P.low)
        have HO4 := Lib.hid (own_below HO3.out P.low)
        have HZ4 := Lib.hid P.z
        have hz4 := P.z.lt
        clear low0 e3 lowA lowB X0 X1 X2 A0 A1 A2 B0 B1 B2 Xl0 Xl1 Xl2 Al0 Al1 Al2 Bl0 Bl1 Bl2 x00 x11 x12 x13 x14 x20 x21 a00 a11 a12 a13 a14 a20 a21 b00 b11 b12 b13 b14 b20 b21 hbA hbB hsA hsB P KG1 KQ1 XF XO XB XD HO3 hsX
        (try clear ZZ zz0 zz1 zf0 zf1)
        go_wp2_with fail
        have e3 : W4.drew.heap.size = W4.heap.size := rfl
        have low0 : Below W4.heap.size W4 W4 := Below.refl _ _
        have X0 : Bx W4 bF #[.func (.func 84) #[] #[]] := XF4
        have Xl0 := X0.lt
        have X1 : Bx W4 bD #[.string f0, .string f1, .string f2, .string f3, .string f4, .string f5, .string f6, .string f7, .string f8] := XD4
        have Xl1 := X1.lt
        have X2 : Bx W4 bB #[.string bn, .string bd] := XB4
        have Xl2 := X2.lt
        have x00 := X0.cell (i := 0) (v := .func (.func 84) #[] #[]) rfl
        have x15 := X1.cell (i := 5) (v := .string f5) rfl
        have x16 := X1.cell (i := 6) (v := .string f6) rfl
        have x17 := X1.cell (i := 7) (v := .string f7) rfl
        have x18 := X1.cell (i := 8) (v := .string f8) rfl
        have x20 := X2.cell (i := 0) (v := .string bn) rfl
        have x21 := X2.cell (i := 1) (v := .string bd) rfl
        go_region_held3 (fun w' => w'.cell? ⟨bF, 0, none⟩ = some (.func (.func 84) #[] #[]) ∧ w'.cell? ⟨bD, 5, none⟩ = some (.string f5) ∧ w'.cell? ⟨bD, 6, none⟩ = some (.string f6) ∧ w'.cell? ⟨bD, 7, none⟩ = some (.string f7) ∧ w'.cell? ⟨bD, 8, none⟩ = some (.string f8) ∧ w'.cell? ⟨bB, 0, none⟩ = some (.string bn) ∧ w'.cell? ⟨bB, 1, none⟩ = some (.string bd))
          (first
            | (with_reducible exact ⟨b00, b15, b16, b17, b18, b20, b21⟩)
            | (with_reducible exact ⟨a00, a15, a16, a17, a18, a20, a21⟩)
            | (with_reducible exact ⟨x00, x15, x16, x17, x18, x20, x21⟩)
            | exact ⟨(B0.alloc _).cell (i := 0) (v := .func (.func 84) #[] #[]) rfl, (B1.alloc _).cell (i := 5) (v := .string f5) rfl, (B1.alloc _).cell (i := 6) (v := .string f6) rfl, (B1.alloc _).cell (i := 7) (v := .string f7) rfl, (B1.alloc _).cell (i := 8) (v := .string f8) rfl, (B2.alloc _).cell (i := 0) (v := .string bn) rfl, (B2.alloc _).cell (i := 1) (v := .string bd) rfl⟩
            | exact ⟨(A0.alloc _).cell (i := 0) (v := .func (.func 84) #[] #[]) rfl, (A1.alloc _).cell (i := 5) (v := .string f5) rfl, (A1.alloc _).cell (i := 6) (v := .string f6) rfl, (A1.alloc _).cell (i := 7) (v := .string f7) rfl, (A1.alloc _).cell (i := 8) (v := .string f8) rfl, (A2.alloc _).cell (i := 0) (v := .string bn) rfl, (A2.alloc _).cell (i := 1) (v := .string bd) rfl⟩
            | exact ⟨(X0.alloc _).cell (i := 0) (v := .func (.func 84) #[] #[]) rfl, (X1.alloc _).cell (i := 5) (v := .string f5) rfl, (X1.alloc _).cell (i := 6) (v := .string f6) rfl, (X1.alloc _).cell (i := 7) (v := .string f7) rfl, (X1.alloc _).cell (i := 8) (v := .string f8) rfl, (X2.alloc _).cell (i := 0) (v := .string bn) rfl, (X2.alloc _).cell (i := 1) (v := .string bd) rfl⟩
            | exact ⟨(X0.drew.alloc _).cell (i := 0) (v := .func (.func 84) #[] #[]) rfl, (X1.drew.alloc _).cell (i := 5) (v := .string f5) rfl, (X1.drew.alloc _).cell (i := 6) (v := .string f6) rfl, (X1.drew.alloc _).cell (i := 7) (v := .string f7) rfl, (X1.drew.alloc _).cell (i := 8) (v := .string f8) rfl, (X2.drew.alloc _).cell (i := 0) (v := .string bn) rfl, (X2.drew.alloc _).cell (i := 1) (v := .string bd) rfl⟩
            | exact ⟨(X0.alloc _).drew.cell (i := 0) (v := .func (.func 84) #[] #[]) rfl, (X1.alloc _).drew.cell (i := 5) (v := .string f5) rfl, (X1.alloc _).drew.cell (i := 6) (v := .string f6) rfl, (X1.alloc _).drew.cell (i := 7) (v := .string f7) rfl, (X1.alloc _).drew.cell (i := 8) (v := .string f8) rfl, (X2.alloc _).drew.cell (i := 0) (v := .string bn) rfl, (X2.alloc _).drew.cell (i := 1) (v := .string bd) rfl⟩
            | exact ⟨((B0.other (by omega) 0 (.string vn)).other (by omega) 1 (.string vd)).cell (i := 0) (v := .func (.func 84) #[] #[]) rfl, ((B1.other (by omega) 0 (.string vn)).other (by omega) 1 (.string vd)).cell (i := 5) (v := .string f5) rfl, ((B1.other (by omega) 0 (.string vn)).other (by omega) 1 (.string vd)).cell (i := 6) (v := .string f6) rfl, ((B1.other (by omega) 0 (.string vn)).other (by omega) 1 (.string vd)).cell (i := 7) (v := .string f7) rfl, ((B1.other (by omega) 0 (.string vn)).other (by omega) 1 (.string vd)).cell (i := 8) (v := .string f8) rfl, ((B2.other (by omega) 0 (.string vn)).other (by omega) 1 (.string vd)).cell (i := 0) (v := .string bn) rfl, ((B2.other (by omega) 0 (.string vn)).other (by omega) 1 (.string vd)).cell (i := 1) (v := .string bd) rfl⟩
            | exact ⟨(((B0.alloc _).other (by omega) 0 (.string vn)).other (by omega) 1 (.string vd)).cell (i := 0) (v := .func (.func 84) #[] #[]) rfl, (((B1.alloc _).other (by omega) 0 (.string vn)).other (by omega) 1 (.string vd)).cell (i := 5) (v := .string f5) rfl, (((B1.alloc _).other (by omega) 0 (.string vn)).other (by omega) 1 (.string vd)).cell (i := 6) (v := .string f6) rfl, (((B1.alloc _).other (by omega) 0 (.string vn)).other (by omega) 1 (.string vd)).cell (i := 7) (v := .string f7) rfl, (((B1.alloc _).other (by omega) 0 (.string vn)).other (by omega) 1 (.string vd)).cell (i := 8) (v := .string f8) rfl, (((B2.alloc _).other (by omega) 0 (.string vn)).other (by omega) 1 (.string vd)).cell (i := 0) (v := .string bn) rfl, (((B2.alloc _).other (by omega) 0 (.string vn)).other (by omega) 1 (.string vd)).cell (i := 1) (v := .string bd) rfl⟩
            | (go_keep; done))
          (first
            | (go_at_call 84
               refine KG2.step (by first | with_reducible exact hs4.drew | with_reducible exact hs4 | with_reducible exact (hs4.alloc _).drew | with_reducible exact hs4.alloc _) ?_
               intro wA hsA hbA
               have A0 : Bx wA bF #[.func (.func 84) #[] #[]] := (by first | with_reducible exact X0.drew.on hbA | with_reducible exact X0.on hbA | with_reducible exact (X0.alloc _).drew.on hbA | with_reducible exact (X0.alloc _).on hbA)
               have A1 : Bx wA bD #[.string f0, .string f1, .string f2, .string f3, .string f4, .string f5, .string f6, .string f7, .string f8] := (by first | with_reducible exact X1.drew.on hbA | with_reducible exact X1.on hbA | with_reducible exact (X1.alloc _).drew.on hbA | with_reducible exact (X1.alloc _).on hbA)
               have A2 : Bx wA bB #[.string bn, .string bd] := (by first | with_reducible exact X2.drew.on hbA | with_reducible exact X2.on hbA | with_reducible exact (X2.alloc _).drew.on hbA | with_reducible exact (X2.alloc _).on hbA)
               have lowA : Below W4.heap.size W4 wA := (by first | with_reducible exact low0.trans (hbA.mono low0.size) | exact low0.drew.trans (hbA.mono low0.drew.size) | exact (low0.alloc low0.size _).trans (hbA.mono (by rw [World.size_alloc]; have := low0.size; omega)) | exact (low0.alloc low0.size _).drew.trans (hbA.mono (by show _ ≤ (World.alloc _ _).heap.size; rw [World.size_alloc]; have := low0.size; omega)))
               have a00 := A0.cell (i := 0) (v := .func (.func 84) #[] #[]) rfl
               have a15 := A1.cell (i := 5) (v := .string f5) rfl
               have a16 := A1.cell (i := 6) (v := .string f6) rfl
               have a17 := A1.cell (i := 7) (v := .string f7) rfl
               have a18 := A1.cell (i := 8) (v := .string f8) rfl
               have a20 := A2.cell (i := 0) (v := .string bn) rfl
               have a21 := A2.cell (i := 1) (v := .string bd) rfl
               have Al0 := A0.lt
               have Al1 := A1.lt
               have Al2 := A2.lt
               (first | have ZZ := pk_on ZZ hbA | have ZZ := pk_on (pk_new low0) hbA | have ZZ := pk_on (pk_drew (pk_new low0)) hbA | skip)
               (try have zz0 := ZZ.z.cell (i := 0) (v := .string ⟨#[]⟩) rfl)
               (try have zz1 := ZZ.z.cell (i := 1) (v := .string ⟨#[]⟩) rfl)
               (try have zf0 := ZZ.z.frozen 0)
               (try have zf1 := ZZ.z.frozen 1))
            | (go_at_call 42
               refine KQ2.step (by first | with_reducible exact hsA.drew | with_reducible exact hsA | with_reducible exact (hsA.alloc _).drew | with_reducible exact hsA.alloc _) ?_
               intro wB hsB hbB
               have B0 : Bx wB bF #[.func (.func 84) #[] #[]] := (by first | with_reducible exact A0.drew.on hbB | with_reducible exact A0.on hbB | with_reducible exact (A0.alloc _).drew.on hbB | with_reducible exact (A0.alloc _).on hbB)
               have B1 : Bx wB bD #[.string f0, .string f1, .string f2, .string f3, .string f4, .string f5, .string f6, .string f7, .string f8] := (by first | with_reducible exact A1.drew.on hbB | with_reducible exact A1.on hbB | with_reducible exact (A1.alloc _).drew.on hbB | with_reducible exact (A1.alloc _).on hbB)
               have B2 : Bx wB bB #[.string bn, .string bd] := (by first | with_reducible exact A2.drew.on hbB | with_reducible exact A2.on hbB | with_reducible exact (A2.alloc _).drew.on hbB | with_reducible exact (A2.alloc _).on hbB)
               have lowB : Below W4.heap.size W4 wB := (by first | with_reducible exact lowA.trans (hbB.mono lowA.size) | exact lowA.drew.trans (hbB.mono lowA.drew.size) | exact (lowA.alloc lowA.size _).trans (hbB.mono (by rw [World.size_alloc]; have := lowA.size; omega)) | exact (lowA.alloc lowA.size _).drew.trans (hbB.mono (by show _ ≤ (World.alloc _ _).heap.size; rw [World.size_alloc]; have := lowA.size; omega)))
               have b00 := B0.cell (i := 0) (v := .func (.func 84) #[] #[]) rfl
               have b15 := B1.cell (i := 5) (v := .string f5) rfl
               have b16 := B1.cell (i := 6) (v := .string f6) rfl
               have b17 := B1.cell (i := 7) (v := .string f7) rfl
               have b18 := B1.cell (i := 8) (v := .string f8) rfl
               have b20 := B2.cell (i := 0) (v := .string bn) rfl
               have b21 := B2.cell (i := 1) (v := .string bd) rfl
               have Bl0 := B0.lt
               have Bl1 := B1.lt
               have Bl2 := B2.lt
               (first | have ZZ := pk_on ZZ hbB | have ZZ := pk_on (pk_new lowA) hbB | have ZZ := pk_on (pk_drew (pk_new lowA)) hbB | skip)
               (try have zz0 := ZZ.z.cell (i := 0) (v := .string ⟨#[]⟩) rfl)
               (try have zz1 := ZZ.z.cell (i := 1) (v := .string ⟨#[]⟩) rfl)
               (try have zf0 := ZZ.z.frozen 0)
               (try have zf1 := ZZ.z.frozen 1)))
        all_goals
          first
            | (have P2 := pk_set (bz := wA.heap.size) ZZ vn vd; generalize (wB.setCell ⟨wA.heap.size, 0, none⟩ (.string vn)).setCell ⟨wA.heap.size, 1, none⟩ (.string vd) = W5 at P2 ⊢; generalize wA.heap.size = bx at P2 ⊢)
            | (have P2 := pk_set (bz := W4.heap.size) ZZ vn vd; generalize (wB.setCell ⟨W4.heap.size, 0, none⟩ (.string vn)).setCell ⟨W4.heap.size, 1, none⟩ (.string vd) = W5 at P2 ⊢; generalize W4.heap.size = bx at P2 ⊢)
            | (have P2 := pk_alloc (n := vn) (d := vd) lowB; generalize wB.alloc (.cells #[.string vn, .string vd] 42) = W5 at P2 ⊢; generalize wB.heap.size = bx at P2 ⊢)
        all_goals
          have hs5 := hs4.on P2.low
          have HO5 := Lib.hid (own_below HO4.out P2.low)
          have XF5 := Lib.hid (XF4.on P2.low)
          have XO5 := Lib.hid (HXO4.out.on P2.low)
          have XB5 := Lib.hid (XB4.on P2.low)
          have XD5 := XD4.on P2.low
          have Z1 := HZ4.out.on P2.low
          have Z2 := P2.z
          clear low0 e3 lowA lowB X0 X1 X2 A0 A1 A2 B0 B1 B2 Xl0 Xl1 Xl2 Al0 Al1 Al2 Bl0 Bl1 Bl2 x00 x15 x16 x17 x18 x20 x21 a00 a15 a16 a17 a18 a20 a21 b00 b15 b16 b17 b18 b20 b21 hbA hbB hsA hsB P2 KG2 KQ2 XF4 XB4 XD4 HXO4 HO4 HZ4 hs4
          (try clear ZZ zz0 zz1 zf0 zf1)
          by_cases hO0 : O = 0
          · obtain ⟨e1, e2, e3⟩ := HQE2.out.1 hO0
            subst e1 e2 e3
            clear HQE HQE2 HWN1 HWN2 HNZ0 hO0
            go_wp2_with fail
            go_ret2
            exact ⟨_, rfl, ⟨rfl, World.ownsRow_nil _ _ _ _⟩, hs5.2⟩
          · have e1 := HQE2.out.2.1 hO0
            subst e1
            by_cases hB0 : B = 0
            · obtain ⟨e1, e2, e3⟩ := HQE2.out.2.2.1 hB0
              subst e1 e2 e3
              clear HQE HQE2 HWN1 HWN2 HNZ0 hO0 hB0
              go_wp2_with fail
              go_ret2
              exact ⟨_, rfl, ⟨rfl, World.ownsRow_nil _ _ _ _⟩, hs5.2⟩
            · obtain ⟨e1, _, _⟩ := HQE2.out.2.2.2 hO0 hB0
              subst e1
              have HOB : Hid (O ≠ 0 ∧ B ≠ 0) := ⟨hO0, hB0⟩
              obtain ⟨a1, a2⟩ := HWN1.out hO0
              obtain ⟨a3, a4⟩ := HWN2.out hB0
              subst a1 a2 a3 a4
              have HTK : Hid (flatG scells (DL.take (k + 1)) = flatG scells (DL.take k) ++ [.string f0, .string p11, .string p12, .string ⟨#[]⟩, .string ⟨#[]⟩, .string p21, .string p22, .string ⟨#[]⟩, .string ⟨#[]⟩]) := by
                show _ = _
                rw [List.take_add_one, HDK.out, Option.toList_some, flatG_snoc, HSC.out]
              clear HQE2 HWN1 HWN2 HNZ0 hO0 hB0
              have d0 := XD5.cell (i := 0) (v := .string f0) rfl
              have m0 := Z1.cell (i := 0) (v := .string p11) rfl
              have m1 := Z1.cell (i := 1) (v := .string p12) rfl
              have m2 := Z2.cell (i := 0) (v := .string p21) rfl
              have m3 := Z2.cell (i := 1) (v := .string p22) rfl
              obtain ⟨i0, hi, hz0, hz1, hz2⟩ := info_parts infoS48
              have Hi := Lib.hid hi
              have Hz0 := Lib.hid hz0
              have Hz1 := Lib.hid hz1
              have Hz2 := Lib.hid hz2
              have hsz5 := hs5.2.size
              have hlt5 : bB < W5.heap.size := XB5.out.lt
              have hnz : ∀ g, u8.ownBlock = some g → bB + 1 ≤ g ∧ g < W5.heap.size := fun g hg => HO5.out.lt g hg
              have HNZ := Lib.hid hnz
              clear hi hz0 hz1 hz2 hnz HSC HDK
              go_wp2_with (at_builtin; refine wpList_append_any _ rfl (.tmp 60) (.tmp 66) 39 rfl (bB + 1) 54 i0 (.agg #[.string ⟨#[]⟩, .string ⟨#[]⟩, .string ⟨#[]⟩, .string ⟨#[]⟩, .string ⟨#[]⟩, .string ⟨#[]⟩, .string ⟨#[]⟩, .string ⟨#[]⟩, .string ⟨#[]⟩]) 9 144 (by kernel_rfl) Hi.out Hz0.out Hz1.out Hz2.out rfl (by omega) _ k (flatG scells (DL.take k)) rfl (HO5.out.alloc _) (W5.heap.size + 1) (some ⟨W5.heap.size, 0, none⟩) 1 1 [.string f0, .string p11, .string p12, .string ⟨#[]⟩, .string ⟨#[]⟩, .string p21, .string p22, .string ⟨#[]⟩, .string ⟨#[]⟩] rfl (reads_row W5 54 [.string f0, .string p11, .string p12, .string ⟨#[]⟩, .string ⟨#[]⟩, .string p21, .string p22, .string ⟨#[]⟩, .string ⟨#[]⟩]) (scells_one ⟨f0, p11, p12, ⟨#[]⟩, ⟨#[]⟩, p21, p22, ⟨#[]⟩, ⟨#[]⟩⟩) (by unfold maxLen; omega) (by omega) (by simp; omega) ?_; intro v7 w7 hown7 hg7 _; have HO7 := Lib.hid hown7; have HG7 := Lib.hid hg7; clear hown7 hg7)
              go_roundw
              case rel =>
                refine ⟨k + 1, by omega, by go_num, ⟨hs5.1, (hs5.2.alloc hsz5 _).grown HG7.out (by simp; omega) (fun g hg => by have := (HNZ.out g hg).1; omega)⟩, ?_, ?_, ?_, ?_, fun _ => HOB.out⟩
                · exact (XF5.out.alloc _).grown HG7.out (fun e => by have := (HNZ.out _ e.symm).1; omega)
                · exact (XO5.out.alloc _).grown HG7.out (fun e => by have := (HNZ.out _ e.symm).1; omega)
                · exact (XB5.out.alloc _).grown HG7.out (fun e => by have := (HNZ.out _ e.symm).1; omega)
                · show World.ownsRow _ _ _ _ _ _ _
                  rw [HTK.out]
                  exact HO7.out
              case measure => simp [intOf]; omega
end Go.Proofs.YtndkglmokhndnaaGreatDoor
