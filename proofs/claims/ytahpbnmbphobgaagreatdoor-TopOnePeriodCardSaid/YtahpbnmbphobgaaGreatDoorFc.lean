/- Fraction: contracts of Add, Sub, Mul, Quo. Conditions: strings of up to a hundred thousand bytes. Fraction: contracts of Add, Sub, Mul, Quo, Of, New, Compare, Check over values. Conditions: strings of up to a hundred thousand bytes. Slices of strings: rows of cells; slices.IndexFunc, ContainsFunc over them. Condition: what the function returns. -/
import Derived.Test.YtahpbnmbphobgaaGreatDoorFb
import Derived.Laws.StructEq
namespace Go.Proofs.YtahpbnmbphobgaaGreatDoor
open Go.RowKit Go.Shelf Dec QQ

theorem three_boxes (w : World) (T : TypeId) (c0 c1 c2 : Array Value) : ∃ W, ((w.alloc (.cells c0 T)).alloc (.cells c1 T)).alloc (.cells c2 T) = W ∧ Bx W w.heap.size c0 ∧ Bx W (w.heap.size + 1) c1 ∧ Bx W (w.heap.size + 1 + 1) c2 ∧ Below w.heap.size w W :=
  ⟨_, rfl, ((Bx.new w c0 T).alloc _).alloc _, (Bx.new1 w _ c1 T).alloc _, Bx.new2 w _ _ c2 T, (((Below.refl _ w).alloc (Nat.le_refl _) _).alloc (by simp) _).alloc (by simp; omega) _⟩
theorem idx0 (g : Nat) (u : World) : (Instr.index 83 (.agg #[.func (.func 75) #[] #[.pointer (some ⟨g, 0, none⟩)], .func (.func 76) #[] #[.pointer (some ⟨g, 0, none⟩)], .func (.func 77) #[] #[.pointer (some ⟨g, 0, none⟩)], .func (.func 78) #[] #[.pointer (some ⟨g, 0, none⟩)]]) (.int .i64 0)).run Tryz.prog u = .ok (.func (.func 75) #[] #[.pointer (some ⟨g, 0, none⟩)]) u := by kernel_rfl
theorem idx1 (g : Nat) (u : World) : (Instr.index 83 (.agg #[.func (.func 75) #[] #[.pointer (some ⟨g, 0, none⟩)], .func (.func 76) #[] #[.pointer (some ⟨g, 0, none⟩)], .func (.func 77) #[] #[.pointer (some ⟨g, 0, none⟩)], .func (.func 78) #[] #[.pointer (some ⟨g, 0, none⟩)]]) (.int .i64 1)).run Tryz.prog u = .ok (.func (.func 76) #[] #[.pointer (some ⟨g, 0, none⟩)]) u := by kernel_rfl
theorem idx2 (g : Nat) (u : World) : (Instr.index 83 (.agg #[.func (.func 75) #[] #[.pointer (some ⟨g, 0, none⟩)], .func (.func 76) #[] #[.pointer (some ⟨g, 0, none⟩)], .func (.func 77) #[] #[.pointer (some ⟨g, 0, none⟩)], .func (.func 78) #[] #[.pointer (some ⟨g, 0, none⟩)]]) (.int .i64 2)).run Tryz.prog u = .ok (.func (.func 77) #[] #[.pointer (some ⟨g, 0, none⟩)]) u := by kernel_rfl
theorem idx3 (g : Nat) (u : World) : (Instr.index 83 (.agg #[.func (.func 75) #[] #[.pointer (some ⟨g, 0, none⟩)], .func (.func 76) #[] #[.pointer (some ⟨g, 0, none⟩)], .func (.func 77) #[] #[.pointer (some ⟨g, 0, none⟩)], .func (.func 78) #[] #[.pointer (some ⟨g, 0, none⟩)]]) (.int .i64 3)).run Tryz.prog u = .ok (.func (.func 78) #[] #[.pointer (some ⟨g, 0, none⟩)]) u := by kernel_rfl
set_option maxRecDepth 100000 in
set_option maxHeartbeats 4000000 in
theorem Add_frac0 {a b c d : ByteArray} {r : Rat} (KA : Hid (∀ g w, Gl w → Bx w g #[mulF] → Calls Tryz.prog 37 #[opV 75 g, FV a b, FV c d] w fun e w' => e = .returned (FR r) ∧ Below w.heap.size w w')) :
    Ret 10 #[FV a b, FV c d] (FR r) := by
  intro w hg
  unfold FR at KA ⊢
  unfold FV at KA ⊢
  generalize frN r = rn at *
  generalize frD r = rd at *
  obtain ⟨W, hW, B0, B1, B2, hbw⟩ := three_boxes w 32 #[.string a, .string b] #[.string c, .string d] #[.string ⟨#[]⟩, .string ⟨#[]⟩]
  have HW := Lib.hid hW
  clear hW
  have hs : St w W := ⟨hg, hbw⟩
  have hi := idx0
  have c0 := B0.cell (i := 0) (v := .string a) rfl
  have c1 := B0.cell (i := 1) (v := .string b) rfl
  have c2 := B1.cell (i := 0) (v := .string c) rfl
  have c3 := B1.cell (i := 1) (v := .string d) rfl
  have c4 := B2.cell (i := 0) (v := .string ⟨#[]⟩) rfl
  have c5 := B2.cell (i := 1) (v := .string ⟨#[]⟩) rfl
  have c6 := B2.frozen 0
  have c7 := B2.frozen 1
  go_enter Tryz.func10, Tryz.ntmps10
  go_wp2_with fail
  rw [HW.out]
  clear HW
  obtain ⟨B, hB⟩ : ∃ B, w.heap.size = B := ⟨_, rfl⟩
  have HB := Lib.hid hB
  rw [hB] at B0 B1 B2 c0 c1 c2 c3 c4 c5 c6 c7 ⊢
  clear hB
  go_region_held3 (fun w' => w'.cell? ⟨B, 0, none⟩ = some (.string a) ∧ w'.cell? ⟨B, 1, none⟩ = some (.string b) ∧ w'.cell? ⟨B + 1, 0, none⟩ = some (.string c) ∧ w'.cell? ⟨B + 1, 1, none⟩ = some (.string d))
    (first
      | (go_keep; done)
      | exact ⟨((E0.other (by omega) 0 (.string rn)).other (by omega) 1 (.string rd)).cell rfl, ((E0.other (by omega) 0 (.string rn)).other (by omega) 1 (.string rd)).cell rfl, ((E1.other (by omega) 0 (.string rn)).other (by omega) 1 (.string rd)).cell rfl, ((E1.other (by omega) 0 (.string rn)).other (by omega) 1 (.string rd)).cell rfl⟩
      | exact ⟨x30, x31, x32, x33⟩
      | exact ⟨x20, x21, x22, x23⟩)
    (first
      | (go_at_call 38; refine (operations_any _).mono ?_; rintro e w2 ⟨g, rfl, hx2, hb2⟩; have hs2 := hs.drew.on hb2; have D0 := B0.drew.on hb2; have D1 := B1.drew.on hb2; have D2 := B2.drew.on hb2; have x20 := D0.cell (i := 0) (v := .string a) rfl; have x21 := D0.cell (i := 1) (v := .string b) rfl; have x22 := D1.cell (i := 0) (v := .string c) rfl; have x23 := D1.cell (i := 1) (v := .string d) rfl; have x24 := D2.cell (i := 0) (v := .string ⟨#[]⟩) rfl; have x25 := D2.cell (i := 1) (v := .string ⟨#[]⟩) rfl; have x26 := D2.frozen 0; have x27 := D2.frozen 1; unfold opsV opV)
      | (go_at_call 37; refine (KA.out g _ hs2.gl hx2).mono ?_; rintro e w3 ⟨rfl, hb3⟩; have hs3 := hs2.on hb3; have E0 := D0.on hb3; have E1 := D1.on hb3; have E2 := D2.on hb3; have x30 := E0.cell (i := 0) (v := .string a) rfl; have x31 := E0.cell (i := 1) (v := .string b) rfl; have x32 := E1.cell (i := 0) (v := .string c) rfl; have x33 := E1.cell (i := 1) (v := .string d) rfl; have x34 := E2.cell (i := 0) (v := .string ⟨#[]⟩) rfl; have x35 := E2.cell (i := 1) (v := .string ⟨#[]⟩) rfl; have x36 := E2.frozen 0; have x37 := E2.frozen 1))
  go_wp2_with fail
  have B6 := (E2.set 0 (.string rn)).set 1 (.string rd)
  have y0 := B6.cell (i := 0) (v := .string rn) rfl
  have y1 := B6.cell (i := 1) (v := .string rd) rfl
  have hs4 := (hs3.set (b := B + 1 + 1) (by have := HB.out; omega) 0 (.string rn)).set (b := B + 1 + 1) (by have := HB.out; omega) 1 (.string rd)
  exact bodyPost_ret (v := .agg #[.string rn, .string rd]) (by simp [results, Tryz.results10, go_sem, y0, y1]) rfl ⟨rfl, hs4.2⟩

set_option maxRecDepth 100000 in
set_option maxHeartbeats 4000000 in
theorem Sub_frac0 {a b c d : ByteArray} {r : Rat} (KA : Hid (∀ g w, Gl w → Bx w g #[mulF] → Calls Tryz.prog 37 #[opV 76 g, FV a b, FV c d] w fun e w' => e = .returned (FR r) ∧ Below w.heap.size w w')) :
    Ret 24 #[FV a b, FV c d] (FR r) := by
  intro w hg
  unfold FR at KA ⊢
  unfold FV at KA ⊢
  generalize frN r = rn at *
  generalize frD r = rd at *
  obtain ⟨W, hW, B0, B1, B2, hbw⟩ := three_boxes w 32 #[.string a, .string b] #[.string c, .string d] #[.string ⟨#[]⟩, .string ⟨#[]⟩]
  have HW := Lib.hid hW
  clear hW
  have hs : St w W := ⟨hg, hbw⟩
  have hi := idx1
  have c0 := B0.cell (i := 0) (v := .string a) rfl
  have c1 := B0.cell (i := 1) (v := .string b) rfl
  have c2 := B1.cell (i := 0) (v := .string c) rfl
  have c3 := B1.cell (i := 1) (v := .string d) rfl
  have c4 := B2.cell (i := 0) (v := .string ⟨#[]⟩) rfl
  have c5 := B2.cell (i := 1) (v := .string ⟨#[]⟩) rfl
  have c6 := B2.frozen 0
  have c7 := B2.frozen 1
  go_enter Tryz.func24, Tryz.ntmps24
  go_wp2_with fail
  rw [HW.out]
  clear HW
  obtain ⟨B, hB⟩ : ∃ B, w.heap.size = B := ⟨_, rfl⟩
  have HB := Lib.hid hB
  rw [hB] at B0 B1 B2 c0 c1 c2 c3 c4 c5 c6 c7 ⊢
  clear hB
  go_region_held3 (fun w' => w'.cell? ⟨B, 0, none⟩ = some (.string a) ∧ w'.cell? ⟨B, 1, none⟩ = some (.string b) ∧ w'.cell? ⟨B + 1, 0, none⟩ = some (.string c) ∧ w'.cell? ⟨B + 1, 1, none⟩ = some (.string d))
    (first
      | (go_keep; done)
      | exact ⟨((E0.other (by omega) 0 (.string rn)).other (by omega) 1 (.string rd)).cell rfl, ((E0.other (by omega) 0 (.string rn)).other (by omega) 1 (.string rd)).cell rfl, ((E1.other (by omega) 0 (.string rn)).other (by omega) 1 (.string rd)).cell rfl, ((E1.other (by omega) 0 (.string rn)).other (by omega) 1 (.string rd)).cell rfl⟩
      | exact ⟨x30, x31, x32, x33⟩
      | exact ⟨x20, x21, x22, x23⟩)
    (first
      | (go_at_call 38; refine (operations_any _).mono ?_; rintro e w2 ⟨g, rfl, hx2, hb2⟩; have hs2 := hs.drew.on hb2; have D0 := B0.drew.on hb2; have D1 := B1.drew.on hb2; have D2 := B2.drew.on hb2; have x20 := D0.cell (i := 0) (v := .string a) rfl; have x21 := D0.cell (i := 1) (v := .string b) rfl; have x22 := D1.cell (i := 0) (v := .string c) rfl; have x23 := D1.cell (i := 1) (v := .string d) rfl; have x24 := D2.cell (i := 0) (v := .string ⟨#[]⟩) rfl; have x25 := D2.cell (i := 1) (v := .string ⟨#[]⟩) rfl; have x26 := D2.frozen 0; have x27 := D2.frozen 1; unfold opsV opV)
      | (go_at_call 37; refine (KA.out g _ hs2.gl hx2).mono ?_; rintro e w3 ⟨rfl, hb3⟩; have hs3 := hs2.on hb3; have E0 := D0.on hb3; have E1 := D1.on hb3; have E2 := D2.on hb3; have x30 := E0.cell (i := 0) (v := .string a) rfl; have x31 := E0.cell (i := 1) (v := .string b) rfl; have x32 := E1.cell (i := 0) (v := .string c) rfl; have x33 := E1.cell (i := 1) (v := .string d) rfl; have x34 := E2.cell (i := 0) (v := .string ⟨#[]⟩) rfl; have x35 := E2.cell (i := 1) (v := .string ⟨#[]⟩) rfl; have x36 := E2.frozen 0; have x37 := E2.frozen 1))
  go_wp2_with fail
  have B6 := (E2.set 0 (.string rn)).set 1 (.string rd)
  have y0 := B6.cell (i := 0) (v := .string rn) rfl
  have y1 := B6.cell (i := 1) (v := .string rd) rfl
  have hs4 := (hs3.set (b := B + 1 + 1) (by have := HB.out; omega) 0 (.string rn)).set (b := B + 1 + 1) (by have := HB.out; omega) 1 (.string rd)
  exact bodyPost_ret (v := .agg #[.string rn, .string rd]) (by simp [results, Tryz.results24, go_sem, y0, y1]) rfl ⟨rfl, hs4.2⟩

set_option maxRecDepth 100000 in
set_option maxHeartbeats 4000000 in
theorem Mul_frac0 {a b c d : ByteArray} {r : Rat} (KA : Hid (∀ g w, Gl w → Bx w g #[mulF] → Calls Tryz.prog 37 #[opV 77 g, FV a b, FV c d] w fun e w' => e = .returned (FR r) ∧ Below w.heap.size w w')) :
    Ret 63 #[FV a b, FV c d] (FR r) := by
  intro w hg
  unfold FR at KA ⊢
  unfold FV at KA ⊢
  generalize frN r = rn at *
  generalize frD r = rd at *
  obtain ⟨W, hW, B0, B1, B2, hbw⟩ := three_boxes w 32 #[.string a, .string b] #[.string c, .string d] #[.string ⟨#[]⟩, .string ⟨#[]⟩]
  have HW := Lib.hid hW
  clear hW
  have hs : St w W := ⟨hg, hbw⟩
  have hi := idx2
  have c0 := B0.cell (i := 0) (v := .string a) rfl
  have c1 := B0.cell (i := 1) (v := .string b) rfl
  have c2 := B1.cell (i := 0) (v := .string c) rfl
  have c3 := B1.cell (i := 1) (v := .string d) rfl
  have c4 := B2.cell (i := 0) (v := .string ⟨#[]⟩) rfl
  have c5 := B2.cell (i := 1) (v := .string ⟨#[]⟩) rfl
  have c6 := B2.frozen 0
  have c7 := B2.frozen 1
  go_enter Tryz.func63, Tryz.ntmps63
  go_wp2_with fail
  rw [HW.out]
  clear HW
  obtain ⟨B, hB⟩ : ∃ B, w.heap.size = B := ⟨_, rfl⟩
  have HB := Lib.hid hB
  rw [hB] at B0 B1 B2 c0 c1 c2 c3 c4 c5 c6 c7 ⊢
  clear hB
  go_region_held3 (fun w' => w'.cell? ⟨B, 0, none⟩ = some (.string a) ∧ w'.cell? ⟨B, 1, none⟩ = some (.string b) ∧ w'.cell? ⟨B + 1, 0, none⟩ = some (.string c) ∧ w'.cell? ⟨B + 1, 1, none⟩ = some (.string d))
    (first
      | (go_keep; done)
      | exact ⟨((E0.other (by omega) 0 (.string rn)).other (by omega) 1 (.string rd)).cell rfl, ((E0.other (by omega) 0 (.string rn)).other (by omega) 1 (.string rd)).cell rfl, ((E1.other (by omega) 0 (.string rn)).other (by omega) 1 (.string rd)).cell rfl, ((E1.other (by omega) 0 (.string rn)).other (by omega) 1 (.string rd)).cell rfl⟩
      | exact ⟨x30, x31, x32, x33⟩
      | exact ⟨x20, x21, x22, x23⟩)
    (first
      | (go_at_call 38; refine (operations_any _).mono ?_; rintro e w2 ⟨g, rfl, hx2, hb2⟩; have hs2 := hs.drew.on hb2; have D0 := B0.drew.on hb2; have D1 := B1.drew.on hb2; have D2 := B2.drew.on hb2; have x20 := D0.cell (i := 0) (v := .string a) rfl; have x21 := D0.cell (i := 1) (v := .string b) rfl; have x22 := D1.cell (i := 0) (v := .string c) rfl; have x23 := D1.cell (i := 1) (v := .string d) rfl; have x24 := D2.cell (i := 0) (v := .string ⟨#[]⟩) rfl; have x25 := D2.cell (i := 1) (v := .string ⟨#[]⟩) rfl; have x26 := D2.frozen 0; have x27 := D2.frozen 1; unfold opsV opV)
      | (go_at_call 37; refine (KA.out g _ hs2.gl hx2).mono ?_; rintro e w3 ⟨rfl, hb3⟩; have hs3 := hs2.on hb3; have E0 := D0.on hb3; have E1 := D1.on hb3; have E2 := D2.on hb3; have x30 := E0.cell (i := 0) (v := .string a) rfl; have x31 := E0.cell (i := 1) (v := .string b) rfl; have x32 := E1.cell (i := 0) (v := .string c) rfl; have x33 := E1.cell (i := 1) (v := .string d) rfl; have x34 := E2.cell (i := 0) (v := .string ⟨#[]⟩) rfl; have x35 := E2.cell (i := 1) (v := .string ⟨#[]⟩) rfl; have x36 := E2.frozen 0; have x37 := E2.frozen 1))
  go_wp2_with fail
  have B6 := (E2.set 0 (.string rn)).set 1 (.string rd)
  have y0 := B6.cell (i := 0) (v := .string rn) rfl
  have y1 := B6.cell (i := 1) (v := .string rd) rfl
  have hs4 := (hs3.set (b := B + 1 + 1) (by have := HB.out; omega) 0 (.string rn)).set (b := B + 1 + 1) (by have := HB.out; omega) 1 (.string rd)
  exact bodyPost_ret (v := .agg #[.string rn, .string rd]) (by simp [results, Tryz.results63, go_sem, y0, y1]) rfl ⟨rfl, hs4.2⟩


end Go.Proofs.YtahpbnmbphobgaaGreatDoor
namespace Go.Proofs.YtahpbnmbphobgaaGreatDoor
open Go.RowKit Go.Shelf Dec QQ

theorem eqlF (a b c d : ByteArray) (u : World) : (binOp .eql 32 (.agg #[.string a, .string b]) (.agg #[.string c, .string d])).run Tryz.prog u = .ok (.bool ((a.toList == c.toList) && (b.toList == d.toList))) u := by
  simp [go_sem]
  repeat' split
  all_goals simp_all
theorem neqF (a b c d : ByteArray) (u : World) : (binOp .neq 32 (.agg #[.string a, .string b]) (.agg #[.string c, .string d])).run Tryz.prog u = .ok (.bool (!((a.toList == c.toList) && (b.toList == d.toList)))) u := by
  simp [go_sem]
  repeat' split
  all_goals simp_all
theorem Vq.vs {n d : ByteArray} {q : Rat} (h : Vq n d q) : Vs n (valS n) ∧ Vs (dn d) (valS (dn d)) ∧ Fit 100000 (valS n) ∧ Fit 100001 (valS (dn d)) := by
  have h1 := h.2.1
  have h2 := h.2.2
  have h3 := dn_size d
  exact ⟨Vs.arg (by omega), Vs.arg (by omega), Fit.val (by omega), Fit.val (by omega)⟩
theorem Vs.mul {k m : Nat} {x y : Int} (h : Fit k x) (h2 : Fit m y) (hk : k + m ≤ 999999) : Vs (canS (x * y)) (x * y) := Vs.can (h.mul h2) hk
theorem cmpI_num (x y : Rat) : cmpI (x - y).num 0 = cmpQ x y := cmp_num x y
theorem AddF {a b c d : ByteArray} {p q : Rat} (h1 : Vq a b p) (h2 : Vq c d q) : Ret 10 #[FV a b, FV c d] (FR (p + q)) := by
  obtain ⟨va, vb, fa, fb⟩ := h1.vs
  obtain ⟨vc, vd, fc, fd⟩ := h2.vs
  have nb := dn_ne b
  have nd := dn_ne d
  have v1 := Vs.mul fa fd (by omega)
  have v2 := Vs.mul fc fb (by omega)
  have f1 : Fit 300000 (valS a * valS (dn d) + valS c * valS (dn b)) := (Fit.add (fa.mul fd) (fc.mul fb)).mono (by omega)
  have f2 : Fit 300000 (valS (dn b) * valS (dn d)) := (fb.mul fd).mono (by omega)
  have KM := made_any (Vs.can f1 (by omega)) (Vs.can f2 (by omega)) (Nat.le_trans f1.size (by omega)) (Nat.le_trans f2.size (by omega)) (Int.mul_ne_zero nb nd)
  rw [rat_add nb nd, dn_rat, dn_rat, h1.1, h2.1] at KM
  exact Add_frac0 (fun g w hg hx => apply_plus g w hg hx (by have := h1.2.2; omega) (by have := h2.2.2; omega) (fun w hg hx => plus_op va vb vc vd g w hg hx v1 v2) KM)
theorem SubF {a b c d : ByteArray} {p q : Rat} (h1 : Vq a b p) (h2 : Vq c d q) : Ret 24 #[FV a b, FV c d] (FR (p - q)) := by
  obtain ⟨va, vb, fa, fb⟩ := h1.vs
  obtain ⟨vc, vd, fc, fd⟩ := h2.vs
  have nb := dn_ne b
  have nd := dn_ne d
  have v1 := Vs.mul fa fd (by omega)
  have v2 := Vs.mul fc fb (by omega)
  have f1 : Fit 300000 (valS a * valS (dn d) - valS c * valS (dn b)) := (Fit.sub (fa.mul fd) (fc.mul fb)).mono (by omega)
  have f2 : Fit 300000 (valS (dn b) * valS (dn d)) := (fb.mul fd).mono (by omega)
  have KM := made_any (Vs.can f1 (by omega)) (Vs.can f2 (by omega)) (Nat.le_trans f1.size (by omega)) (Nat.le_trans f2.size (by omega)) (Int.mul_ne_zero nb nd)
  rw [rat_sub nb nd, dn_rat, dn_rat, h1.1, h2.1] at KM
  exact Sub_frac0 (fun g w hg hx => apply_minus g w hg hx (by have := h1.2.2; omega) (by have := h2.2.2; omega) (fun w hg hx => minus_op va vb vc vd g w hg hx v1 v2) KM)
theorem MulF {a b c d : ByteArray} {p q : Rat} (h1 : Vq a b p) (h2 : Vq c d q) : Ret 63 #[FV a b, FV c d] (FR (p * q)) := by
  obtain ⟨va, vb, fa, fb⟩ := h1.vs
  obtain ⟨vc, vd, fc, fd⟩ := h2.vs
  have nb := dn_ne b
  have nd := dn_ne d
  have f1 : Fit 300000 (valS a * valS c) := (fa.mul fc).mono (by omega)
  have f2 : Fit 300000 (valS (dn b) * valS (dn d)) := (fb.mul fd).mono (by omega)
  have KM := made_any (Vs.can f1 (by omega)) (Vs.can f2 (by omega)) (Nat.le_trans f1.size (by omega)) (Nat.le_trans f2.size (by omega)) (Int.mul_ne_zero nb nd)
  rw [rat_mul nb nd, dn_rat, dn_rat, h1.1, h2.1] at KM
  exact Mul_frac0 (fun g w hg hx => apply_times g w hg hx (by have := h1.2.2; omega) (by have := h2.2.2; omega) (fun w hg hx => times_op va vb vc vd g w hg hx) KM)
set_option maxRecDepth 100000 in
set_option maxHeartbeats 4000000 in
theorem OfF {a : ByteArray} {x : Int} (h : Vs a x) (s : a.size ≤ 999999) : Ret 11 #[.string a] (FR (x : Rat)) := by
  intro w hg
  have hs := St.refl hg
  have K1 := made_any h (show Vs ⟨#[49]⟩ 1 from ⟨by decide, by decide⟩) s (by decide) (by decide)
  rw [rat_one] at K1
  unfold FR at K1 ⊢
  generalize frN (x : Rat) = rn at *
  generalize frD (x : Rat) = rd at *
  go_enter Tryz.func11, Tryz.ntmps11
  go_wp2_with fail
  refine K1.step (hs.alloc _) ?_
  intro w1 hs hb
  have B := (Bx.new w #[.string ⟨#[]⟩, .string ⟨#[]⟩] 32).on hb
  have xB0 := B.cell (i := 0) (v := .string ⟨#[]⟩) rfl
  have fB0 := B.frozen 0
  have xB1 := B.cell (i := 1) (v := .string ⟨#[]⟩) rfl
  have fB1 := B.frozen 1
  go_wp2_with fail
  have B6 := (B.set 0 (.string rn)).set 1 (.string rd)
  have y0 := B6.cell (i := 0) (v := .string rn) rfl
  have y1 := B6.cell (i := 1) (v := .string rd) rfl
  have hs4 := (hs.set (b := w.heap.size) (Nat.le_refl _) 0 (.string rn)).set (b := w.heap.size) (Nat.le_refl _) 1 (.string rd)
  exact bodyPost_ret (v := .agg #[.string rn, .string rd]) (by simp [results, Tryz.results11, go_sem, y0, y1]) rfl ⟨rfl, hs4.2⟩
set_option maxRecDepth 100000 in
set_option maxHeartbeats 4000000 in
theorem NewF {a b : ByteArray} {x y : Int} (h : Vs a x) (h2 : Vs b y) (s : a.size ≤ 999999) (s2 : b.size ≤ 999999) (hy : y ≠ 0) : Ret 33 #[.string a, .string b] (.tuple #[FR (rat x y), .int .i64 0]) := by
  intro w hg
  have hs := St.refl hg
  have K1 := CmpR h2 Vs.nil
  have K2 := made_any h h2 s s2 hy
  have q : (cmpI y 0 == 0) = false := by rw [cmpI_eq]; exact decide_eq_false hy
  unfold FR at K2 ⊢
  generalize frN (rat x y) = rn at *
  generalize frD (rat x y) = rd at *
  generalize cmpI y 0 = c at *
  go_enter Tryz.func33, Tryz.ntmps33
  go_wp2_with fail
  refine K1.step (hs.alloc _) ?_
  intro w1 hs hb
  have B0 := (Bx.new w #[.string ⟨#[]⟩, .string ⟨#[]⟩] 32).on hb
  go_wp2_with fail
  refine K2.step hs ?_
  intro w2 hs hb
  have B := B0.on hb
  have xB0 := B.cell (i := 0) (v := .string ⟨#[]⟩) rfl
  have fB0 := B.frozen 0
  have xB1 := B.cell (i := 1) (v := .string ⟨#[]⟩) rfl
  have fB1 := B.frozen 1
  go_wp2_with fail
  have B6 := (B.set 0 (.string rn)).set 1 (.string rd)
  have y0 := B6.cell (i := 0) (v := .string rn) rfl
  have y1 := B6.cell (i := 1) (v := .string rd) rfl
  have hs4 := (hs.set (b := w.heap.size) (Nat.le_refl _) 0 (.string rn)).set (b := w.heap.size) (Nat.le_refl _) 1 (.string rd)
  exact bodyPost_ret (v := .tuple #[.agg #[.string rn, .string rd], .int .i64 0]) (by simp [results, Tryz.results33, go_sem, y0, y1]) rfl ⟨rfl, hs4.2⟩
set_option maxRecDepth 100000 in
set_option maxHeartbeats 4000000 in
theorem New0F {a b : ByteArray} (h2 : Vs b 0) : Ret 33 #[.string a, .string b] (.tuple #[FR 0, .int .i64 10]) := by
  intro w hg
  have hs := St.refl hg
  have K1 := CmpR h2 Vs.nil
  have q : (cmpI 0 0 == 0) = true := by decide
  unfold FR
  rw [frN_zero, frD_zero]
  generalize cmpI 0 0 = c at *
  go_enter Tryz.func33, Tryz.ntmps33
  go_wp2_with fail
  refine K1.step (hs.alloc _) ?_
  intro w1 hs hb
  have B := (Bx.new w #[.string ⟨#[]⟩, .string ⟨#[]⟩] 32).on hb
  have xB0 := B.cell (i := 0) (v := .string ⟨#[]⟩) rfl
  have fB0 := B.frozen 0
  have xB1 := B.cell (i := 1) (v := .string ⟨#[]⟩) rfl
  have fB1 := B.frozen 1
  go_wp2_with fail
  have B6 := (B.set 0 (.string ⟨#[]⟩)).set 1 (.string ⟨#[]⟩)
  have y0 := B6.cell (i := 0) (v := .string ⟨#[]⟩) rfl
  have y1 := B6.cell (i := 1) (v := .string ⟨#[]⟩) rfl
  have hs4 := (hs.set (b := w.heap.size) (Nat.le_refl _) 0 (.string ⟨#[]⟩)).set (b := w.heap.size) (Nat.le_refl _) 1 (.string ⟨#[]⟩)
  exact bodyPost_ret (v := .tuple #[.agg #[.string ⟨#[]⟩, .string ⟨#[]⟩], .int .i64 10]) (by simp [results, Tryz.results33, go_sem, y0, y1]) rfl ⟨rfl, hs4.2⟩
set_option maxRecDepth 100000 in
set_option maxHeartbeats 4000000 in
theorem CmpF {a b c d : ByteArray} {p q : Rat} (h1 : Vq a b p) (h2 : Vq c d q) {k : Nat} (hf : FitQ k (p - q)) (hk : k ≤ 99999) : Ret 12 #[FV a b, FV c d] (.int .i64 (cmpQ p q)) := by
  intro w hg
  have hs := St.refl hg
  have K1 := SubF h1 h2
  have v := Vq.fr hf hk
  have K2 := parts_any (n := frN (p - q)) (d := frD (p - q)) (by have := v.2.2; omega)
  have K3 := CmpR (show Vs (frN (p - q)) (p - q).num from ⟨valS_canS _, by have := v.2.1; omega⟩) Vs.nil
  rw [cmpI_num] at K3
  unfold FR at K1
  unfold FV at K1 K2 ⊢
  generalize frN (p - q) = rn at *
  generalize dn (frD (p - q)) = rm at *
  generalize frD (p - q) = rd at *
  generalize cmpQ p q = cc at *
  go_enter Tryz.func12, Tryz.ntmps12
  go_wp2_with fail
  refine K1.step ((hs.alloc _).alloc _) ?_
  intro w1 hs _
  go_wp2_with fail
  refine K2.step hs ?_
  intro w2 hs _
  go_wp2_with fail
  refine K3.step hs ?_
  intro w3 hs _
  go_wp2_with fail
  go_ret
  exact ⟨rfl, hs.2⟩
/-- why a pair of strings is no canonical fraction -/
def chkF (a b : ByteArray) : Int := if a = frN (ratV a b) ∧ b = frD (ratV a b) then 0 else 1
theorem toList_inj {s t : ByteArray} (h : s.toList = t.toList) : s = t := by rw [toList_bytes, toList_bytes] at h; exact bytes_inj h
theorem chkF_eq (a b : ByteArray) : chkF a b = if ((a.toList == (frN (ratV a b)).toList) && (b.toList == (frD (ratV a b)).toList)) = true then 0 else 1 := by
  unfold chkF
  congr 1
  simp only [Bool.and_eq_true, beq_iff_eq, eq_iff_iff]
  exact ⟨fun ⟨h1, h2⟩ => ⟨by rw [← h1], by rw [← h2]⟩, fun ⟨h1, h2⟩ => ⟨toList_inj h1, toList_inj h2⟩⟩
set_option maxRecDepth 100000 in
set_option maxHeartbeats 4000000 in
theorem ChkF {a b : ByteArray} (s1 : a.size ≤ 100000) (s2 : b.size ≤ 100000) : Ret 42 #[FV a b] (.int .i64 (chkF a b)) := by
  intro w hg
  have K1 := parts_any (n := a) (d := b) (by omega)
  have h3 := dn_size b
  have K2 := made_any (Vs.arg (s := a) (by omega)) (Vs.arg (s := dn b) (by omega)) (by omega) (by omega) (dn_ne b)
  rw [dn_rat] at K2
  have he := chkF_eq a b
  rw [he]
  unfold FR at K2
  unfold FV at K1 ⊢
  generalize frN (ratV a b) = rn at *
  generalize frD (ratV a b) = rd at *
  generalize dn b = b' at *
  clear he h3
  have hn := neqF a b rn rd
  generalize ((a.toList == rn.toList) && (b.toList == rd.toList)) = t at *
  have hs := (St.refl hg).alloc (.cells #[.string a, .string b] 32)
  have x0 := (Bx.new w #[.string a, .string b] 32).keeps (i := 0) (v := .string a) rfl
  have x1 := (Bx.new w #[.string a, .string b] 32).keeps (i := 1) (v := .string b) rfl
  cases t
  all_goals
    go_enter Tryz.func42, Tryz.ntmps42
    go_wp2_with fail
    refine wp_region_kept (by kernel_rfl) (by kernel_rfl) ?_
    repeat (go_big_quiet_step (first | (with_reducible exact K1.kept hs) | (with_reducible exact K2.kept hs)))
    refine wpQuiet_nil ?_
    rintro _ ⟨u, rfl⟩
    go_wp2_with fail
    go_ret
    exact ⟨rfl, (hs.kept u).2⟩
end Go.Proofs.YtahpbnmbphobgaaGreatDoor
namespace Go.Proofs.YtahpbnmbphobgaaGreatDoor
open Go.RowKit Go.Shelf Dec

/-- the cells that a slice reads -/
def Row (w : World) (A : Option Addr) (vs : List Value) : Prop := ∀ (i : Nat) (v : Value), vs[i]? = some v → ∃ b o, A = some ⟨b, o, none⟩ ∧ b < w.heap.size ∧ w.cell? ⟨b, o + i, none⟩ = some v
theorem Row.on {w w' : World} {A : Option Addr} {vs : List Value} (h : Row w A vs) (hb : Below w.heap.size w w') : Row w' A vs := by
  intro i v hv
  obtain ⟨b, o, hA, hB, hc⟩ := h i v hv
  exact ⟨b, o, hA, Nat.lt_of_lt_of_le hB hb.size, (hb.cell (p := ⟨b, o + i, none⟩) hB).trans hc⟩
theorem Row.of {w : World} {b : Nat} {cs : Array Value} (h : Bx w b cs) : Row w (some ⟨b, 0, none⟩) cs.toList := by
  intro i v hv
  exact ⟨b, 0, rfl, h.lt, by rw [Nat.zero_add]; exact h.cell (by rw [← Array.getElem?_toList]; exact hv)⟩
def sv (s : ByteArray) : Value := .string s
/-- the call returns V wherever the world reads as I says -/
def RetI (I : World → Prop) (f : FuncId) (args : Array Value) (V : Value) : Prop := ∀ w, Gl w → I w → Calls Tryz.prog f args w fun e w' => e = .returned V ∧ Below w.heap.size w w'
theorem RetI.step {I : World → Prop} {f : FuncId} {args : Array Value} {V : Value} {w0 w : World} {Q : Ending → World → Prop} (h : RetI I f args V) (hs : St w0 w) (hi : I w) (k : ∀ w', St w0 w' → Below w.heap.size w w' → Q (.returned V) w') : Calls Tryz.prog f args w Q :=
  (h w hs.gl hi).mono fun _ w' ⟨he, hb⟩ => he ▸ k w' (hs.on hb) hb
theorem Ret.i {f : FuncId} {args : Array Value} {V : Value} (h : Ret f args V) (I : World → Prop) : RetI I f args V := fun w hg _ => h w hg
def Stays (I : World → Prop) : Prop := ∀ w w' : World, I w → Below w.heap.size w w' → I w'
/-- where the first one stands that p takes, or -1 -/
def idxI (p : ByteArray → Bool) (l : List ByteArray) : Int := match l.findIdx? p with | some i => i | none => -1
theorem idxI_any (p : ByteArray → Bool) (l : List ByteArray) : decide (0 ≤ idxI p l) = l.any p := by
  unfold idxI
  cases h : l.findIdx? p with
  | none =>
    have := List.findIdx?_eq_none_iff.1 h
    symm
    rw [List.any_eq_false.2 (fun x hx => by simp [this x hx])]
    rfl
  | some i =>
    obtain ⟨hi, h1, _⟩ := List.findIdx?_eq_some_iff_getElem.1 h
    rw [List.any_eq_true.2 ⟨l[i], List.getElem_mem hi, h1⟩]
    simp
theorem idxI_at {p : ByteArray → Bool} {l : List ByteArray} {k : Nat} {s : ByteArray} (hs : l[k]? = some s) (hp : p s = true) (hn : ∀ i, i < k → ∀ t, l[i]? = some t → p t = false) : idxI p l = k := by
  have hk : k < l.length := (List.getElem?_eq_some_iff.1 hs).1
  have : l.findIdx? p = some k := by
    rw [List.findIdx?_eq_some_iff_getElem]
    refine ⟨hk, ?_, fun j hj => ?_⟩
    · have := (List.getElem?_eq_some_iff.1 hs).2
      rw [this]; exact hp
    · have := hn j hj l[j] (List.getElem?_eq_getElem (by omega))
      simp [this]
  unfold idxI
  rw [this]
theorem idxI_none {p : ByteArray → Bool} {l : List ByteArray} (hn : ∀ i, i < l.length → ∀ t, l[i]? = some t → p t = false) : idxI p l = -1 := by
  have : l.findIdx? p = none := by
    rw [List.findIdx?_eq_none_iff]
    intro x hx
    obtain ⟨i, hi, rfl⟩ := List.mem_iff_getElem.1 hx
    exact hn i hi _ (List.getElem?_eq_getElem hi)
  unfold idxI
  rw [this]

set_option maxRecDepth 100000 in
set_option maxHeartbeats 2000000 in
theorem index_any {A : Option Addr} {n c : Nat} {l : List ByteArray} {f : FuncId} {cap : Array Value} {p : ByteArray → Bool} {I : World → Prop} (hI : Stays I) (hn : l.length = n) (hm : n ≤ 4611686018427387904) (hcf : ∀ (args : Array Value) (u : World), (callFunc f args).run Tryz.prog u = .ok (.enter f args) u)
    (KF : Hid (∀ s ∈ l, RetI I f (#[.string s] ++ cap) (.bool (p s)))) :
    RetI (fun w => Row w A (l.map sv) ∧ I w) 219 #[.slice A n c, .func (.func f) #[] cap] (.int .i64 (idxI p l)) := by
  intro w hg hi
  have hs := St.refl hg
  have HN := Lib.hid hn
  have Hi := Lib.hid hi
  have HI := Lib.hid hI
  clear hn hi hI
  go_enter Tryz.func219, Tryz.ntmps219
  go_wp2_with fail
  go_loopw [8] (fun s wr => ∃ k : Nat, k ≤ n ∧ s = .int .i64 (k : Int) ∧ St w wr ∧ Hid (Row wr A (l.map sv) ∧ I wr) ∧ Hid (∀ i, i < k → ∀ t, l[i]? = some t → p t = false)) (fun s _ => (n - intOf s).toNat)
  case atStart => exact ⟨0, by omega, rfl, hs, Hi, fun i h => by omega⟩
  case round =>
    obtain ⟨k, hk, rfl, hs, H, HP⟩ := hrel
    by_cases hkn : k = n
    · have q : decide ((k : Int) < (n : Int)) = false := decide_eq_false (by omega)
      have HE := Lib.hid (idxI_none (p := p) (l := l) (fun i hi t ht => HP.out i (by rw [HN.out] at hi; omega) t ht))
      go_wp2_with fail
      go_ret
      exact ⟨by rw [HE.out]; rfl, hs.2⟩
    · have hkl : k < n := by omega
      have q : decide ((k : Int) < (n : Int)) = true := decide_eq_true (by omega)
      obtain ⟨s, hs0⟩ : ∃ s, l[k]? = some s := ⟨l[k]'(by rw [HN.out]; exact hkl), by simp⟩
      obtain ⟨b, o, hA, hB, hc⟩ := H.out.1 k (.string s) (by rw [List.getElem?_map, hs0]; rfl)
      subst hA
      have KK := KF.out s (List.mem_of_getElem? hs0)
      have HS := Lib.hid hs0
      clear hs0 hkn
      obtain ⟨pv, hpv⟩ : ∃ pv, p s = pv := ⟨_, rfl⟩
      rw [hpv] at KK
      have HPV := Lib.hid hpv
      clear hpv
      cases pv with
      | true =>
        have HE := Lib.hid (idxI_at HS.out HPV.out HP.out)
        go_wp2_with fail
        refine KK.step hs H.out.2 ?_
        intro w2 hs hb
        go_wp2_with fail
        go_ret
        exact ⟨by rw [HE.out]; rfl, hs.2⟩
      | false =>
        go_wp2_with fail
        refine KK.step hs H.out.2 ?_
        intro w2 hs hb
        have H2 : Hid (Row w2 (some ⟨b, o, none⟩) (l.map sv) ∧ I w2) := ⟨H.out.1.on hb, HI.out _ _ H.out.2 hb⟩
        go_wp2_with fail
        go_roundw
        case rel =>
          refine ⟨k + 1, by omega, by go_num, hs, H2, ?_⟩
          intro i hi t ht
          by_cases e : i = k
          · subst e
            rw [HS.out] at ht
            cases ht
            exact HPV.out
          · exact HP.out i (by omega) t ht
        case measure => simp [intOf]; omega
set_option maxHeartbeats 1000000 in
theorem contains_any {A : Option Addr} {n c : Nat} {l : List ByteArray} {f : FuncId} {cap : Array Value} {p : ByteArray → Bool} {I : World → Prop} (hI : Stays I) (hn : l.length = n) (hm : n ≤ 4611686018427387904) (hcf : ∀ (args : Array Value) (u : World), (callFunc f args).run Tryz.prog u = .ok (.enter f args) u)
    (KF : Hid (∀ s ∈ l, RetI I f (#[.string s] ++ cap) (.bool (p s)))) :
    RetI (fun w => Row w A (l.map sv) ∧ I w) 160 #[.slice A n c, .func (.func f) #[] cap] (.bool (l.any p)) := by
  intro w hg hi
  have hs := St.refl hg
  have K := index_any (A := A) (c := c) hI hn hm hcf KF
  have e := idxI_any p l
  generalize idxI p l = r at *
  generalize l.any p = v at *
  have Hi := Lib.hid hi
  clear hn hi hI
  go_enter Tryz.func160, Tryz.ntmps160
  go_wp2_with fail
  refine K.step hs Hi.out ?_
  intro w1 hs _
  go_wp2_with fail
  go_ret
  exact ⟨rfl, hs.2⟩
end Go.Proofs.YtahpbnmbphobgaaGreatDoor
