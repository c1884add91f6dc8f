/- Fraction: contracts of Add, Sub, Mul, Quo. Conditions: strings of up to a hundred thousand bytes. -/
import Derived.Test.YtonopbelbehheaaGreatDoorFrB
namespace Go.Proofs.YtonopbelbehheaaGreatDoor
open Go.RowKit Go.Shelf Dec QQ

theorem three_boxes (w : World) (T : TypeId) (c0 c1 c2 : Array Value) : ∃ W, ((w.alloc (.cells c0 T)).alloc (.cells c1 T)).alloc (.cells c2 T) = W ∧ Bx W w.heap.size c0 ∧ Bx W (w.heap.size + 1) c1 ∧ Bx W (w.heap.size + 1 + 1) c2 ∧ Below w.heap.size w W :=
  ⟨_, rfl, ((Bx.new w c0 T).alloc _).alloc _, (Bx.new1 w _ c1 T).alloc _, Bx.new2 w _ _ c2 T, (((Below.refl _ w).alloc (Nat.le_refl _) _).alloc (by simp) _).alloc (by simp; omega) _⟩
theorem idx0 (g : Nat) (u : World) : (Instr.index 122 (.agg #[.func (.func 155) #[] #[.pointer (some ⟨g, 0, none⟩)], .func (.func 156) #[] #[.pointer (some ⟨g, 0, none⟩)], .func (.func 157) #[] #[.pointer (some ⟨g, 0, none⟩)], .func (.func 158) #[] #[.pointer (some ⟨g, 0, none⟩)]]) (.int .i64 0)).run Tryz.prog u = .ok (.func (.func 155) #[] #[.pointer (some ⟨g, 0, none⟩)]) u := by kernel_rfl
theorem idx1 (g : Nat) (u : World) : (Instr.index 122 (.agg #[.func (.func 155) #[] #[.pointer (some ⟨g, 0, none⟩)], .func (.func 156) #[] #[.pointer (some ⟨g, 0, none⟩)], .func (.func 157) #[] #[.pointer (some ⟨g, 0, none⟩)], .func (.func 158) #[] #[.pointer (some ⟨g, 0, none⟩)]]) (.int .i64 1)).run Tryz.prog u = .ok (.func (.func 156) #[] #[.pointer (some ⟨g, 0, none⟩)]) u := by kernel_rfl
theorem idx2 (g : Nat) (u : World) : (Instr.index 122 (.agg #[.func (.func 155) #[] #[.pointer (some ⟨g, 0, none⟩)], .func (.func 156) #[] #[.pointer (some ⟨g, 0, none⟩)], .func (.func 157) #[] #[.pointer (some ⟨g, 0, none⟩)], .func (.func 158) #[] #[.pointer (some ⟨g, 0, none⟩)]]) (.int .i64 2)).run Tryz.prog u = .ok (.func (.func 157) #[] #[.pointer (some ⟨g, 0, none⟩)]) u := by kernel_rfl
theorem idx3 (g : Nat) (u : World) : (Instr.index 122 (.agg #[.func (.func 155) #[] #[.pointer (some ⟨g, 0, none⟩)], .func (.func 156) #[] #[.pointer (some ⟨g, 0, none⟩)], .func (.func 157) #[] #[.pointer (some ⟨g, 0, none⟩)], .func (.func 158) #[] #[.pointer (some ⟨g, 0, none⟩)]]) (.int .i64 3)).run Tryz.prog u = .ok (.func (.func 158) #[] #[.pointer (some ⟨g, 0, none⟩)]) u := by kernel_rfl
set_option maxRecDepth 100000 in
set_option maxHeartbeats 4000000 in
theorem Add_frac0 {a b c d : ByteArray} {r : Rat} (KA : Hid (∀ g w, Gl w → Bx w g #[mulF] → Calls Tryz.prog 99 #[opV 155 g, FV a b, FV c d] w fun e w' => e = .returned (FR r) ∧ Below w.heap.size w w')) :
    Ret 45 #[FV a b, FV c d] (FR r) := by
  intro w hg
  unfold FR at KA ⊢
  unfold FV at KA ⊢
  generalize frN r = rn at *
  generalize frD r = rd at *
  obtain ⟨W, hW, B0, B1, B2, hbw⟩ := three_boxes w 43 #[.string a, .string b] #[.string c, .string d] #[.string ⟨#[]⟩, .string ⟨#[]⟩]
  have HW := Lib.hid hW
  clear hW
  have hs : St w W := ⟨hg, hbw⟩
  have hi := idx0
  have c0 := B0.cell (i := 0) (v := .string a) rfl
  have c1 := B0.cell (i := 1) (v := .string b) rfl
  have c2 := B1.cell (i := 0) (v := .string c) rfl
  have c3 := B1.cell (i := 1) (v := .string d) rfl
  have c4 := B2.cell (i := 0) (v := .string ⟨#[]⟩) rfl
  have c5 := B2.cell (i := 1) (v := .string ⟨#[]⟩) rfl
  have c6 := B2.frozen 0
  have c7 := B2.frozen 1
  go_enter Tryz.func45, Tryz.ntmps45
  go_wp2_with fail
  rw [HW.out]
  clear HW
  obtain ⟨B, hB⟩ : ∃ B, w.heap.size = B := ⟨_, rfl⟩
  have HB := Lib.hid hB
  rw [hB] at B0 B1 B2 c0 c1 c2 c3 c4 c5 c6 c7 ⊢
  clear hB
  go_region_held3 (fun w' => w'.cell? ⟨B, 0, none⟩ = some (.string a) ∧ w'.cell? ⟨B, 1, none⟩ = some (.string b) ∧ w'.cell? ⟨B + 1, 0, none⟩ = some (.string c) ∧ w'.cell? ⟨B + 1, 1, none⟩ = some (.string d))
    (first
      | (go_keep; done)
      | exact ⟨((E0.other (by omega) 0 (.string rn)).other (by omega) 1 (.string rd)).cell rfl, ((E0.other (by omega) 0 (.string rn)).other (by omega) 1 (.string rd)).cell rfl, ((E1.other (by omega) 0 (.string rn)).other (by omega) 1 (.string rd)).cell rfl, ((E1.other (by omega) 0 (.string rn)).other (by omega) 1 (.string rd)).cell rfl⟩
      | exact ⟨x30, x31, x32, x33⟩
      | exact ⟨x20, x21, x22, x23⟩)
    (first
      | (go_at_call 100; refine (operations_any _).mono ?_; rintro e w2 ⟨g, rfl, hx2, hb2⟩; have hs2 := hs.drew.on hb2; have D0 := B0.drew.on hb2; have D1 := B1.drew.on hb2; have D2 := B2.drew.on hb2; have x20 := D0.cell (i := 0) (v := .string a) rfl; have x21 := D0.cell (i := 1) (v := .string b) rfl; have x22 := D1.cell (i := 0) (v := .string c) rfl; have x23 := D1.cell (i := 1) (v := .string d) rfl; have x24 := D2.cell (i := 0) (v := .string ⟨#[]⟩) rfl; have x25 := D2.cell (i := 1) (v := .string ⟨#[]⟩) rfl; have x26 := D2.frozen 0; have x27 := D2.frozen 1; unfold opsV opV)
      | (go_at_call 99; refine (KA.out g _ hs2.gl hx2).mono ?_; rintro e w3 ⟨rfl, hb3⟩; have hs3 := hs2.on hb3; have E0 := D0.on hb3; have E1 := D1.on hb3; have E2 := D2.on hb3; have x30 := E0.cell (i := 0) (v := .string a) rfl; have x31 := E0.cell (i := 1) (v := .string b) rfl; have x32 := E1.cell (i := 0) (v := .string c) rfl; have x33 := E1.cell (i := 1) (v := .string d) rfl; have x34 := E2.cell (i := 0) (v := .string ⟨#[]⟩) rfl; have x35 := E2.cell (i := 1) (v := .string ⟨#[]⟩) rfl; have x36 := E2.frozen 0; have x37 := E2.frozen 1))
  go_wp2_with fail
  have B6 := (E2.set 0 (.string rn)).set 1 (.string rd)
  have y0 := B6.cell (i := 0) (v := .string rn) rfl
  have y1 := B6.cell (i := 1) (v := .string rd) rfl
  have hs4 := (hs3.set (b := B + 1 + 1) (by have := HB.out; omega) 0 (.string rn)).set (b := B + 1 + 1) (by have := HB.out; omega) 1 (.string rd)
  exact bodyPost_ret (v := .agg #[.string rn, .string rd]) (by simp [results, Tryz.results45, go_sem, y0, y1]) rfl ⟨rfl, hs4.2⟩

set_option maxRecDepth 100000 in
set_option maxHeartbeats 4000000 in
theorem Sub_frac0 {a b c d : ByteArray} {r : Rat} (KA : Hid (∀ g w, Gl w → Bx w g #[mulF] → Calls Tryz.prog 99 #[opV 156 g, FV a b, FV c d] w fun e w' => e = .returned (FR r) ∧ Below w.heap.size w w')) :
    Ret 41 #[FV a b, FV c d] (FR r) := by
  intro w hg
  unfold FR at KA ⊢
  unfold FV at KA ⊢
  generalize frN r = rn at *
  generalize frD r = rd at *
  obtain ⟨W, hW, B0, B1, B2, hbw⟩ := three_boxes w 43 #[.string a, .string b] #[.string c, .string d] #[.string ⟨#[]⟩, .string ⟨#[]⟩]
  have HW := Lib.hid hW
  clear hW
  have hs : St w W := ⟨hg, hbw⟩
  have hi := idx1
  have c0 := B0.cell (i := 0) (v := .string a) rfl
  have c1 := B0.cell (i := 1) (v := .string b) rfl
  have c2 := B1.cell (i := 0) (v := .string c) rfl
  have c3 := B1.cell (i := 1) (v := .string d) rfl
  have c4 := B2.cell (i := 0) (v := .string ⟨#[]⟩) rfl
  have c5 := B2.cell (i := 1) (v := .string ⟨#[]⟩) rfl
  have c6 := B2.frozen 0
  have c7 := B2.frozen 1
  go_enter Tryz.func41, Tryz.ntmps41
  go_wp2_with fail
  rw [HW.out]
  clear HW
  obtain ⟨B, hB⟩ : ∃ B, w.heap.size = B := ⟨_, rfl⟩
  have HB := Lib.hid hB
  rw [hB] at B0 B1 B2 c0 c1 c2 c3 c4 c5 c6 c7 ⊢
  clear hB
  go_region_held3 (fun w' => w'.cell? ⟨B, 0, none⟩ = some (.string a) ∧ w'.cell? ⟨B, 1, none⟩ = some (.string b) ∧ w'.cell? ⟨B + 1, 0, none⟩ = some (.string c) ∧ w'.cell? ⟨B + 1, 1, none⟩ = some (.string d))
    (first
      | (go_keep; done)
      | exact ⟨((E0.other (by omega) 0 (.string rn)).other (by omega) 1 (.string rd)).cell rfl, ((E0.other (by omega) 0 (.string rn)).other (by omega) 1 (.string rd)).cell rfl, ((E1.other (by omega) 0 (.string rn)).other (by omega) 1 (.string rd)).cell rfl, ((E1.other (by omega) 0 (.string rn)).other (by omega) 1 (.string rd)).cell rfl⟩
      | exact ⟨x30, x31, x32, x33⟩
      | exact ⟨x20, x21, x22, x23⟩)
    (first
      | (go_at_call 100; refine (operations_any _).mono ?_; rintro e w2 ⟨g, rfl, hx2, hb2⟩; have hs2 := hs.drew.on hb2; have D0 := B0.drew.on hb2; have D1 := B1.drew.on hb2; have D2 := B2.drew.on hb2; have x20 := D0.cell (i := 0) (v := .string a) rfl; have x21 := D0.cell (i := 1) (v := .string b) rfl; have x22 := D1.cell (i := 0) (v := .string c) rfl; have x23 := D1.cell (i := 1) (v := .string d) rfl; have x24 := D2.cell (i := 0) (v := .string ⟨#[]⟩) rfl; have x25 := D2.cell (i := 1) (v := .string ⟨#[]⟩) rfl; have x26 := D2.frozen 0; have x27 := D2.frozen 1; unfold opsV opV)
      | (go_at_call 99; refine (KA.out g _ hs2.gl hx2).mono ?_; rintro e w3 ⟨rfl, hb3⟩; have hs3 := hs2.on hb3; have E0 := D0.on hb3; have E1 := D1.on hb3; have E2 := D2.on hb3; have x30 := E0.cell (i := 0) (v := .string a) rfl; have x31 := E0.cell (i := 1) (v := .string b) rfl; have x32 := E1.cell (i := 0) (v := .string c) rfl; have x33 := E1.cell (i := 1) (v := .string d) rfl; have x34 := E2.cell (i := 0) (v := .string ⟨#[]⟩) rfl; have x35 := E2.cell (i := 1) (v := .string ⟨#[]⟩) rfl; have x36 := E2.frozen 0; have x37 := E2.frozen 1))
  go_wp2_with fail
  have B6 := (E2.set 0 (.string rn)).set 1 (.string rd)
  have y0 := B6.cell (i := 0) (v := .string rn) rfl
  have y1 := B6.cell (i := 1) (v := .string rd) rfl
  have hs4 := (hs3.set (b := B + 1 + 1) (by have := HB.out; omega) 0 (.string rn)).set (b := B + 1 + 1) (by have := HB.out; omega) 1 (.string rd)
  exact bodyPost_ret (v := .agg #[.string rn, .string rd]) (by simp [results, Tryz.results41, go_sem, y0, y1]) rfl ⟨rfl, hs4.2⟩

set_option maxRecDepth 100000 in
set_option maxHeartbeats 4000000 in
theorem Mul_frac0 {a b c d : ByteArray} {r : Rat} (KA : Hid (∀ g w, Gl w → Bx w g #[mulF] → Calls Tryz.prog 99 #[opV 157 g, FV a b, FV c d] w fun e w' => e = .returned (FR r) ∧ Below w.heap.size w w')) :
    Ret 43 #[FV a b, FV c d] (FR r) := by
  intro w hg
  unfold FR at KA ⊢
  unfold FV at KA ⊢
  generalize frN r = rn at *
  generalize frD r = rd at *
  obtain ⟨W, hW, B0, B1, B2, hbw⟩ := three_boxes w 43 #[.string a, .string b] #[.string c, .string d] #[.string ⟨#[]⟩, .string ⟨#[]⟩]
  have HW := Lib.hid hW
  clear hW
  have hs : St w W := ⟨hg, hbw⟩
  have hi := idx2
  have c0 := B0.cell (i := 0) (v := .string a) rfl
  have c1 := B0.cell (i := 1) (v := .string b) rfl
  have c2 := B1.cell (i := 0) (v := .string c) rfl
  have c3 := B1.cell (i := 1) (v := .string d) rfl
  have c4 := B2.cell (i := 0) (v := .string ⟨#[]⟩) rfl
  have c5 := B2.cell (i := 1) (v := .string ⟨#[]⟩) rfl
  have c6 := B2.frozen 0
  have c7 := B2.frozen 1
  go_enter Tryz.func43, Tryz.ntmps43
  go_wp2_with fail
  rw [HW.out]
  clear HW
  obtain ⟨B, hB⟩ : ∃ B, w.heap.size = B := ⟨_, rfl⟩
  have HB := Lib.hid hB
  rw [hB] at B0 B1 B2 c0 c1 c2 c3 c4 c5 c6 c7 ⊢
  clear hB
  go_region_held3 (fun w' => w'.cell? ⟨B, 0, none⟩ = some (.string a) ∧ w'.cell? ⟨B, 1, none⟩ = some (.string b) ∧ w'.cell? ⟨B + 1, 0, none⟩ = some (.string c) ∧ w'.cell? ⟨B + 1, 1, none⟩ = some (.string d))
    (first
      | (go_keep; done)
      | exact ⟨((E0.other (by omega) 0 (.string rn)).other (by omega) 1 (.string rd)).cell rfl, ((E0.other (by omega) 0 (.string rn)).other (by omega) 1 (.string rd)).cell rfl, ((E1.other (by omega) 0 (.string rn)).other (by omega) 1 (.string rd)).cell rfl, ((E1.other (by omega) 0 (.string rn)).other (by omega) 1 (.string rd)).cell rfl⟩
      | exact ⟨x30, x31, x32, x33⟩
      | exact ⟨x20, x21, x22, x23⟩)
    (first
      | (go_at_call 100; refine (operations_any _).mono ?_; rintro e w2 ⟨g, rfl, hx2, hb2⟩; have hs2 := hs.drew.on hb2; have D0 := B0.drew.on hb2; have D1 := B1.drew.on hb2; have D2 := B2.drew.on hb2; have x20 := D0.cell (i := 0) (v := .string a) rfl; have x21 := D0.cell (i := 1) (v := .string b) rfl; have x22 := D1.cell (i := 0) (v := .string c) rfl; have x23 := D1.cell (i := 1) (v := .string d) rfl; have x24 := D2.cell (i := 0) (v := .string ⟨#[]⟩) rfl; have x25 := D2.cell (i := 1) (v := .string ⟨#[]⟩) rfl; have x26 := D2.frozen 0; have x27 := D2.frozen 1; unfold opsV opV)
      | (go_at_call 99; refine (KA.out g _ hs2.gl hx2).mono ?_; rintro e w3 ⟨rfl, hb3⟩; have hs3 := hs2.on hb3; have E0 := D0.on hb3; have E1 := D1.on hb3; have E2 := D2.on hb3; have x30 := E0.cell (i := 0) (v := .string a) rfl; have x31 := E0.cell (i := 1) (v := .string b) rfl; have x32 := E1.cell (i := 0) (v := .string c) rfl; have x33 := E1.cell (i := 1) (v := .string d) rfl; have x34 := E2.cell (i := 0) (v := .string ⟨#[]⟩) rfl; have x35 := E2.cell (i := 1) (v := .string ⟨#[]⟩) rfl; have x36 := E2.frozen 0; have x37 := E2.frozen 1))
  go_wp2_with fail
  have B6 := (E2.set 0 (.string rn)).set 1 (.string rd)
  have y0 := B6.cell (i := 0) (v := .string rn) rfl
  have y1 := B6.cell (i := 1) (v := .string rd) rfl
  have hs4 := (hs3.set (b := B + 1 + 1) (by have := HB.out; omega) 0 (.string rn)).set (b := B + 1 + 1) (by have := HB.out; omega) 1 (.string rd)
  exact bodyPost_ret (v := .agg #[.string rn, .string rd]) (by simp [results, Tryz.results43, go_sem, y0, y1]) rfl ⟨rfl, hs4.2⟩

set_option maxRecDepth 100000 in
set_option maxHeartbeats 4000000 in
theorem Quo_frac0 {a b c d : ByteArray} {r : Rat} (sc : c.size ≤ 1000000) (hc : valS c ≠ 0) (KA : Hid (∀ g w, Gl w → Bx w g #[mulF] → Calls Tryz.prog 99 #[opV 158 g, FV a b, FV c d] w fun e w' => e = .returned (FR r) ∧ Below w.heap.size w w')) :
    Ret 120 #[FV a b, FV c d] (.tuple #[FR r, .int .i64 0]) := by
  intro w hg
  have q : (cmpI (valS c) 0 == 0) = false := by rw [cmpI_eq]; exact decide_eq_false hc
  have KC := CmpR (Vs.arg sc) Vs.nil
  generalize cmpI (valS c) 0 = cc at *
  unfold FR at KA ⊢
  unfold FV at KA ⊢
  generalize frN r = rn at *
  generalize frD r = rd at *
  obtain ⟨W, hW, B0, B1, B2, hbw⟩ := three_boxes w 43 #[.string a, .string b] #[.string c, .string d] #[.string ⟨#[]⟩, .string ⟨#[]⟩]
  have HW := Lib.hid hW
  clear hW
  have hs : St w W := ⟨hg, hbw⟩
  have hi := idx3
  have c0 := B0.cell (i := 0) (v := .string a) rfl
  have c1 := B0.cell (i := 1) (v := .string b) rfl
  have c2 := B1.cell (i := 0) (v := .string c) rfl
  have c3 := B1.cell (i := 1) (v := .string d) rfl
  have c4 := B2.cell (i := 0) (v := .string ⟨#[]⟩) rfl
  have c5 := B2.cell (i := 1) (v := .string ⟨#[]⟩) rfl
  have c6 := B2.frozen 0
  have c7 := B2.frozen 1
  go_enter Tryz.func120, Tryz.ntmps120
  go_wp2_with fail
  rw [HW.out]
  clear HW
  refine KC.step hs ?_
  clear c0 c1 c2 c3 c4 c5 c6 c7
  intro W1 hs hb
  replace B0 := B0.on hb
  replace B1 := B1.on hb
  replace B2 := B2.on hb
  clear hb hbw
  have c0 := B0.cell (i := 0) (v := .string a) rfl
  have c1 := B0.cell (i := 1) (v := .string b) rfl
  have c2 := B1.cell (i := 0) (v := .string c) rfl
  have c3 := B1.cell (i := 1) (v := .string d) rfl
  have c4 := B2.cell (i := 0) (v := .string ⟨#[]⟩) rfl
  have c5 := B2.cell (i := 1) (v := .string ⟨#[]⟩) rfl
  have c6 := B2.frozen 0
  have c7 := B2.frozen 1
  go_wp2_with fail
  obtain ⟨B, hB⟩ : ∃ B, w.heap.size = B := ⟨_, rfl⟩
  have HB := Lib.hid hB
  rw [hB] at B0 B1 B2 c0 c1 c2 c3 c4 c5 c6 c7 ⊢
  clear hB
  go_region_held3 (fun w' => w'.cell? ⟨B, 0, none⟩ = some (.string a) ∧ w'.cell? ⟨B, 1, none⟩ = some (.string b) ∧ w'.cell? ⟨B + 1, 0, none⟩ = some (.string c) ∧ w'.cell? ⟨B + 1, 1, none⟩ = some (.string d))
    (first
      | (go_keep; done)
      | exact ⟨((E0.other (by omega) 0 (.string rn)).other (by omega) 1 (.string rd)).cell rfl, ((E0.other (by omega) 0 (.string rn)).other (by omega) 1 (.string rd)).cell rfl, ((E1.other (by omega) 0 (.string rn)).other (by omega) 1 (.string rd)).cell rfl, ((E1.other (by omega) 0 (.string rn)).other (by omega) 1 (.string rd)).cell rfl⟩
      | exact ⟨x30, x31, x32, x33⟩
      | exact ⟨x20, x21, x22, x23⟩)
    (first
      | (go_at_call 100; refine (operations_any _).mono ?_; rintro e w2 ⟨g, rfl, hx2, hb2⟩; have hs2 := hs.drew.on hb2; have D0 := B0.drew.on hb2; have D1 := B1.drew.on hb2; have D2 := B2.drew.on hb2; have x20 := D0.cell (i := 0) (v := .string a) rfl; have x21 := D0.cell (i := 1) (v := .string b) rfl; have x22 := D1.cell (i := 0) (v := .string c) rfl; have x23 := D1.cell (i := 1) (v := .string d) rfl; have x24 := D2.cell (i := 0) (v := .string ⟨#[]⟩) rfl; have x25 := D2.cell (i := 1) (v := .string ⟨#[]⟩) rfl; have x26 := D2.frozen 0; have x27 := D2.frozen 1; unfold opsV opV)
      | (go_at_call 99; refine (KA.out g _ hs2.gl hx2).mono ?_; rintro e w3 ⟨rfl, hb3⟩; have hs3 := hs2.on hb3; have E0 := D0.on hb3; have E1 := D1.on hb3; have E2 := D2.on hb3; have x30 := E0.cell (i := 0) (v := .string a) rfl; have x31 := E0.cell (i := 1) (v := .string b) rfl; have x32 := E1.cell (i := 0) (v := .string c) rfl; have x33 := E1.cell (i := 1) (v := .string d) rfl; have x34 := E2.cell (i := 0) (v := .string ⟨#[]⟩) rfl; have x35 := E2.cell (i := 1) (v := .string ⟨#[]⟩) rfl; have x36 := E2.frozen 0; have x37 := E2.frozen 1))
  go_wp2_with fail
  have B6 := (E2.set 0 (.string rn)).set 1 (.string rd)
  have y0 := B6.cell (i := 0) (v := .string rn) rfl
  have y1 := B6.cell (i := 1) (v := .string rd) rfl
  have hs4 := (hs3.set (b := B + 1 + 1) (by have := HB.out; omega) 0 (.string rn)).set (b := B + 1 + 1) (by have := HB.out; omega) 1 (.string rd)
  exact bodyPost_ret (v := .tuple #[.agg #[.string rn, .string rd], .int .i64 0]) (by simp [results, Tryz.results120, go_sem, y0, y1]) rfl ⟨rfl, hs4.2⟩

end Go.Proofs.YtonopbelbehheaaGreatDoor
