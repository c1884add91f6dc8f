/- Fraction: contracts of the operations, apply, Add, Sub, Mul, Quo. Conditions: strings of up to a million bytes. -/
import Derived.Test.YtahpbnmbphobgaaGreatDoorFa
import Derived.Deep.RegionHeld3
import Derived.Laws.EntriesVeiled
import Derived.Laws.NewBlocks
namespace Go.Proofs.YtahpbnmbphobgaaGreatDoor
open Go.RowKit Go.Shelf Dec QQ

/-- the closures over the one captured box -/
def opV (f : FuncId) (b : Nat) : Value := .func (.func f) #[] #[.pointer (some ⟨b, 0, none⟩)]
def opsV (b : Nat) : Value := .agg #[opV 75 b, opV 76 b, opV 77 b, opV 78 b]
def mulF : Value := .func (.func 74) #[] #[]

set_option maxHeartbeats 1000000 in
theorem operations_any (w : World) :
    Calls Tryz.prog 38 #[] w fun e w' => ∃ b, e = .returned (opsV b) ∧ Bx w' b #[mulF] ∧ Below w.heap.size w w' := by
  go_enter Tryz.func38, Tryz.ntmps38
  go_wp2_with fail
  have B0 := (Bx.new w #[opV 75 (w.heap.size + 1), opV 76 (w.heap.size + 1), opV 77 (w.heap.size + 1), opV 78 (w.heap.size + 1)] 83).alloc (.cells #[mulF] 49)
  have y0 := B0.cell (i := 0) (v := opV 75 (w.heap.size + 1)) rfl
  have y1 := B0.cell (i := 1) (v := opV 76 (w.heap.size + 1)) rfl
  have y2 := B0.cell (i := 2) (v := opV 77 (w.heap.size + 1)) rfl
  have y3 := B0.cell (i := 3) (v := opV 78 (w.heap.size + 1)) rfl
  refine bodyPost_ret (v := opsV (w.heap.size + 1)) ?_ rfl ⟨_, rfl, Bx.new1 _ _ _ _, ((Below.refl _ w).alloc (Nat.le_refl _) _).alloc (by simp) _⟩
  unfold opV mulF at y0 y1 y2 y3
  unfold opsV opV
  simp [results, Tryz.results38, go_sem]

set_option maxRecDepth 100000 in
set_option maxHeartbeats 4000000 in
theorem plus_op {a b c d : ByteArray} {x y z u : Int} (ha : Vs a x) (hb : Vs b y) (hc : Vs c z) (hd : Vs d u) (g : Nat) (w : World) (hg : Gl w) (hx : Bx w g #[mulF]) (v1 : Vs (canS (x * u)) (x * u)) (v2 : Vs (canS (z * y)) (z * y)) :
    Calls Tryz.prog 75 #[.string a, .string b, .string c, .string d, .pointer (some ⟨g, 0, none⟩)] w fun e w' => e = .returned (.tuple #[.string (canS (x * u + z * y)), .string (canS (y * u))]) ∧ Below w.heap.size w w' := by
  have hs := St.refl hg
  have K1 := MulR ha hd
  have K2 := MulR hc hb
  have K3 := AddR v1 v2
  have K4 := MulR hb hd
  generalize canS (x * u) = r1 at *
  generalize canS (z * y) = r2 at *
  generalize canS (x * u + z * y) = r3 at *
  generalize canS (y * u) = r4 at *
  have x0 := Kept.cell_of (hx.cell (i := 0) (v := mulF) rfl)
  unfold mulF at x0
  go_enter Tryz.func75, Tryz.ntmps75
  go_wp2_with fail
  refine wp_region_kept (by kernel_rfl) (by kernel_rfl) ?_
  repeat (go_big_quiet_step (first | (with_reducible exact K1.kept hs) | (with_reducible exact K2.kept hs) | (with_reducible exact K3.kept hs) | (with_reducible exact K4.kept hs)))
  refine wpQuiet_nil ?_
  rintro _ ⟨u1, rfl⟩
  go_wp2_with fail
  go_ret2
  exact ⟨rfl, u1.low⟩

set_option maxRecDepth 100000 in
set_option maxHeartbeats 4000000 in
theorem apply_plus {a b c d p q : ByteArray} {r : Rat} (g : Nat) (w : World) (hg : Gl w) (hx : Bx w g #[mulF]) (s1 : b.size ≤ 999999) (s2 : d.size ≤ 999999)
    (KO : Hid (∀ w, Gl w → Bx w g #[mulF] → Calls Tryz.prog 75 #[.string a, .string (dn b), .string c, .string (dn d), .pointer (some ⟨g, 0, none⟩)] w fun e w' => e = .returned (.tuple #[.string p, .string q]) ∧ Below w.heap.size w w'))
    (KM : Ret 39 #[.string p, .string q] (FR r)) :
    Calls Tryz.prog 37 #[opV 75 g, FV a b, FV c d] w fun e w' => e = .returned (FR r) ∧ Below w.heap.size w w' := by
  have hs := St.refl hg
  have K1 := parts_any (n := a) s1
  have K2 := parts_any (n := c) s2
  unfold FR at KM ⊢
  unfold FV at K1 K2 ⊢
  unfold opV
  generalize dn b = b' at *
  generalize dn d = d' at *
  generalize frN r = rn at *
  generalize frD r = rd at *
  go_enter Tryz.func37, Tryz.ntmps37
  go_wp2_with fail
  refine K1.step (((hs.alloc _).alloc _).alloc _) ?_
  intro w1 hs hb
  have hx1 := (((hx.alloc _).alloc _).alloc _).on hb
  have B1 := ((Bx.new1 w _ #[.string c, .string d] 32).alloc _).on hb
  have B2 := (Bx.new2 w _ _ #[.string ⟨#[]⟩, .string ⟨#[]⟩] 32).on hb
  have x0 := B1.cell (i := 0) (v := .string c) rfl
  have x1 := B1.cell (i := 1) (v := .string d) rfl
  go_wp2_with fail
  refine K2.step hs ?_
  intro w2 hs hb
  have hx2 := hx1.on hb
  have B3 := B2.on hb
  go_wp2_with fail
  refine (KO.out _ hs.gl hx2).mono ?_
  rintro e w3 ⟨rfl, hb⟩
  replace hs := hs.on hb
  have B4 := B3.on hb
  go_wp2_with fail
  refine KM.step hs ?_
  intro w4 hs hb
  have B5 := B4.on hb
  have x2 := B5.cell (i := 0) (v := .string ⟨#[]⟩) rfl
  have x3 := B5.cell (i := 1) (v := .string ⟨#[]⟩) rfl
  have f2 := B5.frozen 0
  have f3 := B5.frozen 1
  go_wp2_with fail
  have B6 := (B5.set 0 (.string rn)).set 1 (.string rd)
  have y0 := B6.cell (i := 0) (v := .string rn) rfl
  have y1 := B6.cell (i := 1) (v := .string rd) rfl
  have hs2 := (hs.set (b := w.heap.size + 2) (by omega) 0 (.string rn)).set (b := w.heap.size + 2) (by omega) 1 (.string rd)
  exact bodyPost_ret (v := .agg #[.string rn, .string rd]) (by simp [results, Tryz.results37, go_sem, y0, y1]) rfl ⟨rfl, hs2.2⟩

set_option maxRecDepth 100000 in
set_option maxHeartbeats 4000000 in
theorem minus_op {a b c d : ByteArray} {x y z u : Int} (ha : Vs a x) (hb : Vs b y) (hc : Vs c z) (hd : Vs d u) (g : Nat) (w : World) (hg : Gl w) (hx : Bx w g #[mulF]) (v1 : Vs (canS (x * u)) (x * u)) (v2 : Vs (canS (z * y)) (z * y)) :
    Calls Tryz.prog 76 #[.string a, .string b, .string c, .string d, .pointer (some ⟨g, 0, none⟩)] w fun e w' => e = .returned (.tuple #[.string (canS (x * u - z * y)), .string (canS (y * u))]) ∧ Below w.heap.size w w' := by
  have hs := St.refl hg
  have K1 := MulR ha hd
  have K2 := MulR hc hb
  have K3 := SubR v1 v2
  have K4 := MulR hb hd
  generalize canS (x * u) = r1 at *
  generalize canS (z * y) = r2 at *
  generalize canS (x * u - z * y) = r3 at *
  generalize canS (y * u) = r4 at *
  have x0 := Kept.cell_of (hx.cell (i := 0) (v := mulF) rfl)
  unfold mulF at x0
  go_enter Tryz.func76, Tryz.ntmps76
  go_wp2_with fail
  refine wp_region_kept (by kernel_rfl) (by kernel_rfl) ?_
  repeat (go_big_quiet_step (first | (with_reducible exact K1.kept hs) | (with_reducible exact K2.kept hs) | (with_reducible exact K3.kept hs) | (with_reducible exact K4.kept hs)))
  refine wpQuiet_nil ?_
  rintro _ ⟨u1, rfl⟩
  go_wp2_with fail
  go_ret2
  exact ⟨rfl, u1.low⟩

set_option maxRecDepth 100000 in
set_option maxHeartbeats 4000000 in
theorem apply_minus {a b c d p q : ByteArray} {r : Rat} (g : Nat) (w : World) (hg : Gl w) (hx : Bx w g #[mulF]) (s1 : b.size ≤ 999999) (s2 : d.size ≤ 999999)
    (KO : Hid (∀ w, Gl w → Bx w g #[mulF] → Calls Tryz.prog 76 #[.string a, .string (dn b), .string c, .string (dn d), .pointer (some ⟨g, 0, none⟩)] w fun e w' => e = .returned (.tuple #[.string p, .string q]) ∧ Below w.heap.size w w'))
    (KM : Ret 39 #[.string p, .string q] (FR r)) :
    Calls Tryz.prog 37 #[opV 76 g, FV a b, FV c d] w fun e w' => e = .returned (FR r) ∧ Below w.heap.size w w' := by
  have hs := St.refl hg
  have K1 := parts_any (n := a) s1
  have K2 := parts_any (n := c) s2
  unfold FR at KM ⊢
  unfold FV at K1 K2 ⊢
  unfold opV
  generalize dn b = b' at *
  generalize dn d = d' at *
  generalize frN r = rn at *
  generalize frD r = rd at *
  go_enter Tryz.func37, Tryz.ntmps37
  go_wp2_with fail
  refine K1.step (((hs.alloc _).alloc _).alloc _) ?_
  intro w1 hs hb
  have hx1 := (((hx.alloc _).alloc _).alloc _).on hb
  have B1 := ((Bx.new1 w _ #[.string c, .string d] 32).alloc _).on hb
  have B2 := (Bx.new2 w _ _ #[.string ⟨#[]⟩, .string ⟨#[]⟩] 32).on hb
  have x0 := B1.cell (i := 0) (v := .string c) rfl
  have x1 := B1.cell (i := 1) (v := .string d) rfl
  go_wp2_with fail
  refine K2.step hs ?_
  intro w2 hs hb
  have hx2 := hx1.on hb
  have B3 := B2.on hb
  go_wp2_with fail
  refine (KO.out _ hs.gl hx2).mono ?_
  rintro e w3 ⟨rfl, hb⟩
  replace hs := hs.on hb
  have B4 := B3.on hb
  go_wp2_with fail
  refine KM.step hs ?_
  intro w4 hs hb
  have B5 := B4.on hb
  have x2 := B5.cell (i := 0) (v := .string ⟨#[]⟩) rfl
  have x3 := B5.cell (i := 1) (v := .string ⟨#[]⟩) rfl
  have f2 := B5.frozen 0
  have f3 := B5.frozen 1
  go_wp2_with fail
  have B6 := (B5.set 0 (.string rn)).set 1 (.string rd)
  have y0 := B6.cell (i := 0) (v := .string rn) rfl
  have y1 := B6.cell (i := 1) (v := .string rd) rfl
  have hs2 := (hs.set (b := w.heap.size + 2) (by omega) 0 (.string rn)).set (b := w.heap.size + 2) (by omega) 1 (.string rd)
  exact bodyPost_ret (v := .agg #[.string rn, .string rd]) (by simp [results, Tryz.results37, go_sem, y0, y1]) rfl ⟨rfl, hs2.2⟩

set_option maxRecDepth 100000 in
set_option maxHeartbeats 4000000 in
theorem times_op {a b c d : ByteArray} {x y z u : Int} (ha : Vs a x) (hb : Vs b y) (hc : Vs c z) (hd : Vs d u) (g : Nat) (w : World) (hg : Gl w) (hx : Bx w g #[mulF]) :
    Calls Tryz.prog 77 #[.string a, .string b, .string c, .string d, .pointer (some ⟨g, 0, none⟩)] w fun e w' => e = .returned (.tuple #[.string (canS (x * z)), .string (canS (y * u))]) ∧ Below w.heap.size w w' := by
  have hs := St.refl hg
  have K1 := MulR ha hc
  have K2 := MulR hb hd
  generalize canS (x * z) = r1 at *
  generalize canS (y * u) = r2 at *
  have x0 := Kept.cell_of (hx.cell (i := 0) (v := mulF) rfl)
  unfold mulF at x0
  go_enter Tryz.func77, Tryz.ntmps77
  go_wp2_with fail
  refine wp_region_kept (by kernel_rfl) (by kernel_rfl) ?_
  repeat (go_big_quiet_step (first | (with_reducible exact K1.kept hs) | (with_reducible exact K2.kept hs)))
  refine wpQuiet_nil ?_
  rintro _ ⟨u1, rfl⟩
  go_wp2_with fail
  go_ret2
  exact ⟨rfl, u1.low⟩

set_option maxRecDepth 100000 in
set_option maxHeartbeats 4000000 in
theorem apply_times {a b c d p q : ByteArray} {r : Rat} (g : Nat) (w : World) (hg : Gl w) (hx : Bx w g #[mulF]) (s1 : b.size ≤ 999999) (s2 : d.size ≤ 999999)
    (KO : Hid (∀ w, Gl w → Bx w g #[mulF] → Calls Tryz.prog 77 #[.string a, .string (dn b), .string c, .string (dn d), .pointer (some ⟨g, 0, none⟩)] w fun e w' => e = .returned (.tuple #[.string p, .string q]) ∧ Below w.heap.size w w'))
    (KM : Ret 39 #[.string p, .string q] (FR r)) :
    Calls Tryz.prog 37 #[opV 77 g, FV a b, FV c d] w fun e w' => e = .returned (FR r) ∧ Below w.heap.size w w' := by
  have hs := St.refl hg
  have K1 := parts_any (n := a) s1
  have K2 := parts_any (n := c) s2
  unfold FR at KM ⊢
  unfold FV at K1 K2 ⊢
  unfold opV
  generalize dn b = b' at *
  generalize dn d = d' at *
  generalize frN r = rn at *
  generalize frD r = rd at *
  go_enter Tryz.func37, Tryz.ntmps37
  go_wp2_with fail
  refine K1.step (((hs.alloc _).alloc _).alloc _) ?_
  intro w1 hs hb
  have hx1 := (((hx.alloc _).alloc _).alloc _).on hb
  have B1 := ((Bx.new1 w _ #[.string c, .string d] 32).alloc _).on hb
  have B2 := (Bx.new2 w _ _ #[.string ⟨#[]⟩, .string ⟨#[]⟩] 32).on hb
  have x0 := B1.cell (i := 0) (v := .string c) rfl
  have x1 := B1.cell (i := 1) (v := .string d) rfl
  go_wp2_with fail
  refine K2.step hs ?_
  intro w2 hs hb
  have hx2 := hx1.on hb
  have B3 := B2.on hb
  go_wp2_with fail
  refine (KO.out _ hs.gl hx2).mono ?_
  rintro e w3 ⟨rfl, hb⟩
  replace hs := hs.on hb
  have B4 := B3.on hb
  go_wp2_with fail
  refine KM.step hs ?_
  intro w4 hs hb
  have B5 := B4.on hb
  have x2 := B5.cell (i := 0) (v := .string ⟨#[]⟩) rfl
  have x3 := B5.cell (i := 1) (v := .string ⟨#[]⟩) rfl
  have f2 := B5.frozen 0
  have f3 := B5.frozen 1
  go_wp2_with fail
  have B6 := (B5.set 0 (.string rn)).set 1 (.string rd)
  have y0 := B6.cell (i := 0) (v := .string rn) rfl
  have y1 := B6.cell (i := 1) (v := .string rd) rfl
  have hs2 := (hs.set (b := w.heap.size + 2) (by omega) 0 (.string rn)).set (b := w.heap.size + 2) (by omega) 1 (.string rd)
  exact bodyPost_ret (v := .agg #[.string rn, .string rd]) (by simp [results, Tryz.results37, go_sem, y0, y1]) rfl ⟨rfl, hs2.2⟩

set_option maxRecDepth 100000 in
set_option maxHeartbeats 4000000 in
theorem over_op {a b c d : ByteArray} {x y z u : Int} (ha : Vs a x) (hb : Vs b y) (hc : Vs c z) (hd : Vs d u) (g : Nat) (w : World) (hg : Gl w) (hx : Bx w g #[mulF]) :
    Calls Tryz.prog 78 #[.string a, .string b, .string c, .string d, .pointer (some ⟨g, 0, none⟩)] w fun e w' => e = .returned (.tuple #[.string (canS (x * u)), .string (canS (y * z))]) ∧ Below w.heap.size w w' := by
  have hs := St.refl hg
  have K1 := MulR ha hd
  have K2 := MulR hb hc
  generalize canS (x * u) = r1 at *
  generalize canS (y * z) = r2 at *
  have x0 := Kept.cell_of (hx.cell (i := 0) (v := mulF) rfl)
  unfold mulF at x0
  go_enter Tryz.func78, Tryz.ntmps78
  go_wp2_with fail
  refine wp_region_kept (by kernel_rfl) (by kernel_rfl) ?_
  repeat (go_big_quiet_step (first | (with_reducible exact K1.kept hs) | (with_reducible exact K2.kept hs)))
  refine wpQuiet_nil ?_
  rintro _ ⟨u1, rfl⟩
  go_wp2_with fail
  go_ret2
  exact ⟨rfl, u1.low⟩

set_option maxRecDepth 100000 in
set_option maxHeartbeats 4000000 in
theorem apply_over {a b c d p q : ByteArray} {r : Rat} (g : Nat) (w : World) (hg : Gl w) (hx : Bx w g #[mulF]) (s1 : b.size ≤ 999999) (s2 : d.size ≤ 999999)
    (KO : Hid (∀ w, Gl w → Bx w g #[mulF] → Calls Tryz.prog 78 #[.string a, .string (dn b), .string c, .string (dn d), .pointer (some ⟨g, 0, none⟩)] w fun e w' => e = .returned (.tuple #[.string p, .string q]) ∧ Below w.heap.size w w'))
    (KM : Ret 39 #[.string p, .string q] (FR r)) :
    Calls Tryz.prog 37 #[opV 78 g, FV a b, FV c d] w fun e w' => e = .returned (FR r) ∧ Below w.heap.size w w' := by
  have hs := St.refl hg
  have K1 := parts_any (n := a) s1
  have K2 := parts_any (n := c) s2
  unfold FR at KM ⊢
  unfold FV at K1 K2 ⊢
  unfold opV
  generalize dn b = b' at *
  generalize dn d = d' at *
  generalize frN r = rn at *
  generalize frD r = rd at *
  go_enter Tryz.func37, Tryz.ntmps37
  go_wp2_with fail
  refine K1.step (((hs.alloc _).alloc _).alloc _) ?_
  intro w1 hs hb
  have hx1 := (((hx.alloc _).alloc _).alloc _).on hb
  have B1 := ((Bx.new1 w _ #[.string c, .string d] 32).alloc _).on hb
  have B2 := (Bx.new2 w _ _ #[.string ⟨#[]⟩, .string ⟨#[]⟩] 32).on hb
  have x0 := B1.cell (i := 0) (v := .string c) rfl
  have x1 := B1.cell (i := 1) (v := .string d) rfl
  go_wp2_with fail
  refine K2.step hs ?_
  intro w2 hs hb
  have hx2 := hx1.on hb
  have B3 := B2.on hb
  go_wp2_with fail
  refine (KO.out _ hs.gl hx2).mono ?_
  rintro e w3 ⟨rfl, hb⟩
  replace hs := hs.on hb
  have B4 := B3.on hb
  go_wp2_with fail
  refine KM.step hs ?_
  intro w4 hs hb
  have B5 := B4.on hb
  have x2 := B5.cell (i := 0) (v := .string ⟨#[]⟩) rfl
  have x3 := B5.cell (i := 1) (v := .string ⟨#[]⟩) rfl
  have f2 := B5.frozen 0
  have f3 := B5.frozen 1
  go_wp2_with fail
  have B6 := (B5.set 0 (.string rn)).set 1 (.string rd)
  have y0 := B6.cell (i := 0) (v := .string rn) rfl
  have y1 := B6.cell (i := 1) (v := .string rd) rfl
  have hs2 := (hs.set (b := w.heap.size + 2) (by omega) 0 (.string rn)).set (b := w.heap.size + 2) (by omega) 1 (.string rd)
  exact bodyPost_ret (v := .agg #[.string rn, .string rd]) (by simp [results, Tryz.results37, go_sem, y0, y1]) rfl ⟨rfl, hs2.2⟩

end Go.Proofs.YtahpbnmbphobgaaGreatDoor
