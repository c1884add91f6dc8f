/- Fees: the walk of FeeManagement: for every input it returns true. Condition: the library's table and error lie as the program's text lays them. -/
import Derived.Test.YtgagjpjlnlandaaGreatDoorLw45
import Derived.Test.YtgagjpjlnlandaaGreatDoorFeM
namespace Go.Proofs.YtgagjpjlnlandaaGreatDoor
open Go.RowKit Go.Shelf Dec QQ

theorem mg_fit {v m c A B} {k l : Nat} (hv : FitQ k ((v : Int) : Rat)) (hm : FitQ l m) : Fit (k + (l + 13) + 1) (mgI v m c A B) := by
  unfold mgI
  split
  · exact Nat.pow_pos (show 0 < 10 by decide)
  · exact rnd_fit 1 (hv.mul (hm.mul (frac_fit c A B)))
theorem fit_plus {k : Nat} {x y : Int} (h1 : Fit k x) (h2 : Fit k y) : Fit (k + 1) (x + y) := by
  unfold Fit at *
  rw [Nat.pow_succ]
  omega
theorem mgQ_fit {v m c A B} {k l : Nat} (hv : FitQ k ((v : Int) : Rat)) (hm : FitQ l m) : FitQ (k + l + 13) (mgQ v m c A B) := by
  unfold mgQ
  split
  · exact ⟨Nat.pow_pos (show 0 < 10 by decide), Nat.lt_of_lt_of_le fit0.2 (Nat.pow_le_pow_right (show 0 < 10 by decide) (by have := hv.pos; omega))⟩
  · exact (hv.mul hm).mul (frac_fit c A B)
set_option maxRecDepth 100000 in
set_option maxHeartbeats 4000000 in
theorem manl_long1 {mn md pn pd v : ByteArray} {ct A B C : Int} (hT : TermS.big ⟨mn, md, pn, pd, ct⟩) (g1 : v.size ≤ 9223372036854775807) (ht1 : (lngT ⟨mn, md, pn, pd, ct⟩ || List.any ([] : List FnS) lngF) = true)  (w : World) (hg : Gl w) : Calls Tryz.prog 8 #[.agg #[.string mn, .string md, .string pn, .string pd, .int .i64 ct], .string v, .int .i64 A, .int .i64 B, .int .i64 C] w fun e w' => e = .returned (.bool true) ∧ Below w.heap.size w w' := by
  have KL1 := longT_any (A := none) (n := 0) (c := 0) (l := []) hT rfl (by decide) (fun s hs => by simp at hs)
  have KL2 := fun b : Nat => long45_any (A := some ⟨b, 0, none⟩) (n := 1) (c := 1) (l := [v]) rfl (by decide) (fun s hs => by simp at hs; subst hs; exact g1)
  have hs := (St.refl hg).alloc (.cells #[.string mn, .string md, .string pn, .string pd, .int .i64 ct] 54)
  have XT := Bx.new w #[.string mn, .string md, .string pn, .string pd, .int .i64 ct] 54
  have a0 := XT.cell (i := 0) (v := .string mn) rfl
  have a1 := XT.cell (i := 1) (v := .string md) rfl
  have a2 := XT.cell (i := 2) (v := .string pn) rfl
  have a3 := XT.cell (i := 3) (v := .string pd) rfl
  have a4 := XT.cell (i := 4) (v := .int .i64 ct) rfl
  have HR1 : Hid (∀ W : World, Row W none (flatG fncells ([] : List FnS))) := fun W i v hv => by simp [flatG] at hv
  have AW := awake45
  rw [ht1] at KL1
  unfold tval at KL1
  dsimp only at KL1
  clear ht1  hT g1
  go_enter Tryz.func8, Tryz.ntmps8
  go_wp2_with fail
  clear a0 a1 a2 a3 a4
  refine KL1.step hs (HR1.out _) ?_
  intro w1 hs hb
  replace XT := XT.on hb
  go_wp2_with fail
  refine AW.step hs ?_
  intro w2 hs hb
  go_wp2_with fail
  go_ret
  exact ⟨rfl, hs.2⟩
set_option maxRecDepth 100000 in
set_option maxHeartbeats 4000000 in
theorem manl_long2 {mn md pn pd v : ByteArray} {ct A B C : Int} (hT : TermS.big ⟨mn, md, pn, pd, ct⟩) (g1 : v.size ≤ 9223372036854775807) (ht1 : (lngT ⟨mn, md, pn, pd, ct⟩ || List.any ([] : List FnS) lngF) = false) (ht2 : List.any ([v] : List ByteArray) (fun s => decide (13 < s.size)) = true) (w : World) (hg : Gl w) : Calls Tryz.prog 8 #[.agg #[.string mn, .string md, .string pn, .string pd, .int .i64 ct], .string v, .int .i64 A, .int .i64 B, .int .i64 C] w fun e w' => e = .returned (.bool true) ∧ Below w.heap.size w w' := by
  have KL1 := longT_any (A := none) (n := 0) (c := 0) (l := []) hT rfl (by decide) (fun s hs => by simp at hs)
  have KL2 := fun b : Nat => long45_any (A := some ⟨b, 0, none⟩) (n := 1) (c := 1) (l := [v]) rfl (by decide) (fun s hs => by simp at hs; subst hs; exact g1)
  have hs := (St.refl hg).alloc (.cells #[.string mn, .string md, .string pn, .string pd, .int .i64 ct] 54)
  have XT := Bx.new w #[.string mn, .string md, .string pn, .string pd, .int .i64 ct] 54
  have a0 := XT.cell (i := 0) (v := .string mn) rfl
  have a1 := XT.cell (i := 1) (v := .string md) rfl
  have a2 := XT.cell (i := 2) (v := .string pn) rfl
  have a3 := XT.cell (i := 3) (v := .string pd) rfl
  have a4 := XT.cell (i := 4) (v := .int .i64 ct) rfl
  have HR1 : Hid (∀ W : World, Row W none (flatG fncells ([] : List FnS))) := fun W i v hv => by simp [flatG] at hv
  have AW := awake45
  rw [ht1] at KL1
  rw [ht2] at KL2
  unfold tval at KL1
  dsimp only at KL1
  clear ht1 ht2 hT g1
  go_enter Tryz.func8, Tryz.ntmps8
  go_wp2_with fail
  clear a0 a1 a2 a3 a4
  refine KL1.step hs (HR1.out _) ?_
  intro w1 hs hb
  replace XT := XT.on hb
  go_wp2_with fail
  have HR2 : Hid (Row (w1.alloc (.cells #[.string v] 32)) (some ⟨w1.heap.size, 0, none⟩) ([v].map sv)) := Row.of (Bx.new w1 #[.string v] 32)
  replace XT := XT.alloc (.cells #[.string v] 32)
  replace hs := hs.alloc (.cells #[.string v] 32)
  refine (KL2 _).step hs HR2.out ?_
  intro w2 hs hb
  replace XT := XT.on hb
  go_wp2_with fail
  refine AW.step hs ?_
  intro w3 hs hb
  go_wp2_with fail
  go_ret
  exact ⟨rfl, hs.2⟩
set_option maxRecDepth 100000 in
set_option maxHeartbeats 4000000 in
theorem manl_err1 {mn md pn pd v : ByteArray} {ct A B C : Int} (hz : TermS.le 13 ⟨mn, md, pn, pd, ct⟩) (s1 : v.size ≤ 13) (ht1 : (lngT ⟨mn, md, pn, pd, ct⟩ || List.any ([] : List FnS) lngF) = false) (ht2 : List.any ([v] : List ByteArray) (fun s => decide (13 < s.size)) = false) (he : manE (⟨mn, md, pn, pd, ct⟩ : TermS) v A B ≠ 0) (w : World) (hg : Gl w) : Calls Tryz.prog 8 #[.agg #[.string mn, .string md, .string pn, .string pd, .int .i64 ct], .string v, .int .i64 A, .int .i64 B, .int .i64 C] w fun e w' => e = .returned (.bool true) ∧ Below w.heap.size w w' := by
  obtain ⟨y1, y2, y3, y4⟩ : mn.size ≤ 13 ∧ md.size ≤ 13 ∧ pn.size ≤ 13 ∧ pd.size ≤ 13 := hz
  have hT : TermS.big ⟨mn, md, pn, pd, ct⟩ := ⟨by dsimp only; omega, by dsimp only; omega, by dsimp only; omega, by dsimp only; omega⟩
  have hz : TermS.le 13 ⟨mn, md, pn, pd, ct⟩ := ⟨y1, y2, y3, y4⟩
  have g1 : v.size ≤ 9223372036854775807 := by omega
  have KL1 := longT_any (A := none) (n := 0) (c := 0) (l := []) hT rfl (by decide) (fun s hs => by simp at hs)
  have KL2 := fun b : Nat => long45_any (A := some ⟨b, 0, none⟩) (n := 1) (c := 1) (l := [v]) rfl (by decide) (fun s hs => by simp at hs; subst hs; exact g1)
  rw [ht1] at KL1
  rw [ht2] at KL2
  have K1 := man_any hz (v := v) (by omega) A B
  have K2 := man_any hz (v := v) (by omega) B C
  have K3 := man_any hz (v := v) (by omega) A C
  have q : (manE (⟨mn, md, pn, pd, ct⟩ : TermS) v A B != 0) = true := by simpa using he
  clear he
  generalize manE (⟨mn, md, pn, pd, ct⟩ : TermS) v A B = e1 at *
  generalize manR (⟨mn, md, pn, pd, ct⟩ : TermS) v A B = x1 at *
  generalize manE (⟨mn, md, pn, pd, ct⟩ : TermS) v B C = e2 at *
  generalize manR (⟨mn, md, pn, pd, ct⟩ : TermS) v B C = x2 at *
  generalize manE (⟨mn, md, pn, pd, ct⟩ : TermS) v A C = e3 at *
  generalize manR (⟨mn, md, pn, pd, ct⟩ : TermS) v A C = x3 at *
  unfold tval at *
  dsimp only at *
  clear ht1 ht2 hT g1 y1 y2 y3 y4 hz s1 
  have hs := (St.refl hg).alloc (.cells #[.string mn, .string md, .string pn, .string pd, .int .i64 ct] 54)
  have XT := Bx.new w #[.string mn, .string md, .string pn, .string pd, .int .i64 ct] 54
  have a0 := XT.cell (i := 0) (v := .string mn) rfl
  have a1 := XT.cell (i := 1) (v := .string md) rfl
  have a2 := XT.cell (i := 2) (v := .string pn) rfl
  have a3 := XT.cell (i := 3) (v := .string pd) rfl
  have a4 := XT.cell (i := 4) (v := .int .i64 ct) rfl
  have HR1 : Hid (∀ W : World, Row W none (flatG fncells ([] : List FnS))) := fun W i v hv => by simp [flatG] at hv
  have AW := awake45
  go_enter Tryz.func8, Tryz.ntmps8
  go_wp2_with fail
  clear a0 a1 a2 a3 a4
  refine KL1.step hs (HR1.out _) ?_
  intro w1 hs hb
  replace XT := XT.on hb
  go_wp2_with fail
  have HR2 : Hid (Row (w1.alloc (.cells #[.string v] 32)) (some ⟨w1.heap.size, 0, none⟩) ([v].map sv)) := Row.of (Bx.new w1 #[.string v] 32)
  replace XT := XT.alloc (.cells #[.string v] 32)
  replace hs := hs.alloc (.cells #[.string v] 32)
  refine (KL2 _).step hs HR2.out ?_
  intro w2 hs hb
  replace XT := XT.on hb
  have t0 := XT.cell (i := 0) (v := .string mn) rfl
  have t1 := XT.cell (i := 1) (v := .string md) rfl
  have t2 := XT.cell (i := 2) (v := .string pn) rfl
  have t3 := XT.cell (i := 3) (v := .string pd) rfl
  have t4 := XT.cell (i := 4) (v := .int .i64 ct) rfl
  go_wp2_with fail
  refine K1.step hs ?_
  intro w3 hs hb
  clear t0 t1 t2 t3 t4
  replace XT := XT.on hb
  have t0 := XT.cell (i := 0) (v := .string mn) rfl
  have t1 := XT.cell (i := 1) (v := .string md) rfl
  have t2 := XT.cell (i := 2) (v := .string pn) rfl
  have t3 := XT.cell (i := 3) (v := .string pd) rfl
  have t4 := XT.cell (i := 4) (v := .int .i64 ct) rfl
  go_wp2_with fail
  refine K2.step hs ?_
  intro w4 hs hb
  clear t0 t1 t2 t3 t4
  replace XT := XT.on hb
  have t0 := XT.cell (i := 0) (v := .string mn) rfl
  have t1 := XT.cell (i := 1) (v := .string md) rfl
  have t2 := XT.cell (i := 2) (v := .string pn) rfl
  have t3 := XT.cell (i := 3) (v := .string pd) rfl
  have t4 := XT.cell (i := 4) (v := .int .i64 ct) rfl
  go_wp2_with fail
  refine K3.step hs ?_
  intro w5 hs hb
  clear t0 t1 t2 t3 t4
  replace XT := XT.on hb
  have t0 := XT.cell (i := 0) (v := .string mn) rfl
  have t1 := XT.cell (i := 1) (v := .string md) rfl
  have t2 := XT.cell (i := 2) (v := .string pn) rfl
  have t3 := XT.cell (i := 3) (v := .string pd) rfl
  have t4 := XT.cell (i := 4) (v := .int .i64 ct) rfl
  go_wp2_with fail
  refine AW.step hs ?_
  intro w6 hs hb
  go_wp2_with fail
  go_ret
  exact ⟨rfl, hs.2⟩
set_option maxRecDepth 100000 in
set_option maxHeartbeats 4000000 in
theorem manl_err2 {mn md pn pd v : ByteArray} {ct A B C : Int} (hz : TermS.le 13 ⟨mn, md, pn, pd, ct⟩) (s1 : v.size ≤ 13) (ht1 : (lngT ⟨mn, md, pn, pd, ct⟩ || List.any ([] : List FnS) lngF) = false) (ht2 : List.any ([v] : List ByteArray) (fun s => decide (13 < s.size)) = false) (he1 : manE (⟨mn, md, pn, pd, ct⟩ : TermS) v A B = 0) (he : manE (⟨mn, md, pn, pd, ct⟩ : TermS) v B C ≠ 0) (w : World) (hg : Gl w) : Calls Tryz.prog 8 #[.agg #[.string mn, .string md, .string pn, .string pd, .int .i64 ct], .string v, .int .i64 A, .int .i64 B, .int .i64 C] w fun e w' => e = .returned (.bool true) ∧ Below w.heap.size w w' := by
  obtain ⟨y1, y2, y3, y4⟩ : mn.size ≤ 13 ∧ md.size ≤ 13 ∧ pn.size ≤ 13 ∧ pd.size ≤ 13 := hz
  have hT : TermS.big ⟨mn, md, pn, pd, ct⟩ := ⟨by dsimp only; omega, by dsimp only; omega, by dsimp only; omega, by dsimp only; omega⟩
  have hz : TermS.le 13 ⟨mn, md, pn, pd, ct⟩ := ⟨y1, y2, y3, y4⟩
  have g1 : v.size ≤ 9223372036854775807 := by omega
  have KL1 := longT_any (A := none) (n := 0) (c := 0) (l := []) hT rfl (by decide) (fun s hs => by simp at hs)
  have KL2 := fun b : Nat => long45_any (A := some ⟨b, 0, none⟩) (n := 1) (c := 1) (l := [v]) rfl (by decide) (fun s hs => by simp at hs; subst hs; exact g1)
  rw [ht1] at KL1
  rw [ht2] at KL2
  have K1 := man_any hz (v := v) (by omega) A B
  have K2 := man_any hz (v := v) (by omega) B C
  have K3 := man_any hz (v := v) (by omega) A C
  have q : (manE (⟨mn, md, pn, pd, ct⟩ : TermS) v B C != 0) = true := by simpa using he
  rw [he1] at K1
  clear he he1
  generalize manE (⟨mn, md, pn, pd, ct⟩ : TermS) v B C = e2 at *
  generalize manR (⟨mn, md, pn, pd, ct⟩ : TermS) v B C = x2 at *
  generalize manE (⟨mn, md, pn, pd, ct⟩ : TermS) v A C = e3 at *
  generalize manR (⟨mn, md, pn, pd, ct⟩ : TermS) v A C = x3 at *
  generalize manR (⟨mn, md, pn, pd, ct⟩ : TermS) v A B = x1 at *
  unfold tval at *
  dsimp only at *
  clear ht1 ht2 hT g1 y1 y2 y3 y4 hz s1 
  have hs := (St.refl hg).alloc (.cells #[.string mn, .string md, .string pn, .string pd, .int .i64 ct] 54)
  have XT := Bx.new w #[.string mn, .string md, .string pn, .string pd, .int .i64 ct] 54
  have a0 := XT.cell (i := 0) (v := .string mn) rfl
  have a1 := XT.cell (i := 1) (v := .string md) rfl
  have a2 := XT.cell (i := 2) (v := .string pn) rfl
  have a3 := XT.cell (i := 3) (v := .string pd) rfl
  have a4 := XT.cell (i := 4) (v := .int .i64 ct) rfl
  have HR1 : Hid (∀ W : World, Row W none (flatG fncells ([] : List FnS))) := fun W i v hv => by simp [flatG] at hv
  have AW := awake45
  go_enter Tryz.func8, Tryz.ntmps8
  go_wp2_with fail
  clear a0 a1 a2 a3 a4
  refine KL1.step hs (HR1.out _) ?_
  intro w1 hs hb
  replace XT := XT.on hb
  go_wp2_with fail
  have HR2 : Hid (Row (w1.alloc (.cells #[.string v] 32)) (some ⟨w1.heap.size, 0, none⟩) ([v].map sv)) := Row.of (Bx.new w1 #[.string v] 32)
  replace XT := XT.alloc (.cells #[.string v] 32)
  replace hs := hs.alloc (.cells #[.string v] 32)
  refine (KL2 _).step hs HR2.out ?_
  intro w2 hs hb
  replace XT := XT.on hb
  have t0 := XT.cell (i := 0) (v := .string mn) rfl
  have t1 := XT.cell (i := 1) (v := .string md) rfl
  have t2 := XT.cell (i := 2) (v := .string pn) rfl
  have t3 := XT.cell (i := 3) (v := .string pd) rfl
  have t4 := XT.cell (i := 4) (v := .int .i64 ct) rfl
  go_wp2_with fail
  refine K1.step hs ?_
  intro w3 hs hb
  clear t0 t1 t2 t3 t4
  replace XT := XT.on hb
  have t0 := XT.cell (i := 0) (v := .string mn) rfl
  have t1 := XT.cell (i := 1) (v := .string md) rfl
  have t2 := XT.cell (i := 2) (v := .string pn) rfl
  have t3 := XT.cell (i := 3) (v := .string pd) rfl
  have t4 := XT.cell (i := 4) (v := .int .i64 ct) rfl
  go_wp2_with fail
  refine K2.step hs ?_
  intro w4 hs hb
  clear t0 t1 t2 t3 t4
  replace XT := XT.on hb
  have t0 := XT.cell (i := 0) (v := .string mn) rfl
  have t1 := XT.cell (i := 1) (v := .string md) rfl
  have t2 := XT.cell (i := 2) (v := .string pn) rfl
  have t3 := XT.cell (i := 3) (v := .string pd) rfl
  have t4 := XT.cell (i := 4) (v := .int .i64 ct) rfl
  go_wp2_with fail
  refine K3.step hs ?_
  intro w5 hs hb
  clear t0 t1 t2 t3 t4
  replace XT := XT.on hb
  have t0 := XT.cell (i := 0) (v := .string mn) rfl
  have t1 := XT.cell (i := 1) (v := .string md) rfl
  have t2 := XT.cell (i := 2) (v := .string pn) rfl
  have t3 := XT.cell (i := 3) (v := .string pd) rfl
  have t4 := XT.cell (i := 4) (v := .int .i64 ct) rfl
  go_wp2_with fail
  refine AW.step hs ?_
  intro w6 hs hb
  go_wp2_with fail
  go_ret
  exact ⟨rfl, hs.2⟩
set_option maxRecDepth 100000 in
set_option maxHeartbeats 4000000 in
theorem manl_p1 {mn md pn pd v : ByteArray} {ct A B C : Int} (hz : TermS.le 13 ⟨mn, md, pn, pd, ct⟩) (s1 : v.size ≤ 13) (ht1 : (lngT ⟨mn, md, pn, pd, ct⟩ || List.any ([] : List FnS) lngF) = false) (ht2 : List.any ([v] : List ByteArray) (fun s => decide (13 < s.size)) = false) (he1 : manE (⟨mn, md, pn, pd, ct⟩ : TermS) v A B = 0) (he2 : manE (⟨mn, md, pn, pd, ct⟩ : TermS) v B C = 0) (hn : ¬ valS v < 0) (hc : ct = 1) (w : World) (hg : Gl w) : Calls Tryz.prog 8 #[.agg #[.string mn, .string md, .string pn, .string pd, .int .i64 ct], .string v, .int .i64 A, .int .i64 B, .int .i64 C] w fun e w' => e = .returned (.bool true) ∧ Below w.heap.size w w' := by
  obtain ⟨y1, y2, y3, y4⟩ : mn.size ≤ 13 ∧ md.size ≤ 13 ∧ pn.size ≤ 13 ∧ pd.size ≤ 13 := hz
  have hT : TermS.big ⟨mn, md, pn, pd, ct⟩ := ⟨by dsimp only; omega, by dsimp only; omega, by dsimp only; omega, by dsimp only; omega⟩
  have hz : TermS.le 13 ⟨mn, md, pn, pd, ct⟩ := ⟨y1, y2, y3, y4⟩
  have g1 : v.size ≤ 9223372036854775807 := by omega
  have KL1 := longT_any (A := none) (n := 0) (c := 0) (l := []) hT rfl (by decide) (fun s hs => by simp at hs)
  have KL2 := fun b : Nat => long45_any (A := some ⟨b, 0, none⟩) (n := 1) (c := 1) (l := [v]) rfl (by decide) (fun s hs => by simp at hs; subst hs; exact g1)
  rw [ht1] at KL1
  rw [ht2] at KL2
  have K1 := man_any hz (v := v) (by omega) A B
  have K2 := man_any hz (v := v) (by omega) B C
  have K3 := man_any hz (v := v) (by omega) A C
  obtain ⟨m1, m2, m3, m4, m5, m6⟩ := man_zero he1
  obtain ⟨_, _, _, m7, m8, m9⟩ := man_zero he2
  have he3 : manE (⟨mn, md, pn, pd, ct⟩ : TermS) v A C = 0 := man_in m1 m2 m3 m7 (by omega)
  obtain ⟨r1, r2, r3, r4⟩ := term_zero m1
  have hm0 : 0 ≤ ratV mn md := (rate_zero r1).2.1
  have u1 : manR (⟨mn, md, pn, pd, ct⟩ : TermS) v A B = canS (mgI (valS v) (ratV mn md) ct A B) := if_pos he1
  have u2 : manR (⟨mn, md, pn, pd, ct⟩ : TermS) v B C = canS (mgI (valS v) (ratV mn md) ct B C) := if_pos he2
  have u3 : manR (⟨mn, md, pn, pd, ct⟩ : TermS) v A C = canS (mgI (valS v) (ratV mn md) ct A C) := if_pos he3
  rw [he1, u1] at K1
  rw [he2, u2] at K2
  rw [he3, u3] at K3
  have KF := Fraction_any ct A B
  dsimp only at m6 m9
  rw [m6] at KF
  have va := Vs.arg (s := v) (by omega)
  have fv : FitQ 13 ((valS v : Int) : Rat) := FitQ.int (Fit.val s1) (by omega)
  have vm := Vq.arg (n := mn) (d := md) (by omega) (by omega)
  have fm := FitQ.arg (n := mn) (d := md) (k := 13) y1 y2 (by omega)
  have fp := frac_fit ct A B
  have KO := OfF va (by omega)
  have KM1 := MulF (Vq.fr fv (by omega)) vm
  have f1 := fv.mul fm
  have KM2 := MulF (Vq.fr f1 (by omega)) (Vq.fr fp (by omega))
  have KC := CmpR va Vs.nil
  have qc : decide (cmpI (valS v) 0 < 0) = false := by rw [cmpI_lt]; exact decide_eq_false hn
  have fX : Fit 40 (mgI (valS v) (ratV mn md) ct A B) := Fit.mono (mg_fit fv fm) (by omega)
  have fY : Fit 40 (mgI (valS v) (ratV mn md) ct B C) := Fit.mono (mg_fit fv fm) (by omega)
  have fZ : Fit 40 (mgI (valS v) (ratV mn md) ct A C) := Fit.mono (mg_fit fv fm) (by omega)
  have zX := fX.size
  have zY := fY.size
  have zZ := fZ.size
  have KCx := CmpR (Vs.can fX (by omega)) Vs.nil
  have qx : decide (cmpI (mgI (valS v) (ratV mn md) ct A B) 0 < 0) = false := by rw [cmpI_lt]; exact decide_eq_false (by have := mg_nonneg (v := valS v) ct A B hm0; omega)
  have KOx := OfF (Vs.can fX (by omega)) (by omega)
  have KH := of45_any v45_1 Vs.two (by decide) (by decide) (show (2 : Int) ≠ 0 by decide)
  have fh : FitQ 1 (rat 1 2) := ⟨by decide +kernel, by decide +kernel⟩
  have fXq : FitQ 40 ((mgI (valS v) (ratV mn md) ct A B : Int) : Rat) := FitQ.int fX (by omega)
  have fQ : FitQ 39 (mgQ (valS v) (ratV mn md) ct A B) := (mgQ_fit fv fm).mono (by omega)
  have hnear := mg_near (valS v) (ratV mn md) ct A B
  have KN1 := near_true (Vq.fr fXq (by omega)) (Vq.fr fQ (by omega)) (Vq.fr fh (by omega)) (fXq.sub fQ) fh (by omega) (by rw [show rat 1 2 = 1 / 2 from rfl]; exact hnear.1) (by rw [show rat 1 2 = 1 / 2 from rfl]; exact hnear.2)
  have eQ : mgQ (valS v) (ratV mn md) ct A B = ((valS v : Int) : Rat) * ratV mn md * (fracR ct A B).1 := if_neg hn
  rw [eQ] at KN1
  have KAdd := AddR (Vs.can fX (show 40 ≤ 999999 by omega)) (Vs.can fY (show 40 ≤ 999999 by omega))
  have fS : Fit 41 (mgI (valS v) (ratV mn md) ct A B + mgI (valS v) (ratV mn md) ct B C) := fit_plus fX fY
  have zS := fS.size
  have KO1 := OfF (Vs.can fS (by omega)) (by omega)
  have KO2 := OfF (Vs.can fZ (by omega)) (by omega)
  have KH1 := of45_any v45_1 v45_1 (by decide) (by decide) (show (1 : Int) ≠ 0 by decide)
  have fh1 : FitQ 1 (rat 1 1) := ⟨by decide +kernel, by decide +kernel⟩
  have fSq : FitQ 41 ((mgI (valS v) (ratV mn md) ct A B + mgI (valS v) (ratV mn md) ct B C : Int) : Rat) := FitQ.int fS (by omega)
  have fZq : FitQ 40 ((mgI (valS v) (ratV mn md) ct A C : Int) : Rat) := FitQ.int fZ (by omega)
  have hsum := mg_sum (v := valS v) (m := ratV mn md) (c := ct) (by omega) m6 m9
  have KN2 := near_true (Vq.fr fSq (by omega)) (Vq.fr fZq (by omega)) (Vq.fr fh1 (by omega)) (fSq.sub fZq) fh1 (by omega) (by rw [show rat 1 1 = 1 from rat_one 1]; exact hsum.1) (by rw [show rat 1 1 = 1 from rat_one 1]; exact hsum.2)
  unfold FV at *
  unfold FR at *
  generalize frN ((mgI (valS v) (ratV mn md) ct A B + mgI (valS v) (ratV mn md) ct B C : Int) : Rat) = sn at *
  generalize frD ((mgI (valS v) (ratV mn md) ct A B + mgI (valS v) (ratV mn md) ct B C : Int) : Rat) = sd at *
  generalize frN ((mgI (valS v) (ratV mn md) ct A C : Int) : Rat) = zn at *
  generalize frD ((mgI (valS v) (ratV mn md) ct A C : Int) : Rat) = zd at *
  generalize frN (rat 1 1) = on at *
  generalize frD (rat 1 1) = od at *
  generalize canS (mgI (valS v) (ratV mn md) ct A B + mgI (valS v) (ratV mn md) ct B C) = ss at *
  generalize cmpI (mgI (valS v) (ratV mn md) ct A B) 0 = cx at *
  generalize frN ((mgI (valS v) (ratV mn md) ct A B : Int) : Rat) = xn at *
  generalize frD ((mgI (valS v) (ratV mn md) ct A B : Int) : Rat) = xd at *
  generalize frN (rat 1 2) = hn_ at *
  generalize frD (rat 1 2) = hd_ at *
  generalize canS (mgI (valS v) (ratV mn md) ct A B) = xs at *
  generalize canS (mgI (valS v) (ratV mn md) ct B C) = ys at *
  generalize canS (mgI (valS v) (ratV mn md) ct A C) = zs at *
  generalize frN (((valS v : Int) : Rat) * ratV mn md * (fracR ct A B).1) = en at *
  generalize frD (((valS v : Int) : Rat) * ratV mn md * (fracR ct A B).1) = ed at *
  generalize frN (((valS v : Int) : Rat) * ratV mn md) = vmn at *
  generalize frD (((valS v : Int) : Rat) * ratV mn md) = vmd at *
  generalize frN (fracR ct A B).1 = fn at *
  generalize frD (fracR ct A B).1 = fd at *
  generalize frN ((valS v : Int) : Rat) = vn at *
  generalize frD ((valS v : Int) : Rat) = vd at *
  generalize cmpI (valS v) 0 = cv at *
  subst hc
  unfold tval at *
  dsimp only at *
  clear ht1 ht2 hT g1 y1 y2 y3 y4 hz s1 he1 he2 m1 m2 m3 m4 m5 m6 m7 m8 m9 he3 r1 r2 r3 r4 hm0 u1 u2 u3 va fv vm fm fp f1 fX fY fZ zX zY zZ fh fXq fQ hnear eQ hn fS zS fh1 fSq fZq hsum
  have hs := (St.refl hg).alloc (.cells #[.string mn, .string md, .string pn, .string pd, .int .i64 1] 54)
  have XT := Bx.new w #[.string mn, .string md, .string pn, .string pd, .int .i64 1] 54
  have a0 := XT.cell (i := 0) (v := .string mn) rfl
  have a1 := XT.cell (i := 1) (v := .string md) rfl
  have a2 := XT.cell (i := 2) (v := .string pn) rfl
  have a3 := XT.cell (i := 3) (v := .string pd) rfl
  have a4 := XT.cell (i := 4) (v := .int .i64 1) rfl
  have HR1 : Hid (∀ W : World, Row W none (flatG fncells ([] : List FnS))) := fun W i v hv => by simp [flatG] at hv
  have AW := awake45
  go_enter Tryz.func8, Tryz.ntmps8
  go_wp2_with fail
  clear a0 a1 a2 a3 a4
  refine KL1.step hs (HR1.out _) ?_
  intro w1 hs hb
  replace XT := XT.on hb
  go_wp2_with fail
  have HR2 : Hid (Row (w1.alloc (.cells #[.string v] 32)) (some ⟨w1.heap.size, 0, none⟩) ([v].map sv)) := Row.of (Bx.new w1 #[.string v] 32)
  replace XT := XT.alloc (.cells #[.string v] 32)
  replace hs := hs.alloc (.cells #[.string v] 32)
  refine (KL2 _).step hs HR2.out ?_
  intro w2 hs hb
  replace XT := XT.on hb
  have t0 := XT.cell (i := 0) (v := .string mn) rfl
  have t1 := XT.cell (i := 1) (v := .string md) rfl
  have t2 := XT.cell (i := 2) (v := .string pn) rfl
  have t3 := XT.cell (i := 3) (v := .string pd) rfl
  have t4 := XT.cell (i := 4) (v := .int .i64 1) rfl
  go_wp2_with fail
  refine K1.step hs ?_
  intro w3 hs hb
  clear t0 t1 t2 t3 t4
  replace XT := XT.on hb
  have t0 := XT.cell (i := 0) (v := .string mn) rfl
  have t1 := XT.cell (i := 1) (v := .string md) rfl
  have t2 := XT.cell (i := 2) (v := .string pn) rfl
  have t3 := XT.cell (i := 3) (v := .string pd) rfl
  have t4 := XT.cell (i := 4) (v := .int .i64 1) rfl
  go_wp2_with fail
  refine K2.step hs ?_
  intro w4 hs hb
  clear t0 t1 t2 t3 t4
  replace XT := XT.on hb
  have t0 := XT.cell (i := 0) (v := .string mn) rfl
  have t1 := XT.cell (i := 1) (v := .string md) rfl
  have t2 := XT.cell (i := 2) (v := .string pn) rfl
  have t3 := XT.cell (i := 3) (v := .string pd) rfl
  have t4 := XT.cell (i := 4) (v := .int .i64 1) rfl
  go_wp2_with fail
  refine K3.step hs ?_
  intro w5 hs hb
  clear t0 t1 t2 t3 t4
  replace XT := XT.on hb
  have t0 := XT.cell (i := 0) (v := .string mn) rfl
  have t1 := XT.cell (i := 1) (v := .string md) rfl
  have t2 := XT.cell (i := 2) (v := .string pn) rfl
  have t3 := XT.cell (i := 3) (v := .string pd) rfl
  have t4 := XT.cell (i := 4) (v := .int .i64 1) rfl
  go_wp2_with fail
  refine KF.step hs ?_
  intro w6 hs hb
  clear t0 t1 t2 t3 t4
  replace XT := XT.on hb
  replace XT := XT.alloc (.cells #[.string fn, .string fd] 34)
  replace hs := hs.alloc (.cells #[.string fn, .string fd] 34)
  have XF := Bx.new w6 #[.string fn, .string fd] 34
  go_wp2_with fail
  have lw : w.heap.size ≤ w6.heap.size + 1 := by have := hs.size; rwa [World.size_alloc] at this
  refine wp_region_fresh1 8 7 19 #[.string ⟨#[]⟩, .string ⟨#[]⟩] (by kernel_rfl) (by kernel_rfl) (by kernel_rfl) (by omega) rfl (by kernel_rfl) ⟨_, 19, _, rfl, rfl, rfl, fun _ _ => by simp [execOp, go_sem, ptrTo]; rfl⟩ ?_
  apply Exists.intro
  refine ⟨fun S W hne hk hcl => ?_, ?_⟩
  · simp only [List.take_succ_cons, List.take_zero, quietL, List.mem_cons, List.not_mem_nil, or_false, Nat.reduceAdd, Nat.reduceEqDiff, reduceIte, Nat.zero_add]
    have kk0 := XT.in hk (i := 0) (v := .string mn) rfl
    have kk1 := XT.in hk (i := 1) (v := .string md) rfl
    have kk2 := XF.in hk (i := 0) (v := .string fn) rfl
    have kk3 := XF.in hk (i := 1) (v := .string fd) rfl
    repeat (go_big_quiet_step (first | (with_reducible exact KO.fresh hs hk hcl) | (with_reducible exact KM1.fresh hs hk hcl) | (with_reducible exact KM2.fresh hs hk hcl)))
    exact wpQuiet_nil rfl
  intro b1 v1 hb1 hv1 hx1
  simp only [List.drop_succ_cons, List.drop_zero, ptrTo]
  have z0 := hx1.cell (i := 0) (v := .string ⟨#[]⟩) rfl
  have z1 := hx1.cell (i := 1) (v := .string ⟨#[]⟩) rfl
  have g0 := hx1.frozen 0
  have g1 := hx1.frozen 1
  go_wp2_with fail
  have lT := XT.lt
  have hbb : w6.heap.size + 1 ≤ b1 := by rw [World.size_alloc] at hb1; exact hb1
  rw [World.size_alloc] at lT
  replace hs := ((hs.on hv1).set (b := b1) (by omega) 0 (.string en)).set (b := b1) (by omega) 1 (.string ed)
  replace XT := ((XT.on hv1).other (c := b1) (by omega) 0 (.string en)).other (c := b1) (by omega) 1 (.string ed)
  have XE : Bx ((v1.setCell ⟨b1, 0, none⟩ (.string en)).setCell ⟨b1, 1, none⟩ (.string ed)) b1 #[.string en, .string ed] := (hx1.set 0 (.string en)).set 1 (.string ed)
  clear z0 z1 g0 g1 hx1 hv1 XF
  generalize (v1.setCell ⟨b1, 0, none⟩ (.string en)).setCell ⟨b1, 1, none⟩ (.string ed) = W8 at *
  refine KC.step hs ?_
  intro w8 hs hb
  replace XT := XT.on hb
  replace XE := XE.on hb
  have k0 := XE.keeps (i := 0) (v := .string en) rfl
  have k1 := XE.keeps (i := 1) (v := .string ed) rfl
  go_wp2_with fail
  refine wp_region_kept (by kernel_rfl) (by kernel_rfl) ?_
  repeat (go_big_quiet_step (first | (with_reducible exact KCx.kept hs) | (with_reducible exact KOx.kept hs) | (with_reducible exact KH.kept hs) | (with_reducible exact KN1.kept hs)))
  refine wpQuiet_nil ?_
  rintro _ ⟨u_, rfl⟩
  replace hs := hs.kept u_
  replace XT := XT.kept u_
  have t4 := XT.cell (i := 4) (v := .int .i64 1) rfl
  go_wp2_with fail
  refine KAdd.step hs ?_
  intro w9 hs hb
  go_wp2_with fail
  refine KO1.step hs ?_
  intro w9 hs hb
  go_wp2_with fail
  refine KO2.step hs ?_
  intro w9 hs hb
  go_wp2_with fail
  refine KH1.step hs ?_
  intro w9 hs hb
  go_wp2_with fail
  refine KN2.step hs ?_
  intro w9 hs hb
  go_wp2_with fail
  refine AW.step hs ?_
  intro w9 hs hb
  go_wp2_with fail
  go_ret
  exact ⟨rfl, hs.2⟩
set_option maxRecDepth 100000 in
set_option maxHeartbeats 4000000 in
theorem manl_p2 {mn md pn pd v : ByteArray} {ct A B C : Int} (hz : TermS.le 13 ⟨mn, md, pn, pd, ct⟩) (s1 : v.size ≤ 13) (ht1 : (lngT ⟨mn, md, pn, pd, ct⟩ || List.any ([] : List FnS) lngF) = false) (ht2 : List.any ([v] : List ByteArray) (fun s => decide (13 < s.size)) = false) (he1 : manE (⟨mn, md, pn, pd, ct⟩ : TermS) v A B = 0) (he2 : manE (⟨mn, md, pn, pd, ct⟩ : TermS) v B C = 0) (hn : ¬ valS v < 0) (hc : ct = 2) (w : World) (hg : Gl w) : Calls Tryz.prog 8 #[.agg #[.string mn, .string md, .string pn, .string pd, .int .i64 ct], .string v, .int .i64 A, .int .i64 B, .int .i64 C] w fun e w' => e = .returned (.bool true) ∧ Below w.heap.size w w' := by
  obtain ⟨y1, y2, y3, y4⟩ : mn.size ≤ 13 ∧ md.size ≤ 13 ∧ pn.size ≤ 13 ∧ pd.size ≤ 13 := hz
  have hT : TermS.big ⟨mn, md, pn, pd, ct⟩ := ⟨by dsimp only; omega, by dsimp only; omega, by dsimp only; omega, by dsimp only; omega⟩
  have hz : TermS.le 13 ⟨mn, md, pn, pd, ct⟩ := ⟨y1, y2, y3, y4⟩
  have g1 : v.size ≤ 9223372036854775807 := by omega
  have KL1 := longT_any (A := none) (n := 0) (c := 0) (l := []) hT rfl (by decide) (fun s hs => by simp at hs)
  have KL2 := fun b : Nat => long45_any (A := some ⟨b, 0, none⟩) (n := 1) (c := 1) (l := [v]) rfl (by decide) (fun s hs => by simp at hs; subst hs; exact g1)
  rw [ht1] at KL1
  rw [ht2] at KL2
  have K1 := man_any hz (v := v) (by omega) A B
  have K2 := man_any hz (v := v) (by omega) B C
  have K3 := man_any hz (v := v) (by omega) A C
  obtain ⟨m1, m2, m3, m4, m5, m6⟩ := man_zero he1
  obtain ⟨_, _, _, m7, m8, m9⟩ := man_zero he2
  have he3 : manE (⟨mn, md, pn, pd, ct⟩ : TermS) v A C = 0 := man_in m1 m2 m3 m7 (by omega)
  obtain ⟨r1, r2, r3, r4⟩ := term_zero m1
  have hm0 : 0 ≤ ratV mn md := (rate_zero r1).2.1
  have u1 : manR (⟨mn, md, pn, pd, ct⟩ : TermS) v A B = canS (mgI (valS v) (ratV mn md) ct A B) := if_pos he1
  have u2 : manR (⟨mn, md, pn, pd, ct⟩ : TermS) v B C = canS (mgI (valS v) (ratV mn md) ct B C) := if_pos he2
  have u3 : manR (⟨mn, md, pn, pd, ct⟩ : TermS) v A C = canS (mgI (valS v) (ratV mn md) ct A C) := if_pos he3
  rw [he1, u1] at K1
  rw [he2, u2] at K2
  rw [he3, u3] at K3
  have KF := Fraction_any ct A B
  dsimp only at m6 m9
  rw [m6] at KF
  have va := Vs.arg (s := v) (by omega)
  have fv : FitQ 13 ((valS v : Int) : Rat) := FitQ.int (Fit.val s1) (by omega)
  have vm := Vq.arg (n := mn) (d := md) (by omega) (by omega)
  have fm := FitQ.arg (n := mn) (d := md) (k := 13) y1 y2 (by omega)
  have fp := frac_fit ct A B
  have KO := OfF va (by omega)
  have KM1 := MulF (Vq.fr fv (by omega)) vm
  have f1 := fv.mul fm
  have KM2 := MulF (Vq.fr f1 (by omega)) (Vq.fr fp (by omega))
  have KC := CmpR va Vs.nil
  have qc : decide (cmpI (valS v) 0 < 0) = false := by rw [cmpI_lt]; exact decide_eq_false hn
  have fX : Fit 40 (mgI (valS v) (ratV mn md) ct A B) := Fit.mono (mg_fit fv fm) (by omega)
  have fY : Fit 40 (mgI (valS v) (ratV mn md) ct B C) := Fit.mono (mg_fit fv fm) (by omega)
  have fZ : Fit 40 (mgI (valS v) (ratV mn md) ct A C) := Fit.mono (mg_fit fv fm) (by omega)
  have zX := fX.size
  have zY := fY.size
  have zZ := fZ.size
  have KCx := CmpR (Vs.can fX (by omega)) Vs.nil
  have qx : decide (cmpI (mgI (valS v) (ratV mn md) ct A B) 0 < 0) = false := by rw [cmpI_lt]; exact decide_eq_false (by have := mg_nonneg (v := valS v) ct A B hm0; omega)
  have KOx := OfF (Vs.can fX (by omega)) (by omega)
  have KH := of45_any v45_1 Vs.two (by decide) (by decide) (show (2 : Int) ≠ 0 by decide)
  have fh : FitQ 1 (rat 1 2) := ⟨by decide +kernel, by decide +kernel⟩
  have fXq : FitQ 40 ((mgI (valS v) (ratV mn md) ct A B : Int) : Rat) := FitQ.int fX (by omega)
  have fQ : FitQ 39 (mgQ (valS v) (ratV mn md) ct A B) := (mgQ_fit fv fm).mono (by omega)
  have hnear := mg_near (valS v) (ratV mn md) ct A B
  have KN1 := near_true (Vq.fr fXq (by omega)) (Vq.fr fQ (by omega)) (Vq.fr fh (by omega)) (fXq.sub fQ) fh (by omega) (by rw [show rat 1 2 = 1 / 2 from rfl]; exact hnear.1) (by rw [show rat 1 2 = 1 / 2 from rfl]; exact hnear.2)
  have eQ : mgQ (valS v) (ratV mn md) ct A B = ((valS v : Int) : Rat) * ratV mn md * (fracR ct A B).1 := if_neg hn
  rw [eQ] at KN1
  have KAdd := AddR (Vs.can fX (show 40 ≤ 999999 by omega)) (Vs.can fY (show 40 ≤ 999999 by omega))
  have fS : Fit 41 (mgI (valS v) (ratV mn md) ct A B + mgI (valS v) (ratV mn md) ct B C) := fit_plus fX fY
  have zS := fS.size
  have KO1 := OfF (Vs.can fS (by omega)) (by omega)
  have KO2 := OfF (Vs.can fZ (by omega)) (by omega)
  have KH1 := of45_any v45_1 v45_1 (by decide) (by decide) (show (1 : Int) ≠ 0 by decide)
  have fh1 : FitQ 1 (rat 1 1) := ⟨by decide +kernel, by decide +kernel⟩
  have fSq : FitQ 41 ((mgI (valS v) (ratV mn md) ct A B + mgI (valS v) (ratV mn md) ct B C : Int) : Rat) := FitQ.int fS (by omega)
  have fZq : FitQ 40 ((mgI (valS v) (ratV mn md) ct A C : Int) : Rat) := FitQ.int fZ (by omega)
  have hsum := mg_sum (v := valS v) (m := ratV mn md) (c := ct) (by omega) m6 m9
  have KN2 := near_true (Vq.fr fSq (by omega)) (Vq.fr fZq (by omega)) (Vq.fr fh1 (by omega)) (fSq.sub fZq) fh1 (by omega) (by rw [show rat 1 1 = 1 from rat_one 1]; exact hsum.1) (by rw [show rat 1 1 = 1 from rat_one 1]; exact hsum.2)
  unfold FV at *
  unfold FR at *
  generalize frN ((mgI (valS v) (ratV mn md) ct A B + mgI (valS v) (ratV mn md) ct B C : Int) : Rat) = sn at *
  generalize frD ((mgI (valS v) (ratV mn md) ct A B + mgI (valS v) (ratV mn md) ct B C : Int) : Rat) = sd at *
  generalize frN ((mgI (valS v) (ratV mn md) ct A C : Int) : Rat) = zn at *
  generalize frD ((mgI (valS v) (ratV mn md) ct A C : Int) : Rat) = zd at *
  generalize frN (rat 1 1) = on at *
  generalize frD (rat 1 1) = od at *
  generalize canS (mgI (valS v) (ratV mn md) ct A B + mgI (valS v) (ratV mn md) ct B C) = ss at *
  generalize cmpI (mgI (valS v) (ratV mn md) ct A B) 0 = cx at *
  generalize frN ((mgI (valS v) (ratV mn md) ct A B : Int) : Rat) = xn at *
  generalize frD ((mgI (valS v) (ratV mn md) ct A B : Int) : Rat) = xd at *
  generalize frN (rat 1 2) = hn_ at *
  generalize frD (rat 1 2) = hd_ at *
  generalize canS (mgI (valS v) (ratV mn md) ct A B) = xs at *
  generalize canS (mgI (valS v) (ratV mn md) ct B C) = ys at *
  generalize canS (mgI (valS v) (ratV mn md) ct A C) = zs at *
  generalize frN (((valS v : Int) : Rat) * ratV mn md * (fracR ct A B).1) = en at *
  generalize frD (((valS v : Int) : Rat) * ratV mn md * (fracR ct A B).1) = ed at *
  generalize frN (((valS v : Int) : Rat) * ratV mn md) = vmn at *
  generalize frD (((valS v : Int) : Rat) * ratV mn md) = vmd at *
  generalize frN (fracR ct A B).1 = fn at *
  generalize frD (fracR ct A B).1 = fd at *
  generalize frN ((valS v : Int) : Rat) = vn at *
  generalize frD ((valS v : Int) : Rat) = vd at *
  generalize cmpI (valS v) 0 = cv at *
  subst hc
  unfold tval at *
  dsimp only at *
  clear ht1 ht2 hT g1 y1 y2 y3 y4 hz s1 he1 he2 m1 m2 m3 m4 m5 m6 m7 m8 m9 he3 r1 r2 r3 r4 hm0 u1 u2 u3 va fv vm fm fp f1 fX fY fZ zX zY zZ fh fXq fQ hnear eQ hn fS zS fh1 fSq fZq hsum
  have hs := (St.refl hg).alloc (.cells #[.string mn, .string md, .string pn, .string pd, .int .i64 2] 54)
  have XT := Bx.new w #[.string mn, .string md, .string pn, .string pd, .int .i64 2] 54
  have a0 := XT.cell (i := 0) (v := .string mn) rfl
  have a1 := XT.cell (i := 1) (v := .string md) rfl
  have a2 := XT.cell (i := 2) (v := .string pn) rfl
  have a3 := XT.cell (i := 3) (v := .string pd) rfl
  have a4 := XT.cell (i := 4) (v := .int .i64 2) rfl
  have HR1 : Hid (∀ W : World, Row W none (flatG fncells ([] : List FnS))) := fun W i v hv => by simp [flatG] at hv
  have AW := awake45
  go_enter Tryz.func8, Tryz.ntmps8
  go_wp2_with fail
  clear a0 a1 a2 a3 a4
  refine KL1.step hs (HR1.out _) ?_
  intro w1 hs hb
  replace XT := XT.on hb
  go_wp2_with fail
  have HR2 : Hid (Row (w1.alloc (.cells #[.string v] 32)) (some ⟨w1.heap.size, 0, none⟩) ([v].map sv)) := Row.of (Bx.new w1 #[.string v] 32)
  replace XT := XT.alloc (.cells #[.string v] 32)
  replace hs := hs.alloc (.cells #[.string v] 32)
  refine (KL2 _).step hs HR2.out ?_
  intro w2 hs hb
  replace XT := XT.on hb
  have t0 := XT.cell (i := 0) (v := .string mn) rfl
  have t1 := XT.cell (i := 1) (v := .string md) rfl
  have t2 := XT.cell (i := 2) (v := .string pn) rfl
  have t3 := XT.cell (i := 3) (v := .string pd) rfl
  have t4 := XT.cell (i := 4) (v := .int .i64 2) rfl
  go_wp2_with fail
  refine K1.step hs ?_
  intro w3 hs hb
  clear t0 t1 t2 t3 t4
  replace XT := XT.on hb
  have t0 := XT.cell (i := 0) (v := .string mn) rfl
  have t1 := XT.cell (i := 1) (v := .string md) rfl
  have t2 := XT.cell (i := 2) (v := .string pn) rfl
  have t3 := XT.cell (i := 3) (v := .string pd) rfl
  have t4 := XT.cell (i := 4) (v := .int .i64 2) rfl
  go_wp2_with fail
  refine K2.step hs ?_
  intro w4 hs hb
  clear t0 t1 t2 t3 t4
  replace XT := XT.on hb
  have t0 := XT.cell (i := 0) (v := .string mn) rfl
  have t1 := XT.cell (i := 1) (v := .string md) rfl
  have t2 := XT.cell (i := 2) (v := .string pn) rfl
  have t3 := XT.cell (i := 3) (v := .string pd) rfl
  have t4 := XT.cell (i := 4) (v := .int .i64 2) rfl
  go_wp2_with fail
  refine K3.step hs ?_
  intro w5 hs hb
  clear t0 t1 t2 t3 t4
  replace XT := XT.on hb
  have t0 := XT.cell (i := 0) (v := .string mn) rfl
  have t1 := XT.cell (i := 1) (v := .string md) rfl
  have t2 := XT.cell (i := 2) (v := .string pn) rfl
  have t3 := XT.cell (i := 3) (v := .string pd) rfl
  have t4 := XT.cell (i := 4) (v := .int .i64 2) rfl
  go_wp2_with fail
  refine KF.step hs ?_
  intro w6 hs hb
  clear t0 t1 t2 t3 t4
  replace XT := XT.on hb
  replace XT := XT.alloc (.cells #[.string fn, .string fd] 34)
  replace hs := hs.alloc (.cells #[.string fn, .string fd] 34)
  have XF := Bx.new w6 #[.string fn, .string fd] 34
  go_wp2_with fail
  have lw : w.heap.size ≤ w6.heap.size + 1 := by have := hs.size; rwa [World.size_alloc] at this
  refine wp_region_fresh1 8 7 19 #[.string ⟨#[]⟩, .string ⟨#[]⟩] (by kernel_rfl) (by kernel_rfl) (by kernel_rfl) (by omega) rfl (by kernel_rfl) ⟨_, 19, _, rfl, rfl, rfl, fun _ _ => by simp [execOp, go_sem, ptrTo]; rfl⟩ ?_
  apply Exists.intro
  refine ⟨fun S W hne hk hcl => ?_, ?_⟩
  · simp only [List.take_succ_cons, List.take_zero, quietL, List.mem_cons, List.not_mem_nil, or_false, Nat.reduceAdd, Nat.reduceEqDiff, reduceIte, Nat.zero_add]
    have kk0 := XT.in hk (i := 0) (v := .string mn) rfl
    have kk1 := XT.in hk (i := 1) (v := .string md) rfl
    have kk2 := XF.in hk (i := 0) (v := .string fn) rfl
    have kk3 := XF.in hk (i := 1) (v := .string fd) rfl
    repeat (go_big_quiet_step (first | (with_reducible exact KO.fresh hs hk hcl) | (with_reducible exact KM1.fresh hs hk hcl) | (with_reducible exact KM2.fresh hs hk hcl)))
    exact wpQuiet_nil rfl
  intro b1 v1 hb1 hv1 hx1
  simp only [List.drop_succ_cons, List.drop_zero, ptrTo]
  have z0 := hx1.cell (i := 0) (v := .string ⟨#[]⟩) rfl
  have z1 := hx1.cell (i := 1) (v := .string ⟨#[]⟩) rfl
  have g0 := hx1.frozen 0
  have g1 := hx1.frozen 1
  go_wp2_with fail
  have lT := XT.lt
  have hbb : w6.heap.size + 1 ≤ b1 := by rw [World.size_alloc] at hb1; exact hb1
  rw [World.size_alloc] at lT
  replace hs := ((hs.on hv1).set (b := b1) (by omega) 0 (.string en)).set (b := b1) (by omega) 1 (.string ed)
  replace XT := ((XT.on hv1).other (c := b1) (by omega) 0 (.string en)).other (c := b1) (by omega) 1 (.string ed)
  have XE : Bx ((v1.setCell ⟨b1, 0, none⟩ (.string en)).setCell ⟨b1, 1, none⟩ (.string ed)) b1 #[.string en, .string ed] := (hx1.set 0 (.string en)).set 1 (.string ed)
  clear z0 z1 g0 g1 hx1 hv1 XF
  generalize (v1.setCell ⟨b1, 0, none⟩ (.string en)).setCell ⟨b1, 1, none⟩ (.string ed) = W8 at *
  refine KC.step hs ?_
  intro w8 hs hb
  replace XT := XT.on hb
  replace XE := XE.on hb
  have k0 := XE.keeps (i := 0) (v := .string en) rfl
  have k1 := XE.keeps (i := 1) (v := .string ed) rfl
  go_wp2_with fail
  refine wp_region_kept (by kernel_rfl) (by kernel_rfl) ?_
  repeat (go_big_quiet_step (first | (with_reducible exact KCx.kept hs) | (with_reducible exact KOx.kept hs) | (with_reducible exact KH.kept hs) | (with_reducible exact KN1.kept hs)))
  refine wpQuiet_nil ?_
  rintro _ ⟨u_, rfl⟩
  replace hs := hs.kept u_
  replace XT := XT.kept u_
  have t4 := XT.cell (i := 4) (v := .int .i64 2) rfl
  go_wp2_with fail
  refine KAdd.step hs ?_
  intro w9 hs hb
  go_wp2_with fail
  refine KO1.step hs ?_
  intro w9 hs hb
  go_wp2_with fail
  refine KO2.step hs ?_
  intro w9 hs hb
  go_wp2_with fail
  refine KH1.step hs ?_
  intro w9 hs hb
  go_wp2_with fail
  refine KN2.step hs ?_
  intro w9 hs hb
  go_wp2_with fail
  refine AW.step hs ?_
  intro w9 hs hb
  go_wp2_with fail
  go_ret
  exact ⟨rfl, hs.2⟩
set_option maxRecDepth 100000 in
set_option maxHeartbeats 4000000 in
theorem manl_px {mn md pn pd v : ByteArray} {ct A B C : Int} (hz : TermS.le 13 ⟨mn, md, pn, pd, ct⟩) (s1 : v.size ≤ 13) (ht1 : (lngT ⟨mn, md, pn, pd, ct⟩ || List.any ([] : List FnS) lngF) = false) (ht2 : List.any ([v] : List ByteArray) (fun s => decide (13 < s.size)) = false) (he1 : manE (⟨mn, md, pn, pd, ct⟩ : TermS) v A B = 0) (he2 : manE (⟨mn, md, pn, pd, ct⟩ : TermS) v B C = 0) (hn : ¬ valS v < 0) (hc1 : ct ≠ 1) (hc2 : ct ≠ 2) (w : World) (hg : Gl w) : Calls Tryz.prog 8 #[.agg #[.string mn, .string md, .string pn, .string pd, .int .i64 ct], .string v, .int .i64 A, .int .i64 B, .int .i64 C] w fun e w' => e = .returned (.bool true) ∧ Below w.heap.size w w' := by
  obtain ⟨y1, y2, y3, y4⟩ : mn.size ≤ 13 ∧ md.size ≤ 13 ∧ pn.size ≤ 13 ∧ pd.size ≤ 13 := hz
  have hT : TermS.big ⟨mn, md, pn, pd, ct⟩ := ⟨by dsimp only; omega, by dsimp only; omega, by dsimp only; omega, by dsimp only; omega⟩
  have hz : TermS.le 13 ⟨mn, md, pn, pd, ct⟩ := ⟨y1, y2, y3, y4⟩
  have g1 : v.size ≤ 9223372036854775807 := by omega
  have KL1 := longT_any (A := none) (n := 0) (c := 0) (l := []) hT rfl (by decide) (fun s hs => by simp at hs)
  have KL2 := fun b : Nat => long45_any (A := some ⟨b, 0, none⟩) (n := 1) (c := 1) (l := [v]) rfl (by decide) (fun s hs => by simp at hs; subst hs; exact g1)
  rw [ht1] at KL1
  rw [ht2] at KL2
  have K1 := man_any hz (v := v) (by omega) A B
  have K2 := man_any hz (v := v) (by omega) B C
  have K3 := man_any hz (v := v) (by omega) A C
  obtain ⟨m1, m2, m3, m4, m5, m6⟩ := man_zero he1
  obtain ⟨_, _, _, m7, m8, m9⟩ := man_zero he2
  have he3 : manE (⟨mn, md, pn, pd, ct⟩ : TermS) v A C = 0 := man_in m1 m2 m3 m7 (by omega)
  obtain ⟨r1, r2, r3, r4⟩ := term_zero m1
  have hm0 : 0 ≤ ratV mn md := (rate_zero r1).2.1
  have u1 : manR (⟨mn, md, pn, pd, ct⟩ : TermS) v A B = canS (mgI (valS v) (ratV mn md) ct A B) := if_pos he1
  have u2 : manR (⟨mn, md, pn, pd, ct⟩ : TermS) v B C = canS (mgI (valS v) (ratV mn md) ct B C) := if_pos he2
  have u3 : manR (⟨mn, md, pn, pd, ct⟩ : TermS) v A C = canS (mgI (valS v) (ratV mn md) ct A C) := if_pos he3
  rw [he1, u1] at K1
  rw [he2, u2] at K2
  rw [he3, u3] at K3
  have KF := Fraction_any ct A B
  dsimp only at m6 m9
  rw [m6] at KF
  have va := Vs.arg (s := v) (by omega)
  have fv : FitQ 13 ((valS v : Int) : Rat) := FitQ.int (Fit.val s1) (by omega)
  have vm := Vq.arg (n := mn) (d := md) (by omega) (by omega)
  have fm := FitQ.arg (n := mn) (d := md) (k := 13) y1 y2 (by omega)
  have fp := frac_fit ct A B
  have KO := OfF va (by omega)
  have KM1 := MulF (Vq.fr fv (by omega)) vm
  have f1 := fv.mul fm
  have KM2 := MulF (Vq.fr f1 (by omega)) (Vq.fr fp (by omega))
  have KC := CmpR va Vs.nil
  have qc : decide (cmpI (valS v) 0 < 0) = false := by rw [cmpI_lt]; exact decide_eq_false hn
  have fX : Fit 40 (mgI (valS v) (ratV mn md) ct A B) := Fit.mono (mg_fit fv fm) (by omega)
  have fY : Fit 40 (mgI (valS v) (ratV mn md) ct B C) := Fit.mono (mg_fit fv fm) (by omega)
  have fZ : Fit 40 (mgI (valS v) (ratV mn md) ct A C) := Fit.mono (mg_fit fv fm) (by omega)
  have zX := fX.size
  have zY := fY.size
  have zZ := fZ.size
  have KCx := CmpR (Vs.can fX (by omega)) Vs.nil
  have qx : decide (cmpI (mgI (valS v) (ratV mn md) ct A B) 0 < 0) = false := by rw [cmpI_lt]; exact decide_eq_false (by have := mg_nonneg (v := valS v) ct A B hm0; omega)
  have KOx := OfF (Vs.can fX (by omega)) (by omega)
  have KH := of45_any v45_1 Vs.two (by decide) (by decide) (show (2 : Int) ≠ 0 by decide)
  have fh : FitQ 1 (rat 1 2) := ⟨by decide +kernel, by decide +kernel⟩
  have fXq : FitQ 40 ((mgI (valS v) (ratV mn md) ct A B : Int) : Rat) := FitQ.int fX (by omega)
  have fQ : FitQ 39 (mgQ (valS v) (ratV mn md) ct A B) := (mgQ_fit fv fm).mono (by omega)
  have hnear := mg_near (valS v) (ratV mn md) ct A B
  have KN1 := near_true (Vq.fr fXq (by omega)) (Vq.fr fQ (by omega)) (Vq.fr fh (by omega)) (fXq.sub fQ) fh (by omega) (by rw [show rat 1 2 = 1 / 2 from rfl]; exact hnear.1) (by rw [show rat 1 2 = 1 / 2 from rfl]; exact hnear.2)
  have eQ : mgQ (valS v) (ratV mn md) ct A B = ((valS v : Int) : Rat) * ratV mn md * (fracR ct A B).1 := if_neg hn
  rw [eQ] at KN1
  unfold FV at *
  unfold FR at *
  generalize cmpI (mgI (valS v) (ratV mn md) ct A B) 0 = cx at *
  generalize frN ((mgI (valS v) (ratV mn md) ct A B : Int) : Rat) = xn at *
  generalize frD ((mgI (valS v) (ratV mn md) ct A B : Int) : Rat) = xd at *
  generalize frN (rat 1 2) = hn_ at *
  generalize frD (rat 1 2) = hd_ at *
  generalize canS (mgI (valS v) (ratV mn md) ct A B) = xs at *
  generalize canS (mgI (valS v) (ratV mn md) ct B C) = ys at *
  generalize canS (mgI (valS v) (ratV mn md) ct A C) = zs at *
  generalize frN (((valS v : Int) : Rat) * ratV mn md * (fracR ct A B).1) = en at *
  generalize frD (((valS v : Int) : Rat) * ratV mn md * (fracR ct A B).1) = ed at *
  generalize frN (((valS v : Int) : Rat) * ratV mn md) = vmn at *
  generalize frD (((valS v : Int) : Rat) * ratV mn md) = vmd at *
  generalize frN (fracR ct A B).1 = fn at *
  generalize frD (fracR ct A B).1 = fd at *
  generalize frN ((valS v : Int) : Rat) = vn at *
  generalize frD ((valS v : Int) : Rat) = vd at *
  generalize cmpI (valS v) 0 = cv at *
  have qa : (ct != 1) = true := by simpa using hc1
  have qb : (ct != 2) = true := by simpa using hc2
  unfold tval at *
  dsimp only at *
  clear ht1 ht2 hT g1 y1 y2 y3 y4 hz s1 he1 he2 m1 m2 m3 m4 m5 m6 m7 m8 m9 he3 r1 r2 r3 r4 hm0 u1 u2 u3 va fv vm fm fp f1 fX fY fZ zX zY zZ fh fXq fQ hnear eQ hn hc1 hc2
  have hs := (St.refl hg).alloc (.cells #[.string mn, .string md, .string pn, .string pd, .int .i64 ct] 54)
  have XT := Bx.new w #[.string mn, .string md, .string pn, .string pd, .int .i64 ct] 54
  have a0 := XT.cell (i := 0) (v := .string mn) rfl
  have a1 := XT.cell (i := 1) (v := .string md) rfl
  have a2 := XT.cell (i := 2) (v := .string pn) rfl
  have a3 := XT.cell (i := 3) (v := .string pd) rfl
  have a4 := XT.cell (i := 4) (v := .int .i64 ct) rfl
  have HR1 : Hid (∀ W : World, Row W none (flatG fncells ([] : List FnS))) := fun W i v hv => by simp [flatG] at hv
  have AW := awake45
  go_enter Tryz.func8, Tryz.ntmps8
  go_wp2_with fail
  clear a0 a1 a2 a3 a4
  refine KL1.step hs (HR1.out _) ?_
  intro w1 hs hb
  replace XT := XT.on hb
  go_wp2_with fail
  have HR2 : Hid (Row (w1.alloc (.cells #[.string v] 32)) (some ⟨w1.heap.size, 0, none⟩) ([v].map sv)) := Row.of (Bx.new w1 #[.string v] 32)
  replace XT := XT.alloc (.cells #[.string v] 32)
  replace hs := hs.alloc (.cells #[.string v] 32)
  refine (KL2 _).step hs HR2.out ?_
  intro w2 hs hb
  replace XT := XT.on hb
  have t0 := XT.cell (i := 0) (v := .string mn) rfl
  have t1 := XT.cell (i := 1) (v := .string md) rfl
  have t2 := XT.cell (i := 2) (v := .string pn) rfl
  have t3 := XT.cell (i := 3) (v := .string pd) rfl
  have t4 := XT.cell (i := 4) (v := .int .i64 ct) rfl
  go_wp2_with fail
  refine K1.step hs ?_
  intro w3 hs hb
  clear t0 t1 t2 t3 t4
  replace XT := XT.on hb
  have t0 := XT.cell (i := 0) (v := .string mn) rfl
  have t1 := XT.cell (i := 1) (v := .string md) rfl
  have t2 := XT.cell (i := 2) (v := .string pn) rfl
  have t3 := XT.cell (i := 3) (v := .string pd) rfl
  have t4 := XT.cell (i := 4) (v := .int .i64 ct) rfl
  go_wp2_with fail
  refine K2.step hs ?_
  intro w4 hs hb
  clear t0 t1 t2 t3 t4
  replace XT := XT.on hb
  have t0 := XT.cell (i := 0) (v := .string mn) rfl
  have t1 := XT.cell (i := 1) (v := .string md) rfl
  have t2 := XT.cell (i := 2) (v := .string pn) rfl
  have t3 := XT.cell (i := 3) (v := .string pd) rfl
  have t4 := XT.cell (i := 4) (v := .int .i64 ct) rfl
  go_wp2_with fail
  refine K3.step hs ?_
  intro w5 hs hb
  clear t0 t1 t2 t3 t4
  replace XT := XT.on hb
  have t0 := XT.cell (i := 0) (v := .string mn) rfl
  have t1 := XT.cell (i := 1) (v := .string md) rfl
  have t2 := XT.cell (i := 2) (v := .string pn) rfl
  have t3 := XT.cell (i := 3) (v := .string pd) rfl
  have t4 := XT.cell (i := 4) (v := .int .i64 ct) rfl
  go_wp2_with fail
  refine KF.step hs ?_
  intro w6 hs hb
  clear t0 t1 t2 t3 t4
  replace XT := XT.on hb
  replace XT := XT.alloc (.cells #[.string fn, .string fd] 34)
  replace hs := hs.alloc (.cells #[.string fn, .string fd] 34)
  have XF := Bx.new w6 #[.string fn, .string fd] 34
  go_wp2_with fail
  have lw : w.heap.size ≤ w6.heap.size + 1 := by have := hs.size; rwa [World.size_alloc] at this
  refine wp_region_fresh1 8 7 19 #[.string ⟨#[]⟩, .string ⟨#[]⟩] (by kernel_rfl) (by kernel_rfl) (by kernel_rfl) (by omega) rfl (by kernel_rfl) ⟨_, 19, _, rfl, rfl, rfl, fun _ _ => by simp [execOp, go_sem, ptrTo]; rfl⟩ ?_
  apply Exists.intro
  refine ⟨fun S W hne hk hcl => ?_, ?_⟩
  · simp only [List.take_succ_cons, List.take_zero, quietL, List.mem_cons, List.not_mem_nil, or_false, Nat.reduceAdd, Nat.reduceEqDiff, reduceIte, Nat.zero_add]
    have kk0 := XT.in hk (i := 0) (v := .string mn) rfl
    have kk1 := XT.in hk (i := 1) (v := .string md) rfl
    have kk2 := XF.in hk (i := 0) (v := .string fn) rfl
    have kk3 := XF.in hk (i := 1) (v := .string fd) rfl
    repeat (go_big_quiet_step (first | (with_reducible exact KO.fresh hs hk hcl) | (with_reducible exact KM1.fresh hs hk hcl) | (with_reducible exact KM2.fresh hs hk hcl)))
    exact wpQuiet_nil rfl
  intro b1 v1 hb1 hv1 hx1
  simp only [List.drop_succ_cons, List.drop_zero, ptrTo]
  have z0 := hx1.cell (i := 0) (v := .string ⟨#[]⟩) rfl
  have z1 := hx1.cell (i := 1) (v := .string ⟨#[]⟩) rfl
  have g0 := hx1.frozen 0
  have g1 := hx1.frozen 1
  go_wp2_with fail
  have lT := XT.lt
  have hbb : w6.heap.size + 1 ≤ b1 := by rw [World.size_alloc] at hb1; exact hb1
  rw [World.size_alloc] at lT
  replace hs := ((hs.on hv1).set (b := b1) (by omega) 0 (.string en)).set (b := b1) (by omega) 1 (.string ed)
  replace XT := ((XT.on hv1).other (c := b1) (by omega) 0 (.string en)).other (c := b1) (by omega) 1 (.string ed)
  have XE : Bx ((v1.setCell ⟨b1, 0, none⟩ (.string en)).setCell ⟨b1, 1, none⟩ (.string ed)) b1 #[.string en, .string ed] := (hx1.set 0 (.string en)).set 1 (.string ed)
  clear z0 z1 g0 g1 hx1 hv1 XF
  generalize (v1.setCell ⟨b1, 0, none⟩ (.string en)).setCell ⟨b1, 1, none⟩ (.string ed) = W8 at *
  refine KC.step hs ?_
  intro w8 hs hb
  replace XT := XT.on hb
  replace XE := XE.on hb
  have k0 := XE.keeps (i := 0) (v := .string en) rfl
  have k1 := XE.keeps (i := 1) (v := .string ed) rfl
  go_wp2_with fail
  refine wp_region_kept (by kernel_rfl) (by kernel_rfl) ?_
  repeat (go_big_quiet_step (first | (with_reducible exact KCx.kept hs) | (with_reducible exact KOx.kept hs) | (with_reducible exact KH.kept hs) | (with_reducible exact KN1.kept hs)))
  refine wpQuiet_nil ?_
  rintro _ ⟨u_, rfl⟩
  replace hs := hs.kept u_
  replace XT := XT.kept u_
  have t4 := XT.cell (i := 4) (v := .int .i64 ct) rfl
  go_wp2_with fail
  refine AW.step hs ?_
  intro w9 hs hb
  go_wp2_with fail
  go_ret
  exact ⟨rfl, hs.2⟩
set_option maxRecDepth 100000 in
set_option maxHeartbeats 4000000 in
theorem manl_n1 {mn md pn pd v : ByteArray} {ct A B C : Int} (hz : TermS.le 13 ⟨mn, md, pn, pd, ct⟩) (s1 : v.size ≤ 13) (ht1 : (lngT ⟨mn, md, pn, pd, ct⟩ || List.any ([] : List FnS) lngF) = false) (ht2 : List.any ([v] : List ByteArray) (fun s => decide (13 < s.size)) = false) (he1 : manE (⟨mn, md, pn, pd, ct⟩ : TermS) v A B = 0) (he2 : manE (⟨mn, md, pn, pd, ct⟩ : TermS) v B C = 0) (hn : valS v < 0) (hc : ct = 1) (w : World) (hg : Gl w) : Calls Tryz.prog 8 #[.agg #[.string mn, .string md, .string pn, .string pd, .int .i64 ct], .string v, .int .i64 A, .int .i64 B, .int .i64 C] w fun e w' => e = .returned (.bool true) ∧ Below w.heap.size w w' := by
  obtain ⟨y1, y2, y3, y4⟩ : mn.size ≤ 13 ∧ md.size ≤ 13 ∧ pn.size ≤ 13 ∧ pd.size ≤ 13 := hz
  have hT : TermS.big ⟨mn, md, pn, pd, ct⟩ := ⟨by dsimp only; omega, by dsimp only; omega, by dsimp only; omega, by dsimp only; omega⟩
  have hz : TermS.le 13 ⟨mn, md, pn, pd, ct⟩ := ⟨y1, y2, y3, y4⟩
  have g1 : v.size ≤ 9223372036854775807 := by omega
  have KL1 := longT_any (A := none) (n := 0) (c := 0) (l := []) hT rfl (by decide) (fun s hs => by simp at hs)
  have KL2 := fun b : Nat => long45_any (A := some ⟨b, 0, none⟩) (n := 1) (c := 1) (l := [v]) rfl (by decide) (fun s hs => by simp at hs; subst hs; exact g1)
  rw [ht1] at KL1
  rw [ht2] at KL2
  have K1 := man_any hz (v := v) (by omega) A B
  have K2 := man_any hz (v := v) (by omega) B C
  have K3 := man_any hz (v := v) (by omega) A C
  obtain ⟨m1, m2, m3, m4, m5, m6⟩ := man_zero he1
  obtain ⟨_, _, _, m7, m8, m9⟩ := man_zero he2
  have he3 : manE (⟨mn, md, pn, pd, ct⟩ : TermS) v A C = 0 := man_in m1 m2 m3 m7 (by omega)
  obtain ⟨r1, r2, r3, r4⟩ := term_zero m1
  have hm0 : 0 ≤ ratV mn md := (rate_zero r1).2.1
  have u1 : manR (⟨mn, md, pn, pd, ct⟩ : TermS) v A B = canS (mgI (valS v) (ratV mn md) ct A B) := if_pos he1
  have u2 : manR (⟨mn, md, pn, pd, ct⟩ : TermS) v B C = canS (mgI (valS v) (ratV mn md) ct B C) := if_pos he2
  have u3 : manR (⟨mn, md, pn, pd, ct⟩ : TermS) v A C = canS (mgI (valS v) (ratV mn md) ct A C) := if_pos he3
  rw [he1, u1] at K1
  rw [he2, u2] at K2
  rw [he3, u3] at K3
  have KF := Fraction_any ct A B
  dsimp only at m6 m9
  rw [m6] at KF
  have va := Vs.arg (s := v) (by omega)
  have fv : FitQ 13 ((valS v : Int) : Rat) := FitQ.int (Fit.val s1) (by omega)
  have vm := Vq.arg (n := mn) (d := md) (by omega) (by omega)
  have fm := FitQ.arg (n := mn) (d := md) (k := 13) y1 y2 (by omega)
  have fp := frac_fit ct A B
  have KO := OfF va (by omega)
  have KM1 := MulF (Vq.fr fv (by omega)) vm
  have f1 := fv.mul fm
  have KM2 := MulF (Vq.fr f1 (by omega)) (Vq.fr fp (by omega))
  have KC := CmpR va Vs.nil
  have qc : decide (cmpI (valS v) 0 < 0) = true := by rw [cmpI_lt]; exact decide_eq_true hn
  have fX : Fit 40 (mgI (valS v) (ratV mn md) ct A B) := Fit.mono (mg_fit fv fm) (by omega)
  have fY : Fit 40 (mgI (valS v) (ratV mn md) ct B C) := Fit.mono (mg_fit fv fm) (by omega)
  have fZ : Fit 40 (mgI (valS v) (ratV mn md) ct A C) := Fit.mono (mg_fit fv fm) (by omega)
  have zX := fX.size
  have zY := fY.size
  have zZ := fZ.size
  have KCx := CmpR (Vs.can fX (by omega)) Vs.nil
  have qx : decide (cmpI (mgI (valS v) (ratV mn md) ct A B) 0 < 0) = false := by rw [cmpI_lt]; exact decide_eq_false (by have := mg_nonneg (v := valS v) ct A B hm0; omega)
  have KOx := OfF (Vs.can fX (by omega)) (by omega)
  have KH := of45_any v45_1 Vs.two (by decide) (by decide) (show (2 : Int) ≠ 0 by decide)
  have fh : FitQ 1 (rat 1 2) := ⟨by decide +kernel, by decide +kernel⟩
  have fXq : FitQ 40 ((mgI (valS v) (ratV mn md) ct A B : Int) : Rat) := FitQ.int fX (by omega)
  have fQ : FitQ 39 (mgQ (valS v) (ratV mn md) ct A B) := (mgQ_fit fv fm).mono (by omega)
  have hnear := mg_near (valS v) (ratV mn md) ct A B
  have KN1 := near_true (Vq.fr fXq (by omega)) (Vq.fr fQ (by omega)) (Vq.fr fh (by omega)) (fXq.sub fQ) fh (by omega) (by rw [show rat 1 2 = 1 / 2 from rfl]; exact hnear.1) (by rw [show rat 1 2 = 1 / 2 from rfl]; exact hnear.2)
  have eQ : mgQ (valS v) (ratV mn md) ct A B = 0 := if_pos hn
  rw [eQ] at KN1
  have KAdd := AddR (Vs.can fX (show 40 ≤ 999999 by omega)) (Vs.can fY (show 40 ≤ 999999 by omega))
  have fS : Fit 41 (mgI (valS v) (ratV mn md) ct A B + mgI (valS v) (ratV mn md) ct B C) := fit_plus fX fY
  have zS := fS.size
  have KO1 := OfF (Vs.can fS (by omega)) (by omega)
  have KO2 := OfF (Vs.can fZ (by omega)) (by omega)
  have KH1 := of45_any v45_1 v45_1 (by decide) (by decide) (show (1 : Int) ≠ 0 by decide)
  have fh1 : FitQ 1 (rat 1 1) := ⟨by decide +kernel, by decide +kernel⟩
  have fSq : FitQ 41 ((mgI (valS v) (ratV mn md) ct A B + mgI (valS v) (ratV mn md) ct B C : Int) : Rat) := FitQ.int fS (by omega)
  have fZq : FitQ 40 ((mgI (valS v) (ratV mn md) ct A C : Int) : Rat) := FitQ.int fZ (by omega)
  have hsum := mg_sum (v := valS v) (m := ratV mn md) (c := ct) (by omega) m6 m9
  have KN2 := near_true (Vq.fr fSq (by omega)) (Vq.fr fZq (by omega)) (Vq.fr fh1 (by omega)) (fSq.sub fZq) fh1 (by omega) (by rw [show rat 1 1 = 1 from rat_one 1]; exact hsum.1) (by rw [show rat 1 1 = 1 from rat_one 1]; exact hsum.2)
  unfold FV at *
  unfold FR at *
  rw [frN_zero, frD_zero] at KN1
  generalize frN ((mgI (valS v) (ratV mn md) ct A B + mgI (valS v) (ratV mn md) ct B C : Int) : Rat) = sn at *
  generalize frD ((mgI (valS v) (ratV mn md) ct A B + mgI (valS v) (ratV mn md) ct B C : Int) : Rat) = sd at *
  generalize frN ((mgI (valS v) (ratV mn md) ct A C : Int) : Rat) = zn at *
  generalize frD ((mgI (valS v) (ratV mn md) ct A C : Int) : Rat) = zd at *
  generalize frN (rat 1 1) = on at *
  generalize frD (rat 1 1) = od at *
  generalize canS (mgI (valS v) (ratV mn md) ct A B + mgI (valS v) (ratV mn md) ct B C) = ss at *
  generalize cmpI (mgI (valS v) (ratV mn md) ct A B) 0 = cx at *
  generalize frN ((mgI (valS v) (ratV mn md) ct A B : Int) : Rat) = xn at *
  generalize frD ((mgI (valS v) (ratV mn md) ct A B : Int) : Rat) = xd at *
  generalize frN (rat 1 2) = hn_ at *
  generalize frD (rat 1 2) = hd_ at *
  generalize canS (mgI (valS v) (ratV mn md) ct A B) = xs at *
  generalize canS (mgI (valS v) (ratV mn md) ct B C) = ys at *
  generalize canS (mgI (valS v) (ratV mn md) ct A C) = zs at *
  generalize frN (((valS v : Int) : Rat) * ratV mn md * (fracR ct A B).1) = en at *
  generalize frD (((valS v : Int) : Rat) * ratV mn md * (fracR ct A B).1) = ed at *
  generalize frN (((valS v : Int) : Rat) * ratV mn md) = vmn at *
  generalize frD (((valS v : Int) : Rat) * ratV mn md) = vmd at *
  generalize frN (fracR ct A B).1 = fn at *
  generalize frD (fracR ct A B).1 = fd at *
  generalize frN ((valS v : Int) : Rat) = vn at *
  generalize frD ((valS v : Int) : Rat) = vd at *
  generalize cmpI (valS v) 0 = cv at *
  subst hc
  unfold tval at *
  dsimp only at *
  clear ht1 ht2 hT g1 y1 y2 y3 y4 hz s1 he1 he2 m1 m2 m3 m4 m5 m6 m7 m8 m9 he3 r1 r2 r3 r4 hm0 u1 u2 u3 va fv vm fm fp f1 fX fY fZ zX zY zZ fh fXq fQ hnear eQ hn fS zS fh1 fSq fZq hsum
  have hs := (St.refl hg).alloc (.cells #[.string mn, .string md, .string pn, .string pd, .int .i64 1] 54)
  have XT := Bx.new w #[.string mn, .string md, .string pn, .string pd, .int .i64 1] 54
  have a0 := XT.cell (i := 0) (v := .string mn) rfl
  have a1 := XT.cell (i := 1) (v := .string md) rfl
  have a2 := XT.cell (i := 2) (v := .string pn) rfl
  have a3 := XT.cell (i := 3) (v := .string pd) rfl
  have a4 := XT.cell (i := 4) (v := .int .i64 1) rfl
  have HR1 : Hid (∀ W : World, Row W none (flatG fncells ([] : List FnS))) := fun W i v hv => by simp [flatG] at hv
  have AW := awake45
  go_enter Tryz.func8, Tryz.ntmps8
  go_wp2_with fail
  clear a0 a1 a2 a3 a4
  refine KL1.step hs (HR1.out _) ?_
  intro w1 hs hb
  replace XT := XT.on hb
  go_wp2_with fail
  have HR2 : Hid (Row (w1.alloc (.cells #[.string v] 32)) (some ⟨w1.heap.size, 0, none⟩) ([v].map sv)) := Row.of (Bx.new w1 #[.string v] 32)
  replace XT := XT.alloc (.cells #[.string v] 32)
  replace hs := hs.alloc (.cells #[.string v] 32)
  refine (KL2 _).step hs HR2.out ?_
  intro w2 hs hb
  replace XT := XT.on hb
  have t0 := XT.cell (i := 0) (v := .string mn) rfl
  have t1 := XT.cell (i := 1) (v := .string md) rfl
  have t2 := XT.cell (i := 2) (v := .string pn) rfl
  have t3 := XT.cell (i := 3) (v := .string pd) rfl
  have t4 := XT.cell (i := 4) (v := .int .i64 1) rfl
  go_wp2_with fail
  refine K1.step hs ?_
  intro w3 hs hb
  clear t0 t1 t2 t3 t4
  replace XT := XT.on hb
  have t0 := XT.cell (i := 0) (v := .string mn) rfl
  have t1 := XT.cell (i := 1) (v := .string md) rfl
  have t2 := XT.cell (i := 2) (v := .string pn) rfl
  have t3 := XT.cell (i := 3) (v := .string pd) rfl
  have t4 := XT.cell (i := 4) (v := .int .i64 1) rfl
  go_wp2_with fail
  refine K2.step hs ?_
  intro w4 hs hb
  clear t0 t1 t2 t3 t4
  replace XT := XT.on hb
  have t0 := XT.cell (i := 0) (v := .string mn) rfl
  have t1 := XT.cell (i := 1) (v := .string md) rfl
  have t2 := XT.cell (i := 2) (v := .string pn) rfl
  have t3 := XT.cell (i := 3) (v := .string pd) rfl
  have t4 := XT.cell (i := 4) (v := .int .i64 1) rfl
  go_wp2_with fail
  refine K3.step hs ?_
  intro w5 hs hb
  clear t0 t1 t2 t3 t4
  replace XT := XT.on hb
  have t0 := XT.cell (i := 0) (v := .string mn) rfl
  have t1 := XT.cell (i := 1) (v := .string md) rfl
  have t2 := XT.cell (i := 2) (v := .string pn) rfl
  have t3 := XT.cell (i := 3) (v := .string pd) rfl
  have t4 := XT.cell (i := 4) (v := .int .i64 1) rfl
  go_wp2_with fail
  refine KF.step hs ?_
  intro w6 hs hb
  clear t0 t1 t2 t3 t4
  replace XT := XT.on hb
  replace XT := XT.alloc (.cells #[.string fn, .string fd] 34)
  replace hs := hs.alloc (.cells #[.string fn, .string fd] 34)
  have XF := Bx.new w6 #[.string fn, .string fd] 34
  go_wp2_with fail
  have lw : w.heap.size ≤ w6.heap.size + 1 := by have := hs.size; rwa [World.size_alloc] at this
  refine wp_region_fresh1 8 7 19 #[.string ⟨#[]⟩, .string ⟨#[]⟩] (by kernel_rfl) (by kernel_rfl) (by kernel_rfl) (by omega) rfl (by kernel_rfl) ⟨_, 19, _, rfl, rfl, rfl, fun _ _ => by simp [execOp, go_sem, ptrTo]; rfl⟩ ?_
  apply Exists.intro
  refine ⟨fun S W hne hk hcl => ?_, ?_⟩
  · simp only [List.take_succ_cons, List.take_zero, quietL, List.mem_cons, List.not_mem_nil, or_false, Nat.reduceAdd, Nat.reduceEqDiff, reduceIte, Nat.zero_add]
    have kk0 := XT.in hk (i := 0) (v := .string mn) rfl
    have kk1 := XT.in hk (i := 1) (v := .string md) rfl
    have kk2 := XF.in hk (i := 0) (v := .string fn) rfl
    have kk3 := XF.in hk (i := 1) (v := .string fd) rfl
    repeat (go_big_quiet_step (first | (with_reducible exact KO.fresh hs hk hcl) | (with_reducible exact KM1.fresh hs hk hcl) | (with_reducible exact KM2.fresh hs hk hcl)))
    exact wpQuiet_nil rfl
  intro b1 v1 hb1 hv1 hx1
  simp only [List.drop_succ_cons, List.drop_zero, ptrTo]
  have z0 := hx1.cell (i := 0) (v := .string ⟨#[]⟩) rfl
  have z1 := hx1.cell (i := 1) (v := .string ⟨#[]⟩) rfl
  have g0 := hx1.frozen 0
  have g1 := hx1.frozen 1
  go_wp2_with fail
  have lT := XT.lt
  have hbb : w6.heap.size + 1 ≤ b1 := by rw [World.size_alloc] at hb1; exact hb1
  rw [World.size_alloc] at lT
  replace hs := ((hs.on hv1).set (b := b1) (by omega) 0 (.string en)).set (b := b1) (by omega) 1 (.string ed)
  replace XT := ((XT.on hv1).other (c := b1) (by omega) 0 (.string en)).other (c := b1) (by omega) 1 (.string ed)
  have XE : Bx ((v1.setCell ⟨b1, 0, none⟩ (.string en)).setCell ⟨b1, 1, none⟩ (.string ed)) b1 #[.string en, .string ed] := (hx1.set 0 (.string en)).set 1 (.string ed)
  clear z0 z1 g0 g1 hx1 hv1 XF
  generalize (v1.setCell ⟨b1, 0, none⟩ (.string en)).setCell ⟨b1, 1, none⟩ (.string ed) = W8 at *
  refine KC.step hs ?_
  intro w8 hs hb
  replace XT := XT.on hb
  replace XE := XE.on hb
  have z0 := XE.cell (i := 0) (v := .string en) rfl
  have z1 := XE.cell (i := 1) (v := .string ed) rfl
  have g0 := XE.frozen 0
  have g1 := XE.frozen 1
  go_wp2_with fail
  replace hs := (hs.set (b := b1) (by omega) 0 (.string ⟨#[]⟩)).set (b := b1) (by omega) 1 (.string ⟨#[]⟩)
  replace XT := (XT.other (c := b1) (by omega) 0 (.string ⟨#[]⟩)).other (c := b1) (by omega) 1 (.string ⟨#[]⟩)
  replace XE : Bx ((w8.setCell ⟨b1, 0, none⟩ (.string ⟨#[]⟩)).setCell ⟨b1, 1, none⟩ (.string ⟨#[]⟩)) b1 #[.string ⟨#[]⟩, .string ⟨#[]⟩] := (XE.set 0 (.string ⟨#[]⟩)).set 1 (.string ⟨#[]⟩)
  clear z0 z1 g0 g1
  generalize (w8.setCell ⟨b1, 0, none⟩ (.string ⟨#[]⟩)).setCell ⟨b1, 1, none⟩ (.string ⟨#[]⟩) = W9 at *
  have k0 := XE.keeps (i := 0) (v := .string ⟨#[]⟩) rfl
  have k1 := XE.keeps (i := 1) (v := .string ⟨#[]⟩) rfl
  refine wp_region_kept (by kernel_rfl) (by kernel_rfl) ?_
  repeat (go_big_quiet_step (first | (with_reducible exact KCx.kept hs) | (with_reducible exact KOx.kept hs) | (with_reducible exact KH.kept hs) | (with_reducible exact KN1.kept hs)))
  refine wpQuiet_nil ?_
  rintro _ ⟨u_, rfl⟩
  replace hs := hs.kept u_
  replace XT := XT.kept u_
  have t4 := XT.cell (i := 4) (v := .int .i64 1) rfl
  go_wp2_with fail
  refine KAdd.step hs ?_
  intro w9 hs hb
  go_wp2_with fail
  refine KO1.step hs ?_
  intro w9 hs hb
  go_wp2_with fail
  refine KO2.step hs ?_
  intro w9 hs hb
  go_wp2_with fail
  refine KH1.step hs ?_
  intro w9 hs hb
  go_wp2_with fail
  refine KN2.step hs ?_
  intro w9 hs hb
  go_wp2_with fail
  refine AW.step hs ?_
  intro w9 hs hb
  go_wp2_with fail
  go_ret
  exact ⟨rfl, hs.2⟩
set_option maxRecDepth 100000 in
set_option maxHeartbeats 4000000 in
theorem manl_n2 {mn md pn pd v : ByteArray} {ct A B C : Int} (hz : TermS.le 13 ⟨mn, md, pn, pd, ct⟩) (s1 : v.size ≤ 13) (ht1 : (lngT ⟨mn, md, pn, pd, ct⟩ || List.any ([] : List FnS) lngF) = false) (ht2 : List.any ([v] : List ByteArray) (fun s => decide (13 < s.size)) = false) (he1 : manE (⟨mn, md, pn, pd, ct⟩ : TermS) v A B = 0) (he2 : manE (⟨mn, md, pn, pd, ct⟩ : TermS) v B C = 0) (hn : valS v < 0) (hc : ct = 2) (w : World) (hg : Gl w) : Calls Tryz.prog 8 #[.agg #[.string mn, .string md, .string pn, .string pd, .int .i64 ct], .string v, .int .i64 A, .int .i64 B, .int .i64 C] w fun e w' => e = .returned (.bool true) ∧ Below w.heap.size w w' := by
  obtain ⟨y1, y2, y3, y4⟩ : mn.size ≤ 13 ∧ md.size ≤ 13 ∧ pn.size ≤ 13 ∧ pd.size ≤ 13 := hz
  have hT : TermS.big ⟨mn, md, pn, pd, ct⟩ := ⟨by dsimp only; omega, by dsimp only; omega, by dsimp only; omega, by dsimp only; omega⟩
  have hz : TermS.le 13 ⟨mn, md, pn, pd, ct⟩ := ⟨y1, y2, y3, y4⟩
  have g1 : v.size ≤ 9223372036854775807 := by omega
  have KL1 := longT_any (A := none) (n := 0) (c := 0) (l := []) hT rfl (by decide) (fun s hs => by simp at hs)
  have KL2 := fun b : Nat => long45_any (A := some ⟨b, 0, none⟩) (n := 1) (c := 1) (l := [v]) rfl (by decide) (fun s hs => by simp at hs; subst hs; exact g1)
  rw [ht1] at KL1
  rw [ht2] at KL2
  have K1 := man_any hz (v := v) (by omega) A B
  have K2 := man_any hz (v := v) (by omega) B C
  have K3 := man_any hz (v := v) (by omega) A C
  obtain ⟨m1, m2, m3, m4, m5, m6⟩ := man_zero he1
  obtain ⟨_, _, _, m7, m8, m9⟩ := man_zero he2
  have he3 : manE (⟨mn, md, pn, pd, ct⟩ : TermS) v A C = 0 := man_in m1 m2 m3 m7 (by omega)
  obtain ⟨r1, r2, r3, r4⟩ := term_zero m1
  have hm0 : 0 ≤ ratV mn md := (rate_zero r1).2.1
  have u1 : manR (⟨mn, md, pn, pd, ct⟩ : TermS) v A B = canS (mgI (valS v) (ratV mn md) ct A B) := if_pos he1
  have u2 : manR (⟨mn, md, pn, pd, ct⟩ : TermS) v B C = canS (mgI (valS v) (ratV mn md) ct B C) := if_pos he2
  have u3 : manR (⟨mn, md, pn, pd, ct⟩ : TermS) v A C = canS (mgI (valS v) (ratV mn md) ct A C) := if_pos he3
  rw [he1, u1] at K1
  rw [he2, u2] at K2
  rw [he3, u3] at K3
  have KF := Fraction_any ct A B
  dsimp only at m6 m9
  rw [m6] at KF
  have va := Vs.arg (s := v) (by omega)
  have fv : FitQ 13 ((valS v : Int) : Rat) := FitQ.int (Fit.val s1) (by omega)
  have vm := Vq.arg (n := mn) (d := md) (by omega) (by omega)
  have fm := FitQ.arg (n := mn) (d := md) (k := 13) y1 y2 (by omega)
  have fp := frac_fit ct A B
  have KO := OfF va (by omega)
  have KM1 := MulF (Vq.fr fv (by omega)) vm
  have f1 := fv.mul fm
  have KM2 := MulF (Vq.fr f1 (by omega)) (Vq.fr fp (by omega))
  have KC := CmpR va Vs.nil
  have qc : decide (cmpI (valS v) 0 < 0) = true := by rw [cmpI_lt]; exact decide_eq_true hn
  have fX : Fit 40 (mgI (valS v) (ratV mn md) ct A B) := Fit.mono (mg_fit fv fm) (by omega)
  have fY : Fit 40 (mgI (valS v) (ratV mn md) ct B C) := Fit.mono (mg_fit fv fm) (by omega)
  have fZ : Fit 40 (mgI (valS v) (ratV mn md) ct A C) := Fit.mono (mg_fit fv fm) (by omega)
  have zX := fX.size
  have zY := fY.size
  have zZ := fZ.size
  have KCx := CmpR (Vs.can fX (by omega)) Vs.nil
  have qx : decide (cmpI (mgI (valS v) (ratV mn md) ct A B) 0 < 0) = false := by rw [cmpI_lt]; exact decide_eq_false (by have := mg_nonneg (v := valS v) ct A B hm0; omega)
  have KOx := OfF (Vs.can fX (by omega)) (by omega)
  have KH := of45_any v45_1 Vs.two (by decide) (by decide) (show (2 : Int) ≠ 0 by decide)
  have fh : FitQ 1 (rat 1 2) := ⟨by decide +kernel, by decide +kernel⟩
  have fXq : FitQ 40 ((mgI (valS v) (ratV mn md) ct A B : Int) : Rat) := FitQ.int fX (by omega)
  have fQ : FitQ 39 (mgQ (valS v) (ratV mn md) ct A B) := (mgQ_fit fv fm).mono (by omega)
  have hnear := mg_near (valS v) (ratV mn md) ct A B
  have KN1 := near_true (Vq.fr fXq (by omega)) (Vq.fr fQ (by omega)) (Vq.fr fh (by omega)) (fXq.sub fQ) fh (by omega) (by rw [show rat 1 2 = 1 / 2 from rfl]; exact hnear.1) (by rw [show rat 1 2 = 1 / 2 from rfl]; exact hnear.2)
  have eQ : mgQ (valS v) (ratV mn md) ct A B = 0 := if_pos hn
  rw [eQ] at KN1
  have KAdd := AddR (Vs.can fX (show 40 ≤ 999999 by omega)) (Vs.can fY (show 40 ≤ 999999 by omega))
  have fS : Fit 41 (mgI (valS v) (ratV mn md) ct A B + mgI (valS v) (ratV mn md) ct B C) := fit_plus fX fY
  have zS := fS.size
  have KO1 := OfF (Vs.can fS (by omega)) (by omega)
  have KO2 := OfF (Vs.can fZ (by omega)) (by omega)
  have KH1 := of45_any v45_1 v45_1 (by decide) (by decide) (show (1 : Int) ≠ 0 by decide)
  have fh1 : FitQ 1 (rat 1 1) := ⟨by decide +kernel, by decide +kernel⟩
  have fSq : FitQ 41 ((mgI (valS v) (ratV mn md) ct A B + mgI (valS v) (ratV mn md) ct B C : Int) : Rat) := FitQ.int fS (by omega)
  have fZq : FitQ 40 ((mgI (valS v) (ratV mn md) ct A C : Int) : Rat) := FitQ.int fZ (by omega)
  have hsum := mg_sum (v := valS v) (m := ratV mn md) (c := ct) (by omega) m6 m9
  have KN2 := near_true (Vq.fr fSq (by omega)) (Vq.fr fZq (by omega)) (Vq.fr fh1 (by omega)) (fSq.sub fZq) fh1 (by omega) (by rw [show rat 1 1 = 1 from rat_one 1]; exact hsum.1) (by rw [show rat 1 1 = 1 from rat_one 1]; exact hsum.2)
  unfold FV at *
  unfold FR at *
  rw [frN_zero, frD_zero] at KN1
  generalize frN ((mgI (valS v) (ratV mn md) ct A B + mgI (valS v) (ratV mn md) ct B C : Int) : Rat) = sn at *
  generalize frD ((mgI (valS v) (ratV mn md) ct A B + mgI (valS v) (ratV mn md) ct B C : Int) : Rat) = sd at *
  generalize frN ((mgI (valS v) (ratV mn md) ct A C : Int) : Rat) = zn at *
  generalize frD ((mgI (valS v) (ratV mn md) ct A C : Int) : Rat) = zd at *
  generalize frN (rat 1 1) = on at *
  generalize frD (rat 1 1) = od at *
  generalize canS (mgI (valS v) (ratV mn md) ct A B + mgI (valS v) (ratV mn md) ct B C) = ss at *
  generalize cmpI (mgI (valS v) (ratV mn md) ct A B) 0 = cx at *
  generalize frN ((mgI (valS v) (ratV mn md) ct A B : Int) : Rat) = xn at *
  generalize frD ((mgI (valS v) (ratV mn md) ct A B : Int) : Rat) = xd at *
  generalize frN (rat 1 2) = hn_ at *
  generalize frD (rat 1 2) = hd_ at *
  generalize canS (mgI (valS v) (ratV mn md) ct A B) = xs at *
  generalize canS (mgI (valS v) (ratV mn md) ct B C) = ys at *
  generalize canS (mgI (valS v) (ratV mn md) ct A C) = zs at *
  generalize frN (((valS v : Int) : Rat) * ratV mn md * (fracR ct A B).1) = en at *
  generalize frD (((valS v : Int) : Rat) * ratV mn md * (fracR ct A B).1) = ed at *
  generalize frN (((valS v : Int) : Rat) * ratV mn md) = vmn at *
  generalize frD (((valS v : Int) : Rat) * ratV mn md) = vmd at *
  generalize frN (fracR ct A B).1 = fn at *
  generalize frD (fracR ct A B).1 = fd at *
  generalize frN ((valS v : Int) : Rat) = vn at *
  generalize frD ((valS v : Int) : Rat) = vd at *
  generalize cmpI (valS v) 0 = cv at *
  subst hc
  unfold tval at *
  dsimp only at *
  clear ht1 ht2 hT g1 y1 y2 y3 y4 hz s1 he1 he2 m1 m2 m3 m4 m5 m6 m7 m8 m9 he3 r1 r2 r3 r4 hm0 u1 u2 u3 va fv vm fm fp f1 fX fY fZ zX zY zZ fh fXq fQ hnear eQ hn fS zS fh1 fSq fZq hsum
  have hs := (St.refl hg).alloc (.cells #[.string mn, .string md, .string pn, .string pd, .int .i64 2] 54)
  have XT := Bx.new w #[.string mn, .string md, .string pn, .string pd, .int .i64 2] 54
  have a0 := XT.cell (i := 0) (v := .string mn) rfl
  have a1 := XT.cell (i := 1) (v := .string md) rfl
  have a2 := XT.cell (i := 2) (v := .string pn) rfl
  have a3 := XT.cell (i := 3) (v := .string pd) rfl
  have a4 := XT.cell (i := 4) (v := .int .i64 2) rfl
  have HR1 : Hid (∀ W : World, Row W none (flatG fncells ([] : List FnS))) := fun W i v hv => by simp [flatG] at hv
  have AW := awake45
  go_enter Tryz.func8, Tryz.ntmps8
  go_wp2_with fail
  clear a0 a1 a2 a3 a4
  refine KL1.step hs (HR1.out _) ?_
  intro w1 hs hb
  replace XT := XT.on hb
  go_wp2_with fail
  have HR2 : Hid (Row (w1.alloc (.cells #[.string v] 32)) (some ⟨w1.heap.size, 0, none⟩) ([v].map sv)) := Row.of (Bx.new w1 #[.string v] 32)
  replace XT := XT.alloc (.cells #[.string v] 32)
  replace hs := hs.alloc (.cells #[.string v] 32)
  refine (KL2 _).step hs HR2.out ?_
  intro w2 hs hb
  replace XT := XT.on hb
  have t0 := XT.cell (i := 0) (v := .string mn) rfl
  have t1 := XT.cell (i := 1) (v := .string md) rfl
  have t2 := XT.cell (i := 2) (v := .string pn) rfl
  have t3 := XT.cell (i := 3) (v := .string pd) rfl
  have t4 := XT.cell (i := 4) (v := .int .i64 2) rfl
  go_wp2_with fail
  refine K1.step hs ?_
  intro w3 hs hb
  clear t0 t1 t2 t3 t4
  replace XT := XT.on hb
  have t0 := XT.cell (i := 0) (v := .string mn) rfl
  have t1 := XT.cell (i := 1) (v := .string md) rfl
  have t2 := XT.cell (i := 2) (v := .string pn) rfl
  have t3 := XT.cell (i := 3) (v := .string pd) rfl
  have t4 := XT.cell (i := 4) (v := .int .i64 2) rfl
  go_wp2_with fail
  refine K2.step hs ?_
  intro w4 hs hb
  clear t0 t1 t2 t3 t4
  replace XT := XT.on hb
  have t0 := XT.cell (i := 0) (v := .string mn) rfl
  have t1 := XT.cell (i := 1) (v := .string md) rfl
  have t2 := XT.cell (i := 2) (v := .string pn) rfl
  have t3 := XT.cell (i := 3) (v := .string pd) rfl
  have t4 := XT.cell (i := 4) (v := .int .i64 2) rfl
  go_wp2_with fail
  refine K3.step hs ?_
  intro w5 hs hb
  clear t0 t1 t2 t3 t4
  replace XT := XT.on hb
  have t0 := XT.cell (i := 0) (v := .string mn) rfl
  have t1 := XT.cell (i := 1) (v := .string md) rfl
  have t2 := XT.cell (i := 2) (v := .string pn) rfl
  have t3 := XT.cell (i := 3) (v := .string pd) rfl
  have t4 := XT.cell (i := 4) (v := .int .i64 2) rfl
  go_wp2_with fail
  refine KF.step hs ?_
  intro w6 hs hb
  clear t0 t1 t2 t3 t4
  replace XT := XT.on hb
  replace XT := XT.alloc (.cells #[.string fn, .string fd] 34)
  replace hs := hs.alloc (.cells #[.string fn, .string fd] 34)
  have XF := Bx.new w6 #[.string fn, .string fd] 34
  go_wp2_with fail
  have lw : w.heap.size ≤ w6.heap.size + 1 := by have := hs.size; rwa [World.size_alloc] at this
  refine wp_region_fresh1 8 7 19 #[.string ⟨#[]⟩, .string ⟨#[]⟩] (by kernel_rfl) (by kernel_rfl) (by kernel_rfl) (by omega) rfl (by kernel_rfl) ⟨_, 19, _, rfl, rfl, rfl, fun _ _ => by simp [execOp, go_sem, ptrTo]; rfl⟩ ?_
  apply Exists.intro
  refine ⟨fun S W hne hk hcl => ?_, ?_⟩
  · simp only [List.take_succ_cons, List.take_zero, quietL, List.mem_cons, List.not_mem_nil, or_false, Nat.reduceAdd, Nat.reduceEqDiff, reduceIte, Nat.zero_add]
    have kk0 := XT.in hk (i := 0) (v := .string mn) rfl
    have kk1 := XT.in hk (i := 1) (v := .string md) rfl
    have kk2 := XF.in hk (i := 0) (v := .string fn) rfl
    have kk3 := XF.in hk (i := 1) (v := .string fd) rfl
    repeat (go_big_quiet_step (first | (with_reducible exact KO.fresh hs hk hcl) | (with_reducible exact KM1.fresh hs hk hcl) | (with_reducible exact KM2.fresh hs hk hcl)))
    exact wpQuiet_nil rfl
  intro b1 v1 hb1 hv1 hx1
  simp only [List.drop_succ_cons, List.drop_zero, ptrTo]
  have z0 := hx1.cell (i := 0) (v := .string ⟨#[]⟩) rfl
  have z1 := hx1.cell (i := 1) (v := .string ⟨#[]⟩) rfl
  have g0 := hx1.frozen 0
  have g1 := hx1.frozen 1
  go_wp2_with fail
  have lT := XT.lt
  have hbb : w6.heap.size + 1 ≤ b1 := by rw [World.size_alloc] at hb1; exact hb1
  rw [World.size_alloc] at lT
  replace hs := ((hs.on hv1).set (b := b1) (by omega) 0 (.string en)).set (b := b1) (by omega) 1 (.string ed)
  replace XT := ((XT.on hv1).other (c := b1) (by omega) 0 (.string en)).other (c := b1) (by omega) 1 (.string ed)
  have XE : Bx ((v1.setCell ⟨b1, 0, none⟩ (.string en)).setCell ⟨b1, 1, none⟩ (.string ed)) b1 #[.string en, .string ed] := (hx1.set 0 (.string en)).set 1 (.string ed)
  clear z0 z1 g0 g1 hx1 hv1 XF
  generalize (v1.setCell ⟨b1, 0, none⟩ (.string en)).setCell ⟨b1, 1, none⟩ (.string ed) = W8 at *
  refine KC.step hs ?_
  intro w8 hs hb
  replace XT := XT.on hb
  replace XE := XE.on hb
  have z0 := XE.cell (i := 0) (v := .string en) rfl
  have z1 := XE.cell (i := 1) (v := .string ed) rfl
  have g0 := XE.frozen 0
  have g1 := XE.frozen 1
  go_wp2_with fail
  replace hs := (hs.set (b := b1) (by omega) 0 (.string ⟨#[]⟩)).set (b := b1) (by omega) 1 (.string ⟨#[]⟩)
  replace XT := (XT.other (c := b1) (by omega) 0 (.string ⟨#[]⟩)).other (c := b1) (by omega) 1 (.string ⟨#[]⟩)
  replace XE : Bx ((w8.setCell ⟨b1, 0, none⟩ (.string ⟨#[]⟩)).setCell ⟨b1, 1, none⟩ (.string ⟨#[]⟩)) b1 #[.string ⟨#[]⟩, .string ⟨#[]⟩] := (XE.set 0 (.string ⟨#[]⟩)).set 1 (.string ⟨#[]⟩)
  clear z0 z1 g0 g1
  generalize (w8.setCell ⟨b1, 0, none⟩ (.string ⟨#[]⟩)).setCell ⟨b1, 1, none⟩ (.string ⟨#[]⟩) = W9 at *
  have k0 := XE.keeps (i := 0) (v := .string ⟨#[]⟩) rfl
  have k1 := XE.keeps (i := 1) (v := .string ⟨#[]⟩) rfl
  refine wp_region_kept (by kernel_rfl) (by kernel_rfl) ?_
  repeat (go_big_quiet_step (first | (with_reducible exact KCx.kept hs) | (with_reducible exact KOx.kept hs) | (with_reducible exact KH.kept hs) | (with_reducible exact KN1.kept hs)))
  refine wpQuiet_nil ?_
  rintro _ ⟨u_, rfl⟩
  replace hs := hs.kept u_
  replace XT := XT.kept u_
  have t4 := XT.cell (i := 4) (v := .int .i64 2) rfl
  go_wp2_with fail
  refine KAdd.step hs ?_
  intro w9 hs hb
  go_wp2_with fail
  refine KO1.step hs ?_
  intro w9 hs hb
  go_wp2_with fail
  refine KO2.step hs ?_
  intro w9 hs hb
  go_wp2_with fail
  refine KH1.step hs ?_
  intro w9 hs hb
  go_wp2_with fail
  refine KN2.step hs ?_
  intro w9 hs hb
  go_wp2_with fail
  refine AW.step hs ?_
  intro w9 hs hb
  go_wp2_with fail
  go_ret
  exact ⟨rfl, hs.2⟩
set_option maxRecDepth 100000 in
set_option maxHeartbeats 4000000 in
theorem manl_nx {mn md pn pd v : ByteArray} {ct A B C : Int} (hz : TermS.le 13 ⟨mn, md, pn, pd, ct⟩) (s1 : v.size ≤ 13) (ht1 : (lngT ⟨mn, md, pn, pd, ct⟩ || List.any ([] : List FnS) lngF) = false) (ht2 : List.any ([v] : List ByteArray) (fun s => decide (13 < s.size)) = false) (he1 : manE (⟨mn, md, pn, pd, ct⟩ : TermS) v A B = 0) (he2 : manE (⟨mn, md, pn, pd, ct⟩ : TermS) v B C = 0) (hn : valS v < 0) (hc1 : ct ≠ 1) (hc2 : ct ≠ 2) (w : World) (hg : Gl w) : Calls Tryz.prog 8 #[.agg #[.string mn, .string md, .string pn, .string pd, .int .i64 ct], .string v, .int .i64 A, .int .i64 B, .int .i64 C] w fun e w' => e = .returned (.bool true) ∧ Below w.heap.size w w' := by
  obtain ⟨y1, y2, y3, y4⟩ : mn.size ≤ 13 ∧ md.size ≤ 13 ∧ pn.size ≤ 13 ∧ pd.size ≤ 13 := hz
  have hT : TermS.big ⟨mn, md, pn, pd, ct⟩ := ⟨by dsimp only; omega, by dsimp only; omega, by dsimp only; omega, by dsimp only; omega⟩
  have hz : TermS.le 13 ⟨mn, md, pn, pd, ct⟩ := ⟨y1, y2, y3, y4⟩
  have g1 : v.size ≤ 9223372036854775807 := by omega
  have KL1 := longT_any (A := none) (n := 0) (c := 0) (l := []) hT rfl (by decide) (fun s hs => by simp at hs)
  have KL2 := fun b : Nat => long45_any (A := some ⟨b, 0, none⟩) (n := 1) (c := 1) (l := [v]) rfl (by decide) (fun s hs => by simp at hs; subst hs; exact g1)
  rw [ht1] at KL1
  rw [ht2] at KL2
  have K1 := man_any hz (v := v) (by omega) A B
  have K2 := man_any hz (v := v) (by omega) B C
  have K3 := man_any hz (v := v) (by omega) A C
  obtain ⟨m1, m2, m3, m4, m5, m6⟩ := man_zero he1
  obtain ⟨_, _, _, m7, m8, m9⟩ := man_zero he2
  have he3 : manE (⟨mn, md, pn, pd, ct⟩ : TermS) v A C = 0 := man_in m1 m2 m3 m7 (by omega)
  obtain ⟨r1, r2, r3, r4⟩ := term_zero m1
  have hm0 : 0 ≤ ratV mn md := (rate_zero r1).2.1
  have u1 : manR (⟨mn, md, pn, pd, ct⟩ : TermS) v A B = canS (mgI (valS v) (ratV mn md) ct A B) := if_pos he1
  have u2 : manR (⟨mn, md, pn, pd, ct⟩ : TermS) v B C = canS (mgI (valS v) (ratV mn md) ct B C) := if_pos he2
  have u3 : manR (⟨mn, md, pn, pd, ct⟩ : TermS) v A C = canS (mgI (valS v) (ratV mn md) ct A C) := if_pos he3
  rw [he1, u1] at K1
  rw [he2, u2] at K2
  rw [he3, u3] at K3
  have KF := Fraction_any ct A B
  dsimp only at m6 m9
  rw [m6] at KF
  have va := Vs.arg (s := v) (by omega)
  have fv : FitQ 13 ((valS v : Int) : Rat) := FitQ.int (Fit.val s1) (by omega)
  have vm := Vq.arg (n := mn) (d := md) (by omega) (by omega)
  have fm := FitQ.arg (n := mn) (d := md) (k := 13) y1 y2 (by omega)
  have fp := frac_fit ct A B
  have KO := OfF va (by omega)
  have KM1 := MulF (Vq.fr fv (by omega)) vm
  have f1 := fv.mul fm
  have KM2 := MulF (Vq.fr f1 (by omega)) (Vq.fr fp (by omega))
  have KC := CmpR va Vs.nil
  have qc : decide (cmpI (valS v) 0 < 0) = true := by rw [cmpI_lt]; exact decide_eq_true hn
  have fX : Fit 40 (mgI (valS v) (ratV mn md) ct A B) := Fit.mono (mg_fit fv fm) (by omega)
  have fY : Fit 40 (mgI (valS v) (ratV mn md) ct B C) := Fit.mono (mg_fit fv fm) (by omega)
  have fZ : Fit 40 (mgI (valS v) (ratV mn md) ct A C) := Fit.mono (mg_fit fv fm) (by omega)
  have zX := fX.size
  have zY := fY.size
  have zZ := fZ.size
  have KCx := CmpR (Vs.can fX (by omega)) Vs.nil
  have qx : decide (cmpI (mgI (valS v) (ratV mn md) ct A B) 0 < 0) = false := by rw [cmpI_lt]; exact decide_eq_false (by have := mg_nonneg (v := valS v) ct A B hm0; omega)
  have KOx := OfF (Vs.can fX (by omega)) (by omega)
  have KH := of45_any v45_1 Vs.two (by decide) (by decide) (show (2 : Int) ≠ 0 by decide)
  have fh : FitQ 1 (rat 1 2) := ⟨by decide +kernel, by decide +kernel⟩
  have fXq : FitQ 40 ((mgI (valS v) (ratV mn md) ct A B : Int) : Rat) := FitQ.int fX (by omega)
  have fQ : FitQ 39 (mgQ (valS v) (ratV mn md) ct A B) := (mgQ_fit fv fm).mono (by omega)
  have hnear := mg_near (valS v) (ratV mn md) ct A B
  have KN1 := near_true (Vq.fr fXq (by omega)) (Vq.fr fQ (by omega)) (Vq.fr fh (by omega)) (fXq.sub fQ) fh (by omega) (by rw [show rat 1 2 = 1 / 2 from rfl]; exact hnear.1) (by rw [show rat 1 2 = 1 / 2 from rfl]; exact hnear.2)
  have eQ : mgQ (valS v) (ratV mn md) ct A B = 0 := if_pos hn
  rw [eQ] at KN1
  unfold FV at *
  unfold FR at *
  rw [frN_zero, frD_zero] at KN1
  generalize cmpI (mgI (valS v) (ratV mn md) ct A B) 0 = cx at *
  generalize frN ((mgI (valS v) (ratV mn md) ct A B : Int) : Rat) = xn at *
  generalize frD ((mgI (valS v) (ratV mn md) ct A B : Int) : Rat) = xd at *
  generalize frN (rat 1 2) = hn_ at *
  generalize frD (rat 1 2) = hd_ at *
  generalize canS (mgI (valS v) (ratV mn md) ct A B) = xs at *
  generalize canS (mgI (valS v) (ratV mn md) ct B C) = ys at *
  generalize canS (mgI (valS v) (ratV mn md) ct A C) = zs at *
  generalize frN (((valS v : Int) : Rat) * ratV mn md * (fracR ct A B).1) = en at *
  generalize frD (((valS v : Int) : Rat) * ratV mn md * (fracR ct A B).1) = ed at *
  generalize frN (((valS v : Int) : Rat) * ratV mn md) = vmn at *
  generalize frD (((valS v : Int) : Rat) * ratV mn md) = vmd at *
  generalize frN (fracR ct A B).1 = fn at *
  generalize frD (fracR ct A B).1 = fd at *
  generalize frN ((valS v : Int) : Rat) = vn at *
  generalize frD ((valS v : Int) : Rat) = vd at *
  generalize cmpI (valS v) 0 = cv at *
  have qa : (ct != 1) = true := by simpa using hc1
  have qb : (ct != 2) = true := by simpa using hc2
  unfold tval at *
  dsimp only at *
  clear ht1 ht2 hT g1 y1 y2 y3 y4 hz s1 he1 he2 m1 m2 m3 m4 m5 m6 m7 m8 m9 he3 r1 r2 r3 r4 hm0 u1 u2 u3 va fv vm fm fp f1 fX fY fZ zX zY zZ fh fXq fQ hnear eQ hn hc1 hc2
  have hs := (St.refl hg).alloc (.cells #[.string mn, .string md, .string pn, .string pd, .int .i64 ct] 54)
  have XT := Bx.new w #[.string mn, .string md, .string pn, .string pd, .int .i64 ct] 54
  have a0 := XT.cell (i := 0) (v := .string mn) rfl
  have a1 := XT.cell (i := 1) (v := .string md) rfl
  have a2 := XT.cell (i := 2) (v := .string pn) rfl
  have a3 := XT.cell (i := 3) (v := .string pd) rfl
  have a4 := XT.cell (i := 4) (v := .int .i64 ct) rfl
  have HR1 : Hid (∀ W : World, Row W none (flatG fncells ([] : List FnS))) := fun W i v hv => by simp [flatG] at hv
  have AW := awake45
  go_enter Tryz.func8, Tryz.ntmps8
  go_wp2_with fail
  clear a0 a1 a2 a3 a4
  refine KL1.step hs (HR1.out _) ?_
  intro w1 hs hb
  replace XT := XT.on hb
  go_wp2_with fail
  have HR2 : Hid (Row (w1.alloc (.cells #[.string v] 32)) (some ⟨w1.heap.size, 0, none⟩) ([v].map sv)) := Row.of (Bx.new w1 #[.string v] 32)
  replace XT := XT.alloc (.cells #[.string v] 32)
  replace hs := hs.alloc (.cells #[.string v] 32)
  refine (KL2 _).step hs HR2.out ?_
  intro w2 hs hb
  replace XT := XT.on hb
  have t0 := XT.cell (i := 0) (v := .string mn) rfl
  have t1 := XT.cell (i := 1) (v := .string md) rfl
  have t2 := XT.cell (i := 2) (v := .string pn) rfl
  have t3 := XT.cell (i := 3) (v := .string pd) rfl
  have t4 := XT.cell (i := 4) (v := .int .i64 ct) rfl
  go_wp2_with fail
  refine K1.step hs ?_
  intro w3 hs hb
  clear t0 t1 t2 t3 t4
  replace XT := XT.on hb
  have t0 := XT.cell (i := 0) (v := .string mn) rfl
  have t1 := XT.cell (i := 1) (v := .string md) rfl
  have t2 := XT.cell (i := 2) (v := .string pn) rfl
  have t3 := XT.cell (i := 3) (v := .string pd) rfl
  have t4 := XT.cell (i := 4) (v := .int .i64 ct) rfl
  go_wp2_with fail
  refine K2.step hs ?_
  intro w4 hs hb
  clear t0 t1 t2 t3 t4
  replace XT := XT.on hb
  have t0 := XT.cell (i := 0) (v := .string mn) rfl
  have t1 := XT.cell (i := 1) (v := .string md) rfl
  have t2 := XT.cell (i := 2) (v := .string pn) rfl
  have t3 := XT.cell (i := 3) (v := .string pd) rfl
  have t4 := XT.cell (i := 4) (v := .int .i64 ct) rfl
  go_wp2_with fail
  refine K3.step hs ?_
  intro w5 hs hb
  clear t0 t1 t2 t3 t4
  replace XT := XT.on hb
  have t0 := XT.cell (i := 0) (v := .string mn) rfl
  have t1 := XT.cell (i := 1) (v := .string md) rfl
  have t2 := XT.cell (i := 2) (v := .string pn) rfl
  have t3 := XT.cell (i := 3) (v := .string pd) rfl
  have t4 := XT.cell (i := 4) (v := .int .i64 ct) rfl
  go_wp2_with fail
  refine KF.step hs ?_
  intro w6 hs hb
  clear t0 t1 t2 t3 t4
  replace XT := XT.on hb
  replace XT := XT.alloc (.cells #[.string fn, .string fd] 34)
  replace hs := hs.alloc (.cells #[.string fn, .string fd] 34)
  have XF := Bx.new w6 #[.string fn, .string fd] 34
  go_wp2_with fail
  have lw : w.heap.size ≤ w6.heap.size + 1 := by have := hs.size; rwa [World.size_alloc] at this
  refine wp_region_fresh1 8 7 19 #[.string ⟨#[]⟩, .string ⟨#[]⟩] (by kernel_rfl) (by kernel_rfl) (by kernel_rfl) (by omega) rfl (by kernel_rfl) ⟨_, 19, _, rfl, rfl, rfl, fun _ _ => by simp [execOp, go_sem, ptrTo]; rfl⟩ ?_
  apply Exists.intro
  refine ⟨fun S W hne hk hcl => ?_, ?_⟩
  · simp only [List.take_succ_cons, List.take_zero, quietL, List.mem_cons, List.not_mem_nil, or_false, Nat.reduceAdd, Nat.reduceEqDiff, reduceIte, Nat.zero_add]
    have kk0 := XT.in hk (i := 0) (v := .string mn) rfl
    have kk1 := XT.in hk (i := 1) (v := .string md) rfl
    have kk2 := XF.in hk (i := 0) (v := .string fn) rfl
    have kk3 := XF.in hk (i := 1) (v := .string fd) rfl
    repeat (go_big_quiet_step (first | (with_reducible exact KO.fresh hs hk hcl) | (with_reducible exact KM1.fresh hs hk hcl) | (with_reducible exact KM2.fresh hs hk hcl)))
    exact wpQuiet_nil rfl
  intro b1 v1 hb1 hv1 hx1
  simp only [List.drop_succ_cons, List.drop_zero, ptrTo]
  have z0 := hx1.cell (i := 0) (v := .string ⟨#[]⟩) rfl
  have z1 := hx1.cell (i := 1) (v := .string ⟨#[]⟩) rfl
  have g0 := hx1.frozen 0
  have g1 := hx1.frozen 1
  go_wp2_with fail
  have lT := XT.lt
  have hbb : w6.heap.size + 1 ≤ b1 := by rw [World.size_alloc] at hb1; exact hb1
  rw [World.size_alloc] at lT
  replace hs := ((hs.on hv1).set (b := b1) (by omega) 0 (.string en)).set (b := b1) (by omega) 1 (.string ed)
  replace XT := ((XT.on hv1).other (c := b1) (by omega) 0 (.string en)).other (c := b1) (by omega) 1 (.string ed)
  have XE : Bx ((v1.setCell ⟨b1, 0, none⟩ (.string en)).setCell ⟨b1, 1, none⟩ (.string ed)) b1 #[.string en, .string ed] := (hx1.set 0 (.string en)).set 1 (.string ed)
  clear z0 z1 g0 g1 hx1 hv1 XF
  generalize (v1.setCell ⟨b1, 0, none⟩ (.string en)).setCell ⟨b1, 1, none⟩ (.string ed) = W8 at *
  refine KC.step hs ?_
  intro w8 hs hb
  replace XT := XT.on hb
  replace XE := XE.on hb
  have z0 := XE.cell (i := 0) (v := .string en) rfl
  have z1 := XE.cell (i := 1) (v := .string ed) rfl
  have g0 := XE.frozen 0
  have g1 := XE.frozen 1
  go_wp2_with fail
  replace hs := (hs.set (b := b1) (by omega) 0 (.string ⟨#[]⟩)).set (b := b1) (by omega) 1 (.string ⟨#[]⟩)
  replace XT := (XT.other (c := b1) (by omega) 0 (.string ⟨#[]⟩)).other (c := b1) (by omega) 1 (.string ⟨#[]⟩)
  replace XE : Bx ((w8.setCell ⟨b1, 0, none⟩ (.string ⟨#[]⟩)).setCell ⟨b1, 1, none⟩ (.string ⟨#[]⟩)) b1 #[.string ⟨#[]⟩, .string ⟨#[]⟩] := (XE.set 0 (.string ⟨#[]⟩)).set 1 (.string ⟨#[]⟩)
  clear z0 z1 g0 g1
  generalize (w8.setCell ⟨b1, 0, none⟩ (.string ⟨#[]⟩)).setCell ⟨b1, 1, none⟩ (.string ⟨#[]⟩) = W9 at *
  have k0 := XE.keeps (i := 0) (v := .string ⟨#[]⟩) rfl
  have k1 := XE.keeps (i := 1) (v := .string ⟨#[]⟩) rfl
  refine wp_region_kept (by kernel_rfl) (by kernel_rfl) ?_
  repeat (go_big_quiet_step (first | (with_reducible exact KCx.kept hs) | (with_reducible exact KOx.kept hs) | (with_reducible exact KH.kept hs) | (with_reducible exact KN1.kept hs)))
  refine wpQuiet_nil ?_
  rintro _ ⟨u_, rfl⟩
  replace hs := hs.kept u_
  replace XT := XT.kept u_
  have t4 := XT.cell (i := 4) (v := .int .i64 ct) rfl
  go_wp2_with fail
  refine AW.step hs ?_
  intro w9 hs hb
  go_wp2_with fail
  go_ret
  exact ⟨rfl, hs.2⟩
theorem manl_any {mn md pn pd v : ByteArray} {ct A B C : Int} (hT : TermS.big ⟨mn, md, pn, pd, ct⟩) (g1 : v.size ≤ 9223372036854775807) (w : World) (hg : Gl w) : Calls Tryz.prog 8 #[.agg #[.string mn, .string md, .string pn, .string pd, .int .i64 ct], .string v, .int .i64 A, .int .i64 B, .int .i64 C] w fun e w' => e = .returned (.bool true) ∧ Below w.heap.size w w' := by
  cases ht1 : (lngT ⟨mn, md, pn, pd, ct⟩ || List.any ([] : List FnS) lngF) with
  | true => exact manl_long1 hT g1 ht1 w hg
  | false =>
    cases ht2 : List.any ([v] : List ByteArray) (fun s => decide (13 < s.size)) with
    | true => exact manl_long2 hT g1 ht1 ht2 w hg
    | false =>
      have h1 := ht1
      rw [Bool.or_eq_false_iff] at h1
      have hz := lngT_false h1.1
      have h2 : v.size ≤ 13 := by have := ht2; simp at this; exact this
      by_cases he1 : manE (⟨mn, md, pn, pd, ct⟩ : TermS) v A B = 0
      · by_cases he2 : manE (⟨mn, md, pn, pd, ct⟩ : TermS) v B C = 0
        · by_cases hn : valS v < 0
          · by_cases h1 : ct = 1
            · exact manl_n1 hz h2 ht1 ht2 he1 he2 hn h1 w hg
            · by_cases h2' : ct = 2
              · exact manl_n2 hz h2 ht1 ht2 he1 he2 hn h2' w hg
              · exact manl_nx hz h2 ht1 ht2 he1 he2 hn h1 h2' w hg
          · by_cases h1 : ct = 1
            · exact manl_p1 hz h2 ht1 ht2 he1 he2 hn h1 w hg
            · by_cases h2' : ct = 2
              · exact manl_p2 hz h2 ht1 ht2 he1 he2 hn h2' w hg
              · exact manl_px hz h2 ht1 ht2 he1 he2 hn h1 h2' w hg
        · exact manl_err2 hz h2 ht1 ht2 he1 he2 w hg
      · exact manl_err1 hz h2 ht1 ht2 he1 w hg
end Go.Proofs.YtgagjpjlnlandaaGreatDoor
