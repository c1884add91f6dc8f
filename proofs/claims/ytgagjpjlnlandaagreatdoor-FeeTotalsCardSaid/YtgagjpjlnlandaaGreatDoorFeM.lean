/- Fees: the walk of FeeMarks: for every input it returns true. Condition: the library's table and error lie as the program's text lays them. -/
import Derived.Test.YtgagjpjlnlandaaGreatDoorLw45
import Derived.Test.YtgagjpjlnlandaaGreatDoorFe4
namespace Go.Proofs.YtgagjpjlnlandaaGreatDoor
open Go.RowKit Go.Shelf Dec QQ

theorem chkF_fr (q : Rat) : chkF (frN q) (frD q) = 0 := by
  have := canB_fr q
  unfold canB at this
  exact eq_of_beq this
theorem pf_fit {v : Int} {p : Rat} {u : Int} {mk : Rat} {k : Nat} (h : FitQ k (p * ((v : Rat) - mk * (u : Rat)))) : Fit (k + 1) (pfI v p u mk) := by
  unfold pfI
  split
  · exact rnd_fit 1 h
  · exact Nat.pow_pos (show 0 < 10 by decide)
theorem cmpQ_lt45 {x y : Rat} : decide (cmpQ x y < 0) = decide (x < y) := decide_eq_decide.2 cmpQ_neg
set_option maxRecDepth 100000 in
set_option maxHeartbeats 4000000 in
theorem marks_long1 {mn md pn pd v u kn kd : ByteArray} {ct : Int} (hT : TermS.big ⟨mn, md, pn, pd, ct⟩) (g1 : v.size ≤ 9223372036854775807) (g2 : u.size ≤ 9223372036854775807) (g3 : kn.size ≤ 9223372036854775807) (g4 : kd.size ≤ 9223372036854775807) (ht1 : (lngT ⟨mn, md, pn, pd, ct⟩ || List.any ([⟨kn, kd⟩] : List FnS) lngF) = true)  (w : World) (hg : Gl w) : Calls Tryz.prog 9 #[.agg #[.string mn, .string md, .string pn, .string pd, .int .i64 ct], .string v, .string u, .agg #[.string kn, .string kd]] w fun e w' => e = .returned (.bool true) ∧ Below w.heap.size w w' := by
  have KL1 := longT_any (A := some ⟨w.heap.size + 2, 0, none⟩) (n := 1) (c := 1) (l := [⟨kn, kd⟩]) hT rfl (by decide) (fun s hs => by simp at hs; subst hs; exact ⟨g3, g4⟩)
  have KL2 := fun b : Nat => long45_any (A := some ⟨b, 0, none⟩) (n := 2) (c := 2) (l := [v, u]) rfl (by decide) (fun s hs => by
      simp at hs
      rcases hs with rfl | rfl
      · exact g1
      · exact g2
      )
  have hs := (((St.refl hg).alloc (.cells #[.string mn, .string md, .string pn, .string pd, .int .i64 ct] 54)).alloc (.cells #[.string kn, .string kd] 34)).alloc (.cells #[.string kn, .string kd] 34)
  have XT := ((Bx.new w #[.string mn, .string md, .string pn, .string pd, .int .i64 ct] 54).alloc (.cells #[.string kn, .string kd] 34)).alloc (.cells #[.string kn, .string kd] 34)
  have XM := (Bx.new1 w (.cells #[.string mn, .string md, .string pn, .string pd, .int .i64 ct] 54) #[.string kn, .string kd] 34).alloc (.cells #[.string kn, .string kd] 34)
  have XS := Bx.new2 w (.cells #[.string mn, .string md, .string pn, .string pd, .int .i64 ct] 54) (.cells #[.string kn, .string kd] 34) #[.string kn, .string kd] 34
  have a0 := ((Bx.new w #[.string mn, .string md, .string pn, .string pd, .int .i64 ct] 54).alloc (.cells #[.string kn, .string kd] 34)).cell (i := 0) (v := .string mn) rfl
  have a1 := ((Bx.new w #[.string mn, .string md, .string pn, .string pd, .int .i64 ct] 54).alloc (.cells #[.string kn, .string kd] 34)).cell (i := 1) (v := .string md) rfl
  have a2 := ((Bx.new w #[.string mn, .string md, .string pn, .string pd, .int .i64 ct] 54).alloc (.cells #[.string kn, .string kd] 34)).cell (i := 2) (v := .string pn) rfl
  have a3 := ((Bx.new w #[.string mn, .string md, .string pn, .string pd, .int .i64 ct] 54).alloc (.cells #[.string kn, .string kd] 34)).cell (i := 3) (v := .string pd) rfl
  have a4 := ((Bx.new w #[.string mn, .string md, .string pn, .string pd, .int .i64 ct] 54).alloc (.cells #[.string kn, .string kd] 34)).cell (i := 4) (v := .int .i64 ct) rfl
  have HR1 : Hid (Row (((w.alloc (.cells #[.string mn, .string md, .string pn, .string pd, .int .i64 ct] 54)).alloc (.cells #[.string kn, .string kd] 34)).alloc (.cells #[.string kn, .string kd] 34)) (some ⟨w.heap.size + 2, 0, none⟩) (flatG fncells [⟨kn, kd⟩])) := Row.of XS
  have AW := awake45
  rw [ht1] at KL1
  unfold tval at KL1
  dsimp only at KL1
  clear ht1  hT g1 g2 g3 g4 XS
  go_enter Tryz.func9, Tryz.ntmps9
  go_wp2_with fail
  clear a0 a1 a2 a3 a4
  refine KL1.step hs HR1.out ?_
  intro w1 hs hb
  replace XT := XT.on hb
  replace XM := XM.on hb
  go_wp2_with fail
  refine AW.step hs ?_
  intro w2 hs hb
  go_wp2_with fail
  go_ret
  exact ⟨rfl, hs.2⟩
set_option maxRecDepth 100000 in
set_option maxHeartbeats 4000000 in
theorem marks_long2 {mn md pn pd v u kn kd : ByteArray} {ct : Int} (hT : TermS.big ⟨mn, md, pn, pd, ct⟩) (g1 : v.size ≤ 9223372036854775807) (g2 : u.size ≤ 9223372036854775807) (g3 : kn.size ≤ 9223372036854775807) (g4 : kd.size ≤ 9223372036854775807) (ht1 : (lngT ⟨mn, md, pn, pd, ct⟩ || List.any ([⟨kn, kd⟩] : List FnS) lngF) = false) (ht2 : List.any ([v, u] : List ByteArray) (fun s => decide (13 < s.size)) = true) (w : World) (hg : Gl w) : Calls Tryz.prog 9 #[.agg #[.string mn, .string md, .string pn, .string pd, .int .i64 ct], .string v, .string u, .agg #[.string kn, .string kd]] w fun e w' => e = .returned (.bool true) ∧ Below w.heap.size w w' := by
  have KL1 := longT_any (A := some ⟨w.heap.size + 2, 0, none⟩) (n := 1) (c := 1) (l := [⟨kn, kd⟩]) hT rfl (by decide) (fun s hs => by simp at hs; subst hs; exact ⟨g3, g4⟩)
  have KL2 := fun b : Nat => long45_any (A := some ⟨b, 0, none⟩) (n := 2) (c := 2) (l := [v, u]) rfl (by decide) (fun s hs => by
      simp at hs
      rcases hs with rfl | rfl
      · exact g1
      · exact g2
      )
  have hs := (((St.refl hg).alloc (.cells #[.string mn, .string md, .string pn, .string pd, .int .i64 ct] 54)).alloc (.cells #[.string kn, .string kd] 34)).alloc (.cells #[.string kn, .string kd] 34)
  have XT := ((Bx.new w #[.string mn, .string md, .string pn, .string pd, .int .i64 ct] 54).alloc (.cells #[.string kn, .string kd] 34)).alloc (.cells #[.string kn, .string kd] 34)
  have XM := (Bx.new1 w (.cells #[.string mn, .string md, .string pn, .string pd, .int .i64 ct] 54) #[.string kn, .string kd] 34).alloc (.cells #[.string kn, .string kd] 34)
  have XS := Bx.new2 w (.cells #[.string mn, .string md, .string pn, .string pd, .int .i64 ct] 54) (.cells #[.string kn, .string kd] 34) #[.string kn, .string kd] 34
  have a0 := ((Bx.new w #[.string mn, .string md, .string pn, .string pd, .int .i64 ct] 54).alloc (.cells #[.string kn, .string kd] 34)).cell (i := 0) (v := .string mn) rfl
  have a1 := ((Bx.new w #[.string mn, .string md, .string pn, .string pd, .int .i64 ct] 54).alloc (.cells #[.string kn, .string kd] 34)).cell (i := 1) (v := .string md) rfl
  have a2 := ((Bx.new w #[.string mn, .string md, .string pn, .string pd, .int .i64 ct] 54).alloc (.cells #[.string kn, .string kd] 34)).cell (i := 2) (v := .string pn) rfl
  have a3 := ((Bx.new w #[.string mn, .string md, .string pn, .string pd, .int .i64 ct] 54).alloc (.cells #[.string kn, .string kd] 34)).cell (i := 3) (v := .string pd) rfl
  have a4 := ((Bx.new w #[.string mn, .string md, .string pn, .string pd, .int .i64 ct] 54).alloc (.cells #[.string kn, .string kd] 34)).cell (i := 4) (v := .int .i64 ct) rfl
  have HR1 : Hid (Row (((w.alloc (.cells #[.string mn, .string md, .string pn, .string pd, .int .i64 ct] 54)).alloc (.cells #[.string kn, .string kd] 34)).alloc (.cells #[.string kn, .string kd] 34)) (some ⟨w.heap.size + 2, 0, none⟩) (flatG fncells [⟨kn, kd⟩])) := Row.of XS
  have AW := awake45
  rw [ht1] at KL1
  rw [ht2] at KL2
  unfold tval at KL1
  dsimp only at KL1
  clear ht1 ht2 hT g1 g2 g3 g4 XS
  go_enter Tryz.func9, Tryz.ntmps9
  go_wp2_with fail
  clear a0 a1 a2 a3 a4
  refine KL1.step hs HR1.out ?_
  intro w1 hs hb
  replace XT := XT.on hb
  replace XM := XM.on hb
  go_wp2_with fail
  have HR2 : Hid (Row (w1.alloc (.cells #[.string v, .string u] 32)) (some ⟨w1.heap.size, 0, none⟩) ([v, u].map sv)) := Row.of (Bx.new w1 #[.string v, .string u] 32)
  replace XT := XT.alloc (.cells #[.string v, .string u] 32)
  replace XM := XM.alloc (.cells #[.string v, .string u] 32)
  replace hs := hs.alloc (.cells #[.string v, .string u] 32)
  refine (KL2 _).step hs HR2.out ?_
  intro w2 hs hb
  replace XT := XT.on hb
  replace XM := XM.on hb
  go_wp2_with fail
  refine AW.step hs ?_
  intro w3 hs hb
  go_wp2_with fail
  go_ret
  exact ⟨rfl, hs.2⟩
set_option maxRecDepth 100000 in
set_option maxHeartbeats 4000000 in
theorem marks_err {mn md pn pd v u kn kd : ByteArray} {ct : Int} (hz : TermS.le 13 ⟨mn, md, pn, pd, ct⟩) (s1 : v.size ≤ 13) (s2 : u.size ≤ 13) (s3 : kn.size ≤ 13) (s4 : kd.size ≤ 13) (ht1 : (lngT ⟨mn, md, pn, pd, ct⟩ || List.any ([⟨kn, kd⟩] : List FnS) lngF) = false) (ht2 : List.any ([v, u] : List ByteArray) (fun s => decide (13 < s.size)) = false) (he : pfE ⟨mn, md, pn, pd, ct⟩ v u kn kd ≠ 0) (w : World) (hg : Gl w) : Calls Tryz.prog 9 #[.agg #[.string mn, .string md, .string pn, .string pd, .int .i64 ct], .string v, .string u, .agg #[.string kn, .string kd]] w fun e w' => e = .returned (.bool true) ∧ Below w.heap.size w w' := by
  obtain ⟨y1, y2, y3, y4⟩ : mn.size ≤ 13 ∧ md.size ≤ 13 ∧ pn.size ≤ 13 ∧ pd.size ≤ 13 := hz
  have hT : TermS.big ⟨mn, md, pn, pd, ct⟩ := ⟨by dsimp only; omega, by dsimp only; omega, by dsimp only; omega, by dsimp only; omega⟩
  have hz : TermS.le 13 ⟨mn, md, pn, pd, ct⟩ := ⟨y1, y2, y3, y4⟩
  have g1 : v.size ≤ 9223372036854775807 := by omega
  have g2 : u.size ≤ 9223372036854775807 := by omega
  have g3 : kn.size ≤ 9223372036854775807 := by omega
  have g4 : kd.size ≤ 9223372036854775807 := by omega
  have KL1 := longT_any (A := some ⟨w.heap.size + 2, 0, none⟩) (n := 1) (c := 1) (l := [⟨kn, kd⟩]) hT rfl (by decide) (fun s hs => by simp at hs; subst hs; exact ⟨g3, g4⟩)
  have KL2 := fun b : Nat => long45_any (A := some ⟨b, 0, none⟩) (n := 2) (c := 2) (l := [v, u]) rfl (by decide) (fun s hs => by
      simp at hs
      rcases hs with rfl | rfl
      · exact g1
      · exact g2
      )
  rw [ht1] at KL1
  rw [ht2] at KL2
  have KP := pft_any hz (v := v) (u := u) (kn := kn) (kd := kd) (by omega) (by omega) (by omega) (by omega)
  have r1 : pfR ⟨mn, md, pn, pd, ct⟩ v u kn kd = ⟨#[]⟩ := if_neg he
  have r2 : pfQ ⟨mn, md, pn, pd, ct⟩ v u kn kd = 0 := if_neg he
  rw [r1, r2, FR_zero] at KP
  have q : (pfE ⟨mn, md, pn, pd, ct⟩ v u kn kd != 0) = true := by simpa using he
  generalize pfE ⟨mn, md, pn, pd, ct⟩ v u kn kd = pe at *
  unfold FV at KP
  unfold tval at *
  dsimp only at *
  clear ht1 ht2 hT g1 g2 g3 g4 y1 y2 y3 y4 hz s1 s2 s3 s4 he r1 r2
  have hs := (((St.refl hg).alloc (.cells #[.string mn, .string md, .string pn, .string pd, .int .i64 ct] 54)).alloc (.cells #[.string kn, .string kd] 34)).alloc (.cells #[.string kn, .string kd] 34)
  have XT := ((Bx.new w #[.string mn, .string md, .string pn, .string pd, .int .i64 ct] 54).alloc (.cells #[.string kn, .string kd] 34)).alloc (.cells #[.string kn, .string kd] 34)
  have XM := (Bx.new1 w (.cells #[.string mn, .string md, .string pn, .string pd, .int .i64 ct] 54) #[.string kn, .string kd] 34).alloc (.cells #[.string kn, .string kd] 34)
  have XS := Bx.new2 w (.cells #[.string mn, .string md, .string pn, .string pd, .int .i64 ct] 54) (.cells #[.string kn, .string kd] 34) #[.string kn, .string kd] 34
  have a0 := ((Bx.new w #[.string mn, .string md, .string pn, .string pd, .int .i64 ct] 54).alloc (.cells #[.string kn, .string kd] 34)).cell (i := 0) (v := .string mn) rfl
  have a1 := ((Bx.new w #[.string mn, .string md, .string pn, .string pd, .int .i64 ct] 54).alloc (.cells #[.string kn, .string kd] 34)).cell (i := 1) (v := .string md) rfl
  have a2 := ((Bx.new w #[.string mn, .string md, .string pn, .string pd, .int .i64 ct] 54).alloc (.cells #[.string kn, .string kd] 34)).cell (i := 2) (v := .string pn) rfl
  have a3 := ((Bx.new w #[.string mn, .string md, .string pn, .string pd, .int .i64 ct] 54).alloc (.cells #[.string kn, .string kd] 34)).cell (i := 3) (v := .string pd) rfl
  have a4 := ((Bx.new w #[.string mn, .string md, .string pn, .string pd, .int .i64 ct] 54).alloc (.cells #[.string kn, .string kd] 34)).cell (i := 4) (v := .int .i64 ct) rfl
  have HR1 : Hid (Row (((w.alloc (.cells #[.string mn, .string md, .string pn, .string pd, .int .i64 ct] 54)).alloc (.cells #[.string kn, .string kd] 34)).alloc (.cells #[.string kn, .string kd] 34)) (some ⟨w.heap.size + 2, 0, none⟩) (flatG fncells [⟨kn, kd⟩])) := Row.of XS
  have AW := awake45
  clear XS
  go_enter Tryz.func9, Tryz.ntmps9
  go_wp2_with fail
  clear a0 a1 a2 a3 a4
  refine KL1.step hs HR1.out ?_
  intro w1 hs hb
  replace XT := XT.on hb
  replace XM := XM.on hb
  go_wp2_with fail
  have HR2 : Hid (Row (w1.alloc (.cells #[.string v, .string u] 32)) (some ⟨w1.heap.size, 0, none⟩) ([v, u].map sv)) := Row.of (Bx.new w1 #[.string v, .string u] 32)
  replace XT := XT.alloc (.cells #[.string v, .string u] 32)
  replace XM := XM.alloc (.cells #[.string v, .string u] 32)
  replace hs := hs.alloc (.cells #[.string v, .string u] 32)
  refine (KL2 _).step hs HR2.out ?_
  intro w2 hs hb
  replace XT := XT.on hb
  replace XM := XM.on hb
  have t0 := XT.cell (i := 0) (v := .string mn) rfl
  have t1 := XT.cell (i := 1) (v := .string md) rfl
  have t2 := XT.cell (i := 2) (v := .string pn) rfl
  have t3 := XT.cell (i := 3) (v := .string pd) rfl
  have t4 := XT.cell (i := 4) (v := .int .i64 ct) rfl
  have m0 := XM.cell (i := 0) (v := .string kn) rfl
  have m1 := XM.cell (i := 1) (v := .string kd) rfl
  go_wp2_with fail
  refine KP.step hs ?_
  intro w3 hs hb
  clear t0 t1 t2 t3 t4 m0 m1
  have XQ := Bx.new w3 #[.string ⟨#[]⟩, .string ⟨#[]⟩] 34
  replace hs := hs.alloc (.cells #[.string ⟨#[]⟩, .string ⟨#[]⟩] 34)
  have q0 := XQ.cell (i := 0) (v := .string ⟨#[]⟩) rfl
  have q1 := XQ.cell (i := 1) (v := .string ⟨#[]⟩) rfl
  go_wp2_with fail
  refine AW.step hs ?_
  intro w4 hs hb
  go_wp2_with fail
  go_ret
  exact ⟨rfl, hs.2⟩
set_option maxRecDepth 100000 in
set_option maxHeartbeats 4000000 in
theorem marks_none {mn md pn pd v u kn kd : ByteArray} {ct : Int} (hz : TermS.le 13 ⟨mn, md, pn, pd, ct⟩) (s1 : v.size ≤ 13) (s2 : u.size ≤ 13) (s3 : kn.size ≤ 13) (s4 : kd.size ≤ 13) (ht1 : (lngT ⟨mn, md, pn, pd, ct⟩ || List.any ([⟨kn, kd⟩] : List FnS) lngF) = false) (ht2 : List.any ([v, u] : List ByteArray) (fun s => decide (13 < s.size)) = false) (he : pfE ⟨mn, md, pn, pd, ct⟩ v u kn kd = 0) (hn : ¬ 0 < ((valS v : Int) : Rat) - ratV kn kd * ((valS u : Int) : Rat)) (w : World) (hg : Gl w) : Calls Tryz.prog 9 #[.agg #[.string mn, .string md, .string pn, .string pd, .int .i64 ct], .string v, .string u, .agg #[.string kn, .string kd]] w fun e w' => e = .returned (.bool true) ∧ Below w.heap.size w w' := by
  obtain ⟨y1, y2, y3, y4⟩ : mn.size ≤ 13 ∧ md.size ≤ 13 ∧ pn.size ≤ 13 ∧ pd.size ≤ 13 := hz
  have hT : TermS.big ⟨mn, md, pn, pd, ct⟩ := ⟨by dsimp only; omega, by dsimp only; omega, by dsimp only; omega, by dsimp only; omega⟩
  have hz : TermS.le 13 ⟨mn, md, pn, pd, ct⟩ := ⟨y1, y2, y3, y4⟩
  have g1 : v.size ≤ 9223372036854775807 := by omega
  have g2 : u.size ≤ 9223372036854775807 := by omega
  have g3 : kn.size ≤ 9223372036854775807 := by omega
  have g4 : kd.size ≤ 9223372036854775807 := by omega
  have KL1 := longT_any (A := some ⟨w.heap.size + 2, 0, none⟩) (n := 1) (c := 1) (l := [⟨kn, kd⟩]) hT rfl (by decide) (fun s hs => by simp at hs; subst hs; exact ⟨g3, g4⟩)
  have KL2 := fun b : Nat => long45_any (A := some ⟨b, 0, none⟩) (n := 2) (c := 2) (l := [v, u]) rfl (by decide) (fun s hs => by
      simp at hs
      rcases hs with rfl | rfl
      · exact g1
      · exact g2
      )
  rw [ht1] at KL1
  rw [ht2] at KL2
  obtain ⟨c1, c2, c3⟩ := pf_zero he
  obtain ⟨d1, d2, d3, d4⟩ := cnt_zero c3
  obtain ⟨e1, e2, e3, e4⟩ := term_zero c1
  have p0 : 0 ≤ ratV pn pd := (rate_zero e2).2.1
  have KP := pft_any hz (v := v) (u := u) (kn := kn) (kd := kd) (by omega) (by omega) (by omega) (by omega)
  have r1 : pfR ⟨mn, md, pn, pd, ct⟩ v u kn kd = canS (pfI (valS v) (ratV pn pd) (valS u) (ratV kn kd)) := if_pos he
  have r2 : pfQ ⟨mn, md, pn, pd, ct⟩ v u kn kd = pfM (valS v) (ratV pn pd) (valS u) (ratV kn kd) := if_pos he
  rw [r1, r2, he] at KP
  have va := Vs.arg (s := v) (by omega)
  have vu := Vs.arg (s := u) (by omega)
  have vk := Vq.arg (n := kn) (d := kd) (by omega) (by omega)
  have fk := FitQ.arg (n := kn) (d := kd) (k := 13) s3 s4 (by omega)
  have fv : FitQ 13 ((valS v : Int) : Rat) := FitQ.int (Fit.val s1) (by omega)
  have fu : FitQ 13 ((valS u : Int) : Rat) := FitQ.int (Fit.val s2) (by omega)
  have fku := fk.mul fu
  have fo := fv.sub fku
  have vp := Vq.arg (n := pn) (d := pd) (by omega) (by omega)
  have fp := FitQ.arg (n := pn) (d := pd) (k := 13) y3 y4 (by omega)
  have fpo := fp.mul fo
  have fX : Fit 54 (pfI (valS v) (ratV pn pd) (valS u) (ratV kn kd)) := Fit.mono (pf_fit fpo) (by omega)
  have fR := Fit.subI (Fit.val s1) fX (by omega)
  have fpr := FitQ.rat fR (Fit.val s2) (by omega)
  have fM : FitQ 55 (pfM (valS v) (ratV pn pd) (valS u) (ratV kn kd)) := by
    unfold pfM
    split
    · exact fpr.mono (by omega)
    · exact fk.mono (by omega)
  have zX := fX.size
  have zR := fR.size
  have zM := FitQ.sizes fM
  have KS := SubR va (Vs.can fX (by omega))
  have KP2 := pft_any hz (v := canS (valS v - pfI (valS v) (ratV pn pd) (valS u) (ratV kn kd))) (u := u) (kn := frN (pfM (valS v) (ratV pn pd) (valS u) (ratV kn kd))) (kd := frD (pfM (valS v) (ratV pn pd) (valS u) (ratV kn kd))) (by omega) (by omega) (by omega) (by omega)
  have k0 : 0 ≤ pfM (valS v) (ratV pn pd) (valS u) (ratV kn kd) := Rat.le_trans d4 (pf_mark _ _ _ _).1
  have hcM : cntE u (frN (pfM (valS v) (ratV pn pd) (valS u) (ratV kn kd))) (frD (pfM (valS v) (ratV pn pd) (valS u) (ratV kn kd))) = 0 := by
    unfold cntE
    rw [if_neg (by rw [d1, chkF_fr]; simp), ratV_fr, if_neg (by rw [not_or]; exact ⟨by omega, Rat.not_lt.2 k0⟩)]
  have he2 : pfE ⟨mn, md, pn, pd, ct⟩ (canS (valS v - pfI (valS v) (ratV pn pd) (valS u) (ratV kn kd))) u (frN (pfM (valS v) (ratV pn pd) (valS u) (ratV kn kd))) (frD (pfM (valS v) (ratV pn pd) (valS u) (ratV kn kd))) = 0 := pf_in c1 (by rw [chk_zero, valS_canS]) hcM
  have r3 : pfR ⟨mn, md, pn, pd, ct⟩ (canS (valS v - pfI (valS v) (ratV pn pd) (valS u) (ratV kn kd))) u (frN (pfM (valS v) (ratV pn pd) (valS u) (ratV kn kd))) (frD (pfM (valS v) (ratV pn pd) (valS u) (ratV kn kd))) = ⟨#[]⟩ := by
    refine (if_pos he2).trans ?_
    rw [valS_canS, ratV_fr]
    show canS (pfI (valS v - pfI (valS v) (ratV pn pd) (valS u) (ratV kn kd)) (ratV pn pd) (valS u) (pfM (valS v) (ratV pn pd) (valS u) (ratV kn kd))) = _
    rw [(pf_again d3).1]
    exact canS_zero
  have r4 : pfQ ⟨mn, md, pn, pd, ct⟩ (canS (valS v - pfI (valS v) (ratV pn pd) (valS u) (ratV kn kd))) u (frN (pfM (valS v) (ratV pn pd) (valS u) (ratV kn kd))) (frD (pfM (valS v) (ratV pn pd) (valS u) (ratV kn kd))) = pfM (valS v) (ratV pn pd) (valS u) (ratV kn kd) := by
    refine (if_pos he2).trans ?_
    rw [valS_canS, ratV_fr]
    exact (pf_again d3).2
  rw [r3, r4, he2] at KP2
  have KC1 := CmpF (Vq.fr fM (by omega)) vk (fM.sub fk) (by omega)
  have qc1 : decide (cmpQ (pfM (valS v) (ratV pn pd) (valS u) (ratV kn kd)) (ratV kn kd) < 0) = false := by rw [cmpQ_lt45]; exact decide_eq_false (Rat.not_lt.2 (pf_mark _ _ _ _).1)
  have KC2 := CmpR (Vs.can fX (by omega)) Vs.nil
  have qc2 : decide (cmpI (pfI (valS v) (ratV pn pd) (valS u) (ratV kn kd)) 0 < 0) = false := by rw [cmpI_lt]; exact decide_eq_false (by have := pf_nonneg (v := valS v) (valS u) (ratV kn kd) p0; omega)
  have KO1 := OfF va (by omega)
  have KO2 := OfF vu (by omega)
  have KM := MulF vk (Vq.fr fu (by omega))
  have KG := SubF (Vq.fr fv (by omega)) (Vq.fr fku (by omega))
  have KC3 := CmpF (Vq.fr fo (by omega)) vq0 (fo.sub fit0) (by omega)
  have hk : frN (ratV kn kd) = kn ∧ frD (ratV kn kd) = kd := ⟨(FR_can d2).1.symm, (FR_can d2).2.symm⟩
  obtain ⟨n1, n2⟩ := pf_low (p := ratV pn pd) d3 hn
  have eq1 : canS (pfI (valS v) (ratV pn pd) (valS u) (ratV kn kd)) = ⟨#[]⟩ := by rw [n1]; exact canS_zero
  have eq2 : kn = frN (pfM (valS v) (ratV pn pd) (valS u) (ratV kn kd)) := by rw [n2]; exact hk.1.symm
  have eq3 : kd = frD (pfM (valS v) (ratV pn pd) (valS u) (ratV kn kd)) := by rw [n2]; exact hk.2.symm
  have qc3 : decide (cmpQ (((valS v : Int) : Rat) - ratV kn kd * ((valS u : Int) : Rat)) 0 ≤ 0) = true := cmpQ_leT (Rat.not_lt.1 hn)
  have E1 := Lib.hid eq1
  have E2 := Lib.hid eq2
  have E3 := Lib.hid eq3
  clear n1 n2 eq1 eq2 eq3
  try unfold FV at *
  try unfold FR at *
  generalize cmpQ (pfM (valS v) (ratV pn pd) (valS u) (ratV kn kd)) (ratV kn kd) = cc1 at *
  generalize cmpI (pfI (valS v) (ratV pn pd) (valS u) (ratV kn kd)) 0 = cc2 at *
  generalize cmpQ (((valS v : Int) : Rat) - ratV kn kd * ((valS u : Int) : Rat)) 0 = cc3 at *
  generalize canS (valS v - pfI (valS v) (ratV pn pd) (valS u) (ratV kn kd)) = rs at *
  generalize frN (((valS v : Int) : Rat) - ratV kn kd * ((valS u : Int) : Rat)) = on at *
  generalize frD (((valS v : Int) : Rat) - ratV kn kd * ((valS u : Int) : Rat)) = od at *
  generalize frN (ratV kn kd * ((valS u : Int) : Rat)) = xn at *
  generalize frD (ratV kn kd * ((valS u : Int) : Rat)) = xd at *
  generalize frN ((valS u : Int) : Rat) = un at *
  generalize frD ((valS u : Int) : Rat) = ud at *
  generalize frN ((valS v : Int) : Rat) = vn at *
  generalize frD ((valS v : Int) : Rat) = vd at *
  generalize frN (pfM (valS v) (ratV pn pd) (valS u) (ratV kn kd)) = qn at *
  generalize frD (pfM (valS v) (ratV pn pd) (valS u) (ratV kn kd)) = qd at *
  generalize canS (pfI (valS v) (ratV pn pd) (valS u) (ratV kn kd)) = xs at *
  have eq1 := E1.out
  have eq2 := E2.out
  have eq3 := E3.out
  subst eq1 eq2 eq3
  clear E1 E2 E3
  unfold tval at *
  dsimp only at *
  clear ht1 ht2 hT g1 g2 g3 g4 y1 y2 y3 y4 hz s1 s2 s3 s4 he c1 c2 c3 d1 d2 d3 d4 e1 e2 e3 e4 p0 r1 r2 va vu vk fk fv fu fku fo vp fp fpo fX fR fpr fM zX zR zM k0 hcM he2 r3 r4 hk hn
  have hs := (((St.refl hg).alloc (.cells #[.string mn, .string md, .string pn, .string pd, .int .i64 ct] 54)).alloc (.cells #[.string kn, .string kd] 34)).alloc (.cells #[.string kn, .string kd] 34)
  have XT := ((Bx.new w #[.string mn, .string md, .string pn, .string pd, .int .i64 ct] 54).alloc (.cells #[.string kn, .string kd] 34)).alloc (.cells #[.string kn, .string kd] 34)
  have XM := (Bx.new1 w (.cells #[.string mn, .string md, .string pn, .string pd, .int .i64 ct] 54) #[.string kn, .string kd] 34).alloc (.cells #[.string kn, .string kd] 34)
  have XS := Bx.new2 w (.cells #[.string mn, .string md, .string pn, .string pd, .int .i64 ct] 54) (.cells #[.string kn, .string kd] 34) #[.string kn, .string kd] 34
  have a0 := ((Bx.new w #[.string mn, .string md, .string pn, .string pd, .int .i64 ct] 54).alloc (.cells #[.string kn, .string kd] 34)).cell (i := 0) (v := .string mn) rfl
  have a1 := ((Bx.new w #[.string mn, .string md, .string pn, .string pd, .int .i64 ct] 54).alloc (.cells #[.string kn, .string kd] 34)).cell (i := 1) (v := .string md) rfl
  have a2 := ((Bx.new w #[.string mn, .string md, .string pn, .string pd, .int .i64 ct] 54).alloc (.cells #[.string kn, .string kd] 34)).cell (i := 2) (v := .string pn) rfl
  have a3 := ((Bx.new w #[.string mn, .string md, .string pn, .string pd, .int .i64 ct] 54).alloc (.cells #[.string kn, .string kd] 34)).cell (i := 3) (v := .string pd) rfl
  have a4 := ((Bx.new w #[.string mn, .string md, .string pn, .string pd, .int .i64 ct] 54).alloc (.cells #[.string kn, .string kd] 34)).cell (i := 4) (v := .int .i64 ct) rfl
  have HR1 : Hid (Row (((w.alloc (.cells #[.string mn, .string md, .string pn, .string pd, .int .i64 ct] 54)).alloc (.cells #[.string kn, .string kd] 34)).alloc (.cells #[.string kn, .string kd] 34)) (some ⟨w.heap.size + 2, 0, none⟩) (flatG fncells [⟨kn, kd⟩])) := Row.of XS
  have AW := awake45
  clear XS
  go_enter Tryz.func9, Tryz.ntmps9
  go_wp2_with fail
  clear a0 a1 a2 a3 a4
  refine KL1.step hs HR1.out ?_
  intro w1 hs hb
  replace XT := XT.on hb
  replace XM := XM.on hb
  go_wp2_with fail
  have HR2 : Hid (Row (w1.alloc (.cells #[.string v, .string u] 32)) (some ⟨w1.heap.size, 0, none⟩) ([v, u].map sv)) := Row.of (Bx.new w1 #[.string v, .string u] 32)
  replace XT := XT.alloc (.cells #[.string v, .string u] 32)
  replace XM := XM.alloc (.cells #[.string v, .string u] 32)
  replace hs := hs.alloc (.cells #[.string v, .string u] 32)
  refine (KL2 _).step hs HR2.out ?_
  intro w2 hs hb
  replace XT := XT.on hb
  replace XM := XM.on hb
  have t0 := XT.cell (i := 0) (v := .string mn) rfl
  have t1 := XT.cell (i := 1) (v := .string md) rfl
  have t2 := XT.cell (i := 2) (v := .string pn) rfl
  have t3 := XT.cell (i := 3) (v := .string pd) rfl
  have t4 := XT.cell (i := 4) (v := .int .i64 ct) rfl
  have m0 := XM.cell (i := 0) (v := .string kn) rfl
  have m1 := XM.cell (i := 1) (v := .string kd) rfl
  go_wp2_with fail
  refine KP.step hs ?_
  intro w3 hs hb
  clear t0 t1 t2 t3 t4 m0 m1
  replace XT := XT.on hb
  replace XM := XM.on hb
  replace XT := XT.alloc (.cells #[.string kn, .string kd] 34)
  replace XM := XM.alloc (.cells #[.string kn, .string kd] 34)
  replace hs := hs.alloc (.cells #[.string kn, .string kd] 34)
  have XQ := Bx.new w3 #[.string kn, .string kd] 34
  go_wp2_with fail
  refine KS.step hs ?_
  intro w4 hs hb
  replace XT := XT.on hb
  replace XM := XM.on hb
  replace XQ := XQ.on hb
  have t0 := XT.cell (i := 0) (v := .string mn) rfl
  have t1 := XT.cell (i := 1) (v := .string md) rfl
  have t2 := XT.cell (i := 2) (v := .string pn) rfl
  have t3 := XT.cell (i := 3) (v := .string pd) rfl
  have t4 := XT.cell (i := 4) (v := .int .i64 ct) rfl
  have p0 := XQ.cell (i := 0) (v := .string kn) rfl
  have p1 := XQ.cell (i := 1) (v := .string kd) rfl
  go_wp2_with fail
  refine KP2.step hs ?_
  intro w5 hs hb
  clear t0 t1 t2 t3 t4 p0 p1
  replace XT := XT.on hb
  replace XM := XM.on hb
  replace XQ := XQ.on hb
  replace XT := XT.alloc (.cells #[.string kn, .string kd] 34)
  replace XM := XM.alloc (.cells #[.string kn, .string kd] 34)
  replace XQ := XQ.alloc (.cells #[.string kn, .string kd] 34)
  replace hs := hs.alloc (.cells #[.string kn, .string kd] 34)
  have XR := Bx.new w5 #[.string kn, .string kd] 34
  have m0 := XM.cell (i := 0) (v := .string kn) rfl
  have m1 := XM.cell (i := 1) (v := .string kd) rfl
  have p0 := XQ.cell (i := 0) (v := .string kn) rfl
  have p1 := XQ.cell (i := 1) (v := .string kd) rfl
  have r0 := XR.cell (i := 0) (v := .string kn) rfl
  have r1 := XR.cell (i := 1) (v := .string kd) rfl
  go_wp2_with fail
  refine KC1.step hs ?_
  intro w6 hs hb
  clear m0 m1 p0 p1 r0 r1 XR
  replace XT := XT.on hb
  replace XM := XM.on hb
  replace XQ := XQ.on hb
  go_wp2_with fail
  refine KC2.step hs ?_
  intro w7 hs hb
  replace XT := XT.on hb
  replace XM := XM.on hb
  replace XQ := XQ.on hb
  go_wp2_with fail
  refine wp_region_fresh1 8 7 16 #[.string ⟨#[]⟩, .string ⟨#[]⟩] (by kernel_rfl) (by kernel_rfl) (by kernel_rfl) (by omega) rfl (by kernel_rfl) ⟨_, 16, _, rfl, rfl, rfl, fun _ _ => by simp [execOp, go_sem, ptrTo]; rfl⟩ ?_
  apply Exists.intro
  refine ⟨fun S W hne hk hcl => ?_, ?_⟩
  · simp only [List.take_succ_cons, List.take_zero, quietL, List.mem_cons, List.not_mem_nil, or_false, Nat.reduceAdd, Nat.reduceEqDiff, reduceIte, Nat.zero_add]
    have kk0 := XM.in hk (i := 0) (v := .string kn) rfl
    have kk1 := XM.in hk (i := 1) (v := .string kd) rfl
    repeat (go_big_quiet_step (first | (with_reducible exact KO1.fresh hs hk hcl) | (with_reducible exact KO2.fresh hs hk hcl) | (with_reducible exact KM.fresh hs hk hcl) | (with_reducible exact KG.fresh hs hk hcl)))
    exact wpQuiet_nil rfl
  intro b1 v1 hb1 hv1 hx1
  simp only [List.drop_succ_cons, List.drop_zero, ptrTo]
  have z0 := hx1.cell (i := 0) (v := .string ⟨#[]⟩) rfl
  have z1 := hx1.cell (i := 1) (v := .string ⟨#[]⟩) rfl
  have g0 := hx1.frozen 0
  have g1 := hx1.frozen 1
  go_wp2_with fail
  have lw : w.heap.size ≤ w7.heap.size := hs.size
  have lT := XT.lt
  have lM := XM.lt
  have lQ := XQ.lt
  replace hs := ((hs.on hv1).set (b := b1) (by omega) 0 (.string on)).set (b := b1) (by omega) 1 (.string od)
  replace XT := ((XT.on hv1).other (c := b1) (by omega) 0 (.string on)).other (c := b1) (by omega) 1 (.string od)
  replace XM := ((XM.on hv1).other (c := b1) (by omega) 0 (.string on)).other (c := b1) (by omega) 1 (.string od)
  replace XQ := ((XQ.on hv1).other (c := b1) (by omega) 0 (.string on)).other (c := b1) (by omega) 1 (.string od)
  have XG : Bx ((v1.setCell ⟨b1, 0, none⟩ (.string on)).setCell ⟨b1, 1, none⟩ (.string od)) b1 #[.string on, .string od] := (hx1.set 0 (.string on)).set 1 (.string od)
  clear z0 z1 g0 g1 hx1 hv1 lT lM lQ
  generalize (v1.setCell ⟨b1, 0, none⟩ (.string on)).setCell ⟨b1, 1, none⟩ (.string od) = W8 at *
  refine KC3.step hs ?_
  intro w8 hs hb
  replace XT := XT.on hb
  replace XM := XM.on hb
  replace XQ := XQ.on hb
  replace XG := XG.on hb
  have m0 := XM.cell (i := 0) (v := .string kn) rfl
  have m1 := XM.cell (i := 1) (v := .string kd) rfl
  have p0 := XQ.cell (i := 0) (v := .string kn) rfl
  have p1 := XQ.cell (i := 1) (v := .string kd) rfl
  go_wp2_with fail
  refine AW.step hs ?_
  intro w9 hs hb
  go_wp2_with fail
  go_ret
  exact ⟨rfl, hs.2⟩
set_option maxRecDepth 100000 in
set_option maxHeartbeats 4000000 in
theorem marks_gainp {mn md pn pd v u kn kd : ByteArray} {ct : Int} (hz : TermS.le 13 ⟨mn, md, pn, pd, ct⟩) (s1 : v.size ≤ 13) (s2 : u.size ≤ 13) (s3 : kn.size ≤ 13) (s4 : kd.size ≤ 13) (ht1 : (lngT ⟨mn, md, pn, pd, ct⟩ || List.any ([⟨kn, kd⟩] : List FnS) lngF) = false) (ht2 : List.any ([v, u] : List ByteArray) (fun s => decide (13 < s.size)) = false) (he : pfE ⟨mn, md, pn, pd, ct⟩ v u kn kd = 0) (hn : 0 < ((valS v : Int) : Rat) - ratV kn kd * ((valS u : Int) : Rat)) (hm : (pfM (valS v) (ratV pn pd) (valS u) (ratV kn kd) = rat (valS v - pfI (valS v) (ratV pn pd) (valS u) (ratV kn kd)) (valS u))) (w : World) (hg : Gl w) : Calls Tryz.prog 9 #[.agg #[.string mn, .string md, .string pn, .string pd, .int .i64 ct], .string v, .string u, .agg #[.string kn, .string kd]] w fun e w' => e = .returned (.bool true) ∧ Below w.heap.size w w' := by
  obtain ⟨y1, y2, y3, y4⟩ : mn.size ≤ 13 ∧ md.size ≤ 13 ∧ pn.size ≤ 13 ∧ pd.size ≤ 13 := hz
  have hT : TermS.big ⟨mn, md, pn, pd, ct⟩ := ⟨by dsimp only; omega, by dsimp only; omega, by dsimp only; omega, by dsimp only; omega⟩
  have hz : TermS.le 13 ⟨mn, md, pn, pd, ct⟩ := ⟨y1, y2, y3, y4⟩
  have g1 : v.size ≤ 9223372036854775807 := by omega
  have g2 : u.size ≤ 9223372036854775807 := by omega
  have g3 : kn.size ≤ 9223372036854775807 := by omega
  have g4 : kd.size ≤ 9223372036854775807 := by omega
  have KL1 := longT_any (A := some ⟨w.heap.size + 2, 0, none⟩) (n := 1) (c := 1) (l := [⟨kn, kd⟩]) hT rfl (by decide) (fun s hs => by simp at hs; subst hs; exact ⟨g3, g4⟩)
  have KL2 := fun b : Nat => long45_any (A := some ⟨b, 0, none⟩) (n := 2) (c := 2) (l := [v, u]) rfl (by decide) (fun s hs => by
      simp at hs
      rcases hs with rfl | rfl
      · exact g1
      · exact g2
      )
  rw [ht1] at KL1
  rw [ht2] at KL2
  obtain ⟨c1, c2, c3⟩ := pf_zero he
  obtain ⟨d1, d2, d3, d4⟩ := cnt_zero c3
  obtain ⟨e1, e2, e3, e4⟩ := term_zero c1
  have p0 : 0 ≤ ratV pn pd := (rate_zero e2).2.1
  have KP := pft_any hz (v := v) (u := u) (kn := kn) (kd := kd) (by omega) (by omega) (by omega) (by omega)
  have r1 : pfR ⟨mn, md, pn, pd, ct⟩ v u kn kd = canS (pfI (valS v) (ratV pn pd) (valS u) (ratV kn kd)) := if_pos he
  have r2 : pfQ ⟨mn, md, pn, pd, ct⟩ v u kn kd = pfM (valS v) (ratV pn pd) (valS u) (ratV kn kd) := if_pos he
  rw [r1, r2, he] at KP
  have va := Vs.arg (s := v) (by omega)
  have vu := Vs.arg (s := u) (by omega)
  have vk := Vq.arg (n := kn) (d := kd) (by omega) (by omega)
  have fk := FitQ.arg (n := kn) (d := kd) (k := 13) s3 s4 (by omega)
  have fv : FitQ 13 ((valS v : Int) : Rat) := FitQ.int (Fit.val s1) (by omega)
  have fu : FitQ 13 ((valS u : Int) : Rat) := FitQ.int (Fit.val s2) (by omega)
  have fku := fk.mul fu
  have fo := fv.sub fku
  have vp := Vq.arg (n := pn) (d := pd) (by omega) (by omega)
  have fp := FitQ.arg (n := pn) (d := pd) (k := 13) y3 y4 (by omega)
  have fpo := fp.mul fo
  have fX : Fit 54 (pfI (valS v) (ratV pn pd) (valS u) (ratV kn kd)) := Fit.mono (pf_fit fpo) (by omega)
  have fR := Fit.subI (Fit.val s1) fX (by omega)
  have fpr := FitQ.rat fR (Fit.val s2) (by omega)
  have fM : FitQ 55 (pfM (valS v) (ratV pn pd) (valS u) (ratV kn kd)) := by
    unfold pfM
    split
    · exact fpr.mono (by omega)
    · exact fk.mono (by omega)
  have zX := fX.size
  have zR := fR.size
  have zM := FitQ.sizes fM
  have KS := SubR va (Vs.can fX (by omega))
  have KP2 := pft_any hz (v := canS (valS v - pfI (valS v) (ratV pn pd) (valS u) (ratV kn kd))) (u := u) (kn := frN (pfM (valS v) (ratV pn pd) (valS u) (ratV kn kd))) (kd := frD (pfM (valS v) (ratV pn pd) (valS u) (ratV kn kd))) (by omega) (by omega) (by omega) (by omega)
  have k0 : 0 ≤ pfM (valS v) (ratV pn pd) (valS u) (ratV kn kd) := Rat.le_trans d4 (pf_mark _ _ _ _).1
  have hcM : cntE u (frN (pfM (valS v) (ratV pn pd) (valS u) (ratV kn kd))) (frD (pfM (valS v) (ratV pn pd) (valS u) (ratV kn kd))) = 0 := by
    unfold cntE
    rw [if_neg (by rw [d1, chkF_fr]; simp), ratV_fr, if_neg (by rw [not_or]; exact ⟨by omega, Rat.not_lt.2 k0⟩)]
  have he2 : pfE ⟨mn, md, pn, pd, ct⟩ (canS (valS v - pfI (valS v) (ratV pn pd) (valS u) (ratV kn kd))) u (frN (pfM (valS v) (ratV pn pd) (valS u) (ratV kn kd))) (frD (pfM (valS v) (ratV pn pd) (valS u) (ratV kn kd))) = 0 := pf_in c1 (by rw [chk_zero, valS_canS]) hcM
  have r3 : pfR ⟨mn, md, pn, pd, ct⟩ (canS (valS v - pfI (valS v) (ratV pn pd) (valS u) (ratV kn kd))) u (frN (pfM (valS v) (ratV pn pd) (valS u) (ratV kn kd))) (frD (pfM (valS v) (ratV pn pd) (valS u) (ratV kn kd))) = ⟨#[]⟩ := by
    refine (if_pos he2).trans ?_
    rw [valS_canS, ratV_fr]
    show canS (pfI (valS v - pfI (valS v) (ratV pn pd) (valS u) (ratV kn kd)) (ratV pn pd) (valS u) (pfM (valS v) (ratV pn pd) (valS u) (ratV kn kd))) = _
    rw [(pf_again d3).1]
    exact canS_zero
  have r4 : pfQ ⟨mn, md, pn, pd, ct⟩ (canS (valS v - pfI (valS v) (ratV pn pd) (valS u) (ratV kn kd))) u (frN (pfM (valS v) (ratV pn pd) (valS u) (ratV kn kd))) (frD (pfM (valS v) (ratV pn pd) (valS u) (ratV kn kd))) = pfM (valS v) (ratV pn pd) (valS u) (ratV kn kd) := by
    refine (if_pos he2).trans ?_
    rw [valS_canS, ratV_fr]
    exact (pf_again d3).2
  rw [r3, r4, he2] at KP2
  have KC1 := CmpF (Vq.fr fM (by omega)) vk (fM.sub fk) (by omega)
  have qc1 : decide (cmpQ (pfM (valS v) (ratV pn pd) (valS u) (ratV kn kd)) (ratV kn kd) < 0) = false := by rw [cmpQ_lt45]; exact decide_eq_false (Rat.not_lt.2 (pf_mark _ _ _ _).1)
  have KC2 := CmpR (Vs.can fX (by omega)) Vs.nil
  have qc2 : decide (cmpI (pfI (valS v) (ratV pn pd) (valS u) (ratV kn kd)) 0 < 0) = false := by rw [cmpI_lt]; exact decide_eq_false (by have := pf_nonneg (v := valS v) (valS u) (ratV kn kd) p0; omega)
  have KO1 := OfF va (by omega)
  have KO2 := OfF vu (by omega)
  have KM := MulF vk (Vq.fr fu (by omega))
  have KG := SubF (Vq.fr fv (by omega)) (Vq.fr fku (by omega))
  have KC3 := CmpF (Vq.fr fo (by omega)) vq0 (fo.sub fit0) (by omega)
  have hk : frN (ratV kn kd) = kn ∧ frD (ratV kn kd) = kd := ⟨(FR_can d2).1.symm, (FR_can d2).2.symm⟩
  have KN := NewF (Vs.can fR (by omega)) vu (by omega) (by omega) (show valS u ≠ 0 by omega)
  have fXq : FitQ 54 ((pfI (valS v) (ratV pn pd) (valS u) (ratV kn kd) : Int) : Rat) := FitQ.int fX (by omega)
  have KX := OfF (Vs.can fX (by omega)) (by omega)
  have KMp := MulF vp (Vq.fr fo (by omega))
  have KH := of45_any v45_1 Vs.two (by decide) (by decide) (show (2 : Int) ≠ 0 by decide)
  have fh : FitQ 1 (rat 1 2) := ⟨by decide +kernel, by decide +kernel⟩
  have hnear := pf_near (p := ratV pn pd) hn
  have KNear := near_true (Vq.fr fXq (by omega)) (Vq.fr fpo (by omega)) (Vq.fr fh (by decide)) (fXq.sub fpo) fh (by omega) (by rw [show rat 1 2 = 1 / 2 from rfl]; exact hnear.1) (by rw [show rat 1 2 = 1 / 2 from rfl]; exact hnear.2)
  have qc3 : decide (cmpQ (((valS v : Int) : Rat) - ratV kn kd * ((valS u : Int) : Rat)) 0 ≤ 0) = false := by
    apply decide_eq_false
    unfold cmpQ
    rw [if_neg (by grind), if_neg (by grind)]
    decide
  have eq2 : frN (rat (valS v - pfI (valS v) (ratV pn pd) (valS u) (ratV kn kd)) (valS u)) = frN (pfM (valS v) (ratV pn pd) (valS u) (ratV kn kd)) := by rw [hm]
  have eq3 : frD (rat (valS v - pfI (valS v) (ratV pn pd) (valS u) (ratV kn kd)) (valS u)) = frD (pfM (valS v) (ratV pn pd) (valS u) (ratV kn kd)) := by rw [hm]
  have E2 := Lib.hid eq2
  have E3 := Lib.hid eq3
  clear eq2 eq3 hnear
  unfold FV at *
  unfold FR at *
  generalize frN (ratV pn pd * (((valS v : Int) : Rat) - ratV kn kd * ((valS u : Int) : Rat))) = wn at *
  generalize frD (ratV pn pd * (((valS v : Int) : Rat) - ratV kn kd * ((valS u : Int) : Rat))) = wd at *
  generalize frN ((pfI (valS v) (ratV pn pd) (valS u) (ratV kn kd) : Int) : Rat) = bn at *
  generalize frD ((pfI (valS v) (ratV pn pd) (valS u) (ratV kn kd) : Int) : Rat) = bd at *
  generalize frN (rat (valS v - pfI (valS v) (ratV pn pd) (valS u) (ratV kn kd)) (valS u)) = sn at *
  generalize frD (rat (valS v - pfI (valS v) (ratV pn pd) (valS u) (ratV kn kd)) (valS u)) = sd at *
  generalize frN (rat 1 2) = hn_ at *
  generalize frD (rat 1 2) = hd_ at *
  try unfold FV at *
  try unfold FR at *
  generalize cmpQ (pfM (valS v) (ratV pn pd) (valS u) (ratV kn kd)) (ratV kn kd) = cc1 at *
  generalize cmpI (pfI (valS v) (ratV pn pd) (valS u) (ratV kn kd)) 0 = cc2 at *
  generalize cmpQ (((valS v : Int) : Rat) - ratV kn kd * ((valS u : Int) : Rat)) 0 = cc3 at *
  generalize canS (valS v - pfI (valS v) (ratV pn pd) (valS u) (ratV kn kd)) = rs at *
  generalize frN (((valS v : Int) : Rat) - ratV kn kd * ((valS u : Int) : Rat)) = on at *
  generalize frD (((valS v : Int) : Rat) - ratV kn kd * ((valS u : Int) : Rat)) = od at *
  generalize frN (ratV kn kd * ((valS u : Int) : Rat)) = xn at *
  generalize frD (ratV kn kd * ((valS u : Int) : Rat)) = xd at *
  generalize frN ((valS u : Int) : Rat) = un at *
  generalize frD ((valS u : Int) : Rat) = ud at *
  generalize frN ((valS v : Int) : Rat) = vn at *
  generalize frD ((valS v : Int) : Rat) = vd at *
  generalize frN (pfM (valS v) (ratV pn pd) (valS u) (ratV kn kd)) = qn at *
  generalize frD (pfM (valS v) (ratV pn pd) (valS u) (ratV kn kd)) = qd at *
  generalize canS (pfI (valS v) (ratV pn pd) (valS u) (ratV kn kd)) = xs at *
  have eq2 := E2.out
  have eq3 := E3.out
  subst eq2 eq3
  clear E2 E3
  unfold tval at *
  dsimp only at *
  clear ht1 ht2 hT g1 g2 g3 g4 y1 y2 y3 y4 hz s1 s2 s3 s4 he c1 c2 c3 d1 d2 d3 d4 e1 e2 e3 e4 p0 r1 r2 va vu vk fk fv fu fku fo vp fp fpo fX fR fpr fM zX zR zM k0 hcM he2 r3 r4 hk hn hm fXq fh
  have hs := (((St.refl hg).alloc (.cells #[.string mn, .string md, .string pn, .string pd, .int .i64 ct] 54)).alloc (.cells #[.string kn, .string kd] 34)).alloc (.cells #[.string kn, .string kd] 34)
  have XT := ((Bx.new w #[.string mn, .string md, .string pn, .string pd, .int .i64 ct] 54).alloc (.cells #[.string kn, .string kd] 34)).alloc (.cells #[.string kn, .string kd] 34)
  have XM := (Bx.new1 w (.cells #[.string mn, .string md, .string pn, .string pd, .int .i64 ct] 54) #[.string kn, .string kd] 34).alloc (.cells #[.string kn, .string kd] 34)
  have XS := Bx.new2 w (.cells #[.string mn, .string md, .string pn, .string pd, .int .i64 ct] 54) (.cells #[.string kn, .string kd] 34) #[.string kn, .string kd] 34
  have a0 := ((Bx.new w #[.string mn, .string md, .string pn, .string pd, .int .i64 ct] 54).alloc (.cells #[.string kn, .string kd] 34)).cell (i := 0) (v := .string mn) rfl
  have a1 := ((Bx.new w #[.string mn, .string md, .string pn, .string pd, .int .i64 ct] 54).alloc (.cells #[.string kn, .string kd] 34)).cell (i := 1) (v := .string md) rfl
  have a2 := ((Bx.new w #[.string mn, .string md, .string pn, .string pd, .int .i64 ct] 54).alloc (.cells #[.string kn, .string kd] 34)).cell (i := 2) (v := .string pn) rfl
  have a3 := ((Bx.new w #[.string mn, .string md, .string pn, .string pd, .int .i64 ct] 54).alloc (.cells #[.string kn, .string kd] 34)).cell (i := 3) (v := .string pd) rfl
  have a4 := ((Bx.new w #[.string mn, .string md, .string pn, .string pd, .int .i64 ct] 54).alloc (.cells #[.string kn, .string kd] 34)).cell (i := 4) (v := .int .i64 ct) rfl
  have HR1 : Hid (Row (((w.alloc (.cells #[.string mn, .string md, .string pn, .string pd, .int .i64 ct] 54)).alloc (.cells #[.string kn, .string kd] 34)).alloc (.cells #[.string kn, .string kd] 34)) (some ⟨w.heap.size + 2, 0, none⟩) (flatG fncells [⟨kn, kd⟩])) := Row.of XS
  have AW := awake45
  clear XS
  go_enter Tryz.func9, Tryz.ntmps9
  go_wp2_with fail
  clear a0 a1 a2 a3 a4
  refine KL1.step hs HR1.out ?_
  intro w1 hs hb
  replace XT := XT.on hb
  replace XM := XM.on hb
  go_wp2_with fail
  have HR2 : Hid (Row (w1.alloc (.cells #[.string v, .string u] 32)) (some ⟨w1.heap.size, 0, none⟩) ([v, u].map sv)) := Row.of (Bx.new w1 #[.string v, .string u] 32)
  replace XT := XT.alloc (.cells #[.string v, .string u] 32)
  replace XM := XM.alloc (.cells #[.string v, .string u] 32)
  replace hs := hs.alloc (.cells #[.string v, .string u] 32)
  refine (KL2 _).step hs HR2.out ?_
  intro w2 hs hb
  replace XT := XT.on hb
  replace XM := XM.on hb
  have t0 := XT.cell (i := 0) (v := .string mn) rfl
  have t1 := XT.cell (i := 1) (v := .string md) rfl
  have t2 := XT.cell (i := 2) (v := .string pn) rfl
  have t3 := XT.cell (i := 3) (v := .string pd) rfl
  have t4 := XT.cell (i := 4) (v := .int .i64 ct) rfl
  have m0 := XM.cell (i := 0) (v := .string kn) rfl
  have m1 := XM.cell (i := 1) (v := .string kd) rfl
  go_wp2_with fail
  refine KP.step hs ?_
  intro w3 hs hb
  clear t0 t1 t2 t3 t4 m0 m1
  replace XT := XT.on hb
  replace XM := XM.on hb
  replace XT := XT.alloc (.cells #[.string sn, .string sd] 34)
  replace XM := XM.alloc (.cells #[.string sn, .string sd] 34)
  replace hs := hs.alloc (.cells #[.string sn, .string sd] 34)
  have XQ := Bx.new w3 #[.string sn, .string sd] 34
  go_wp2_with fail
  refine KS.step hs ?_
  intro w4 hs hb
  replace XT := XT.on hb
  replace XM := XM.on hb
  replace XQ := XQ.on hb
  have t0 := XT.cell (i := 0) (v := .string mn) rfl
  have t1 := XT.cell (i := 1) (v := .string md) rfl
  have t2 := XT.cell (i := 2) (v := .string pn) rfl
  have t3 := XT.cell (i := 3) (v := .string pd) rfl
  have t4 := XT.cell (i := 4) (v := .int .i64 ct) rfl
  have p0 := XQ.cell (i := 0) (v := .string sn) rfl
  have p1 := XQ.cell (i := 1) (v := .string sd) rfl
  go_wp2_with fail
  refine KP2.step hs ?_
  intro w5 hs hb
  clear t0 t1 t2 t3 t4 p0 p1
  replace XT := XT.on hb
  replace XM := XM.on hb
  replace XQ := XQ.on hb
  replace XT := XT.alloc (.cells #[.string sn, .string sd] 34)
  replace XM := XM.alloc (.cells #[.string sn, .string sd] 34)
  replace XQ := XQ.alloc (.cells #[.string sn, .string sd] 34)
  replace hs := hs.alloc (.cells #[.string sn, .string sd] 34)
  have XR := Bx.new w5 #[.string sn, .string sd] 34
  have m0 := XM.cell (i := 0) (v := .string kn) rfl
  have m1 := XM.cell (i := 1) (v := .string kd) rfl
  have p0 := XQ.cell (i := 0) (v := .string sn) rfl
  have p1 := XQ.cell (i := 1) (v := .string sd) rfl
  have r0 := XR.cell (i := 0) (v := .string sn) rfl
  have r1 := XR.cell (i := 1) (v := .string sd) rfl
  go_wp2_with fail
  refine KC1.step hs ?_
  intro w6 hs hb
  clear m0 m1 p0 p1 r0 r1 XR
  replace XT := XT.on hb
  replace XM := XM.on hb
  replace XQ := XQ.on hb
  go_wp2_with fail
  refine KC2.step hs ?_
  intro w7 hs hb
  replace XT := XT.on hb
  replace XM := XM.on hb
  replace XQ := XQ.on hb
  go_wp2_with fail
  refine wp_region_fresh1 8 7 16 #[.string ⟨#[]⟩, .string ⟨#[]⟩] (by kernel_rfl) (by kernel_rfl) (by kernel_rfl) (by omega) rfl (by kernel_rfl) ⟨_, 16, _, rfl, rfl, rfl, fun _ _ => by simp [execOp, go_sem, ptrTo]; rfl⟩ ?_
  apply Exists.intro
  refine ⟨fun S W hne hk hcl => ?_, ?_⟩
  · simp only [List.take_succ_cons, List.take_zero, quietL, List.mem_cons, List.not_mem_nil, or_false, Nat.reduceAdd, Nat.reduceEqDiff, reduceIte, Nat.zero_add]
    have kk0 := XM.in hk (i := 0) (v := .string kn) rfl
    have kk1 := XM.in hk (i := 1) (v := .string kd) rfl
    repeat (go_big_quiet_step (first | (with_reducible exact KO1.fresh hs hk hcl) | (with_reducible exact KO2.fresh hs hk hcl) | (with_reducible exact KM.fresh hs hk hcl) | (with_reducible exact KG.fresh hs hk hcl)))
    exact wpQuiet_nil rfl
  intro b1 v1 hb1 hv1 hx1
  simp only [List.drop_succ_cons, List.drop_zero, ptrTo]
  have z0 := hx1.cell (i := 0) (v := .string ⟨#[]⟩) rfl
  have z1 := hx1.cell (i := 1) (v := .string ⟨#[]⟩) rfl
  have g0 := hx1.frozen 0
  have g1 := hx1.frozen 1
  go_wp2_with fail
  have lw : w.heap.size ≤ w7.heap.size := hs.size
  have lT := XT.lt
  have lM := XM.lt
  have lQ := XQ.lt
  replace hs := ((hs.on hv1).set (b := b1) (by omega) 0 (.string on)).set (b := b1) (by omega) 1 (.string od)
  replace XT := ((XT.on hv1).other (c := b1) (by omega) 0 (.string on)).other (c := b1) (by omega) 1 (.string od)
  replace XM := ((XM.on hv1).other (c := b1) (by omega) 0 (.string on)).other (c := b1) (by omega) 1 (.string od)
  replace XQ := ((XQ.on hv1).other (c := b1) (by omega) 0 (.string on)).other (c := b1) (by omega) 1 (.string od)
  have XG : Bx ((v1.setCell ⟨b1, 0, none⟩ (.string on)).setCell ⟨b1, 1, none⟩ (.string od)) b1 #[.string on, .string od] := (hx1.set 0 (.string on)).set 1 (.string od)
  clear z0 z1 g0 g1 hx1 hv1 lT lM lQ
  generalize (v1.setCell ⟨b1, 0, none⟩ (.string on)).setCell ⟨b1, 1, none⟩ (.string od) = W8 at *
  refine KC3.step hs ?_
  intro w8 hs hb
  replace XT := XT.on hb
  replace XM := XM.on hb
  replace XQ := XQ.on hb
  replace XG := XG.on hb
  go_wp2_with fail
  refine KN.step hs ?_
  intro w9 hs hb
  replace XT := XT.on hb
  replace XM := XM.on hb
  replace XQ := XQ.on hb
  replace XG := XG.on hb
  replace XT := XT.alloc (.cells #[.string sn, .string sd] 34)
  replace XM := XM.alloc (.cells #[.string sn, .string sd] 34)
  replace XQ := XQ.alloc (.cells #[.string sn, .string sd] 34)
  replace XG := XG.alloc (.cells #[.string sn, .string sd] 34)
  replace hs := hs.alloc (.cells #[.string sn, .string sd] 34)
  have XP := Bx.new w9 #[.string sn, .string sd] 34
  have k2 := XT.keeps (i := 2) (v := .string pn) rfl
  have k3 := XT.keeps (i := 3) (v := .string pd) rfl
  have k4 := XM.keeps (i := 0) (v := .string kn) rfl
  have k5 := XM.keeps (i := 1) (v := .string kd) rfl
  have k6 := XQ.keeps (i := 0) (v := .string sn) rfl
  have k7 := XQ.keeps (i := 1) (v := .string sd) rfl
  have k8 := XG.keeps (i := 0) (v := .string on) rfl
  have k9 := XG.keeps (i := 1) (v := .string od) rfl
  have ka := XP.keeps (i := 0) (v := .string sn) rfl
  have kb := XP.keeps (i := 1) (v := .string sd) rfl
  go_wp2_with fail
  refine wp_region_kept (by kernel_rfl) (by kernel_rfl) ?_
  repeat (go_big_quiet_step (first | (with_reducible exact KX.kept hs) | (with_reducible exact KMp.kept hs) | (with_reducible exact KH.kept hs) | (with_reducible exact KNear.kept hs) | (with_reducible exact AW.kept hs)))
  refine wpQuiet_nil ?_
  rintro _ ⟨u_, rfl⟩
  replace hs := hs.kept u_
  go_wp2_with fail
  go_ret
  exact ⟨rfl, hs.2⟩
set_option maxRecDepth 100000 in
set_option maxHeartbeats 4000000 in
theorem marks_gaink {mn md pn pd v u kn kd : ByteArray} {ct : Int} (hz : TermS.le 13 ⟨mn, md, pn, pd, ct⟩) (s1 : v.size ≤ 13) (s2 : u.size ≤ 13) (s3 : kn.size ≤ 13) (s4 : kd.size ≤ 13) (ht1 : (lngT ⟨mn, md, pn, pd, ct⟩ || List.any ([⟨kn, kd⟩] : List FnS) lngF) = false) (ht2 : List.any ([v, u] : List ByteArray) (fun s => decide (13 < s.size)) = false) (he : pfE ⟨mn, md, pn, pd, ct⟩ v u kn kd = 0) (hn : 0 < ((valS v : Int) : Rat) - ratV kn kd * ((valS u : Int) : Rat)) (hm : (pfM (valS v) (ratV pn pd) (valS u) (ratV kn kd) = ratV kn kd)) (w : World) (hg : Gl w) : Calls Tryz.prog 9 #[.agg #[.string mn, .string md, .string pn, .string pd, .int .i64 ct], .string v, .string u, .agg #[.string kn, .string kd]] w fun e w' => e = .returned (.bool true) ∧ Below w.heap.size w w' := by
  obtain ⟨y1, y2, y3, y4⟩ : mn.size ≤ 13 ∧ md.size ≤ 13 ∧ pn.size ≤ 13 ∧ pd.size ≤ 13 := hz
  have hT : TermS.big ⟨mn, md, pn, pd, ct⟩ := ⟨by dsimp only; omega, by dsimp only; omega, by dsimp only; omega, by dsimp only; omega⟩
  have hz : TermS.le 13 ⟨mn, md, pn, pd, ct⟩ := ⟨y1, y2, y3, y4⟩
  have g1 : v.size ≤ 9223372036854775807 := by omega
  have g2 : u.size ≤ 9223372036854775807 := by omega
  have g3 : kn.size ≤ 9223372036854775807 := by omega
  have g4 : kd.size ≤ 9223372036854775807 := by omega
  have KL1 := longT_any (A := some ⟨w.heap.size + 2, 0, none⟩) (n := 1) (c := 1) (l := [⟨kn, kd⟩]) hT rfl (by decide) (fun s hs => by simp at hs; subst hs; exact ⟨g3, g4⟩)
  have KL2 := fun b : Nat => long45_any (A := some ⟨b, 0, none⟩) (n := 2) (c := 2) (l := [v, u]) rfl (by decide) (fun s hs => by
      simp at hs
      rcases hs with rfl | rfl
      · exact g1
      · exact g2
      )
  rw [ht1] at KL1
  rw [ht2] at KL2
  obtain ⟨c1, c2, c3⟩ := pf_zero he
  obtain ⟨d1, d2, d3, d4⟩ := cnt_zero c3
  obtain ⟨e1, e2, e3, e4⟩ := term_zero c1
  have p0 : 0 ≤ ratV pn pd := (rate_zero e2).2.1
  have KP := pft_any hz (v := v) (u := u) (kn := kn) (kd := kd) (by omega) (by omega) (by omega) (by omega)
  have r1 : pfR ⟨mn, md, pn, pd, ct⟩ v u kn kd = canS (pfI (valS v) (ratV pn pd) (valS u) (ratV kn kd)) := if_pos he
  have r2 : pfQ ⟨mn, md, pn, pd, ct⟩ v u kn kd = pfM (valS v) (ratV pn pd) (valS u) (ratV kn kd) := if_pos he
  rw [r1, r2, he] at KP
  have va := Vs.arg (s := v) (by omega)
  have vu := Vs.arg (s := u) (by omega)
  have vk := Vq.arg (n := kn) (d := kd) (by omega) (by omega)
  have fk := FitQ.arg (n := kn) (d := kd) (k := 13) s3 s4 (by omega)
  have fv : FitQ 13 ((valS v : Int) : Rat) := FitQ.int (Fit.val s1) (by omega)
  have fu : FitQ 13 ((valS u : Int) : Rat) := FitQ.int (Fit.val s2) (by omega)
  have fku := fk.mul fu
  have fo := fv.sub fku
  have vp := Vq.arg (n := pn) (d := pd) (by omega) (by omega)
  have fp := FitQ.arg (n := pn) (d := pd) (k := 13) y3 y4 (by omega)
  have fpo := fp.mul fo
  have fX : Fit 54 (pfI (valS v) (ratV pn pd) (valS u) (ratV kn kd)) := Fit.mono (pf_fit fpo) (by omega)
  have fR := Fit.subI (Fit.val s1) fX (by omega)
  have fpr := FitQ.rat fR (Fit.val s2) (by omega)
  have fM : FitQ 55 (pfM (valS v) (ratV pn pd) (valS u) (ratV kn kd)) := by
    unfold pfM
    split
    · exact fpr.mono (by omega)
    · exact fk.mono (by omega)
  have zX := fX.size
  have zR := fR.size
  have zM := FitQ.sizes fM
  have KS := SubR va (Vs.can fX (by omega))
  have KP2 := pft_any hz (v := canS (valS v - pfI (valS v) (ratV pn pd) (valS u) (ratV kn kd))) (u := u) (kn := frN (pfM (valS v) (ratV pn pd) (valS u) (ratV kn kd))) (kd := frD (pfM (valS v) (ratV pn pd) (valS u) (ratV kn kd))) (by omega) (by omega) (by omega) (by omega)
  have k0 : 0 ≤ pfM (valS v) (ratV pn pd) (valS u) (ratV kn kd) := Rat.le_trans d4 (pf_mark _ _ _ _).1
  have hcM : cntE u (frN (pfM (valS v) (ratV pn pd) (valS u) (ratV kn kd))) (frD (pfM (valS v) (ratV pn pd) (valS u) (ratV kn kd))) = 0 := by
    unfold cntE
    rw [if_neg (by rw [d1, chkF_fr]; simp), ratV_fr, if_neg (by rw [not_or]; exact ⟨by omega, Rat.not_lt.2 k0⟩)]
  have he2 : pfE ⟨mn, md, pn, pd, ct⟩ (canS (valS v - pfI (valS v) (ratV pn pd) (valS u) (ratV kn kd))) u (frN (pfM (valS v) (ratV pn pd) (valS u) (ratV kn kd))) (frD (pfM (valS v) (ratV pn pd) (valS u) (ratV kn kd))) = 0 := pf_in c1 (by rw [chk_zero, valS_canS]) hcM
  have r3 : pfR ⟨mn, md, pn, pd, ct⟩ (canS (valS v - pfI (valS v) (ratV pn pd) (valS u) (ratV kn kd))) u (frN (pfM (valS v) (ratV pn pd) (valS u) (ratV kn kd))) (frD (pfM (valS v) (ratV pn pd) (valS u) (ratV kn kd))) = ⟨#[]⟩ := by
    refine (if_pos he2).trans ?_
    rw [valS_canS, ratV_fr]
    show canS (pfI (valS v - pfI (valS v) (ratV pn pd) (valS u) (ratV kn kd)) (ratV pn pd) (valS u) (pfM (valS v) (ratV pn pd) (valS u) (ratV kn kd))) = _
    rw [(pf_again d3).1]
    exact canS_zero
  have r4 : pfQ ⟨mn, md, pn, pd, ct⟩ (canS (valS v - pfI (valS v) (ratV pn pd) (valS u) (ratV kn kd))) u (frN (pfM (valS v) (ratV pn pd) (valS u) (ratV kn kd))) (frD (pfM (valS v) (ratV pn pd) (valS u) (ratV kn kd))) = pfM (valS v) (ratV pn pd) (valS u) (ratV kn kd) := by
    refine (if_pos he2).trans ?_
    rw [valS_canS, ratV_fr]
    exact (pf_again d3).2
  rw [r3, r4, he2] at KP2
  have KC1 := CmpF (Vq.fr fM (by omega)) vk (fM.sub fk) (by omega)
  have qc1 : decide (cmpQ (pfM (valS v) (ratV pn pd) (valS u) (ratV kn kd)) (ratV kn kd) < 0) = false := by rw [cmpQ_lt45]; exact decide_eq_false (Rat.not_lt.2 (pf_mark _ _ _ _).1)
  have KC2 := CmpR (Vs.can fX (by omega)) Vs.nil
  have qc2 : decide (cmpI (pfI (valS v) (ratV pn pd) (valS u) (ratV kn kd)) 0 < 0) = false := by rw [cmpI_lt]; exact decide_eq_false (by have := pf_nonneg (v := valS v) (valS u) (ratV kn kd) p0; omega)
  have KO1 := OfF va (by omega)
  have KO2 := OfF vu (by omega)
  have KM := MulF vk (Vq.fr fu (by omega))
  have KG := SubF (Vq.fr fv (by omega)) (Vq.fr fku (by omega))
  have KC3 := CmpF (Vq.fr fo (by omega)) vq0 (fo.sub fit0) (by omega)
  have hk : frN (ratV kn kd) = kn ∧ frD (ratV kn kd) = kd := ⟨(FR_can d2).1.symm, (FR_can d2).2.symm⟩
  have KN := NewF (Vs.can fR (by omega)) vu (by omega) (by omega) (show valS u ≠ 0 by omega)
  have fXq : FitQ 54 ((pfI (valS v) (ratV pn pd) (valS u) (ratV kn kd) : Int) : Rat) := FitQ.int fX (by omega)
  have KX := OfF (Vs.can fX (by omega)) (by omega)
  have KMp := MulF vp (Vq.fr fo (by omega))
  have KH := of45_any v45_1 Vs.two (by decide) (by decide) (show (2 : Int) ≠ 0 by decide)
  have fh : FitQ 1 (rat 1 2) := ⟨by decide +kernel, by decide +kernel⟩
  have hnear := pf_near (p := ratV pn pd) hn
  have KNear := near_true (Vq.fr fXq (by omega)) (Vq.fr fpo (by omega)) (Vq.fr fh (by decide)) (fXq.sub fpo) fh (by omega) (by rw [show rat 1 2 = 1 / 2 from rfl]; exact hnear.1) (by rw [show rat 1 2 = 1 / 2 from rfl]; exact hnear.2)
  have qc3 : decide (cmpQ (((valS v : Int) : Rat) - ratV kn kd * ((valS u : Int) : Rat)) 0 ≤ 0) = false := by
    apply decide_eq_false
    unfold cmpQ
    rw [if_neg (by grind), if_neg (by grind)]
    decide
  have eq2 : kn = frN (pfM (valS v) (ratV pn pd) (valS u) (ratV kn kd)) := by rw [hm]; exact hk.1.symm
  have eq3 : kd = frD (pfM (valS v) (ratV pn pd) (valS u) (ratV kn kd)) := by rw [hm]; exact hk.2.symm
  have E2 := Lib.hid eq2
  have E3 := Lib.hid eq3
  clear eq2 eq3 hnear
  unfold FV at *
  unfold FR at *
  generalize frN (ratV pn pd * (((valS v : Int) : Rat) - ratV kn kd * ((valS u : Int) : Rat))) = wn at *
  generalize frD (ratV pn pd * (((valS v : Int) : Rat) - ratV kn kd * ((valS u : Int) : Rat))) = wd at *
  generalize frN ((pfI (valS v) (ratV pn pd) (valS u) (ratV kn kd) : Int) : Rat) = bn at *
  generalize frD ((pfI (valS v) (ratV pn pd) (valS u) (ratV kn kd) : Int) : Rat) = bd at *
  generalize frN (rat (valS v - pfI (valS v) (ratV pn pd) (valS u) (ratV kn kd)) (valS u)) = sn at *
  generalize frD (rat (valS v - pfI (valS v) (ratV pn pd) (valS u) (ratV kn kd)) (valS u)) = sd at *
  generalize frN (rat 1 2) = hn_ at *
  generalize frD (rat 1 2) = hd_ at *
  try unfold FV at *
  try unfold FR at *
  generalize cmpQ (pfM (valS v) (ratV pn pd) (valS u) (ratV kn kd)) (ratV kn kd) = cc1 at *
  generalize cmpI (pfI (valS v) (ratV pn pd) (valS u) (ratV kn kd)) 0 = cc2 at *
  generalize cmpQ (((valS v : Int) : Rat) - ratV kn kd * ((valS u : Int) : Rat)) 0 = cc3 at *
  generalize canS (valS v - pfI (valS v) (ratV pn pd) (valS u) (ratV kn kd)) = rs at *
  generalize frN (((valS v : Int) : Rat) - ratV kn kd * ((valS u : Int) : Rat)) = on at *
  generalize frD (((valS v : Int) : Rat) - ratV kn kd * ((valS u : Int) : Rat)) = od at *
  generalize frN (ratV kn kd * ((valS u : Int) : Rat)) = xn at *
  generalize frD (ratV kn kd * ((valS u : Int) : Rat)) = xd at *
  generalize frN ((valS u : Int) : Rat) = un at *
  generalize frD ((valS u : Int) : Rat) = ud at *
  generalize frN ((valS v : Int) : Rat) = vn at *
  generalize frD ((valS v : Int) : Rat) = vd at *
  generalize frN (pfM (valS v) (ratV pn pd) (valS u) (ratV kn kd)) = qn at *
  generalize frD (pfM (valS v) (ratV pn pd) (valS u) (ratV kn kd)) = qd at *
  generalize canS (pfI (valS v) (ratV pn pd) (valS u) (ratV kn kd)) = xs at *
  have eq2 := E2.out
  have eq3 := E3.out
  subst eq2 eq3
  clear E2 E3
  obtain ⟨te, hte⟩ : ∃ t, ((kn.toList == sn.toList) && (kd.toList == sd.toList)) = t := ⟨_, rfl⟩
  have ef := eqlF kn kd sn sd
  simp only [hte] at ef
  clear hte
  unfold tval at *
  dsimp only at *
  clear ht1 ht2 hT g1 g2 g3 g4 y1 y2 y3 y4 hz s1 s2 s3 s4 he c1 c2 c3 d1 d2 d3 d4 e1 e2 e3 e4 p0 r1 r2 va vu vk fk fv fu fku fo vp fp fpo fX fR fpr fM zX zR zM k0 hcM he2 r3 r4 hk hn hm fXq fh
  have hs := (((St.refl hg).alloc (.cells #[.string mn, .string md, .string pn, .string pd, .int .i64 ct] 54)).alloc (.cells #[.string kn, .string kd] 34)).alloc (.cells #[.string kn, .string kd] 34)
  have XT := ((Bx.new w #[.string mn, .string md, .string pn, .string pd, .int .i64 ct] 54).alloc (.cells #[.string kn, .string kd] 34)).alloc (.cells #[.string kn, .string kd] 34)
  have XM := (Bx.new1 w (.cells #[.string mn, .string md, .string pn, .string pd, .int .i64 ct] 54) #[.string kn, .string kd] 34).alloc (.cells #[.string kn, .string kd] 34)
  have XS := Bx.new2 w (.cells #[.string mn, .string md, .string pn, .string pd, .int .i64 ct] 54) (.cells #[.string kn, .string kd] 34) #[.string kn, .string kd] 34
  have a0 := ((Bx.new w #[.string mn, .string md, .string pn, .string pd, .int .i64 ct] 54).alloc (.cells #[.string kn, .string kd] 34)).cell (i := 0) (v := .string mn) rfl
  have a1 := ((Bx.new w #[.string mn, .string md, .string pn, .string pd, .int .i64 ct] 54).alloc (.cells #[.string kn, .string kd] 34)).cell (i := 1) (v := .string md) rfl
  have a2 := ((Bx.new w #[.string mn, .string md, .string pn, .string pd, .int .i64 ct] 54).alloc (.cells #[.string kn, .string kd] 34)).cell (i := 2) (v := .string pn) rfl
  have a3 := ((Bx.new w #[.string mn, .string md, .string pn, .string pd, .int .i64 ct] 54).alloc (.cells #[.string kn, .string kd] 34)).cell (i := 3) (v := .string pd) rfl
  have a4 := ((Bx.new w #[.string mn, .string md, .string pn, .string pd, .int .i64 ct] 54).alloc (.cells #[.string kn, .string kd] 34)).cell (i := 4) (v := .int .i64 ct) rfl
  have HR1 : Hid (Row (((w.alloc (.cells #[.string mn, .string md, .string pn, .string pd, .int .i64 ct] 54)).alloc (.cells #[.string kn, .string kd] 34)).alloc (.cells #[.string kn, .string kd] 34)) (some ⟨w.heap.size + 2, 0, none⟩) (flatG fncells [⟨kn, kd⟩])) := Row.of XS
  have AW := awake45
  clear XS
  go_enter Tryz.func9, Tryz.ntmps9
  go_wp2_with fail
  clear a0 a1 a2 a3 a4
  refine KL1.step hs HR1.out ?_
  intro w1 hs hb
  replace XT := XT.on hb
  replace XM := XM.on hb
  go_wp2_with fail
  have HR2 : Hid (Row (w1.alloc (.cells #[.string v, .string u] 32)) (some ⟨w1.heap.size, 0, none⟩) ([v, u].map sv)) := Row.of (Bx.new w1 #[.string v, .string u] 32)
  replace XT := XT.alloc (.cells #[.string v, .string u] 32)
  replace XM := XM.alloc (.cells #[.string v, .string u] 32)
  replace hs := hs.alloc (.cells #[.string v, .string u] 32)
  refine (KL2 _).step hs HR2.out ?_
  intro w2 hs hb
  replace XT := XT.on hb
  replace XM := XM.on hb
  have t0 := XT.cell (i := 0) (v := .string mn) rfl
  have t1 := XT.cell (i := 1) (v := .string md) rfl
  have t2 := XT.cell (i := 2) (v := .string pn) rfl
  have t3 := XT.cell (i := 3) (v := .string pd) rfl
  have t4 := XT.cell (i := 4) (v := .int .i64 ct) rfl
  have m0 := XM.cell (i := 0) (v := .string kn) rfl
  have m1 := XM.cell (i := 1) (v := .string kd) rfl
  go_wp2_with fail
  refine KP.step hs ?_
  intro w3 hs hb
  clear t0 t1 t2 t3 t4 m0 m1
  replace XT := XT.on hb
  replace XM := XM.on hb
  replace XT := XT.alloc (.cells #[.string kn, .string kd] 34)
  replace XM := XM.alloc (.cells #[.string kn, .string kd] 34)
  replace hs := hs.alloc (.cells #[.string kn, .string kd] 34)
  have XQ := Bx.new w3 #[.string kn, .string kd] 34
  go_wp2_with fail
  refine KS.step hs ?_
  intro w4 hs hb
  replace XT := XT.on hb
  replace XM := XM.on hb
  replace XQ := XQ.on hb
  have t0 := XT.cell (i := 0) (v := .string mn) rfl
  have t1 := XT.cell (i := 1) (v := .string md) rfl
  have t2 := XT.cell (i := 2) (v := .string pn) rfl
  have t3 := XT.cell (i := 3) (v := .string pd) rfl
  have t4 := XT.cell (i := 4) (v := .int .i64 ct) rfl
  have p0 := XQ.cell (i := 0) (v := .string kn) rfl
  have p1 := XQ.cell (i := 1) (v := .string kd) rfl
  go_wp2_with fail
  refine KP2.step hs ?_
  intro w5 hs hb
  clear t0 t1 t2 t3 t4 p0 p1
  replace XT := XT.on hb
  replace XM := XM.on hb
  replace XQ := XQ.on hb
  replace XT := XT.alloc (.cells #[.string kn, .string kd] 34)
  replace XM := XM.alloc (.cells #[.string kn, .string kd] 34)
  replace XQ := XQ.alloc (.cells #[.string kn, .string kd] 34)
  replace hs := hs.alloc (.cells #[.string kn, .string kd] 34)
  have XR := Bx.new w5 #[.string kn, .string kd] 34
  have m0 := XM.cell (i := 0) (v := .string kn) rfl
  have m1 := XM.cell (i := 1) (v := .string kd) rfl
  have p0 := XQ.cell (i := 0) (v := .string kn) rfl
  have p1 := XQ.cell (i := 1) (v := .string kd) rfl
  have r0 := XR.cell (i := 0) (v := .string kn) rfl
  have r1 := XR.cell (i := 1) (v := .string kd) rfl
  go_wp2_with fail
  refine KC1.step hs ?_
  intro w6 hs hb
  clear m0 m1 p0 p1 r0 r1 XR
  replace XT := XT.on hb
  replace XM := XM.on hb
  replace XQ := XQ.on hb
  go_wp2_with fail
  refine KC2.step hs ?_
  intro w7 hs hb
  replace XT := XT.on hb
  replace XM := XM.on hb
  replace XQ := XQ.on hb
  go_wp2_with fail
  refine wp_region_fresh1 8 7 16 #[.string ⟨#[]⟩, .string ⟨#[]⟩] (by kernel_rfl) (by kernel_rfl) (by kernel_rfl) (by omega) rfl (by kernel_rfl) ⟨_, 16, _, rfl, rfl, rfl, fun _ _ => by simp [execOp, go_sem, ptrTo]; rfl⟩ ?_
  apply Exists.intro
  refine ⟨fun S W hne hk hcl => ?_, ?_⟩
  · simp only [List.take_succ_cons, List.take_zero, quietL, List.mem_cons, List.not_mem_nil, or_false, Nat.reduceAdd, Nat.reduceEqDiff, reduceIte, Nat.zero_add]
    have kk0 := XM.in hk (i := 0) (v := .string kn) rfl
    have kk1 := XM.in hk (i := 1) (v := .string kd) rfl
    repeat (go_big_quiet_step (first | (with_reducible exact KO1.fresh hs hk hcl) | (with_reducible exact KO2.fresh hs hk hcl) | (with_reducible exact KM.fresh hs hk hcl) | (with_reducible exact KG.fresh hs hk hcl)))
    exact wpQuiet_nil rfl
  intro b1 v1 hb1 hv1 hx1
  simp only [List.drop_succ_cons, List.drop_zero, ptrTo]
  have z0 := hx1.cell (i := 0) (v := .string ⟨#[]⟩) rfl
  have z1 := hx1.cell (i := 1) (v := .string ⟨#[]⟩) rfl
  have g0 := hx1.frozen 0
  have g1 := hx1.frozen 1
  go_wp2_with fail
  have lw : w.heap.size ≤ w7.heap.size := hs.size
  have lT := XT.lt
  have lM := XM.lt
  have lQ := XQ.lt
  replace hs := ((hs.on hv1).set (b := b1) (by omega) 0 (.string on)).set (b := b1) (by omega) 1 (.string od)
  replace XT := ((XT.on hv1).other (c := b1) (by omega) 0 (.string on)).other (c := b1) (by omega) 1 (.string od)
  replace XM := ((XM.on hv1).other (c := b1) (by omega) 0 (.string on)).other (c := b1) (by omega) 1 (.string od)
  replace XQ := ((XQ.on hv1).other (c := b1) (by omega) 0 (.string on)).other (c := b1) (by omega) 1 (.string od)
  have XG : Bx ((v1.setCell ⟨b1, 0, none⟩ (.string on)).setCell ⟨b1, 1, none⟩ (.string od)) b1 #[.string on, .string od] := (hx1.set 0 (.string on)).set 1 (.string od)
  clear z0 z1 g0 g1 hx1 hv1 lT lM lQ
  generalize (v1.setCell ⟨b1, 0, none⟩ (.string on)).setCell ⟨b1, 1, none⟩ (.string od) = W8 at *
  refine KC3.step hs ?_
  intro w8 hs hb
  replace XT := XT.on hb
  replace XM := XM.on hb
  replace XQ := XQ.on hb
  replace XG := XG.on hb
  go_wp2_with fail
  refine KN.step hs ?_
  intro w9 hs hb
  replace XT := XT.on hb
  replace XM := XM.on hb
  replace XQ := XQ.on hb
  replace XG := XG.on hb
  replace XT := XT.alloc (.cells #[.string sn, .string sd] 34)
  replace XM := XM.alloc (.cells #[.string sn, .string sd] 34)
  replace XQ := XQ.alloc (.cells #[.string sn, .string sd] 34)
  replace XG := XG.alloc (.cells #[.string sn, .string sd] 34)
  replace hs := hs.alloc (.cells #[.string sn, .string sd] 34)
  have XP := Bx.new w9 #[.string sn, .string sd] 34
  have k2 := XT.keeps (i := 2) (v := .string pn) rfl
  have k3 := XT.keeps (i := 3) (v := .string pd) rfl
  have k4 := XM.keeps (i := 0) (v := .string kn) rfl
  have k5 := XM.keeps (i := 1) (v := .string kd) rfl
  have k6 := XQ.keeps (i := 0) (v := .string kn) rfl
  have k7 := XQ.keeps (i := 1) (v := .string kd) rfl
  have k8 := XG.keeps (i := 0) (v := .string on) rfl
  have k9 := XG.keeps (i := 1) (v := .string od) rfl
  have ka := XP.keeps (i := 0) (v := .string sn) rfl
  have kb := XP.keeps (i := 1) (v := .string sd) rfl
  cases te
  all_goals
    go_wp2_with fail
    refine wp_region_kept (by kernel_rfl) (by kernel_rfl) ?_
    repeat (go_big_quiet_step (first | (with_reducible exact KX.kept hs) | (with_reducible exact KMp.kept hs) | (with_reducible exact KH.kept hs) | (with_reducible exact KNear.kept hs) | (with_reducible exact AW.kept hs)))
    refine wpQuiet_nil ?_
    rintro _ ⟨u_, rfl⟩
    replace hs := hs.kept u_
    go_wp2_with fail
    go_ret
    exact ⟨rfl, hs.2⟩
theorem marks_any {mn md pn pd v u kn kd : ByteArray} {ct : Int} (hT : TermS.big ⟨mn, md, pn, pd, ct⟩) (g1 : v.size ≤ 9223372036854775807) (g2 : u.size ≤ 9223372036854775807) (g3 : kn.size ≤ 9223372036854775807) (g4 : kd.size ≤ 9223372036854775807) (w : World) (hg : Gl w) : Calls Tryz.prog 9 #[.agg #[.string mn, .string md, .string pn, .string pd, .int .i64 ct], .string v, .string u, .agg #[.string kn, .string kd]] w fun e w' => e = .returned (.bool true) ∧ Below w.heap.size w w' := by
  cases ht1 : (lngT ⟨mn, md, pn, pd, ct⟩ || List.any ([⟨kn, kd⟩] : List FnS) lngF) with
  | true => exact marks_long1 hT g1 g2 g3 g4 ht1 w hg
  | false =>
    cases ht2 : List.any ([v, u] : List ByteArray) (fun s => decide (13 < s.size)) with
    | true => exact marks_long2 hT g1 g2 g3 g4 ht1 ht2 w hg
    | false =>
      have h1 := ht1
      rw [Bool.or_eq_false_iff] at h1
      have hz := lngT_false h1.1
      have hk := lngF_false (s := ⟨kn, kd⟩) (by have := h1.2; simpa using this)
      have h2 : v.size ≤ 13 ∧ u.size ≤ 13 := by have := ht2; simp at this; exact this
      by_cases he : pfE ⟨mn, md, pn, pd, ct⟩ v u kn kd = 0
      · by_cases hn : 0 < ((valS v : Int) : Rat) - ratV kn kd * ((valS u : Int) : Rat)
        · rcases (pf_mark (valS v) (ratV pn pd) (valS u) (ratV kn kd)).2.2 with hm | hm
          · exact marks_gainp hz h2.1 h2.2 hk.1 hk.2 ht1 ht2 he hn hm w hg
          · exact marks_gaink hz h2.1 h2.2 hk.1 hk.2 ht1 ht2 he hn hm w hg
        · exact marks_none hz h2.1 h2.2 hk.1 hk.2 ht1 ht2 he hn w hg
      · exact marks_err hz h2.1 h2.2 hk.1 hk.2 ht1 ht2 he w hg
end Go.Proofs.YtgagjpjlnlandaaGreatDoor
