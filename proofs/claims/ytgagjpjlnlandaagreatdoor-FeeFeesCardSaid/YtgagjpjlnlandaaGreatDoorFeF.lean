/- Fees: the walk of FeeFees: for every input it returns true. Condition: the library's table and error lie as the program's text lays them. -/
import Derived.Test.YtgagjpjlnlandaaGreatDoorLw45
import Derived.Test.YtgagjpjlnlandaaGreatDoorFeQ
import Derived.Test.YtgagjpjlnlandaaGreatDoorFe4
namespace Go.Proofs.YtgagjpjlnlandaaGreatDoor
open Go.RowKit Go.Shelf Dec QQ

set_option maxRecDepth 100000 in
set_option maxHeartbeats 4000000 in
theorem fees_long1 {mn md pn pd v u kn kd : ByteArray} {ct A B : Int} (hT : TermS.big ⟨mn, md, pn, pd, ct⟩) (g1 : v.size ≤ 9223372036854775807) (g2 : u.size ≤ 9223372036854775807) (g3 : kn.size ≤ 9223372036854775807) (g4 : kd.size ≤ 9223372036854775807) (ht1 : (lngT ⟨mn, md, pn, pd, ct⟩ || List.any ([⟨kn, kd⟩] : List FnS) lngF) = true)  (w : World) (hg : Gl w) : Calls Tryz.prog 7 #[.agg #[.string mn, .string md, .string pn, .string pd, .int .i64 ct], .string v, .string u, .agg #[.string kn, .string kd], .agg #[.int .i64 A, .int .i64 B]] w fun e w' => e = .returned (.bool true) ∧ Below w.heap.size w w' := by
  have KL1 := longT_any (A := some ⟨w.heap.size + 3, 0, none⟩) (n := 1) (c := 1) (l := [⟨kn, kd⟩]) hT rfl (by decide) (fun s hs => by simp at hs; subst hs; exact ⟨g3, g4⟩)
  have KL2 := fun b : Nat => long45_any (A := some ⟨b, 0, none⟩) (n := 2) (c := 2) (l := [v, u]) rfl (by decide) (fun s hs => by
      simp at hs
      rcases hs with rfl | rfl
      · exact g1
      · exact g2
      )
  have hs := ((((St.refl hg).alloc (.cells #[.string mn, .string md, .string pn, .string pd, .int .i64 ct] 54)).alloc (.cells #[.string kn, .string kd] 34)).alloc (.cells #[.int .i64 A, .int .i64 B] 56)).alloc (.cells #[.string kn, .string kd] 34)
  have XT0 := ((Bx.new w #[.string mn, .string md, .string pn, .string pd, .int .i64 ct] 54).alloc (.cells #[.string kn, .string kd] 34)).alloc (.cells #[.int .i64 A, .int .i64 B] 56)
  have XT := XT0.alloc (.cells #[.string kn, .string kd] 34)
  have XM0 := (Bx.new1 w (.cells #[.string mn, .string md, .string pn, .string pd, .int .i64 ct] 54) #[.string kn, .string kd] 34).alloc (.cells #[.int .i64 A, .int .i64 B] 56)
  have XM := XM0.alloc (.cells #[.string kn, .string kd] 34)
  have XP := (Bx.new2 w (.cells #[.string mn, .string md, .string pn, .string pd, .int .i64 ct] 54) (.cells #[.string kn, .string kd] 34) #[.int .i64 A, .int .i64 B] 56).alloc (.cells #[.string kn, .string kd] 34)
  have XS := Bx.new3 w (.cells #[.string mn, .string md, .string pn, .string pd, .int .i64 ct] 54) (.cells #[.string kn, .string kd] 34) (.cells #[.int .i64 A, .int .i64 B] 56) #[.string kn, .string kd] 34
  have a0 := XT0.cell (i := 0) (v := .string mn) rfl
  have a1 := XT0.cell (i := 1) (v := .string md) rfl
  have a2 := XT0.cell (i := 2) (v := .string pn) rfl
  have a3 := XT0.cell (i := 3) (v := .string pd) rfl
  have a4 := XT0.cell (i := 4) (v := .int .i64 ct) rfl
  have am0 := XM0.cell (i := 0) (v := .string kn) rfl
  have am1 := XM0.cell (i := 1) (v := .string kd) rfl
  have HR1 : Hid (Row ((((w.alloc (.cells #[.string mn, .string md, .string pn, .string pd, .int .i64 ct] 54)).alloc (.cells #[.string kn, .string kd] 34)).alloc (.cells #[.int .i64 A, .int .i64 B] 56)).alloc (.cells #[.string kn, .string kd] 34)) (some ⟨w.heap.size + 3, 0, none⟩) (flatG fncells [⟨kn, kd⟩])) := Row.of XS
  have AW := awake45
  clear XT0 XM0
  rw [ht1] at KL1
  unfold tval at KL1
  dsimp only at KL1
  clear ht1  hT g1 g2 g3 g4 XS
  go_enter Tryz.func7, Tryz.ntmps7
  go_wp2_with fail
  clear a0 a1 a2 a3 a4 am0 am1
  refine KL1.step hs HR1.out ?_
  intro w1 hs hb
  replace XT := XT.on hb
  replace XM := XM.on hb
  replace XP := XP.on hb
  go_wp2_with fail
  refine AW.step hs ?_
  intro w2 hs hb
  go_wp2_with fail
  go_ret
  exact ⟨rfl, hs.2⟩
set_option maxRecDepth 100000 in
set_option maxHeartbeats 4000000 in
theorem fees_long2 {mn md pn pd v u kn kd : ByteArray} {ct A B : Int} (hT : TermS.big ⟨mn, md, pn, pd, ct⟩) (g1 : v.size ≤ 9223372036854775807) (g2 : u.size ≤ 9223372036854775807) (g3 : kn.size ≤ 9223372036854775807) (g4 : kd.size ≤ 9223372036854775807) (ht1 : (lngT ⟨mn, md, pn, pd, ct⟩ || List.any ([⟨kn, kd⟩] : List FnS) lngF) = false) (ht2 : List.any ([v, u] : List ByteArray) (fun s => decide (13 < s.size)) = true) (w : World) (hg : Gl w) : Calls Tryz.prog 7 #[.agg #[.string mn, .string md, .string pn, .string pd, .int .i64 ct], .string v, .string u, .agg #[.string kn, .string kd], .agg #[.int .i64 A, .int .i64 B]] w fun e w' => e = .returned (.bool true) ∧ Below w.heap.size w w' := by
  have KL1 := longT_any (A := some ⟨w.heap.size + 3, 0, none⟩) (n := 1) (c := 1) (l := [⟨kn, kd⟩]) hT rfl (by decide) (fun s hs => by simp at hs; subst hs; exact ⟨g3, g4⟩)
  have KL2 := fun b : Nat => long45_any (A := some ⟨b, 0, none⟩) (n := 2) (c := 2) (l := [v, u]) rfl (by decide) (fun s hs => by
      simp at hs
      rcases hs with rfl | rfl
      · exact g1
      · exact g2
      )
  have hs := ((((St.refl hg).alloc (.cells #[.string mn, .string md, .string pn, .string pd, .int .i64 ct] 54)).alloc (.cells #[.string kn, .string kd] 34)).alloc (.cells #[.int .i64 A, .int .i64 B] 56)).alloc (.cells #[.string kn, .string kd] 34)
  have XT0 := ((Bx.new w #[.string mn, .string md, .string pn, .string pd, .int .i64 ct] 54).alloc (.cells #[.string kn, .string kd] 34)).alloc (.cells #[.int .i64 A, .int .i64 B] 56)
  have XT := XT0.alloc (.cells #[.string kn, .string kd] 34)
  have XM0 := (Bx.new1 w (.cells #[.string mn, .string md, .string pn, .string pd, .int .i64 ct] 54) #[.string kn, .string kd] 34).alloc (.cells #[.int .i64 A, .int .i64 B] 56)
  have XM := XM0.alloc (.cells #[.string kn, .string kd] 34)
  have XP := (Bx.new2 w (.cells #[.string mn, .string md, .string pn, .string pd, .int .i64 ct] 54) (.cells #[.string kn, .string kd] 34) #[.int .i64 A, .int .i64 B] 56).alloc (.cells #[.string kn, .string kd] 34)
  have XS := Bx.new3 w (.cells #[.string mn, .string md, .string pn, .string pd, .int .i64 ct] 54) (.cells #[.string kn, .string kd] 34) (.cells #[.int .i64 A, .int .i64 B] 56) #[.string kn, .string kd] 34
  have a0 := XT0.cell (i := 0) (v := .string mn) rfl
  have a1 := XT0.cell (i := 1) (v := .string md) rfl
  have a2 := XT0.cell (i := 2) (v := .string pn) rfl
  have a3 := XT0.cell (i := 3) (v := .string pd) rfl
  have a4 := XT0.cell (i := 4) (v := .int .i64 ct) rfl
  have am0 := XM0.cell (i := 0) (v := .string kn) rfl
  have am1 := XM0.cell (i := 1) (v := .string kd) rfl
  have HR1 : Hid (Row ((((w.alloc (.cells #[.string mn, .string md, .string pn, .string pd, .int .i64 ct] 54)).alloc (.cells #[.string kn, .string kd] 34)).alloc (.cells #[.int .i64 A, .int .i64 B] 56)).alloc (.cells #[.string kn, .string kd] 34)) (some ⟨w.heap.size + 3, 0, none⟩) (flatG fncells [⟨kn, kd⟩])) := Row.of XS
  have AW := awake45
  clear XT0 XM0
  rw [ht1] at KL1
  rw [ht2] at KL2
  unfold tval at KL1
  dsimp only at KL1
  clear ht1 ht2 hT g1 g2 g3 g4 XS
  go_enter Tryz.func7, Tryz.ntmps7
  go_wp2_with fail
  clear a0 a1 a2 a3 a4 am0 am1
  refine KL1.step hs HR1.out ?_
  intro w1 hs hb
  replace XT := XT.on hb
  replace XM := XM.on hb
  replace XP := XP.on hb
  go_wp2_with fail
  have HR2 : Hid (Row (w1.alloc (.cells #[.string v, .string u] 32)) (some ⟨w1.heap.size, 0, none⟩) ([v, u].map sv)) := Row.of (Bx.new w1 #[.string v, .string u] 32)
  replace XT := XT.alloc (.cells #[.string v, .string u] 32)
  replace XM := XM.alloc (.cells #[.string v, .string u] 32)
  replace XP := XP.alloc (.cells #[.string v, .string u] 32)
  replace hs := hs.alloc (.cells #[.string v, .string u] 32)
  refine (KL2 _).step hs HR2.out ?_
  intro w2 hs hb
  replace XT := XT.on hb
  replace XM := XM.on hb
  replace XP := XP.on hb
  go_wp2_with fail
  refine AW.step hs ?_
  intro w3 hs hb
  go_wp2_with fail
  go_ret
  exact ⟨rfl, hs.2⟩
set_option maxRecDepth 100000 in
set_option maxHeartbeats 4000000 in
theorem fees_ok {mn md pn pd v u kn kd : ByteArray} {ct A B : Int} (hz : TermS.le 13 ⟨mn, md, pn, pd, ct⟩) (s1 : v.size ≤ 13) (s2 : u.size ≤ 13) (s3 : kn.size ≤ 13) (s4 : kd.size ≤ 13) (ht1 : (lngT ⟨mn, md, pn, pd, ct⟩ || List.any ([⟨kn, kd⟩] : List FnS) lngF) = false) (ht2 : List.any ([v, u] : List ByteArray) (fun s => decide (13 < s.size)) = false) (w : World) (hg : Gl w) : Calls Tryz.prog 7 #[.agg #[.string mn, .string md, .string pn, .string pd, .int .i64 ct], .string v, .string u, .agg #[.string kn, .string kd], .agg #[.int .i64 A, .int .i64 B]] w fun e w' => e = .returned (.bool true) ∧ Below w.heap.size w w' := by
  obtain ⟨y1, y2, y3, y4⟩ : mn.size ≤ 13 ∧ md.size ≤ 13 ∧ pn.size ≤ 13 ∧ pd.size ≤ 13 := hz
  have hT : TermS.big ⟨mn, md, pn, pd, ct⟩ := ⟨by dsimp only; omega, by dsimp only; omega, by dsimp only; omega, by dsimp only; omega⟩
  have hz : TermS.le 13 ⟨mn, md, pn, pd, ct⟩ := ⟨y1, y2, y3, y4⟩
  have g1 : v.size ≤ 9223372036854775807 := by omega
  have g2 : u.size ≤ 9223372036854775807 := by omega
  have g3 : kn.size ≤ 9223372036854775807 := by omega
  have g4 : kd.size ≤ 9223372036854775807 := by omega
  have KL1 := longT_any (A := some ⟨w.heap.size + 3, 0, none⟩) (n := 1) (c := 1) (l := [⟨kn, kd⟩]) hT rfl (by decide) (fun s hs => by simp at hs; subst hs; exact ⟨g3, g4⟩)
  have KL2 := fun b : Nat => long45_any (A := some ⟨b, 0, none⟩) (n := 2) (c := 2) (l := [v, u]) rfl (by decide) (fun s hs => by
      simp at hs
      rcases hs with rfl | rfl
      · exact g1
      · exact g2
      )
  rw [ht1] at KL1
  rw [ht2] at KL2
  have K1 := man_any hz (v := v) (by omega) A B
  have K2 := rman_any hz (v := v) (by omega) A B
  have K3 := pft_any hz (v := v) (u := u) (kn := kn) (kd := kd) (by omega) (by omega) (by omega) (by omega)
  have K4 := rpft_any hz (v := v) (u := u) (kn := kn) (kd := kd) (by omega) (by omega) (by omega) (by omega)
  have K5 := fchk_any hz
  have K6 := rfchk_any hz
  unfold FV at *
  unfold FR at *
  unfold tval at *
  dsimp only at *
  generalize manR (⟨mn, md, pn, pd, ct⟩ : TermS) v A B = r1 at *
  generalize manE (⟨mn, md, pn, pd, ct⟩ : TermS) v A B = e1 at *
  generalize pfR (⟨mn, md, pn, pd, ct⟩ : TermS) v u kn kd = r2 at *
  generalize pfE (⟨mn, md, pn, pd, ct⟩ : TermS) v u kn kd = e2 at *
  generalize frN (pfQ (⟨mn, md, pn, pd, ct⟩ : TermS) v u kn kd) = qn at *
  generalize frD (pfQ (⟨mn, md, pn, pd, ct⟩ : TermS) v u kn kd) = qd at *
  generalize termE (⟨mn, md, pn, pd, ct⟩ : TermS) = te at *
  have b1 : (e1 == e1) = true := beq_self_eq_true e1
  have b2 : (e2 == e2) = true := beq_self_eq_true e2
  have b3 : (te == te) = true := beq_self_eq_true te
  clear ht1 ht2 hT g1 g2 g3 g4 y1 y2 y3 y4 hz s1 s2 s3 s4
  have hs := ((((St.refl hg).alloc (.cells #[.string mn, .string md, .string pn, .string pd, .int .i64 ct] 54)).alloc (.cells #[.string kn, .string kd] 34)).alloc (.cells #[.int .i64 A, .int .i64 B] 56)).alloc (.cells #[.string kn, .string kd] 34)
  have XT0 := ((Bx.new w #[.string mn, .string md, .string pn, .string pd, .int .i64 ct] 54).alloc (.cells #[.string kn, .string kd] 34)).alloc (.cells #[.int .i64 A, .int .i64 B] 56)
  have XT := XT0.alloc (.cells #[.string kn, .string kd] 34)
  have XM0 := (Bx.new1 w (.cells #[.string mn, .string md, .string pn, .string pd, .int .i64 ct] 54) #[.string kn, .string kd] 34).alloc (.cells #[.int .i64 A, .int .i64 B] 56)
  have XM := XM0.alloc (.cells #[.string kn, .string kd] 34)
  have XP := (Bx.new2 w (.cells #[.string mn, .string md, .string pn, .string pd, .int .i64 ct] 54) (.cells #[.string kn, .string kd] 34) #[.int .i64 A, .int .i64 B] 56).alloc (.cells #[.string kn, .string kd] 34)
  have XS := Bx.new3 w (.cells #[.string mn, .string md, .string pn, .string pd, .int .i64 ct] 54) (.cells #[.string kn, .string kd] 34) (.cells #[.int .i64 A, .int .i64 B] 56) #[.string kn, .string kd] 34
  have a0 := XT0.cell (i := 0) (v := .string mn) rfl
  have a1 := XT0.cell (i := 1) (v := .string md) rfl
  have a2 := XT0.cell (i := 2) (v := .string pn) rfl
  have a3 := XT0.cell (i := 3) (v := .string pd) rfl
  have a4 := XT0.cell (i := 4) (v := .int .i64 ct) rfl
  have am0 := XM0.cell (i := 0) (v := .string kn) rfl
  have am1 := XM0.cell (i := 1) (v := .string kd) rfl
  have HR1 : Hid (Row ((((w.alloc (.cells #[.string mn, .string md, .string pn, .string pd, .int .i64 ct] 54)).alloc (.cells #[.string kn, .string kd] 34)).alloc (.cells #[.int .i64 A, .int .i64 B] 56)).alloc (.cells #[.string kn, .string kd] 34)) (some ⟨w.heap.size + 3, 0, none⟩) (flatG fncells [⟨kn, kd⟩])) := Row.of XS
  have AW := awake45
  clear XT0 XM0
  clear XS
  go_enter Tryz.func7, Tryz.ntmps7
  go_wp2_with fail
  clear a0 a1 a2 a3 a4 am0 am1
  refine KL1.step hs HR1.out ?_
  intro w1 hs hb
  replace XT := XT.on hb
  replace XM := XM.on hb
  replace XP := XP.on hb
  go_wp2_with fail
  have HR2 : Hid (Row (w1.alloc (.cells #[.string v, .string u] 32)) (some ⟨w1.heap.size, 0, none⟩) ([v, u].map sv)) := Row.of (Bx.new w1 #[.string v, .string u] 32)
  replace XT := XT.alloc (.cells #[.string v, .string u] 32)
  replace XM := XM.alloc (.cells #[.string v, .string u] 32)
  replace XP := XP.alloc (.cells #[.string v, .string u] 32)
  replace hs := hs.alloc (.cells #[.string v, .string u] 32)
  refine (KL2 _).step hs HR2.out ?_
  intro w2 hs hb
  replace XT := XT.on hb
  replace XM := XM.on hb
  replace XP := XP.on hb
  have t0 := XT.cell (i := 0) (v := .string mn) rfl
  have t1 := XT.cell (i := 1) (v := .string md) rfl
  have t2 := XT.cell (i := 2) (v := .string pn) rfl
  have t3 := XT.cell (i := 3) (v := .string pd) rfl
  have t4 := XT.cell (i := 4) (v := .int .i64 ct) rfl
  have p0 := XP.cell (i := 0) (v := .int .i64 A) rfl
  have p1 := XP.cell (i := 1) (v := .int .i64 B) rfl
  go_wp2_with fail
  refine K1.step hs ?_
  intro w3 hs hb
  clear t0 t1 t2 t3 t4 p0 p1
  replace XT := XT.on hb
  replace XM := XM.on hb
  replace XP := XP.on hb
  have t0 := XT.cell (i := 0) (v := .string mn) rfl
  have t1 := XT.cell (i := 1) (v := .string md) rfl
  have t2 := XT.cell (i := 2) (v := .string pn) rfl
  have t3 := XT.cell (i := 3) (v := .string pd) rfl
  have t4 := XT.cell (i := 4) (v := .int .i64 ct) rfl
  have p0 := XP.cell (i := 0) (v := .int .i64 A) rfl
  have p1 := XP.cell (i := 1) (v := .int .i64 B) rfl
  go_wp2_with fail
  refine K2.step hs ?_
  intro w4 hs hb
  clear t0 t1 t2 t3 t4 p0 p1
  replace XT := XT.on hb
  replace XM := XM.on hb
  have t0 := XT.cell (i := 0) (v := .string mn) rfl
  have t1 := XT.cell (i := 1) (v := .string md) rfl
  have t2 := XT.cell (i := 2) (v := .string pn) rfl
  have t3 := XT.cell (i := 3) (v := .string pd) rfl
  have t4 := XT.cell (i := 4) (v := .int .i64 ct) rfl
  have m0 := XM.cell (i := 0) (v := .string kn) rfl
  have m1 := XM.cell (i := 1) (v := .string kd) rfl
  go_wp2_with fail
  refine K3.step hs ?_
  intro w5 hs hb
  clear t0 t1 t2 t3 t4 m0 m1
  replace XT := XT.on hb
  replace XM := XM.on hb
  replace XT := XT.alloc (.cells #[.string qn, .string qd] 34)
  replace XM := XM.alloc (.cells #[.string qn, .string qd] 34)
  replace hs := hs.alloc (.cells #[.string qn, .string qd] 34)
  have XQ := Bx.new w5 #[.string qn, .string qd] 34
  have t0 := XT.cell (i := 0) (v := .string mn) rfl
  have t1 := XT.cell (i := 1) (v := .string md) rfl
  have t2 := XT.cell (i := 2) (v := .string pn) rfl
  have t3 := XT.cell (i := 3) (v := .string pd) rfl
  have t4 := XT.cell (i := 4) (v := .int .i64 ct) rfl
  have m0 := XM.cell (i := 0) (v := .string kn) rfl
  have m1 := XM.cell (i := 1) (v := .string kd) rfl
  go_wp2_with fail
  refine K4.step hs ?_
  intro w6 hs hb
  clear t0 t1 t2 t3 t4 m0 m1
  replace XT := XT.on hb
  replace XM := XM.on hb
  replace XQ := XQ.on hb
  replace XT := XT.alloc (.cells #[.string qn, .string qd] 34)
  replace XM := XM.alloc (.cells #[.string qn, .string qd] 34)
  replace XQ := XQ.alloc (.cells #[.string qn, .string qd] 34)
  replace hs := hs.alloc (.cells #[.string qn, .string qd] 34)
  have XR := Bx.new w6 #[.string qn, .string qd] 34
  have k0 := XT.keeps (i := 0) (v := .string mn) rfl
  have k1 := XT.keeps (i := 1) (v := .string md) rfl
  have k2 := XT.keeps (i := 2) (v := .string pn) rfl
  have k3 := XT.keeps (i := 3) (v := .string pd) rfl
  have k4 := XT.keeps (i := 4) (v := .int .i64 ct) rfl
  have kq0 := XQ.keeps (i := 0) (v := .string qn) rfl
  have kq1 := XQ.keeps (i := 1) (v := .string qd) rfl
  have kr0 := XR.keeps (i := 0) (v := .string qn) rfl
  have kr1 := XR.keeps (i := 1) (v := .string qd) rfl
  go_wp2_with fail
  refine wp_region_kept (by kernel_rfl) (by kernel_rfl) ?_
  repeat (go_big_quiet_step (first | (with_reducible exact K5.kept hs) | (with_reducible exact K6.kept hs) | (with_reducible exact AW.kept hs)))
  refine wpQuiet_nil ?_
  rintro _ ⟨u_, rfl⟩
  replace hs := hs.kept u_
  go_wp2_with fail
  go_ret
  exact ⟨rfl, hs.2⟩
theorem fees_any {mn md pn pd v u kn kd : ByteArray} {ct A B : Int} (hT : TermS.big ⟨mn, md, pn, pd, ct⟩) (g1 : v.size ≤ 9223372036854775807) (g2 : u.size ≤ 9223372036854775807) (g3 : kn.size ≤ 9223372036854775807) (g4 : kd.size ≤ 9223372036854775807) (w : World) (hg : Gl w) : Calls Tryz.prog 7 #[.agg #[.string mn, .string md, .string pn, .string pd, .int .i64 ct], .string v, .string u, .agg #[.string kn, .string kd], .agg #[.int .i64 A, .int .i64 B]] w fun e w' => e = .returned (.bool true) ∧ Below w.heap.size w w' := by
  cases ht1 : (lngT ⟨mn, md, pn, pd, ct⟩ || List.any ([⟨kn, kd⟩] : List FnS) lngF) with
  | true => exact fees_long1 hT g1 g2 g3 g4 ht1 w hg
  | false =>
    cases ht2 : List.any ([v, u] : List ByteArray) (fun s => decide (13 < s.size)) with
    | true => exact fees_long2 hT g1 g2 g3 g4 ht1 ht2 w hg
    | false =>
      have h1 := ht1
      rw [Bool.or_eq_false_iff] at h1
      have hz := lngT_false h1.1
      have hk := lngF_false (s := ⟨kn, kd⟩) (by have := h1.2; simpa using this)
      have h2 : v.size ≤ 13 ∧ u.size ≤ 13 := by have := ht2; simp at this; exact this
      exact fees_ok hz h2.1 h2.2 hk.1 hk.2 ht1 ht2 w hg
end Go.Proofs.YtgagjpjlnlandaaGreatDoor
