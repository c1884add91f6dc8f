/- Parts of years: the walks of DaycountSums and DaycountGrows: for every input they return true. Condition: the library's table and error lie as the program's text lays them. -/
import Derived.Test.YtkefcfbmnehocaaGreatDoorDh
namespace Go.Proofs.YtkefcfbmnehocaaGreatDoor
open Go.RowKit Go.Shelf Dec
open QQ

theorem cmpQ_le0 {x y : Rat} (h : x ≤ y) : decide (cmpQ x y ≤ 0) = true := by
  unfold cmpQ
  by_cases h1 : x < y
  · rw [if_pos h1]; decide
  · rw [if_neg h1]
    by_cases h2 : x = y
    · rw [if_pos h2]; decide
    · exact absurd (Rat.le_antisymm h (Rat.not_lt.1 h1)) h2
theorem cmpQ_ge0 {x y : Rat} (h : y ≤ x) : decide (0 ≤ cmpQ x y) = true := by
  unfold cmpQ
  rw [if_neg (Rat.not_lt.2 h)]
  split <;> decide
set_option maxRecDepth 100000 in
set_option maxHeartbeats 4000000 in
theorem sums_any (c A B C : Int) (w : World) (hg : Gl w) :
    Calls Tryz.prog 7 #[.int .i64 c, .int .i64 A, .int .i64 B, .int .i64 C] w fun e w' => e = .returned (.bool true) ∧ Below w.heap.size w w' := by
  have hs := St.refl hg
  have AW := awake08
  have K1 := Fraction_any c A B
  have F1 := frac_fit c A B
  have K2 := Fraction_any c B C
  have F2 := frac_fit c B C
  have K3 := Fraction_any c A C
  have F3 := frac_fit c A C
  have HL := fun h1 h2 => sums_law (c := c) (A := A) (B := B) (C := C) h1 h2
  generalize fracR c A B = r1 at *
  obtain ⟨q1, e1⟩ := r1
  generalize fracR c B C = r2 at *
  obtain ⟨q2, e2⟩ := r2
  generalize fracR c A C = r3 at *
  obtain ⟨q3, e3⟩ := r3
  simp only at *
  have KA := AddF (Vq.fr F1 (by omega)) (Vq.fr F2 (by omega))
  by_cases h1 : e1 = 0
  · by_cases h2 : e2 = 0
    · subst h1 h2
      obtain ⟨h3, h4⟩ := HL rfl rfl
      subst h3
      clear HL
      by_cases hc : c = 3
      · subst hc
        clear h4 F1 F2 F3 KA
        unfold FR at *
        generalize frN (q1) = n1 at *
        generalize frD (q1) = d1 at *
        generalize frN (q2) = n2 at *
        generalize frD (q2) = d2 at *
        generalize frN (q3) = n3 at *
        generalize frD (q3) = d3 at *
        go_enter Tryz.func7, Tryz.ntmps7
        go_wp2_with fail
        refine K1.step hs ?_
        intro w1 hs hb
        have X1 := Bx.new w1 #[.string n1, .string d1] 34
        replace hs := hs.alloc (.cells #[.string n1, .string d1] 34)
        go_wp2_with fail
        refine K2.step hs ?_
        intro w2 hs hb
        replace X1 := X1.on hb
        have X2 := Bx.new w2 #[.string n2, .string d2] 34
        replace hs := hs.alloc (.cells #[.string n2, .string d2] 34)
        replace X1 := X1.alloc (.cells #[.string n2, .string d2] 34)
        go_wp2_with fail
        refine K3.step hs ?_
        intro w3 hs hb
        replace X1 := X1.on hb
        replace X2 := X2.on hb
        have X3 := Bx.new w3 #[.string n3, .string d3] 34
        replace hs := hs.alloc (.cells #[.string n3, .string d3] 34)
        replace X1 := X1.alloc (.cells #[.string n3, .string d3] 34)
        replace X2 := X2.alloc (.cells #[.string n3, .string d3] 34)
        go_wp2_with fail
        refine wp_region_kept (by kernel_rfl) (by kernel_rfl) ?_
        repeat (go_big_quiet_step (first | (with_reducible exact AW.kept hs)))
        refine wpQuiet_nil ?_
        rintro _ ⟨u, rfl⟩
        go_wp2_with fail
        go_ret
        exact ⟨rfl, (hs.kept u).2⟩
      · have hq := h4 hc
        have qc : (c == 3) = false := by simpa using hc
        rw [hq] at KA
        clear h4 F1 F2 F3 hq hc
        unfold FR FV at *
        generalize frN (q1) = n1 at *
        generalize frD (q1) = d1 at *
        generalize frN (q2) = n2 at *
        generalize frD (q2) = d2 at *
        generalize frN (q3) = n3 at *
        generalize frD (q3) = d3 at *
        have eqF := fun u => eqlF n3 d3 n3 d3 u
        simp only [beq_self_eq_true, Bool.and_true] at eqF
        go_enter Tryz.func7, Tryz.ntmps7
        go_wp2_with fail
        refine K1.step hs ?_
        intro w1 hs hb
        have X1 := Bx.new w1 #[.string n1, .string d1] 34
        replace hs := hs.alloc (.cells #[.string n1, .string d1] 34)
        go_wp2_with fail
        refine K2.step hs ?_
        intro w2 hs hb
        replace X1 := X1.on hb
        have X2 := Bx.new w2 #[.string n2, .string d2] 34
        replace hs := hs.alloc (.cells #[.string n2, .string d2] 34)
        replace X1 := X1.alloc (.cells #[.string n2, .string d2] 34)
        go_wp2_with fail
        refine K3.step hs ?_
        intro w3 hs hb
        replace X1 := X1.on hb
        replace X2 := X2.on hb
        have X3 := Bx.new w3 #[.string n3, .string d3] 34
        replace hs := hs.alloc (.cells #[.string n3, .string d3] 34)
        replace X1 := X1.alloc (.cells #[.string n3, .string d3] 34)
        replace X2 := X2.alloc (.cells #[.string n3, .string d3] 34)
        have x10 := X1.keeps (i := 0) (v := .string n1) rfl
        have x11 := X1.keeps (i := 1) (v := .string d1) rfl
        have x20 := X2.keeps (i := 0) (v := .string n2) rfl
        have x21 := X2.keeps (i := 1) (v := .string d2) rfl
        have x30 := X3.keeps (i := 0) (v := .string n3) rfl
        have x31 := X3.keeps (i := 1) (v := .string d3) rfl
        go_wp2_with fail
        refine wp_region_kept (by kernel_rfl) (by kernel_rfl) ?_
        repeat (go_big_quiet_step (first | (with_reducible exact AW.kept hs) | (with_reducible exact KA.kept hs)))
        refine wpQuiet_nil ?_
        rintro _ ⟨u, rfl⟩
        go_wp2_with fail
        go_ret
        exact ⟨rfl, (hs.kept u).2⟩
    · have p2 : (e2 != 0) = true := by simpa using h2
      subst h1
      clear HL F1 F2 F3 KA
      unfold FR at *
      generalize frN (q1) = n1 at *
      generalize frD (q1) = d1 at *
      generalize frN (q2) = n2 at *
      generalize frD (q2) = d2 at *
      generalize frN (q3) = n3 at *
      generalize frD (q3) = d3 at *
      go_enter Tryz.func7, Tryz.ntmps7
      go_wp2_with fail
      refine K1.step hs ?_
      intro w1 hs hb
      have X1 := Bx.new w1 #[.string n1, .string d1] 34
      replace hs := hs.alloc (.cells #[.string n1, .string d1] 34)
      go_wp2_with fail
      refine K2.step hs ?_
      intro w2 hs hb
      replace X1 := X1.on hb
      have X2 := Bx.new w2 #[.string n2, .string d2] 34
      replace hs := hs.alloc (.cells #[.string n2, .string d2] 34)
      replace X1 := X1.alloc (.cells #[.string n2, .string d2] 34)
      go_wp2_with fail
      refine K3.step hs ?_
      intro w3 hs hb
      replace X1 := X1.on hb
      replace X2 := X2.on hb
      have X3 := Bx.new w3 #[.string n3, .string d3] 34
      replace hs := hs.alloc (.cells #[.string n3, .string d3] 34)
      replace X1 := X1.alloc (.cells #[.string n3, .string d3] 34)
      replace X2 := X2.alloc (.cells #[.string n3, .string d3] 34)
      go_wp2_with fail
      refine AW.step hs ?_
      intro wa hs _
      go_wp2_with fail
      go_ret
      exact ⟨rfl, hs.2⟩
  · have p1 : (e1 != 0) = true := by simpa using h1
    clear HL F1 F2 F3 KA
    unfold FR at *
    generalize frN (q1) = n1 at *
    generalize frD (q1) = d1 at *
    generalize frN (q2) = n2 at *
    generalize frD (q2) = d2 at *
    generalize frN (q3) = n3 at *
    generalize frD (q3) = d3 at *
    go_enter Tryz.func7, Tryz.ntmps7
    go_wp2_with fail
    refine K1.step hs ?_
    intro w1 hs hb
    have X1 := Bx.new w1 #[.string n1, .string d1] 34
    replace hs := hs.alloc (.cells #[.string n1, .string d1] 34)
    go_wp2_with fail
    refine K2.step hs ?_
    intro w2 hs hb
    replace X1 := X1.on hb
    have X2 := Bx.new w2 #[.string n2, .string d2] 34
    replace hs := hs.alloc (.cells #[.string n2, .string d2] 34)
    replace X1 := X1.alloc (.cells #[.string n2, .string d2] 34)
    go_wp2_with fail
    refine K3.step hs ?_
    intro w3 hs hb
    replace X1 := X1.on hb
    replace X2 := X2.on hb
    have X3 := Bx.new w3 #[.string n3, .string d3] 34
    replace hs := hs.alloc (.cells #[.string n3, .string d3] 34)
    replace X1 := X1.alloc (.cells #[.string n3, .string d3] 34)
    replace X2 := X2.alloc (.cells #[.string n3, .string d3] 34)
    go_wp2_with fail
    refine AW.step hs ?_
    intro wa hs _
    go_wp2_with fail
    go_ret
    exact ⟨rfl, hs.2⟩
set_option maxRecDepth 100000 in
set_option maxHeartbeats 4000000 in
theorem grows_any (c A B C : Int) (w : World) (hg : Gl w) :
    Calls Tryz.prog 9 #[.int .i64 c, .int .i64 A, .int .i64 B, .int .i64 C] w fun e w' => e = .returned (.bool true) ∧ Below w.heap.size w w' := by
  have hs := St.refl hg
  have AW := awake08
  have K1 := Fraction_any c A B
  have F1 := frac_fit c A B
  have K2 := Fraction_any c A C
  have F2 := frac_fit c A C
  have K3 := Fraction_any c A A
  have F3 := frac_fit c A A
  have HL := fun h1 h2 => grows_law (c := c) (A := A) (B := B) (C := C) h1 h2
  generalize fracR c A B = r1 at *
  obtain ⟨q1, e1⟩ := r1
  generalize fracR c A C = r2 at *
  obtain ⟨q2, e2⟩ := r2
  generalize fracR c A A = r3 at *
  obtain ⟨q3, e3⟩ := r3
  simp only at *
  have KC := CmpF (Vq.fr F1 (by omega)) (Vq.fr F2 (by omega)) (F1.sub F2) (by omega)
  by_cases h1 : e1 = 0
  · by_cases h2 : e2 = 0
    · subst h1 h2
      obtain ⟨h3, h4, h5⟩ := HL rfl rfl
      injection h3 with h6 h7
      subst h6 h7
      clear HL
      have t1 : decide (B > C) = false → decide (cmpQ q1 q2 ≤ 0) = true := fun h => cmpQ_le0 (h4 (by have := of_decide_eq_false h; omega))
      have t2 : decide (B < C) = false → decide (0 ≤ cmpQ q1 q2) = true := fun h => cmpQ_ge0 (h5 (by have := of_decide_eq_false h; omega))
      clear F1 F2 F3 h4 h5
      unfold FR FV at *
      rw [frN_zero, frD_zero] at K3
      have eqF := fun u => eqlF ⟨#[]⟩ ⟨#[]⟩ ⟨#[]⟩ ⟨#[]⟩ u
      simp only [beq_self_eq_true, Bool.and_true] at eqF
      generalize cmpQ q1 q2 = cc at *
      generalize frN (q1) = n1 at *
      generalize frD (q1) = d1 at *
      generalize frN (q2) = n2 at *
      generalize frD (q2) = d2 at *
      by_cases hbc : C < B
      · have u1 : decide (C < B) = true := decide_eq_true hbc
        have u2 : decide (B < C) = false := decide_eq_false (by omega)
        have u3 := t2 u2
        clear t1 t2 hbc
        go_enter Tryz.func9, Tryz.ntmps9
        go_wp2_with fail
        refine K1.step hs ?_
        intro w1 hs hb
        have X1 := Bx.new w1 #[.string n1, .string d1] 34
        replace hs := hs.alloc (.cells #[.string n1, .string d1] 34)
        go_wp2_with fail
        refine K2.step hs ?_
        intro w2 hs hb
        replace X1 := X1.on hb
        have X2 := Bx.new w2 #[.string n2, .string d2] 34
        replace hs := hs.alloc (.cells #[.string n2, .string d2] 34)
        replace X1 := X1.alloc (.cells #[.string n2, .string d2] 34)
        go_wp2_with fail
        refine K3.step hs ?_
        intro w3 hs hb
        replace X1 := X1.on hb
        replace X2 := X2.on hb
        have X3 := Bx.new w3 #[.string ⟨#[]⟩, .string ⟨#[]⟩] 34
        replace hs := hs.alloc (.cells #[.string ⟨#[]⟩, .string ⟨#[]⟩] 34)
        replace X1 := X1.alloc (.cells #[.string ⟨#[]⟩, .string ⟨#[]⟩] 34)
        replace X2 := X2.alloc (.cells #[.string ⟨#[]⟩, .string ⟨#[]⟩] 34)
        have x10 := X1.cell (i := 0) (v := .string n1) rfl
        have x11 := X1.cell (i := 1) (v := .string d1) rfl
        have x20 := X2.cell (i := 0) (v := .string n2) rfl
        have x21 := X2.cell (i := 1) (v := .string d2) rfl
        go_wp2_with fail
        refine KC.step hs ?_
        intro w4 hs hb
        have z0 := (X3.on hb).cell (i := 0) (v := .string ⟨#[]⟩) rfl
        have z1 := (X3.on hb).cell (i := 1) (v := .string ⟨#[]⟩) rfl
        go_wp2_with fail
        refine AW.step hs ?_
        intro wa hs _
        go_wp2_with fail
        go_ret
        exact ⟨rfl, hs.2⟩
      · have u1 : decide (C < B) = false := decide_eq_false hbc
        have u3 := t1 u1
        by_cases hcb : B < C
        · have u2 : decide (B < C) = true := decide_eq_true hcb
          clear t1 t2 hbc hcb
          go_enter Tryz.func9, Tryz.ntmps9
          go_wp2_with fail
          refine K1.step hs ?_
          intro w1 hs hb
          have X1 := Bx.new w1 #[.string n1, .string d1] 34
          replace hs := hs.alloc (.cells #[.string n1, .string d1] 34)
          go_wp2_with fail
          refine K2.step hs ?_
          intro w2 hs hb
          replace X1 := X1.on hb
          have X2 := Bx.new w2 #[.string n2, .string d2] 34
          replace hs := hs.alloc (.cells #[.string n2, .string d2] 34)
          replace X1 := X1.alloc (.cells #[.string n2, .string d2] 34)
          go_wp2_with fail
          refine K3.step hs ?_
          intro w3 hs hb
          replace X1 := X1.on hb
          replace X2 := X2.on hb
          have X3 := Bx.new w3 #[.string ⟨#[]⟩, .string ⟨#[]⟩] 34
          replace hs := hs.alloc (.cells #[.string ⟨#[]⟩, .string ⟨#[]⟩] 34)
          replace X1 := X1.alloc (.cells #[.string ⟨#[]⟩, .string ⟨#[]⟩] 34)
          replace X2 := X2.alloc (.cells #[.string ⟨#[]⟩, .string ⟨#[]⟩] 34)
          have x10 := X1.cell (i := 0) (v := .string n1) rfl
          have x11 := X1.cell (i := 1) (v := .string d1) rfl
          have x20 := X2.cell (i := 0) (v := .string n2) rfl
          have x21 := X2.cell (i := 1) (v := .string d2) rfl
          go_wp2_with fail
          refine KC.step hs ?_
          intro w4 hs hb
          have z0 := (X3.on hb).cell (i := 0) (v := .string ⟨#[]⟩) rfl
          have z1 := (X3.on hb).cell (i := 1) (v := .string ⟨#[]⟩) rfl
          go_wp2_with fail
          refine AW.step hs ?_
          intro wa hs _
          go_wp2_with fail
          go_ret
          exact ⟨rfl, hs.2⟩
        · have u2 : decide (B < C) = false := decide_eq_false hcb
          have u4 := t2 u2
          clear t1 t2 hbc hcb
          go_enter Tryz.func9, Tryz.ntmps9
          go_wp2_with fail
          refine K1.step hs ?_
          intro w1 hs hb
          have X1 := Bx.new w1 #[.string n1, .string d1] 34
          replace hs := hs.alloc (.cells #[.string n1, .string d1] 34)
          go_wp2_with fail
          refine K2.step hs ?_
          intro w2 hs hb
          replace X1 := X1.on hb
          have X2 := Bx.new w2 #[.string n2, .string d2] 34
          replace hs := hs.alloc (.cells #[.string n2, .string d2] 34)
          replace X1 := X1.alloc (.cells #[.string n2, .string d2] 34)
          go_wp2_with fail
          refine K3.step hs ?_
          intro w3 hs hb
          replace X1 := X1.on hb
          replace X2 := X2.on hb
          have X3 := Bx.new w3 #[.string ⟨#[]⟩, .string ⟨#[]⟩] 34
          replace hs := hs.alloc (.cells #[.string ⟨#[]⟩, .string ⟨#[]⟩] 34)
          replace X1 := X1.alloc (.cells #[.string ⟨#[]⟩, .string ⟨#[]⟩] 34)
          replace X2 := X2.alloc (.cells #[.string ⟨#[]⟩, .string ⟨#[]⟩] 34)
          have x10 := X1.cell (i := 0) (v := .string n1) rfl
          have x11 := X1.cell (i := 1) (v := .string d1) rfl
          have x20 := X2.cell (i := 0) (v := .string n2) rfl
          have x21 := X2.cell (i := 1) (v := .string d2) rfl
          go_wp2_with fail
          refine KC.step hs ?_
          intro w4 hs hb
          have z0 := (X3.on hb).cell (i := 0) (v := .string ⟨#[]⟩) rfl
          have z1 := (X3.on hb).cell (i := 1) (v := .string ⟨#[]⟩) rfl
          go_wp2_with fail
          refine AW.step hs ?_
          intro wa hs _
          go_wp2_with fail
          go_ret
          exact ⟨rfl, hs.2⟩
    · have p2 : (e2 != 0) = true := by simpa using h2
      subst h1
      clear HL F1 F2 F3 KC
      unfold FR at *
      generalize frN (q1) = n1 at *
      generalize frD (q1) = d1 at *
      generalize frN (q2) = n2 at *
      generalize frD (q2) = d2 at *
      generalize frN (q3) = n3 at *
      generalize frD (q3) = d3 at *
      go_enter Tryz.func9, Tryz.ntmps9
      go_wp2_with fail
      refine K1.step hs ?_
      intro w1 hs hb
      have X1 := Bx.new w1 #[.string n1, .string d1] 34
      replace hs := hs.alloc (.cells #[.string n1, .string d1] 34)
      go_wp2_with fail
      refine K2.step hs ?_
      intro w2 hs hb
      replace X1 := X1.on hb
      have X2 := Bx.new w2 #[.string n2, .string d2] 34
      replace hs := hs.alloc (.cells #[.string n2, .string d2] 34)
      replace X1 := X1.alloc (.cells #[.string n2, .string d2] 34)
      go_wp2_with fail
      refine K3.step hs ?_
      intro w3 hs hb
      replace X1 := X1.on hb
      replace X2 := X2.on hb
      have X3 := Bx.new w3 #[.string n3, .string d3] 34
      replace hs := hs.alloc (.cells #[.string n3, .string d3] 34)
      replace X1 := X1.alloc (.cells #[.string n3, .string d3] 34)
      replace X2 := X2.alloc (.cells #[.string n3, .string d3] 34)
      go_wp2_with fail
      refine AW.step hs ?_
      intro wa hs _
      go_wp2_with fail
      go_ret
      exact ⟨rfl, hs.2⟩
  · have p1 : (e1 != 0) = true := by simpa using h1
    clear HL F1 F2 F3 KC
    unfold FR at *
    generalize frN (q1) = n1 at *
    generalize frD (q1) = d1 at *
    generalize frN (q2) = n2 at *
    generalize frD (q2) = d2 at *
    generalize frN (q3) = n3 at *
    generalize frD (q3) = d3 at *
    go_enter Tryz.func9, Tryz.ntmps9
    go_wp2_with fail
    refine K1.step hs ?_
    intro w1 hs hb
    have X1 := Bx.new w1 #[.string n1, .string d1] 34
    replace hs := hs.alloc (.cells #[.string n1, .string d1] 34)
    go_wp2_with fail
    refine K2.step hs ?_
    intro w2 hs hb
    replace X1 := X1.on hb
    have X2 := Bx.new w2 #[.string n2, .string d2] 34
    replace hs := hs.alloc (.cells #[.string n2, .string d2] 34)
    replace X1 := X1.alloc (.cells #[.string n2, .string d2] 34)
    go_wp2_with fail
    refine K3.step hs ?_
    intro w3 hs hb
    replace X1 := X1.on hb
    replace X2 := X2.on hb
    have X3 := Bx.new w3 #[.string n3, .string d3] 34
    replace hs := hs.alloc (.cells #[.string n3, .string d3] 34)
    replace X1 := X1.alloc (.cells #[.string n3, .string d3] 34)
    replace X2 := X2.alloc (.cells #[.string n3, .string d3] 34)
    go_wp2_with fail
    refine AW.step hs ?_
    intro wa hs _
    go_wp2_with fail
    go_ret
    exact ⟨rfl, hs.2⟩
end Go.Proofs.YtkefcfbmnehocaaGreatDoor
