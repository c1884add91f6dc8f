/- Parts of years: the walks of DaycountYears and DaycountMonths: for every input they return true. Condition: the library's table and error lie as the program's text lays them. -/
import Derived.Test.YtkefcfbmnehocaaGreatDoorDh
import Derived.Test.YtkefcfbmnehocaaGreatDoorDg
namespace Go.Proofs.YtkefcfbmnehocaaGreatDoor
open Go.RowKit Go.Shelf Dec
open QQ

theorem year_cases (x : Int) : (x < 1900 ∨ 2199 < x) ∨ ∃ y : Nat, x = (y : Int) ∧ 1900 ≤ y ∧ y ≤ 2199 := by
  by_cases h : x < 1900 ∨ 2199 < x
  · exact .inl h
  · exact .inr ⟨x.toNat, by omega, by omega, by omega⟩
theorem first_of {y : Nat} (h0 : 1900 ≤ y) (h1 : y ≤ 2199) : Ret 43 #[.int .i64 (y : Int), .int .i64 1, .int .i64 1] (.tuple #[.int .i64 ((beginN y : Int) - 25567), .int .i64 0]) := of_ok (first_date h0 h1)
theorem Fit.small {z : Int} (h : z.natAbs < 1000000) : Fit 6 z := by
  unfold Fit
  rw [pow10.1]
  exact h
set_option maxRecDepth 100000 in
set_option maxHeartbeats 4000000 in
theorem years_any (x z : Int) (w : World) (hg : Gl w) :
    Calls Tryz.prog 8 #[.int .i64 x, .int .i64 z] w fun e w' => e = .returned (.bool true) ∧ Below w.heap.size w w' := by
  have hs := St.refl hg
  have AW := awake08
  rcases year_cases x with hx | ⟨y1, rfl, a1, a2⟩
  · have K1 := of_year (y := x) (m := 1) (d := 1) hx
    obtain ⟨r2, t2, K2⟩ : ∃ r t, Ret 43 #[.int .i64 z, .int .i64 1, .int .i64 1] (.tuple #[.int .i64 r, .int .i64 t]) := by
      rcases year_cases z with hz | ⟨y2, rfl, a3, a4⟩
      · exact ⟨_, _, of_year hz⟩
      · exact ⟨_, _, first_of a3 a4⟩
    clear hx
    go_enter Tryz.func8, Tryz.ntmps8
    go_wp2_with fail
    refine K1.step hs ?_
    intro w1 hs _
    go_wp2_with fail
    refine K2.step hs ?_
    intro w2 hs _
    go_wp2_with fail
    refine AW.step hs ?_
    intro wa hs _
    go_wp2_with fail
    go_ret
    exact ⟨rfl, hs.2⟩
  · have K1 := first_of a1 a2
    rcases year_cases z with hz | ⟨y2, rfl, a3, a4⟩
    · have K2 := of_year (y := z) (m := 1) (d := 1) hz
      generalize (beginN y1 : Int) - 25567 = D1 at *
      clear hz
      go_enter Tryz.func8, Tryz.ntmps8
      go_wp2_with fail
      refine K1.step hs ?_
      intro w1 hs _
      go_wp2_with fail
      refine K2.step hs ?_
      intro w2 hs _
      go_wp2_with fail
      refine AW.step hs ?_
      intro wa hs _
      go_wp2_with fail
      go_ret
      exact ⟨rfl, hs.2⟩
    · have K2 := first_of a3 a4
      have hL := fun h => years_law (y := y1) (z := y2) a1 h a4
      by_cases hl : y2 < y1
      · have q : decide ((y2 : Int) < (y1 : Int)) = true := decide_eq_true (by omega)
        have qn : decide (y2 < y1) = true := decide_eq_true hl
        generalize (beginN y1 : Int) - 25567 = D1 at *
        generalize (beginN y2 : Int) - 25567 = D2 at *
        clear hL hl
        go_enter Tryz.func8, Tryz.ntmps8
        go_wp2_with fail
        refine K1.step hs ?_
        intro w1 hs _
        go_wp2_with fail
        refine K2.step hs ?_
        intro w2 hs _
        go_wp2_with fail
        refine AW.step hs ?_
        intro wa hs _
        go_wp2_with fail
        go_ret
        exact ⟨rfl, hs.2⟩
      · have q : decide ((y2 : Int) < (y1 : Int)) = false := decide_eq_false (by omega)
        have qn : decide (y2 < y1) = false := decide_eq_false hl
        have K3 := Fraction_any 5 ((beginN y1 : Int) - 25567) ((beginN y2 : Int) - 25567)
        rw [hL (by omega)] at K3
        have K4 := OfR (n := (y2 : Int) - (y1 : Int)) (by omega) (by omega)
        have F4 := Fit.small (z := (y2 : Int) - (y1 : Int)) (by omega)
        have K5 := OfF (Vs.can F4 (by omega)) (by have := F4.size; omega)
        unfold FR at K3 K5
        clear hL hl F4
        generalize (beginN y1 : Int) - 25567 = D1 at *
        generalize (beginN y2 : Int) - 25567 = D2 at *
        generalize canS ((y2 : Int) - (y1 : Int)) = s1 at *
        generalize frN (((y2 : Int) - (y1 : Int) : Int) : Rat) = n1 at *
        generalize frD (((y2 : Int) - (y1 : Int) : Int) : Rat) = d1 at *
        have eqF := fun u => eqlF n1 d1 n1 d1 u
        simp only [beq_self_eq_true, Bool.and_true] at eqF
        go_enter Tryz.func8, Tryz.ntmps8
        go_wp2_with fail
        refine K1.step hs ?_
        intro w1 hs _
        go_wp2_with fail
        refine K2.step hs ?_
        intro w2 hs _
        go_wp2_with fail
        refine K3.step hs ?_
        intro w3 hs _
        have X3 := Bx.new w3 #[.string n1, .string d1] 34
        replace hs := hs.alloc (.cells #[.string n1, .string d1] 34)
        have x0 := X3.keeps (i := 0) (v := .string n1) rfl
        have x1 := X3.keeps (i := 1) (v := .string d1) rfl
        go_wp2_with fail
        refine wp_region_kept (by kernel_rfl) (by kernel_rfl) ?_
        repeat (go_big_quiet_step (first | (with_reducible exact AW.kept hs) | (with_reducible exact K4.kept hs) | (with_reducible exact K5.kept hs)))
        refine wpQuiet_nil ?_
        rintro _ ⟨u, rfl⟩
        go_wp2_with fail
        go_ret
        exact ⟨rfl, (hs.kept u).2⟩
theorem shift_later {n : Nat} {k : Int} (h : n < 109573) (ho : shiftOk n k = true) (hd : dN n ≤ 28) (hk : 0 ≤ k) :
    n ≤ shiftN n k ∧ IsDate (shiftN n k) (monthsN n k / 12) (monthsN n k % 12 + 1) (dN n) ∧ 12 * (monthsN n k / 12) + (monthsN n k % 12 + 1) = 12 * yN n + mN n + k.toNat := by
  have hA := date_spec h
  have hB := shift_date h ho
  have hl := lenN_cases (y := monthsN n k / 12) (m := monthsN n k % 12 + 1) (by omega) (by omega)
  rw [show min (dN n) (lenN (monthsN n k / 12) (monthsN n k % 12 + 1)) = dN n by omega] at hB
  have hm : 12 * (monthsN n k / 12) + (monthsN n k % 12 + 1) = 12 * yN n + mN n + k.toNat := by
    have h0 := hA.m0
    have h1 : monthsN n k = 12 * yN n + mN n - 1 + k.toNat := by unfold monthsN; omega
    omega
  refine ⟨?_, hB, hm⟩
  rcases Nat.lt_or_ge (shiftN n k) n with hlt | hge
  · exfalso
    have a0 := hA.m0
    have a1 := hA.m1
    have ea := hA.at_
    have eb := hB.at_
    rcases hB.order hA (Nat.le_of_lt hlt) with hh | ⟨hh, hh' | ⟨hh', _⟩⟩
    · omega
    · omega
    · rw [hh, hh'] at eb
      omega
  · exact hge
theorem addR_ok {A k : Int} {n : Nat} (hA : IsDay A n) (h : (addR A k).2 = 0) : shiftOk n k = true ∧ (addR A k).1 = (shiftN n k : Int) - 25567 := by
  unfold addR at *
  rw [if_neg (by rw [hA.not]; decide), hA.num] at h ⊢
  by_cases hk : k < -4800 ∨ 4800 < k
  · rw [if_pos hk] at h; cases h
  · rw [if_neg hk] at h ⊢
    cases hs : shiftOk n k with
    | true => rw [if_pos rfl]; exact ⟨rfl, rfl⟩
    | false => rw [hs, if_neg (by decide)] at h; cases h
set_option maxRecDepth 100000 in
set_option maxHeartbeats 4000000 in
theorem months_any (A k : Int) (w : World) (hk0 : -9223372036854775808 ≤ k) (hk1 : k ≤ 9223372036854775807) (hg : Gl w) :
    Calls Tryz.prog 10 #[.int .i64 A, .int .i64 k] w fun e w' => e = .returned (.bool true) ∧ Below w.heap.size w w' := by
  have hs := St.refl hg
  have AW := awake08
  have K2 := AddM_any A k
  rcases day_cases A with hA | ⟨_, n, hA⟩
  · have K1 := parts_no hA.1
    generalize (addR A k).1 = r1 at *
    generalize (addR A k).2 = r2 at *
    clear hA
    go_enter Tryz.func10, Tryz.ntmps10
    go_wp2_with fail
    refine K1.step hs ?_
    intro w1 hs _
    go_wp2_with fail
    refine K2.step hs ?_
    intro w2 hs _
    go_wp2_with fail
    refine AW.step hs ?_
    intro wa hs _
    go_wp2_with fail
    go_ret
    exact ⟨rfl, hs.2⟩
  · have K1 := parts_ok hA
    have HO := addR_ok (k := k) hA
    obtain ⟨r1, hr1⟩ : ∃ r, (addR A k).1 = r := ⟨_, rfl⟩
    obtain ⟨r2, hr2⟩ : ∃ r, (addR A k).2 = r := ⟨_, rfl⟩
    rw [hr1, hr2] at K2 HO
    clear hr1 hr2
    by_cases h2 : r2 = 0
    · subst h2
      obtain ⟨hso, hr⟩ := HO rfl
      by_cases hd : 28 < dN n
      · have q1 : decide ((28 : Int) < (dN n : Int)) = true := decide_eq_true (by omega)
        have q1n : decide (28 < dN n) = true := decide_eq_true hd
        clear HO hr hso hd hA
        generalize yN n = y at *
        generalize mN n = mo at *
        generalize dN n = d at *
        go_enter Tryz.func10, Tryz.ntmps10
        go_wp2_with fail
        refine K1.step hs ?_
        intro w1 hs _
        go_wp2_with fail
        refine K2.step hs ?_
        intro w2 hs _
        go_wp2_with fail
        refine AW.step hs ?_
        intro wa hs _
        go_wp2_with fail
        go_ret
        exact ⟨rfl, hs.2⟩
      · have q1 : decide ((28 : Int) < (dN n : Int)) = false := decide_eq_false (by omega)
        have q1n : decide (28 < dN n) = false := decide_eq_false hd
        by_cases hk : k < 0
        · have q2 : decide (k < 0) = true := decide_eq_true hk
          clear HO hr hso hd hA hk
          generalize yN n = y at *
          generalize mN n = mo at *
          generalize dN n = d at *
          go_enter Tryz.func10, Tryz.ntmps10
          go_wp2_with fail
          refine K1.step hs ?_
          intro w1 hs _
          go_wp2_with fail
          refine K2.step hs ?_
          intro w2 hs _
          go_wp2_with fail
          refine AW.step hs ?_
          intro wa hs _
          go_wp2_with fail
          go_ret
          exact ⟨rfl, hs.2⟩
        · have q2 : decide (k < 0) = false := decide_eq_false hk
          by_cases hk2 : 1200 < k
          · have q3 : decide (1200 < k) = true := decide_eq_true hk2
            clear HO hr hso hd hA hk hk2
            generalize yN n = y at *
            generalize mN n = mo at *
            generalize dN n = d at *
            go_enter Tryz.func10, Tryz.ntmps10
            go_wp2_with fail
            refine K1.step hs ?_
            intro w1 hs _
            go_wp2_with fail
            refine K2.step hs ?_
            intro w2 hs _
            go_wp2_with fail
            refine AW.step hs ?_
            intro wa hs _
            go_wp2_with fail
            go_ret
            exact ⟨rfl, hs.2⟩
          · have q3 : decide (1200 < k) = false := decide_eq_false hk2
            obtain ⟨l1, l2, l3⟩ := shift_later hA.2 hso (by omega) (by omega)
            obtain ⟨m4, m3⟩ := months_law (date_spec hA.2) l2 (by omega) l3
            have hB : IsDay r1 (shiftN n k) := ⟨hr, l2.lt⟩
            have hAB : A ≤ r1 := by have := hA.1; omega
            have K5 := Fraction_any 4 A r1
            have K6 := Fraction_any 3 A r1
            rw [fracR_in (by decide) (by decide) hA hB hAB, m4] at K5
            rw [fracR_in (by decide) (by decide) hA hB hAB, m3] at K6
            rw [show ((k.toNat : Nat) : Int) = k by omega] at K5 K6
            have K3 := OfR (n := k) (by omega) (by omega)
            have K7 := OfR (n := 12) (by decide) (by decide)
            have F3 := Fit.small (z := k) (by omega)
            have F7 := Fit.small (z := 12) (by decide)
            have K4 := NewF (Vs.can F3 (by omega)) (Vs.can F7 (by omega)) (by have := F3.size; omega) (by have := F7.size; omega) (by decide)
            unfold FR at K4 K5 K6
            clear HO hr hso hd hA hk hk2 l1 l2 l3 m4 m3 hB hAB F3 F7
            generalize yN n = y at *
            generalize mN n = mo at *
            generalize dN n = d at *
            generalize canS k = s1 at *
            generalize canS 12 = s2 at *
            generalize frN (rat k 12) = n1 at *
            generalize frD (rat k 12) = d1 at *
            have eqF := fun u => eqlF n1 d1 n1 d1 u
            simp only [beq_self_eq_true, Bool.and_true] at eqF
            go_enter Tryz.func10, Tryz.ntmps10
            go_wp2_with fail
            refine K1.step hs ?_
            intro w1 hs _
            go_wp2_with fail
            refine K2.step hs ?_
            intro w2 hs _
            go_wp2_with fail
            refine K3.step hs ?_
            intro w3 hs _
            go_wp2_with fail
            refine K7.step hs ?_
            intro w4 hs _
            go_wp2_with fail
            refine K4.step hs ?_
            intro w5 hs hb
            have X1 := Bx.new w5 #[.string n1, .string d1] 34
            replace hs := hs.alloc (.cells #[.string n1, .string d1] 34)
            go_wp2_with fail
            refine K5.step hs ?_
            intro w6 hs hb
            replace X1 := (X1.on hb).alloc (.cells #[.string n1, .string d1] 34)
            have X2 := Bx.new w6 #[.string n1, .string d1] 34
            replace hs := hs.alloc (.cells #[.string n1, .string d1] 34)
            go_wp2_with fail
            refine K6.step hs ?_
            intro w7 hs hb
            replace X1 := (X1.on hb).alloc (.cells #[.string n1, .string d1] 34)
            replace X2 := (X2.on hb).alloc (.cells #[.string n1, .string d1] 34)
            have X3 := Bx.new w7 #[.string n1, .string d1] 34
            replace hs := hs.alloc (.cells #[.string n1, .string d1] 34)
            have x10 := X1.cell (i := 0) (v := .string n1) rfl
            have x11 := X1.cell (i := 1) (v := .string d1) rfl
            have x20 := X2.cell (i := 0) (v := .string n1) rfl
            have x21 := X2.cell (i := 1) (v := .string d1) rfl
            have x30 := X3.cell (i := 0) (v := .string n1) rfl
            have x31 := X3.cell (i := 1) (v := .string d1) rfl
            go_wp2_with fail
            refine AW.step hs ?_
            intro wa hs _
            go_wp2_with fail
            go_ret
            exact ⟨rfl, hs.2⟩
    · have p2 : (r2 != 0) = true := by simpa using h2
      clear HO h2 hA
      generalize yN n = y at *
      generalize mN n = mo at *
      generalize dN n = d at *
      go_enter Tryz.func10, Tryz.ntmps10
      go_wp2_with fail
      refine K1.step hs ?_
      intro w1 hs _
      go_wp2_with fail
      refine K2.step hs ?_
      intro w2 hs _
      go_wp2_with fail
      refine AW.step hs ?_
      intro wa hs _
      go_wp2_with fail
      go_ret
      exact ⟨rfl, hs.2⟩
end Go.Proofs.YtkefcfbmnehocaaGreatDoor
