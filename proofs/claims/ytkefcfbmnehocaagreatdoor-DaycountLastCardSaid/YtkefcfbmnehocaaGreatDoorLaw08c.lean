/- Parts of years: the walk of DaycountLast: for every input it returns true. Condition: the library's table and error lie as the program's text lays them. -/
import Derived.Test.YtkefcfbmnehocaaGreatDoorDh
import Derived.Test.YtkefcfbmnehocaaGreatDoorAd1
import Derived.Test.YtkefcfbmnehocaaGreatDoorLaw08a
namespace Go.Proofs.YtkefcfbmnehocaaGreatDoor
open Go.RowKit Go.Shelf Dec
open QQ

set_option maxRecDepth 100000 in
set_option maxHeartbeats 4000000 in
theorem long_one {a pn pd : ByteArray} (b : Nat) (h1 : pn.size ≤ 9223372036854775807) (h2 : pd.size ≤ 9223372036854775807) (h3 : a.size ≤ 9223372036854775807) :
    RetI (fun w => Bx w b #[.string pn, .string pd]) 61 #[.string a, .slice (some ⟨b, 0, none⟩) 1 1] (.bool (decide (20 < pn.size) || (decide (20 < pd.size) || decide (20 < a.size)))) := by
  intro w hg hi
  have hs := St.refl hg
  obtain ⟨t1, q1⟩ : ∃ t, decide (20 < pn.size) = t := ⟨_, rfl⟩
  obtain ⟨t2, q2⟩ : ∃ t, decide (20 < pd.size) = t := ⟨_, rfl⟩
  obtain ⟨t3, q3⟩ : ∃ t, decide (20 < a.size) = t := ⟨_, rfl⟩
  have q1i : decide ((20 : Int) < (pn.size : Int)) = t1 := by rw [← q1, decide_eq_decide]; omega
  have q2i : decide ((20 : Int) < (pd.size : Int)) = t2 := by rw [← q2, decide_eq_decide]; omega
  have q3i : decide ((20 : Int) < (a.size : Int)) = t3 := by rw [← q3, decide_eq_decide]; omega
  rw [q1, q2, q3]
  have Hi := Lib.hid hi
  clear hi
  go_enter Tryz.func61, Tryz.ntmps61
  go_wp2_with fail
  go_loopw [9] (fun s wr => ∃ i : Nat, i ≤ 1 ∧ s = .int .i64 (i : Int) ∧ St w wr ∧ Hid (Bx wr b #[.string pn, .string pd]) ∧ Hid (i = 1 → t1 = false ∧ t2 = false)) (fun s _ => (1 - intOf s).toNat)
  case atStart => exact ⟨0, by omega, rfl, hs, Hi.out, fun h => by cases h⟩
  case round =>
    obtain ⟨i, hi1, rfl, hs, HX, HT⟩ := hrel
    by_cases h0 : i = 0
    · subst h0
      have x0 := HX.out.cell (i := 0) (v := .string pn) rfl
      have x1 := HX.out.cell (i := 1) (v := .string pd) rfl
      clear HT
      cases t1 with
      | true =>
        go_wp2_with fail
        go_ret
        exact ⟨rfl, (hs.alloc _).2⟩
      | false =>
        cases t2 with
        | true =>
          go_wp2_with fail
          go_ret
          exact ⟨rfl, (hs.alloc _).2⟩
        | false =>
          go_wp2_with fail
          go_roundw
          case rel => exact ⟨1, by omega, rfl, hs.alloc _, HX.out.alloc _, by first | exact fun _ => ⟨rfl, rfl⟩ | exact fun _ => ⟨trivial, trivial⟩ | exact fun _ => trivial⟩
          case measure => simp [intOf]
    · obtain rfl : i = 1 := by omega
      obtain ⟨e1, e2⟩ := HT.out rfl
      subst e1 e2
      clear HT
      go_wp2_with fail
      go_ret
      exact ⟨by rfl, hs.2⟩
theorem last_law {c A : Int} {pn pd : ByteArray} (h : (addQ c A pn pd).2 = 0) :
    ∃ n r, IsDay A n ∧ addN c (ratV pn pd) n = r ∧ 1 ≤ r ∧ r ≤ 109573 - n ∧ (addQ c A pn pd).1 = A + ((r : Int) - 1) ∧ 1 ≤ c ∧ c ≤ 5 ∧ partQ c n (n + (r - 1)) ≤ ratV pn pd ∧ (r < 109573 - n → ratV pn pd < partQ c n (n + r)) := by
  unfold addQ at h ⊢
  by_cases hc : chkF pn pd = 0
  · rw [if_neg (fun h => h hc)] at h ⊢
    by_cases h1 : c < 1 ∨ 5 < c
    · rw [if_pos h1] at h; cases h
    · rw [if_neg h1] at h ⊢
      by_cases hn : ratV pn pd < 0
      · rw [if_pos hn] at h; cases h
      · rw [if_neg hn] at h ⊢
        rcases day_cases A with hA | ⟨hA, n, hd⟩
        · rw [if_pos hA.1] at h; cases h
        · rw [if_neg (by rw [hA]; decide), hd.num]
          obtain ⟨p1, p2⟩ := addN_pos (c := c) hd.2 hn
          refine ⟨n, _, hd, rfl, p1, p2, rfl, by omega, by omega, ?_, fun hl => ?_⟩
          · have hb : addN c (ratV pn pd) n - 1 < srch (fun i => decide (ratV pn pd < partQ c n (n + i))) (109573 - n) := by
              show addN c (ratV pn pd) n - 1 < addN c (ratV pn pd) n
              omega
            have := of_decide_eq_false (srch_below hb)
            exact Rat.not_lt.1 this
          · exact of_decide_eq_true (srch_at hl)
  · rw [if_pos hc] at h; cases h
theorem addQ_err {c A : Int} {pn pd : ByteArray} (h : (addQ c A pn pd).2 ≠ 0) : (addQ c A pn pd).1 = 0 := by
  unfold addQ at h ⊢
  split
  · rfl
  · split
    · rfl
    · split
      · rfl
      · split
        · rfl
        · rename_i a b d e; rw [if_neg a, if_neg b, if_neg d, if_neg e] at h; exact absurd rfl h
set_option maxRecDepth 100000 in
set_option maxHeartbeats 4000000 in
theorem last_any (c A : Int) (pn pd : ByteArray) (w : World) (h1 : pn.size ≤ 9223372036854775807) (h2 : pd.size ≤ 9223372036854775807) (hg : Gl w) :
    Calls Tryz.prog 14 #[.int .i64 c, .int .i64 A, .agg #[.string pn, .string pd]] w fun e w' => e = .returned (.bool true) ∧ Below w.heap.size w w' := by
  have hs := St.refl hg
  have AW := awake08
  have KL := long_one (a := ⟨#[]⟩) (w.heap.size + 1) h1 h2 (by decide)
  have XL : Hid (Bx ((w.alloc (.cells #[.string pn, .string pd] 34)).alloc (.cells #[.string pn, .string pd] 34)) (w.heap.size + 1) #[.string pn, .string pd]) := Bx.new1 w _ _ _
  have XP := (Bx.new w #[.string pn, .string pd] 34).alloc (.cells #[.string pn, .string pd] 34)
  obtain ⟨t, ht⟩ : ∃ t, (decide (20 < pn.size) || (decide (20 < pd.size) || decide (20 < (⟨#[]⟩ : ByteArray).size))) = t := ⟨_, rfl⟩
  rw [ht] at KL
  cases t with
  | true =>
    clear ht
    go_enter Tryz.func14, Tryz.ntmps14
    go_wp2_with fail
    refine KL.step ((hs.alloc _).alloc _) XL.out ?_
    intro w1 hs hb
    replace XP := XP.on hb
    clear hb
    go_wp2_with fail
    refine AW.step hs ?_
    intro wa hs _
    go_wp2_with fail
    go_ret
    exact ⟨rfl, hs.2⟩
  | false =>
    have hz : pn.size ≤ 20 ∧ pd.size ≤ 20 := by
      simp only [Bool.or_eq_false_iff, decide_eq_false_iff_not] at ht
      omega
    clear ht
    have K1 := AddD_any c A hz.1 hz.2
    have HE := addQ_err (c := c) (A := A) (pn := pn) (pd := pd)
    have HL := last_law (c := c) (A := A) (pn := pn) (pd := pd)
    generalize (addQ c A pn pd).1 = D at *
    generalize (addQ c A pn pd).2 = e at *
    by_cases he : e = 0
    · subst he
      clear HE
      obtain ⟨n, r, hA, hr, r1, r2, hD, c1, c5, l1, l2⟩ := HL rfl
      have hB : IsDay D (n + (r - 1)) := ⟨by have := hA.1; omega, by have := hA.2; omega⟩
      have K2 := Fraction_any c A D
      rw [fracR_in c1 c5 hA hB (by omega)] at K2
      have hq := Vq.arg (n := pn) (d := pd) (by omega) (by omega)
      have fq := FitQ.arg (n := pn) (d := pd) (k := 20) hz.1 hz.2 (by omega)
      have f2 := part_fit (c := c) hA.2 hB.2
      have K3 := CmpF (Vq.fr f2 (by omega)) hq (f2.sub fq) (by omega)
      have q3 := cmpQ_gt (x := partQ c n (n + (r - 1))) (y := ratV pn pd)
      rw [decide_eq_false (Rat.not_lt.2 l1)] at q3
      have bD : -25567 ≤ D ∧ D ≤ 84005 := by have := hB.1; have := hB.2; omega
      have bD1 := bD.1
      have bD2 := bD.2
      by_cases hm : D = 84005
      · have q4 : (D == 84005) = true := by simpa using hm
        unfold FR at K2
        unfold FV at K3
        clear HL hA hr r1 r2 hD l1 l2 hB hq fq f2 hm bD
        generalize cmpQ (partQ c n (n + (r - 1))) (ratV pn pd) = cc at *
        generalize frN (partQ c n (n + (r - 1))) = n1 at *
        generalize frD (partQ c n (n + (r - 1))) = d1 at *
        go_enter Tryz.func14, Tryz.ntmps14
        go_wp2_with fail
        refine KL.step ((hs.alloc _).alloc _) XL.out ?_
        intro w1 hs hb
        replace XP := XP.on hb
        clear hb
        have xp0 := XP.cell (i := 0) (v := .string pn) rfl
        have xp1 := XP.cell (i := 1) (v := .string pd) rfl
        go_wp2_with fail
        refine K1.step hs ?_
        intro w2 hs hb
        replace XP := XP.on hb
        go_wp2_with fail
        refine K2.step hs ?_
        intro w3 hs hb
        replace XP := (XP.on hb).alloc (.cells #[.string n1, .string d1] 34)
        have X1 := Bx.new w3 #[.string n1, .string d1] 34
        replace hs := hs.alloc (.cells #[.string n1, .string d1] 34)
        have zp0 := XP.cell (i := 0) (v := .string pn) rfl
        have zp1 := XP.cell (i := 1) (v := .string pd) rfl
        have z10 := X1.cell (i := 0) (v := .string n1) rfl
        have z11 := X1.cell (i := 1) (v := .string d1) rfl
        go_wp2_with fail
        refine K3.step hs ?_
        intro w4 hs hb
        go_wp2_with fail
        refine AW.step hs ?_
        intro wa hs _
        go_wp2_with fail
        go_ret
        exact ⟨rfl, hs.2⟩
      · have q4 : (D == 84005) = false := by simpa using hm
        have hC : IsDay (D + 1) (n + r) := ⟨by have := hA.1; omega, by have := hB.1; omega⟩
        have K4 := Fraction_any c A (D + 1)
        rw [fracR_in c1 c5 hA hC (by omega)] at K4
        have f4 := part_fit (c := c) hA.2 hC.2
        have K5 := CmpF (Vq.fr f4 (by omega)) hq (f4.sub fq) (by omega)
        have q5 := cmpQ_gt (x := partQ c n (n + r)) (y := ratV pn pd)
        rw [decide_eq_true (l2 (by have := hC.2; omega))] at q5
        unfold FR at K2 K4
        unfold FV at K3 K5
        clear HL hA hr r1 r2 hD l1 l2 hB hq fq f2 f4 hm bD hC
        generalize cmpQ (partQ c n (n + (r - 1))) (ratV pn pd) = cc at *
        generalize frN (partQ c n (n + (r - 1))) = n1 at *
        generalize frD (partQ c n (n + (r - 1))) = d1 at *
        generalize cmpQ (partQ c n (n + r)) (ratV pn pd) = cd at *
        generalize frN (partQ c n (n + r)) = n2 at *
        generalize frD (partQ c n (n + r)) = d2 at *
        go_enter Tryz.func14, Tryz.ntmps14
        go_wp2_with fail
        refine KL.step ((hs.alloc _).alloc _) XL.out ?_
        intro w1 hs hb
        replace XP := XP.on hb
        clear hb
        have xp0 := XP.cell (i := 0) (v := .string pn) rfl
        have xp1 := XP.cell (i := 1) (v := .string pd) rfl
        go_wp2_with fail
        refine K1.step hs ?_
        intro w2 hs hb
        replace XP := XP.on hb
        go_wp2_with fail
        refine K2.step hs ?_
        intro w3 hs hb
        replace XP := (XP.on hb).alloc (.cells #[.string n1, .string d1] 34)
        have X1 := Bx.new w3 #[.string n1, .string d1] 34
        replace hs := hs.alloc (.cells #[.string n1, .string d1] 34)
        have zp0 := XP.cell (i := 0) (v := .string pn) rfl
        have zp1 := XP.cell (i := 1) (v := .string pd) rfl
        have z10 := X1.cell (i := 0) (v := .string n1) rfl
        have z11 := X1.cell (i := 1) (v := .string d1) rfl
        go_wp2_with fail
        refine K3.step hs ?_
        intro w4 hs hb
        replace XP := XP.on hb
        go_wp2_with fail
        refine K4.step hs ?_
        intro w5 hs hb
        replace XP := (XP.on hb).alloc (.cells #[.string n2, .string d2] 34)
        have X2 := Bx.new w5 #[.string n2, .string d2] 34
        replace hs := hs.alloc (.cells #[.string n2, .string d2] 34)
        have yp0 := XP.cell (i := 0) (v := .string pn) rfl
        have yp1 := XP.cell (i := 1) (v := .string pd) rfl
        have y20 := X2.cell (i := 0) (v := .string n2) rfl
        have y21 := X2.cell (i := 1) (v := .string d2) rfl
        clear zp0 zp1 z10 z11
        go_wp2_with fail
        refine K5.step hs ?_
        intro w6 hs hb
        go_wp2_with fail
        refine AW.step hs ?_
        intro wa hs _
        go_wp2_with fail
        go_ret
        exact ⟨rfl, hs.2⟩
    · have p2 : (e != 0) = true := by simpa using he
      have hD := HE he
      subst hD
      clear HE HL he hz
      go_enter Tryz.func14, Tryz.ntmps14
      go_wp2_with fail
      refine KL.step ((hs.alloc _).alloc _) XL.out ?_
      intro w1 hs hb
      replace XP := XP.on hb
      clear hb
      have xp0 := XP.cell (i := 0) (v := .string pn) rfl
      have xp1 := XP.cell (i := 1) (v := .string pd) rfl
      go_wp2_with fail
      refine K1.step hs ?_
      intro w2 hs _
      go_wp2_with fail
      refine AW.step hs ?_
      intro wa hs _
      go_wp2_with fail
      go_ret
      exact ⟨rfl, hs.2⟩
end Go.Proofs.YtkefcfbmnehocaaGreatDoor
