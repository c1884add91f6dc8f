/- Parts of years, the reference: ratio and Fraction. No condition. -/
import Derived.Test.YtgagjpjlnlandaaGreatDoorRd08
import Derived.Test.YtgagjpjlnlandaaGreatDoorRf2
import Derived.Test.YtgagjpjlnlandaaGreatDoorFq
import Derived.Test.YtgagjpjlnlandaaGreatDoorDh
namespace Go.Proofs.YtgagjpjlnlandaaGreatDoor
open Go.RowKit Go.Shelf Dec QQ

theorem rofR {n : Int} (h0 : -9223372036854775808 ≤ n) (h1 : n ≤ 9223372036854775807) : Ret 197 #[.int .i64 n] (.string (canS n)) := fun w _ => rof_any n w h0 h1
set_option maxRecDepth 100000 in
set_option maxHeartbeats 4000000 in
theorem rratio_any {n d : Int} (hn : n.natAbs < 1000000000) (hd : d.natAbs < 1000000000) (h0 : d ≠ 0) : Ret 137 #[.int .i64 n, .int .i64 d] (FR (rat n d)) := by
  intro w hg
  have hs := St.refl hg
  have K1 := rofR (n := n) (by omega) (by omega)
  have K2 := rofR (n := d) (by omega) (by omega)
  have e9 : (10 : Nat) ^ 9 = 1000000000 := by decide
  have F1 : Fit 9 n := by unfold Fit; omega
  have F2 : Fit 9 d := by unfold Fit; omega
  have K3 := new_r (n := canS n) (d := canS d) (by have := F1.size; omega) (by have := F2.size; omega)
  rw [valS_canS, valS_canS, if_neg h0, if_neg h0] at K3
  clear e9 F1 F2
  unfold FR at K3 ⊢
  generalize canS n = s1 at *
  generalize canS d = s2 at *
  generalize frN (rat n d) = rn at *
  generalize frD (rat n d) = rd at *
  go_enter Tryz.func137, Tryz.ntmps137
  go_wp2_with fail
  refine K1.step (hs.alloc _) ?_
  intro w1 hs hb
  have B0 := (Bx.new w #[.string ⟨#[]⟩, .string ⟨#[]⟩] 34).on hb
  go_wp2_with fail
  refine K2.step hs ?_
  intro w2 hs hb
  have B1 := B0.on hb
  go_wp2_with fail
  refine K3.step hs ?_
  intro w3 hs hb
  have B := (B1.on hb).alloc (.cells #[.string rn, .string rd] 34)
  have hs := hs.alloc (.cells #[.string rn, .string rd] 34)
  have ce0 := B.cell (i := 0) (v := .string ⟨#[]⟩) rfl
  have ce1 := B.cell (i := 1) (v := .string ⟨#[]⟩) rfl
  have cg0 := B.frozen 0
  have cg1 := B.frozen 1
  go_wp2_with fail
  obtain ⟨W, hW, y0, y1, hbe⟩ := ret_frac hs (by omega) B rn rd
  rw [hW]
  exact bodyPost_ret (v := .agg #[.string rn, .string rd]) (by simp [results, Tryz.results137, go_sem, y0, y1]) rfl ⟨rfl, hbe⟩
set_option maxRecDepth 100000 in
set_option maxHeartbeats 4000000 in
theorem rFraction_err {c A B : Int} (h : (daysR c A B).2 ≠ 0) : Ret 64 #[.int .i64 c, .int .i64 A, .int .i64 B] (.tuple #[.agg #[.string ⟨#[]⟩, .string ⟨#[]⟩], .int .i64 (daysR c A B).2]) := by
  intro w hg
  have hs := (St.refl hg).alloc (.cells #[.string ⟨#[]⟩, .string ⟨#[]⟩] 34)
  have B0 := Bx.new w #[.string ⟨#[]⟩, .string ⟨#[]⟩] 34
  have K1 := rDays_any c A B
  have q : ((daysR c A B).2 != 0) = true := by simpa using h
  generalize (daysR c A B).2 = e at *
  generalize (daysR c A B).1 = d at *
  clear h
  go_enter Tryz.func64, Tryz.ntmps64
  go_wp2_with fail
  refine K1.step hs ?_
  intro w1 hs hb
  have B := B0.on hb
  have ce0 := B.cell (i := 0) (v := .string ⟨#[]⟩) rfl
  have ce1 := B.cell (i := 1) (v := .string ⟨#[]⟩) rfl
  have cg0 := B.frozen 0
  have cg1 := B.frozen 1
  go_wp2_with fail
  obtain ⟨W, hW, y0, y1, hbe⟩ := ret_frac hs (by omega) B ⟨#[]⟩ ⟨#[]⟩
  rw [hW]
  exact bodyPost_ret (v := .tuple #[.agg #[.string ⟨#[]⟩, .string ⟨#[]⟩], .int .i64 e]) (by simp [results, Tryz.results64, go_sem, y0, y1]) rfl ⟨rfl, hbe⟩
set_option maxRecDepth 100000 in
set_option maxHeartbeats 4000000 in
theorem rFraction_one {c A B x k : Int} (hd : daysR c A B = (x, 0)) (hx : x.natAbs < 1000000) (hk : (c = 2 ∧ k = 365) ∨ (c ≠ 2 ∧ c ≠ 5 ∧ k = 360)) : Ret 64 #[.int .i64 c, .int .i64 A, .int .i64 B] (.tuple #[FR (rat x k), .int .i64 0]) := by
  intro w hg
  have hs := (St.refl hg).alloc (.cells #[.string ⟨#[]⟩, .string ⟨#[]⟩] 34)
  have B0 := Bx.new w #[.string ⟨#[]⟩, .string ⟨#[]⟩] 34
  have K1 := rDays_any c A B
  rw [hd] at K1
  dsimp only at K1
  clear hd
  have hxa : x ≤ 1000000 := by omega
  have hxb : -1000000 ≤ x := by omega
  rcases hk with ⟨rfl, rfl⟩ | ⟨h2, h5, rfl⟩
  · have K2 := rratio_any (n := x) (d := 365) (by omega) (by decide) (by decide)
    unfold FR at K2 ⊢
    generalize frN (rat x 365) = rn at *
    generalize frD (rat x 365) = rd at *
    clear hx
    go_enter Tryz.func64, Tryz.ntmps64
    go_wp2_with fail
    refine K1.step hs ?_
    intro w1 hs hb
    have B1 := B0.on hb
    go_wp2_with fail
    refine K2.step hs ?_
    intro w2 hs hb
    have B := B1.on hb
    have ce0 := B.cell (i := 0) (v := .string ⟨#[]⟩) rfl
    have ce1 := B.cell (i := 1) (v := .string ⟨#[]⟩) rfl
    have cg0 := B.frozen 0
    have cg1 := B.frozen 1
    go_wp2_with fail
    obtain ⟨W, hW, y0, y1, hbe⟩ := ret_frac hs (by omega) B rn rd
    rw [hW]
    exact bodyPost_ret (v := .tuple #[.agg #[.string rn, .string rd], .int .i64 0]) (by simp [results, Tryz.results64, go_sem, y0, y1]) rfl ⟨rfl, hbe⟩
  · have K2 := rratio_any (n := x) (d := 360) (by omega) (by decide) (by decide)
    unfold FR at K2 ⊢
    generalize frN (rat x 360) = rn at *
    generalize frD (rat x 360) = rd at *
    have q2 : (c == 2) = false := beq_eq_false_iff_ne.2 h2
    have q5 : (c != 5) = true := by simpa using h5
    clear hx h2 h5
    go_enter Tryz.func64, Tryz.ntmps64
    go_wp2_with fail
    refine K1.step hs ?_
    intro w1 hs hb
    have B1 := B0.on hb
    go_wp2_with fail
    refine K2.step hs ?_
    intro w2 hs hb
    have B := B1.on hb
    have ce0 := B.cell (i := 0) (v := .string ⟨#[]⟩) rfl
    have ce1 := B.cell (i := 1) (v := .string ⟨#[]⟩) rfl
    have cg0 := B.frozen 0
    have cg1 := B.frozen 1
    go_wp2_with fail
    obtain ⟨W, hW, y0, y1, hbe⟩ := ret_frac hs (by omega) B rn rd
    rw [hW]
    exact bodyPost_ret (v := .tuple #[.agg #[.string rn, .string rd], .int .i64 0]) (by simp [results, Tryz.results64, go_sem, y0, y1]) rfl ⟨rfl, hbe⟩
/-- the next step of the sum over calendar years -/
theorem next_year {k m : Nat} (hk : k < m) (hm : m < 109573) : 1900 ≤ yN k ∧ yN k ≤ 2199 ∧
    ((2199 < yN k + 1 ∧ m ≤ beginN (yN k + 1)) ∨ (yN k + 1 ≤ 2199 ∧ k < beginN (yN k + 1) ∧ beginN (yN k + 1) ≤ 109573)) := by
  have hd := date_spec (n := k) (by omega)
  have hin := hd.in_year
  have h0 := hd.y0
  have h1 := hd.y1
  refine ⟨h0, h1, ?_⟩
  by_cases h : yN k + 1 ≤ 2199
  · exact .inr ⟨h, hin.2, by have := begin_mono (y := yN k + 1) (z := 2200) (by omega) (by omega); rwa [begin_end] at this⟩
  · have e : yN k + 1 = 2200 := by omega
    refine .inl ⟨by omega, ?_⟩
    rw [e, begin_end]
    omega
/-- the first day of the next year, as the reference asks for it, and the end of the step -/
theorem next_of {k m : Nat} (hk : k < m) (hm : m < 109573) : ∃ (p e : Int) (k2 : Nat), Ret 139 #[.int .i64 ((yN k : Int) + 1), .int .i64 1, .int .i64 1] (.tuple #[.int .i64 p, .int .i64 e])
    ∧ k < k2 ∧ k2 ≤ m ∧ k2 ≤ beginN (yN k + 1) ∧ -25567 ≤ p ∧ p ≤ 84006
    ∧ ((k2 : Int) - 25567 = if ((e == 0) && decide (p < (m : Int) - 25567)) = true then p else (m : Int) - 25567) := by
  obtain ⟨h0, h1, h | h⟩ := next_year hk hm
  · have K := rof06_no (y := yN k + 1) h.1 (by omega)
    rw [Int.natCast_add] at K
    exact ⟨0, 13, m, K, hk, Nat.le_refl _, h.2, by decide, by decide, rfl⟩
  · have K := rof06_year (y := yN k + 1) (by omega) h.1
    rw [Int.natCast_add] at K
    by_cases hl : beginN (yN k + 1) < m
    · exact ⟨_, 0, beginN (yN k + 1), K, h.2.1, Nat.le_of_lt hl, Nat.le_refl _, by omega, by omega, by rw [if_pos]; simp; omega⟩
    · exact ⟨_, 0, m, K, hk, Nat.le_refl _, by omega, by omega, by omega, by rw [if_neg]; simp; omega⟩
set_option maxRecDepth 100000 in
set_option maxHeartbeats 4000000 in
theorem rFraction_act {A B : Int} {n m : Nat} (hA : IsDay A n) (hB : IsDay B m) (hl : A ≤ B) : Ret 64 #[.int .i64 5, .int .i64 A, .int .i64 B] (.tuple #[FR (actQ m - actQ n), .int .i64 0]) := by
  intro w hg
  have hs := (St.refl hg).alloc (.cells #[.string ⟨#[]⟩, .string ⟨#[]⟩] 34)
  have B0 := Bx.new w #[.string ⟨#[]⟩, .string ⟨#[]⟩] 34
  have K1 := rDays_any 5 A B
  have hd : (daysR 5 A B).2 = 0 := by
    unfold daysR
    rw [if_neg (by omega), hA.not, hB.not, if_neg (by decide), if_neg (by omega)]
  rw [hd] at K1
  generalize (daysR 5 A B).1 = x at *
  obtain ⟨hA', hn⟩ := hA
  obtain ⟨hB', hm⟩ := hB
  have hnm : n ≤ m := by omega
  have HA := Lib.hid hA'
  have HB := Lib.hid hB'
  have hB0 : -25567 ≤ B := by omega
  have hB1 : B ≤ 84005 := by omega
  have hA0 : -25567 ≤ A := by omega
  have hA1 : A ≤ 84005 := by omega
  clear hd hl hA' hB'
  have HQ : Hid (∀ k, k < 109573 → FitQ 13 (actQ k - actQ n)) := fun k hk => ((act_fit hk).sub (act_fit hn)).mono (by omega)
  have HZ : Hid (frN (actQ n - actQ n) = ⟨#[]⟩ ∧ frD (actQ n - actQ n) = ⟨#[]⟩) := by
    show _ ∧ _
    rw [Rat.sub_self]
    exact ⟨frN_zero, frD_zero⟩
  unfold FR
  obtain ⟨rn, hrn⟩ : ∃ x, frN (actQ m - actQ n) = x := ⟨_, rfl⟩
  obtain ⟨rd, hrd⟩ : ∃ x, frD (actQ m - actQ n) = x := ⟨_, rfl⟩
  rw [hrn, hrd]
  have HRN := Lib.hid hrn
  have HRD := Lib.hid hrd
  clear hrn hrd
  have HR : Hid (∀ (a : Int) (k : Nat), a = (k : Int) - 25567 → k < 109573 → IsDay a k) := fun a k ha hk => ⟨ha, hk⟩
  go_enter Tryz.func64, Tryz.ntmps64
  go_wp2_with fail
  refine K1.step hs ?_
  intro w1 hs hb1
  have B1 := B0.on hb1
  have hlt1 := B1.lt
  go_wp2_with fail
  have Z0 := Bx.new w1 #[.string ⟨#[]⟩, .string ⟨#[]⟩] 34
  have Y0 := B1.alloc (.cells #[.string ⟨#[]⟩, .string ⟨#[]⟩] 34)
  have hs := hs.alloc (.cells #[.string ⟨#[]⟩, .string ⟨#[]⟩] 34)
  have ce0 := Z0.cell (i := 0) (v := .string ⟨#[]⟩) rfl
  have ce1 := Z0.cell (i := 1) (v := .string ⟨#[]⟩) rfl
  have cg0 := Z0.frozen 0
  have cg1 := Z0.frozen 1
  go_wp2_with fail
  obtain ⟨bz, hbz⟩ : ∃ b, w1.heap.size = b := ⟨_, rfl⟩
  rw [hbz] at Z0 hlt1 ⊢
  have Z1 := Lib.hid Z0
  have Y1 := Lib.hid Y0
  have hs1 := hs
  clear ce0 ce1 cg0 cg1 hs Z0 Y0 B0 B1 hb1 hbz
  generalize w1.alloc (.cells #[.string ⟨#[]⟩, .string ⟨#[]⟩] 34) = W5 at *
  go_loopw [1] (fun a wr => ∃ (k : Nat) (ka : Int), k ≤ m ∧ a = .int .i64 ka ∧ Hid (ka = (k : Int) - 25567) ∧ St w wr ∧ Hid (Bx wr w.heap.size #[.string ⟨#[]⟩, .string ⟨#[]⟩]) ∧ Hid (Bx wr bz #[.string (frN (actQ k - actQ n)), .string (frD (actQ k - actQ n))])) (fun a _ => (84006 - intOf a).toNat)
  case atStart => exact ⟨n, A, hnm, rfl, HA, hs1, Y1, by show Bx _ _ _; rw [HZ.out.1, HZ.out.2]; exact Z1.out⟩
  case round =>
    obtain ⟨k, ka, hk, rfl, HKA, hs, B1, Z1⟩ := hrel
    by_cases hkm : k = m
    · subst hkm
      have q : decide (ka < B) = false := decide_eq_false (by have := HKA.out; have := HB.out; omega)
      replace Z1 : Hid (Bx wr bz #[.string rn, .string rd]) := by show Bx _ _ _; rw [← HRN.out, ← HRD.out]; exact Z1.out
      have u0 := Z1.out.cell (i := 0) (v := .string rn) rfl
      have u1 := Z1.out.cell (i := 1) (v := .string rd) rfl
      have B := B1.out
      have ce0 := B.cell (i := 0) (v := .string ⟨#[]⟩) rfl
      have ce1 := B.cell (i := 1) (v := .string ⟨#[]⟩) rfl
      have cg0 := B.frozen 0
      have cg1 := B.frozen 1
      go_wp2_with fail
      obtain ⟨W, hW, y0, y1, hbe⟩ := ret_frac hs (by omega) B rn rd
      rw [hW]
      exact bodyPost_ret (v := .tuple #[.agg #[.string rn, .string rd], .int .i64 0]) (by simp [results, Tryz.results64, go_sem, y0, y1]) rfl ⟨rfl, hbe⟩
    · have hkl : k < m := by omega
      have q : decide (ka < B) = true := decide_eq_true (by have := HKA.out; have := HB.out; omega)
      have hka0 : -25567 ≤ ka := by have := HKA.out; omega
      have hka1 : ka ≤ 84005 := by have := HKA.out; omega
      have K2 := rparts06_ok (HR.out ka k HKA.out (by omega))
      have K3 := rleap_any (yN k)
      obtain ⟨p, e, k2, K4, hkk, hk2, hk3, hp0, hp1, he⟩ := next_of hkl hm
      rw [← HB.out] at he
      have hy := next_year hkl hm
      have hy0 := hy.1
      have hy1 := hy.2.1
      have hL := ylen_ge (yN k)
      have hstep := actQ_step (y := yN k) rfl (Nat.le_of_lt hkk) hk3 (by omega)
      have KR := rratio_any (n := (k2 : Int) - (k : Int)) (d := (ylen (yN k) : Nat)) (by omega) (by omega) (by omega)
      have z1 := FitQ.sizes (HQ.out k (by omega))
      have z2 := FitQ.sizes (((act_fit (n := k2) (by omega)).sub (act_fit (n := k) (by omega))).mono (show 13 ≤ 13 by omega))
      rw [hstep] at z2
      have KA := radd_r (a := frN (actQ k - actQ n)) (b := frD (actQ k - actQ n)) (c := frN (rat ((k2 : Int) - (k : Int)) (ylen (yN k) : Nat))) (d := frD (rat ((k2 : Int) - (k : Int)) (ylen (yN k) : Nat))) (by omega) (by omega) (by omega) (by omega)
      rw [ratV_fr, ratV_fr, ← hstep, show actQ k - actQ n + (actQ k2 - actQ k) = actQ k2 - actQ n by grind, hstep] at KA
      have HYL : Hid (((ylen (yN k) : Nat) : Int) = if leapN (yN k) = true then 366 else 365) := by show _ = _; unfold ylen; split <;> rfl
      obtain ⟨tn, htn⟩ : ∃ x, frN (actQ k2 - actQ n) = x := ⟨_, rfl⟩
      obtain ⟨td, htd⟩ : ∃ x, frD (actQ k2 - actQ n) = x := ⟨_, rfl⟩
      have HTN := Lib.hid htn
      have HTD := Lib.hid htd
      unfold FR at KR KA
      unfold FV at KA
      rw [htn, htd] at KA
      have hAE : ((k2 : Int) - 25567) - ka = (k2 : Int) - (k : Int) := by have := HKA.out; omega
      rw [← hAE] at KR KA
      clear htn htd z1 z2 hstep hy hAE hk3 hkm
      generalize frN (rat ((k2 : Int) - 25567 - ka) (ylen (yN k) : Nat)) = gn at *
      generalize frD (rat ((k2 : Int) - 25567 - ka) (ylen (yN k) : Nat)) = gd at *
      generalize frN (actQ k - actQ n) = sn at *
      generalize frD (actQ k - actQ n) = sd at *
      generalize ((ylen (yN k) : Nat) : Int) = L at *
      generalize leapN (yN k) = lp at *
      generalize yN k = Y at *
      generalize mN k = M at *
      generalize dN k = D at *
      obtain ⟨E, hE⟩ : ∃ E : Int, (k2 : Int) - 25567 = E := ⟨_, rfl⟩
      rw [hE] at he KR
      have HK2 := Lib.hid hE.symm
      have hE0 : -25567 ≤ E := by omega
      have hE1 : E ≤ 84005 := by omega
      have hE2 : ka < E := by have := HKA.out; omega
      clear hE
      have HE : Hid (E = if ((e == 0) && decide (p < B)) = true then p else B) := he
      clear he
      obtain ⟨t1, ht1⟩ : ∃ t, (e == 0) = t := ⟨_, rfl⟩
      obtain ⟨t2, ht2⟩ : ∃ t, decide (p < B) = t := ⟨_, rfl⟩
      rw [ht1, ht2] at HE
      cases lp
      all_goals
        have HL := HYL.out
        first | rw [if_neg (by decide)] at HL | rw [if_pos rfl] at HL
        subst HL
        clear HYL
        cases t1 <;> cases t2
        all_goals
          have HEE := HE.out
          simp only [Bool.and_self, Bool.and_false, Bool.and_true, reduceIte, Bool.false_eq_true] at HEE
          subst HEE
          clear HE
          go_wp2_with fail
          refine K2.step hs ?_
          intro w2 hs hb2
          have B2 := B1.out.on hb2
          go_wp2_with fail
          refine K3.step hs ?_
          intro w3 hs hb3
          have B3 := B2.on hb3
          go_wp2_with fail
          refine K4.step hs ?_
          intro w4 hs hb4
          have B4 := B3.on hb4
          have Z4 := (Z1.out.on hb2).on hb3 |>.on hb4
          have hlt4 := Z4.lt
          have k0 := Z4.keeps (i := 0) (v := .string sn) rfl
          have k1 := Z4.keeps (i := 1) (v := .string sd) rfl
          go_wp2_with fail
          refine wp_region_kept_tail 7 (by kernel_rfl) (by kernel_rfl) ?_
          simp only [List.take_succ_cons, List.take_zero, List.drop_succ_cons, List.drop_zero]
          repeat (go_big_quiet_step (first | (with_reducible exact KR.kept hs) | (with_reducible exact KA.kept hs)))
          refine wpQuiet_nil ?_
          rintro _ ⟨u, rfl⟩
          have BZ := Z4.kept u
          have BU := B4.kept u
          have hsu := hs.kept u
          have u0 := BZ.cell (i := 0) (v := .string sn) rfl
          have u1 := BZ.cell (i := 1) (v := .string sd) rfl
          have v0 := BZ.frozen 0
          have v1 := BZ.frozen 1
          go_wp2_with fail
          have X6 := (BZ.set 0 (.string tn)).set 1 (.string td)
          have Y6 := (BU.other (c := bz) (by omega) 0 (.string tn)).other (c := bz) (by omega) 1 (.string td)
          have hs6 := (hsu.set (b := bz) (by omega) 0 (.string tn)).set (b := bz) (by omega) 1 (.string td)
          go_roundw
          case rel => exact ⟨k2, _, hk2, rfl, HK2, hs6, Y6, by show Bx _ _ _; rw [HTN.out, HTD.out]; exact X6⟩
          case measure => simp [intOf]; omega
theorem rFraction_any (c A B : Int) : Ret 64 #[.int .i64 c, .int .i64 A, .int .i64 B] (.tuple #[FR (fracR c A B).1, .int .i64 (fracR c A B).2]) := by
  have e2 : (fracR c A B).2 = (daysR c A B).2 := by
    unfold fracR daysR
    by_cases g1 : c < 1 ∨ 5 < c
    · rw [if_pos g1, if_pos g1]
    · rw [if_neg g1, if_neg g1]
      by_cases g2 : (notDay A || notDay B) = true
      · rw [if_pos g2, if_pos g2]
      · rw [if_neg g2, if_neg g2]
        by_cases g3 : B < A
        · rw [if_pos g3, if_pos g3]
        · rw [if_neg g3, if_neg g3]
  by_cases h0 : (fracR c A B).2 = 0
  · obtain ⟨c1, c5, ⟨n, hA⟩, ⟨m, hB⟩, hl, e⟩ := fracR_ok h0
    rw [e]
    rw [hA.num, hB.num]
    unfold partQ
    have ed : daysR c A B = (daysC c n m, 0) := by
      unfold daysR
      rw [if_neg (by omega), hA.not, hB.not, if_neg (by decide), if_neg (by omega), hA.num, hB.num]
    have hb := days_bound (c := c) hA.2 hB.2
    by_cases h5 : c = 5
    · subst h5
      rw [if_pos rfl]
      exact rFraction_act hA hB hl
    · rw [if_neg h5]
      by_cases h2 : c = 2
      · rw [if_pos h2]
        exact rFraction_one ed hb (.inl ⟨h2, rfl⟩)
      · rw [if_neg h2]
        exact rFraction_one ed hb (.inr ⟨h2, h5, rfl⟩)
  · have e1 : (fracR c A B).1 = 0 := by
      unfold fracR at h0 ⊢
      by_cases g1 : c < 1 ∨ 5 < c
      · rw [if_pos g1]
      · rw [if_neg g1] at h0 ⊢
        by_cases g2 : (notDay A || notDay B) = true
        · rw [if_pos g2]
        · rw [if_neg g2] at h0 ⊢
          by_cases g3 : B < A
          · rw [if_pos g3]
          · rw [if_neg g3] at h0
            exact absurd rfl h0
    rw [e1, e2]
    rw [e2] at h0
    unfold FR
    rw [frN_zero, frD_zero]
    exact rFraction_err h0
end Go.Proofs.YtgagjpjlnlandaaGreatDoor
