/- Fees: the contracts of management and Management. Conditions: numbers of up to 40 bytes. -/
import Derived.Test.YtgagjpjlnlandaaGreatDoorFe1
import Derived.Test.YtgagjpjlnlandaaGreatDoorDh
namespace Go.Proofs.YtgagjpjlnlandaaGreatDoor
open Go.RowKit Go.Shelf Dec QQ

theorem frac_self (c A : Int) : (fracR c A A).1 = 0 := by
  by_cases h : (fracR c A A).2 = 0
  · rw [(grows_law h h).1]
  · unfold fracR at h ⊢
    split
    · rfl
    · split
      · rfl
      · rename_i h1 h2
        rw [if_neg h1, if_neg h2, if_neg (by omega)] at h
        exact absurd rfl h

theorem mg_same (v : Int) (m : Rat) (c A : Int) : mgI v m c A A = 0 := by
  unfold mgI
  split
  · rfl
  · rw [frac_self, Rat.mul_zero, Rat.mul_zero, rnd_zero]
theorem mg_neg {v : Int} (m : Rat) (c A B : Int) (h : v < 0) : mgI v m c A B = 0 := if_pos (by omega)
theorem mg_pos {v : Int} (m : Rat) (c A B : Int) (h : ¬ v < 0) : mgI v m c A B = rndQ 1 ((v : Rat) * (m * (fracR c A B).1)) := by
  unfold mgI
  by_cases h0 : v ≤ 0
  · obtain rfl : v = 0 := by omega
    rw [if_pos h0, show ((0 : Int) : Rat) = 0 from rfl, Rat.zero_mul, rnd_zero]
  · rw [if_neg h0]
set_option maxRecDepth 100000 in
set_option maxHeartbeats 4000000 in
theorem mgmt_any {T : TermS} (hz : T.le 13) {v : ByteArray} (hv : v.size ≤ 40) (A B : Int) : Ret 112 #[tval T, .string v, .agg #[.int .i64 A, .int .i64 B]] (.string (canS (mgI (valS v) T.m T.cnt A B))) := by
  intro w hg
  obtain ⟨mn, md, pn, pd, ct⟩ := T
  unfold tval TermS.m
  dsimp only
  obtain ⟨z1, z2, z3, z4⟩ : mn.size ≤ 13 ∧ md.size ≤ 13 ∧ pn.size ≤ 13 ∧ pd.size ≤ 13 := hz
  have hs := ((St.refl hg).alloc (.cells #[.string mn, .string md, .string pn, .string pd, .int .i64 ct] 54)).alloc (.cells #[.int .i64 A, .int .i64 B] 56)
  have XT := (Bx.new w #[.string mn, .string md, .string pn, .string pd, .int .i64 ct] 54).alloc (.cells #[.int .i64 A, .int .i64 B] 56)
  have XP := Bx.new1 w (.cells #[.string mn, .string md, .string pn, .string pd, .int .i64 ct] 54) #[.int .i64 A, .int .i64 B] 56
  have KC := CmpR (Vs.arg (s := v) (by omega)) Vs.nil
  have qc : decide (cmpI (valS v) 0 < 0) = decide (valS v < 0) := cmpI_lt
  have a0 := XP.cell (i := 0) (v := .int .i64 A) rfl
  have a1 := XP.cell (i := 1) (v := .int .i64 B) rfl
  by_cases hab : A = B
  · subst hab
    rw [mg_same, canS_zero]
    have q : (A == A) = true := beq_self_eq_true A
    go_enter Tryz.func112, Tryz.ntmps112
    go_wp2_with fail
    go_ret
    exact ⟨rfl, hs.2⟩
  · have q : (A == B) = false := beq_eq_false_iff_ne.2 hab
    by_cases hn : valS v < 0
    · rw [mg_neg _ _ _ _ hn, canS_zero]
      rw [decide_eq_true hn] at qc
      generalize cmpI (valS v) 0 = cc at *
      clear hab hn
      go_enter Tryz.func112, Tryz.ntmps112
      go_wp2_with fail
      refine KC.step hs ?_
      intro w1 hs _
      go_wp2_with fail
      go_ret
      exact ⟨rfl, hs.2⟩
    · rw [mg_pos _ _ _ _ hn]
      rw [decide_eq_false hn] at qc
      have va := Vs.arg (s := v) (by omega)
      have fa : FitQ 40 ((valS v : Int) : Rat) := FitQ.int (Fit.val hv) (by omega)
      have vm := Vq.arg (n := mn) (d := md) (by omega) (by omega)
      have fm := FitQ.arg (n := mn) (d := md) (k := 13) z1 z2 (by omega)
      have fp := frac_fit ct A B
      have KF := Fraction_any ct A B
      have KO := OfF va (by omega)
      have KM1 := MulF vm (Vq.fr fp (by omega))
      have f1 := fm.mul fp
      have KM2 := MulF (Vq.fr fa (by omega)) (Vq.fr f1 (by omega))
      have f2 := fa.mul f1
      have KR := round_any (Vq.fr f2 (by omega)) f2 (by omega)
      unfold FV at *
      unfold FR at *
      clear va fa vm fm fp f1 f2 hn hab
      generalize canS (rndQ 1 ((valS v : Int) * (ratV mn md * (fracR ct A B).1))) = rs at *
      generalize frN ((valS v : Int) * (ratV mn md * (fracR ct A B).1)) = n3 at *
      generalize frD ((valS v : Int) * (ratV mn md * (fracR ct A B).1)) = d3 at *
      generalize frN (ratV mn md * (fracR ct A B).1) = n2 at *
      generalize frD (ratV mn md * (fracR ct A B).1) = d2 at *
      generalize frN (fracR ct A B).1 = n1 at *
      generalize frD (fracR ct A B).1 = d1 at *
      generalize frN ((valS v : Int) : Rat) = n0 at *
      generalize frD ((valS v : Int) : Rat) = d0 at *
      generalize cmpI (valS v) 0 = cc at *
      generalize (fracR ct A B).2 = fe at *
      go_enter Tryz.func112, Tryz.ntmps112
      go_wp2_with fail
      refine KC.step hs ?_
      intro w2 hs hb
      replace XT := XT.on hb
      replace XP := XP.on hb
      have t4 := XT.cell (i := 4) (v := .int .i64 ct) rfl
      have a0 := XP.cell (i := 0) (v := .int .i64 A) rfl
      have a1 := XP.cell (i := 1) (v := .int .i64 B) rfl
      go_wp2_with fail
      refine KF.step hs ?_
      intro w3 hs hb
      replace XT := (XT.on hb).alloc (.cells #[.string n1, .string d1] 34)
      have XF := Bx.new w3 #[.string n1, .string d1] 34
      replace hs := hs.alloc (.cells #[.string n1, .string d1] 34)
      clear t4 a0 a1
      have k0 := XT.keeps (i := 0) (v := .string mn) rfl
      have k1 := XT.keeps (i := 1) (v := .string md) rfl
      have k2 := XF.keeps (i := 0) (v := .string n1) rfl
      have k3 := XF.keeps (i := 1) (v := .string d1) rfl
      go_wp2_with fail
      refine wp_region_kept (by kernel_rfl) (by kernel_rfl) ?_
      repeat (go_big_quiet_step (first | (with_reducible exact KO.kept hs) | (with_reducible exact KM1.kept hs) | (with_reducible exact KM2.kept hs) | (with_reducible exact KR.kept hs)))
      refine wpQuiet_nil ?_
      rintro _ ⟨u, rfl⟩
      replace hs := hs.kept u
      go_wp2_with fail
      go_ret
      exact ⟨rfl, hs.2⟩
set_option maxRecDepth 100000 in
set_option maxHeartbeats 4000000 in
theorem man_any {T : TermS} (hz : T.le 13) {v : ByteArray} (hv : v.size ≤ 40) (A B : Int) : Ret 39 #[tval T, .string v, .agg #[.int .i64 A, .int .i64 B]] (.tuple #[.string (manR T v A B), .int .i64 (manE T v A B)]) := by
  intro w hg
  have KT := fchk_any hz
  have KV := ChkR (a := v) (by omega)
  have KA := fvalid_any A
  have KB := fvalid_any B
  have KM := mgmt_any hz hv A B
  have HR : Hid (∀ e : Int, manE T v A B = e → e ≠ 0 → manR T v A B = ⟨#[]⟩) := fun e h h0 => if_neg (by rw [h]; exact h0)
  have HZ : Hid (manE T v A B = 0 → manR T v A B = canS (mgI (valS v) T.m T.cnt A B)) := fun h => if_pos h
  have HE : Hid (manE T v A B = if termE T ≠ 0 ∨ chk v ≠ 0 then 1 else if (notDay A || notDay B) = true then 13 else if B < A then 8 else 0) := rfl
  generalize manE T v A B = me at *
  generalize manR T v A B = mr at *
  generalize canS (mgI (valS v) T.m T.cnt A B) = ms at *
  obtain ⟨mn, md, pn, pd, ct⟩ := T
  unfold tval at *
  dsimp only at *
  have hs := ((St.refl hg).alloc (.cells #[.string mn, .string md, .string pn, .string pd, .int .i64 ct] 54)).alloc (.cells #[.int .i64 A, .int .i64 B] 56)
  have XT := (Bx.new w #[.string mn, .string md, .string pn, .string pd, .int .i64 ct] 54).alloc (.cells #[.int .i64 A, .int .i64 B] 56)
  have XP := Bx.new1 w (.cells #[.string mn, .string md, .string pn, .string pd, .int .i64 ct] 54) #[.int .i64 A, .int .i64 B] 56
  have b0 := (Bx.new w #[.string mn, .string md, .string pn, .string pd, .int .i64 ct] 54).cell (i := 0) (v := .string mn) rfl
  have b1 := (Bx.new w #[.string mn, .string md, .string pn, .string pd, .int .i64 ct] 54).cell (i := 1) (v := .string md) rfl
  have t0 := XT.cell (i := 0) (v := .string mn) rfl
  have t1 := XT.cell (i := 1) (v := .string md) rfl
  have t2 := XT.cell (i := 2) (v := .string pn) rfl
  have t3 := XT.cell (i := 3) (v := .string pd) rfl
  have t4 := XT.cell (i := 4) (v := .int .i64 ct) rfl
  generalize termE ⟨mn, md, pn, pd, ct⟩ = te at *
  generalize chk v = cv at *
  clear hz b0 b1
  by_cases h1 : te = 0
  · subst h1
    by_cases h2 : cv = 0
    · subst h2
      have HE2 := HE.out
      rw [if_neg (by decide)] at HE2
      cases hA : notDay A with
      | true =>
        rw [hA] at HE2 KA
        rw [Bool.true_or, if_pos rfl] at HE2
        rw [HR.out 13 HE2 (by decide), HE2]
        clear HE HE2 HR HZ hA
        go_enter Tryz.func39, Tryz.ntmps39
        go_wp2_with fail
        refine KT.step hs ?_
        intro w2 hs hb
        replace XT := XT.on hb
        replace XP := XP.on hb
        have a0 := XP.cell (i := 0) (v := .int .i64 A) rfl
        have a1 := XP.cell (i := 1) (v := .int .i64 B) rfl
        go_wp2_with fail
        refine KV.step hs ?_
        intro w3 hs hb
        clear a0 a1
        replace XT := XT.on hb
        replace XP := XP.on hb
        have a0 := XP.cell (i := 0) (v := .int .i64 A) rfl
        have a1 := XP.cell (i := 1) (v := .int .i64 B) rfl
        have t0 := XT.cell (i := 0) (v := .string mn) rfl
        have t1 := XT.cell (i := 1) (v := .string md) rfl
        have t2 := XT.cell (i := 2) (v := .string pn) rfl
        have t3 := XT.cell (i := 3) (v := .string pd) rfl
        have t4 := XT.cell (i := 4) (v := .int .i64 ct) rfl
        go_wp2_with fail
        clear t0 t1 t2 t3 t4
        refine KA.step hs ?_
        intro w3 hs hb
        clear a0 a1
        replace XT := XT.on hb
        replace XP := XP.on hb
        have a0 := XP.cell (i := 0) (v := .int .i64 A) rfl
        have a1 := XP.cell (i := 1) (v := .int .i64 B) rfl
        have t0 := XT.cell (i := 0) (v := .string mn) rfl
        have t1 := XT.cell (i := 1) (v := .string md) rfl
        have t2 := XT.cell (i := 2) (v := .string pn) rfl
        have t3 := XT.cell (i := 3) (v := .string pd) rfl
        have t4 := XT.cell (i := 4) (v := .int .i64 ct) rfl
        go_wp2_with fail
        clear t0 t1 t2 t3 t4
        go_ret2
        exact ⟨rfl, hs.2⟩
      | false =>
        rw [hA] at HE2 KA
        cases hB : notDay B with
        | true =>
          rw [hB] at HE2 KB
          rw [Bool.false_or, if_pos rfl] at HE2
          rw [HR.out 13 HE2 (by decide), HE2]
          clear HE HE2 HR HZ hA hB
          go_enter Tryz.func39, Tryz.ntmps39
          go_wp2_with fail
          refine KT.step hs ?_
          intro w2 hs hb
          replace XT := XT.on hb
          replace XP := XP.on hb
          have a0 := XP.cell (i := 0) (v := .int .i64 A) rfl
          have a1 := XP.cell (i := 1) (v := .int .i64 B) rfl
          go_wp2_with fail
          refine KV.step hs ?_
          intro w3 hs hb
          clear a0 a1
          replace XT := XT.on hb
          replace XP := XP.on hb
          have a0 := XP.cell (i := 0) (v := .int .i64 A) rfl
          have a1 := XP.cell (i := 1) (v := .int .i64 B) rfl
          have t0 := XT.cell (i := 0) (v := .string mn) rfl
          have t1 := XT.cell (i := 1) (v := .string md) rfl
          have t2 := XT.cell (i := 2) (v := .string pn) rfl
          have t3 := XT.cell (i := 3) (v := .string pd) rfl
          have t4 := XT.cell (i := 4) (v := .int .i64 ct) rfl
          go_wp2_with fail
          clear t0 t1 t2 t3 t4
          refine KA.step hs ?_
          intro w3 hs hb
          clear a0 a1
          replace XT := XT.on hb
          replace XP := XP.on hb
          have a0 := XP.cell (i := 0) (v := .int .i64 A) rfl
          have a1 := XP.cell (i := 1) (v := .int .i64 B) rfl
          have t0 := XT.cell (i := 0) (v := .string mn) rfl
          have t1 := XT.cell (i := 1) (v := .string md) rfl
          have t2 := XT.cell (i := 2) (v := .string pn) rfl
          have t3 := XT.cell (i := 3) (v := .string pd) rfl
          have t4 := XT.cell (i := 4) (v := .int .i64 ct) rfl
          go_wp2_with fail
          clear t0 t1 t2 t3 t4
          refine KB.step hs ?_
          intro w3 hs hb
          clear a0 a1
          replace XT := XT.on hb
          replace XP := XP.on hb
          have a0 := XP.cell (i := 0) (v := .int .i64 A) rfl
          have a1 := XP.cell (i := 1) (v := .int .i64 B) rfl
          have t0 := XT.cell (i := 0) (v := .string mn) rfl
          have t1 := XT.cell (i := 1) (v := .string md) rfl
          have t2 := XT.cell (i := 2) (v := .string pn) rfl
          have t3 := XT.cell (i := 3) (v := .string pd) rfl
          have t4 := XT.cell (i := 4) (v := .int .i64 ct) rfl
          go_wp2_with fail
          clear t0 t1 t2 t3 t4
          go_ret2
          exact ⟨rfl, hs.2⟩
        | false =>
          rw [hB] at HE2 KB
          rw [Bool.false_or, if_neg (by decide)] at HE2
          by_cases hl : B < A
          · rw [if_pos hl] at HE2
            rw [HR.out 8 HE2 (by decide), HE2]
            have q : decide (B < A) = true := decide_eq_true hl
            clear HE HE2 HR HZ hA hB hl
            go_enter Tryz.func39, Tryz.ntmps39
            go_wp2_with fail
            refine KT.step hs ?_
            intro w2 hs hb
            replace XT := XT.on hb
            replace XP := XP.on hb
            have a0 := XP.cell (i := 0) (v := .int .i64 A) rfl
            have a1 := XP.cell (i := 1) (v := .int .i64 B) rfl
            go_wp2_with fail
            refine KV.step hs ?_
            intro w3 hs hb
            clear a0 a1
            replace XT := XT.on hb
            replace XP := XP.on hb
            have a0 := XP.cell (i := 0) (v := .int .i64 A) rfl
            have a1 := XP.cell (i := 1) (v := .int .i64 B) rfl
            have t0 := XT.cell (i := 0) (v := .string mn) rfl
            have t1 := XT.cell (i := 1) (v := .string md) rfl
            have t2 := XT.cell (i := 2) (v := .string pn) rfl
            have t3 := XT.cell (i := 3) (v := .string pd) rfl
            have t4 := XT.cell (i := 4) (v := .int .i64 ct) rfl
            go_wp2_with fail
            clear t0 t1 t2 t3 t4
            refine KA.step hs ?_
            intro w3 hs hb
            clear a0 a1
            replace XT := XT.on hb
            replace XP := XP.on hb
            have a0 := XP.cell (i := 0) (v := .int .i64 A) rfl
            have a1 := XP.cell (i := 1) (v := .int .i64 B) rfl
            have t0 := XT.cell (i := 0) (v := .string mn) rfl
            have t1 := XT.cell (i := 1) (v := .string md) rfl
            have t2 := XT.cell (i := 2) (v := .string pn) rfl
            have t3 := XT.cell (i := 3) (v := .string pd) rfl
            have t4 := XT.cell (i := 4) (v := .int .i64 ct) rfl
            go_wp2_with fail
            clear t0 t1 t2 t3 t4
            refine KB.step hs ?_
            intro w3 hs hb
            clear a0 a1
            replace XT := XT.on hb
            replace XP := XP.on hb
            have a0 := XP.cell (i := 0) (v := .int .i64 A) rfl
            have a1 := XP.cell (i := 1) (v := .int .i64 B) rfl
            have t0 := XT.cell (i := 0) (v := .string mn) rfl
            have t1 := XT.cell (i := 1) (v := .string md) rfl
            have t2 := XT.cell (i := 2) (v := .string pn) rfl
            have t3 := XT.cell (i := 3) (v := .string pd) rfl
            have t4 := XT.cell (i := 4) (v := .int .i64 ct) rfl
            go_wp2_with fail
            clear t0 t1 t2 t3 t4
            go_ret2
            exact ⟨rfl, hs.2⟩
          · rw [if_neg hl] at HE2
            rw [HZ.out HE2, HE2]
            have q : decide (B < A) = false := decide_eq_false hl
            clear HE HE2 HR HZ hA hB hl
            go_enter Tryz.func39, Tryz.ntmps39
            go_wp2_with fail
            refine KT.step hs ?_
            intro w2 hs hb
            replace XT := XT.on hb
            replace XP := XP.on hb
            have a0 := XP.cell (i := 0) (v := .int .i64 A) rfl
            have a1 := XP.cell (i := 1) (v := .int .i64 B) rfl
            go_wp2_with fail
            refine KV.step hs ?_
            intro w3 hs hb
            clear a0 a1
            replace XT := XT.on hb
            replace XP := XP.on hb
            have a0 := XP.cell (i := 0) (v := .int .i64 A) rfl
            have a1 := XP.cell (i := 1) (v := .int .i64 B) rfl
            have t0 := XT.cell (i := 0) (v := .string mn) rfl
            have t1 := XT.cell (i := 1) (v := .string md) rfl
            have t2 := XT.cell (i := 2) (v := .string pn) rfl
            have t3 := XT.cell (i := 3) (v := .string pd) rfl
            have t4 := XT.cell (i := 4) (v := .int .i64 ct) rfl
            go_wp2_with fail
            clear t0 t1 t2 t3 t4
            refine KA.step hs ?_
            intro w3 hs hb
            clear a0 a1
            replace XT := XT.on hb
            replace XP := XP.on hb
            have a0 := XP.cell (i := 0) (v := .int .i64 A) rfl
            have a1 := XP.cell (i := 1) (v := .int .i64 B) rfl
            have t0 := XT.cell (i := 0) (v := .string mn) rfl
            have t1 := XT.cell (i := 1) (v := .string md) rfl
            have t2 := XT.cell (i := 2) (v := .string pn) rfl
            have t3 := XT.cell (i := 3) (v := .string pd) rfl
            have t4 := XT.cell (i := 4) (v := .int .i64 ct) rfl
            go_wp2_with fail
            clear t0 t1 t2 t3 t4
            refine KB.step hs ?_
            intro w3 hs hb
            clear a0 a1
            replace XT := XT.on hb
            replace XP := XP.on hb
            have a0 := XP.cell (i := 0) (v := .int .i64 A) rfl
            have a1 := XP.cell (i := 1) (v := .int .i64 B) rfl
            have t0 := XT.cell (i := 0) (v := .string mn) rfl
            have t1 := XT.cell (i := 1) (v := .string md) rfl
            have t2 := XT.cell (i := 2) (v := .string pn) rfl
            have t3 := XT.cell (i := 3) (v := .string pd) rfl
            have t4 := XT.cell (i := 4) (v := .int .i64 ct) rfl
            go_wp2_with fail
            clear t0 t1 t2 t3 t4
            refine KM.step hs ?_
            intro w3 hs hb
            clear a0 a1
            replace XT := XT.on hb
            replace XP := XP.on hb
            have a0 := XP.cell (i := 0) (v := .int .i64 A) rfl
            have a1 := XP.cell (i := 1) (v := .int .i64 B) rfl
            have t0 := XT.cell (i := 0) (v := .string mn) rfl
            have t1 := XT.cell (i := 1) (v := .string md) rfl
            have t2 := XT.cell (i := 2) (v := .string pn) rfl
            have t3 := XT.cell (i := 3) (v := .string pd) rfl
            have t4 := XT.cell (i := 4) (v := .int .i64 ct) rfl
            go_wp2_with fail
            clear t0 t1 t2 t3 t4
            go_ret2
            exact ⟨rfl, hs.2⟩
    · have HE2 := HE.out
      rw [if_pos (.inr h2)] at HE2
      rw [HR.out 1 HE2 (by decide), HE2]
      have q : (cv != 0) = true := by simpa using h2
      clear HE HE2 HR HZ h2
      go_enter Tryz.func39, Tryz.ntmps39
      go_wp2_with fail
      refine KT.step hs ?_
      intro w2 hs hb
      replace XT := XT.on hb
      replace XP := XP.on hb
      have a0 := XP.cell (i := 0) (v := .int .i64 A) rfl
      have a1 := XP.cell (i := 1) (v := .int .i64 B) rfl
      go_wp2_with fail
      refine KV.step hs ?_
      intro w3 hs hb
      clear a0 a1
      replace XT := XT.on hb
      replace XP := XP.on hb
      have a0 := XP.cell (i := 0) (v := .int .i64 A) rfl
      have a1 := XP.cell (i := 1) (v := .int .i64 B) rfl
      have t0 := XT.cell (i := 0) (v := .string mn) rfl
      have t1 := XT.cell (i := 1) (v := .string md) rfl
      have t2 := XT.cell (i := 2) (v := .string pn) rfl
      have t3 := XT.cell (i := 3) (v := .string pd) rfl
      have t4 := XT.cell (i := 4) (v := .int .i64 ct) rfl
      go_wp2_with fail
      clear t0 t1 t2 t3 t4
      go_ret2
      exact ⟨rfl, hs.2⟩
  · have HE2 := HE.out
    rw [if_pos (.inl h1)] at HE2
    rw [HR.out 1 HE2 (by decide), HE2]
    have q : (te != 0) = true := by simpa using h1
    clear HE HE2 HR HZ h1
    go_enter Tryz.func39, Tryz.ntmps39
    go_wp2_with fail
    refine KT.step hs ?_
    intro w2 hs hb
    replace XT := XT.on hb
    replace XP := XP.on hb
    have a0 := XP.cell (i := 0) (v := .int .i64 A) rfl
    have a1 := XP.cell (i := 1) (v := .int .i64 B) rfl
    go_wp2_with fail
    go_ret2
    exact ⟨rfl, hs.2⟩
end Go.Proofs.YtgagjpjlnlandaaGreatDoor
