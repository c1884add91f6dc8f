/- Attribution: Link where a period is not valid, or names other sectors. Conditions: up to three periods, or more than 64, of up to five sectors with numbers of bounded length, or more than 32. -/
import Derived.Deep.RegionHeld3
import Derived.Test.YticfdeaphiifeaaGreatDoorLkP
import Derived.Test.YticfdeaphiifeaaGreatDoorLk1
import Derived.Test.YticfdeaphiifeaaGreatDoorNl
namespace Go.Proofs.YticfdeaphiifeaaGreatDoor
open Go.RowKit Go.Shelf Dec QQ
def linkR (L : List (List SecS)) : List PrtS := if linkE L = 0 then linkTo L (L.getD 0 []).length L.length else []
def PerN (L : List (List SecS)) : Prop := ∀ l ∈ L, 32 < l.length ∨ FewS 12 l
theorem flat_names (l : List ByteArray) : flatG ncells l = l.map sv := by
 induction l with
 | nil => rfl
 | cons a l ih =>
  show [Value.string a] ++ flatG ncells l = _
  rw [ih]
  rfl
theorem linkE_at {L : List (List SecS)} (h0 : L.length ≠ 0) (h64 : L.length ≤ 64) : linkE L = errL (linkErr L) L.length := by
 unfold linkE
 rw [if_neg h0, if_neg (by omega)]
theorem linkErr_at {L : List (List SecS)} {k : Nat} {d l0 : List SecS} (hd : L[k]? = some d) (h0 : L[0]? = some l0) : linkErr L k = if chkS d ≠ 0 then chkS d else if d.map SecS.nm = l0.map SecS.nm then 0 else 9 := by
 unfold linkErr
 rw [List.getD_eq_getElem?_getD, List.getD_eq_getElem?_getD, hd, h0]
 rfl
theorem chk_few {d : List SecS} (h : 32 < d.length ∨ FewS 12 d) (hc : chkS d = 0) : FewS 12 d := by
 rcases h with h | h
 ·have := (chkS_iff.1 hc).few
  omega
 ·exact h
set_option maxRecDepth 100000 in
set_option maxHeartbeats 4000000 in
theorem link_bad {A : Option Addr} {n c : Nat} {L : List (List SecS)} (hn : L.length = n) (hl : 64 < n ∨ n ≤ 3) (hp : PerN L) (he : linkE L ≠ 0) (w : World) (hg : Gl w) (hr : NRow w A L) :
    Calls Tryz.prog 10 #[.slice A n c] w fun e w' => e = .returned (.tuple #[.slice none 0 0, .int .i64 (linkE L)]) ∧ Below w.heap.size w w' := by
  have hs := St.refl hg
  by_cases h0 : n = 0
  · have e : linkE L = 11 := by unfold linkE; rw [if_pos (by omega)]
    rw [e]
    have q : ((n : Int) == 0) = true := by rw [h0]; rfl
    clear hn hl hp he hr h0 e
    go_enter Tryz.func10, Tryz.ntmps10
    go_wp2_with fail
    go_ret2
    exact ⟨rfl, hs.2⟩
  have q0 : ((n : Int) == 0) = false := by rw [beq_eq_false_iff_ne]; omega
  by_cases h64 : 64 < n
  · have e : linkE L = 4 := by unfold linkE; rw [if_neg (by omega), if_pos (by omega)]
    rw [e]
    have q : decide ((64 : Int) < (n : Int)) = true := decide_eq_true (by omega)
    clear hn hl hp he hr h0 e
    go_enter Tryz.func10, Tryz.ntmps10
    go_wp2_with fail
    go_ret2
    exact ⟨rfl, hs.2⟩
  have q64 : decide ((64 : Int) < (n : Int)) = false := decide_eq_false (by omega)
  have h3 : n ≤ 3 := by omega
  have HLE := Lib.hid (linkE_at (L := L) (by omega) (by omega))
  have HE := Lib.hid he
  have HN := Lib.hid hn
  have HR := Lib.hid hr
  have HPN := Lib.hid hp
  clear hn hl hp he hr h64
  go_enter Tryz.func10, Tryz.ntmps10
  go_wp2_with fail
  go_loopw [23] (fun s wr => ∃ k : Nat, k ≤ n ∧ s = .int .i64 (k : Int) ∧ St w wr ∧ Hid (∀ i, i < k → linkErr L i = 0)) (fun s _ => (n - intOf s).toNat)
  case atStart => exact ⟨0, by omega, rfl, hs, fun i h => by omega⟩
  case round =>
    obtain ⟨k, hk, rfl, hs, HP⟩ := hrel
    by_cases hkn : k = n
    · exact absurd (HLE.out.trans (errL_none (fun i hi => HP.out i (by rw [hkn, ← HN.out]; exact hi)))) HE.out
    · have hkl : k < n := by omega
      have q : decide ((k : Int) < (n : Int)) = true := decide_eq_true (by omega)
      have qn : decide (k < n) = true := decide_eq_true hkl
      have q0n : decide (0 < n) = true := decide_eq_true (by omega)
      have q0i : (0 : Int) < (n : Int) := by omega
      have q0p : 0 < n := by omega
      obtain ⟨d, hd⟩ : ∃ d, L[k]? = some d := ⟨L[k]'(by rw [HN.out]; exact hkl), by simp⟩
      obtain ⟨l0, hl0⟩ : ∃ d, L[0]? = some d := ⟨L[0]'(by rw [HN.out]; omega), by simp⟩
      obtain ⟨b, o, v, hA, hb, hcell, B, cc, hv, hrow, h1, h2⟩ := HR.out k d hd
      obtain ⟨b', o', v', hA', hb', hcell', B0, c0, hv', hrow', h1', h2'⟩ := HR.out 0 l0 hl0
      have hAA := hA.symm.trans hA'
      injection hAA with hAA
      injection hAA with e1 e2
      subst e1 e2 hv hv'
      rw [Nat.add_zero] at hcell'
      have HLK := Lib.hid (linkErr_at hd hl0)
      have HPD := HPN.out d (List.mem_of_getElem? hd)
      have HRX := Lib.hid hrow
      have HR0 := Lib.hid hrow'
      have K1 := scheck_any (A := B) (c := cc) rfl HPD h1
      obtain ⟨n1, hn1⟩ : ∃ x, d.length = x := ⟨_, rfl⟩
      obtain ⟨n0, hn0⟩ : ∃ x, l0.length = x := ⟨_, rfl⟩
      rw [hn1] at h1 K1 hcell
      rw [hn0] at h1' hcell'
      have xk : wr.cell? ⟨b, o + k, none⟩ = some (.slice B n1 cc) := (hs.2.cell (p := ⟨b, o + k, none⟩) hb).trans hcell
      have HS0 : Hid (∀ W, St w W → W.cell? ⟨b, o, none⟩ = some (.slice B0 n0 c0)) := fun W h => (h.2.cell (p := ⟨b, o, none⟩) hb').trans hcell'
      have HD := Lib.hid hd
      have HL0 := Lib.hid hl0
      have HN1 := Lib.hid hn1
      have HN0 := Lib.hid hn0
      have HPDD := Lib.hid HPD
      subst hA
      clear hd hl0 hrow hrow' hcell hcell' hA' hn1 hn0 HPD hkn
      by_cases hck : chkS d = 0
      · have hfew := chk_few HPDD.out hck
        have hn5 : n1 ≤ 1000000 := by have := hfew.1; have := HN1.out; omega
        rw [hck] at K1
        have HCK := Lib.hid hck
        have h00 : chkS l0 = 0 := by
          by_cases hk0 : k = 0
          · subst hk0
            have := HD.out.symm.trans HL0.out
            injection this with this
            rw [← this]
            exact HCK.out
          · have h3 := HP.out 0 (by omega)
            rw [linkErr_at HL0.out HL0.out] at h3
            refine Decidable.byContradiction fun h => ?_
            rw [if_pos h] at h3
            exact h h3
        have hfew0 := chk_few (HPN.out l0 (List.mem_of_getElem? HL0.out)) h00
        have hn50 : n0 ≤ 1000000 := by have := hfew0.1; have := HN0.out; omega
        have KX : Hid (∀ W, St w W → Calls Tryz.prog 40 #[.slice B n1 cc] W fun e w' => ∃ v, e = .returned v ∧ OutG ncells 9 1 W.heap.size w' v n1 (d.map SecS.nm) ∧ Below W.heap.size W w') := fun W h => namesS_any HN1.out hn5 W h.gl (HRX.out.on h.2)
        have K0 : Hid (∀ W, St w W → Calls Tryz.prog 40 #[.slice B0 n0 c0] W fun e w' => ∃ v, e = .returned v ∧ OutG ncells 9 1 W.heap.size w' v n0 (l0.map SecS.nm) ∧ Below W.heap.size W w') := fun W h => namesS_any HN0.out hn50 W h.gl (HR0.out.on h.2)
        have KE : Hid (∀ A A' c c', RetI (fun w => Row w A (flatG ncells (d.map SecS.nm)) ∧ Row w A' (flatG ncells (l0.map SecS.nm))) 39 #[.slice A n1 c, .slice A' n0 c'] (.bool (decide (d.map SecS.nm = l0.map SecS.nm)))) := by
          intro A A' c c'
          rw [flat_names, flat_names]
          exact equalStr (by rw [List.length_map]; exact HN1.out) (by rw [List.length_map]; exact HN0.out) hn5 hn50
        clear hfew hfew0 h00 hck
        have HLK2 : Hid (linkErr L k = if d.map SecS.nm = l0.map SecS.nm then 0 else 9) := by
          show _ = _
          rw [HLK.out, if_neg (by rw [HCK.out]; decide)]
        obtain ⟨te, hte⟩ : ∃ te, decide (d.map SecS.nm = l0.map SecS.nm) = te := ⟨_, rfl⟩
        rw [hte] at KE
        have HTE := Lib.hid hte
        generalize d.map SecS.nm = xs at *
        generalize l0.map SecS.nm = ys at *
        clear hte HLK HPDD HCK
        have q1 : ((0 : Int) != 0) = false := rfl
        cases te with
        | true =>
          have hz : linkErr L k = 0 := by rw [HLK2.out, if_pos (of_decide_eq_true HTE.out)]
          have HPK : Hid (∀ i, i < k + 1 → linkErr L i = 0) := by
            intro i hi
            by_cases e : i = k
            · subst e; exact hz
            · exact HP.out i (by omega)
          clear hz
          go_wp2_with fail
          refine K1.step hs (HRX.out.on hs.2) ?_
          intro w1 hs1 _
          clear xk hs
          go_wp2_with fail
          have s0 := HS0.out _ hs1
          go_region_held3 (fun w' => w'.cell? ⟨b, o, none⟩ = some (.slice B0 n0 c0))
            (first
              | (with_reducible exact sE)
              | (with_reducible exact sD)
              | (with_reducible exact sC)
              | (with_reducible exact sB)
              | (with_reducible exact sA)
              | (with_reducible exact s0)
              | exact HS0.out _ hs1.drew
              | (go_keep; done))
            (first
              | (go_at_call 40
                 with_reducible refine (KX.out _ (by first | with_reducible exact hs1 | with_reducible exact hs1.drew)).mono ?_
                 rintro e wA ⟨vA, rfl, hoA, hbA⟩
                 have hsA := (by first | with_reducible exact hs1.on hbA | with_reducible exact hs1.drew.on hbA : St w wA)
                 obtain ⟨AA, cA, hvA, rA⟩ := hoA.row
                 subst hvA
                 have sA := HS0.out _ hsA
                 clear hoA)
              | (go_at_call 40
                 with_reducible refine (K0.out _ (by first | with_reducible exact hsA | with_reducible exact hsA.drew)).mono ?_
                 rintro e wB ⟨vB, rfl, hoB, hbB⟩
                 have hsB := (by first | with_reducible exact hsA.on hbB | with_reducible exact hsA.drew.on hbB : St w wB)
                 obtain ⟨AB, cB, hvB, rB⟩ := hoB.row
                 subst hvB
                 have sB := HS0.out _ hsB
                 have rAB := rA.on hbB
                 clear hoB)
              | (go_at_call 40
                 with_reducible refine (K0.out _ (by first | with_reducible exact hs1 | with_reducible exact hs1.drew)).mono ?_
                 rintro e wC ⟨vC, rfl, hoC, hbC⟩
                 have hsC := (by first | with_reducible exact hs1.on hbC | with_reducible exact hs1.drew.on hbC : St w wC)
                 obtain ⟨AC, cC, hvC, rC⟩ := hoC.row
                 subst hvC
                 have sC := HS0.out _ hsC
                 clear hoC)
              | (go_at_call 40
                 with_reducible refine (KX.out _ (by first | with_reducible exact hsC | with_reducible exact hsC.drew)).mono ?_
                 rintro e wD ⟨vD, rfl, hoD, hbD⟩
                 have hsD := (by first | with_reducible exact hsC.on hbD | with_reducible exact hsC.drew.on hbD : St w wD)
                 obtain ⟨AD, cD, hvD, rD⟩ := hoD.row
                 subst hvD
                 have sD := HS0.out _ hsD
                 have rCD := rC.on hbD
                 clear hoD)
              | (go_at_call 39
                 with_reducible refine (KE.out _ _ _ _).step (by first | with_reducible exact hsB | with_reducible exact hsB.drew) (by first | with_reducible exact ⟨rAB, rB⟩) ?_
                 intro wE hsE hbE
                 have sE := HS0.out _ hsE)
              | (go_at_call 39
                 with_reducible refine (KE.out _ _ _ _).step (by first | with_reducible exact hsD | with_reducible exact hsD.drew) (by first | with_reducible exact ⟨rD, rCD⟩) ?_
                 intro wE hsE hbE
                 have sE := HS0.out _ hsE))
          all_goals (clear KX K0 KE)
          all_goals (go_wp2_with fail)
          all_goals go_roundw
          all_goals first
            | exact ⟨k + 1, by omega, by go_num, hsE, HPK.out⟩
            | (simp [intOf]; omega)
        | false =>
          have hz : linkErr L k = 9 := by rw [HLK2.out, if_neg (of_decide_eq_false HTE.out)]
          have h9 := HLE.out.trans (errL_at (by rw [HN.out]; exact hkl) (by rw [hz]; decide) HP.out)
          rw [hz] at h9
          have HZ := Lib.hid h9
          clear hz h9
          go_wp2_with fail
          refine K1.step hs (HRX.out.on hs.2) ?_
          intro w1 hs1 _
          clear xk hs
          go_wp2_with fail
          have s0 := HS0.out _ hs1
          go_region_held3 (fun w' => w'.cell? ⟨b, o, none⟩ = some (.slice B0 n0 c0))
            (first
              | (with_reducible exact sE)
              | (with_reducible exact sD)
              | (with_reducible exact sC)
              | (with_reducible exact sB)
              | (with_reducible exact sA)
              | (with_reducible exact s0)
              | exact HS0.out _ hs1.drew
              | (go_keep; done))
            (first
              | (go_at_call 40
                 with_reducible refine (KX.out _ (by first | with_reducible exact hs1 | with_reducible exact hs1.drew)).mono ?_
                 rintro e wA ⟨vA, rfl, hoA, hbA⟩
                 have hsA := (by first | with_reducible exact hs1.on hbA | with_reducible exact hs1.drew.on hbA : St w wA)
                 obtain ⟨AA, cA, hvA, rA⟩ := hoA.row
                 subst hvA
                 have sA := HS0.out _ hsA
                 clear hoA)
              | (go_at_call 40
                 with_reducible refine (K0.out _ (by first | with_reducible exact hsA | with_reducible exact hsA.drew)).mono ?_
                 rintro e wB ⟨vB, rfl, hoB, hbB⟩
                 have hsB := (by first | with_reducible exact hsA.on hbB | with_reducible exact hsA.drew.on hbB : St w wB)
                 obtain ⟨AB, cB, hvB, rB⟩ := hoB.row
                 subst hvB
                 have sB := HS0.out _ hsB
                 have rAB := rA.on hbB
                 clear hoB)
              | (go_at_call 40
                 with_reducible refine (K0.out _ (by first | with_reducible exact hs1 | with_reducible exact hs1.drew)).mono ?_
                 rintro e wC ⟨vC, rfl, hoC, hbC⟩
                 have hsC := (by first | with_reducible exact hs1.on hbC | with_reducible exact hs1.drew.on hbC : St w wC)
                 obtain ⟨AC, cC, hvC, rC⟩ := hoC.row
                 subst hvC
                 have sC := HS0.out _ hsC
                 clear hoC)
              | (go_at_call 40
                 with_reducible refine (KX.out _ (by first | with_reducible exact hsC | with_reducible exact hsC.drew)).mono ?_
                 rintro e wD ⟨vD, rfl, hoD, hbD⟩
                 have hsD := (by first | with_reducible exact hsC.on hbD | with_reducible exact hsC.drew.on hbD : St w wD)
                 obtain ⟨AD, cD, hvD, rD⟩ := hoD.row
                 subst hvD
                 have sD := HS0.out _ hsD
                 have rCD := rC.on hbD
                 clear hoD)
              | (go_at_call 39
                 with_reducible refine (KE.out _ _ _ _).step (by first | with_reducible exact hsB | with_reducible exact hsB.drew) (by first | with_reducible exact ⟨rAB, rB⟩) ?_
                 intro wE hsE hbE
                 have sE := HS0.out _ hsE)
              | (go_at_call 39
                 with_reducible refine (KE.out _ _ _ _).step (by first | with_reducible exact hsD | with_reducible exact hsD.drew) (by first | with_reducible exact ⟨rD, rCD⟩) ?_
                 intro wE hsE hbE
                 have sE := HS0.out _ hsE))
          all_goals (clear KX K0 KE)
          all_goals (go_wp2_with fail)
          all_goals go_ret2
          all_goals exact ⟨by (rw [HZ.out]; try rfl), hsE.2⟩
      · have hz : linkErr L k = chkS d := by rw [HLK.out, if_pos hck]
        have h9 := HLE.out.trans (errL_at (by rw [HN.out]; exact hkl) (by rw [hz]; exact hck) HP.out)
        rw [hz] at h9
        have HZ := Lib.hid h9
        have q1 : (chkS d != 0) = true := by simpa using hck
        clear hz h9 hck HLK HPDD
        generalize chkS d = ch at *
        go_wp2_with fail
        refine K1.step hs (HRX.out.on hs.2) ?_
        intro w1 hs1 _
        clear xk hs
        go_wp2_with fail
        go_ret2
        exact ⟨by (rw [HZ.out]; try rfl), hs1.2⟩
end Go.Proofs.YticfdeaphiifeaaGreatDoor
