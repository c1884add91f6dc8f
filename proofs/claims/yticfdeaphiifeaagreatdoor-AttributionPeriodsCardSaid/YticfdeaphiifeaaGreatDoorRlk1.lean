/- Attribution, the reference: Link. Conditions: up to three periods, or more than 64, of up to five sectors with numbers of up to twelve bytes, or more than 32. -/
import Derived.Test.YticfdeaphiifeaaGreatDoorLk2
import Derived.Test.YticfdeaphiifeaaGreatDoorLk3
import Derived.Test.YticfdeaphiifeaaGreatDoorLp
namespace Go.Proofs.YticfdeaphiifeaaGreatDoor
open Go.RowKit Go.Shelf Dec QQ
def sameTo (d l0 : List SecS) (i : Nat) : Prop := ∀ j, j < i → (d[j]?).map SecS.nm = (l0[j]?).map SecS.nm
theorem same_all {d l0 : List SecS} (hl : d.length = l0.length) (h : sameTo d l0 d.length) : d.map SecS.nm = l0.map SecS.nm := by
 apply List.ext_getElem?
 intro j
 rw [List.getElem?_map, List.getElem?_map]
 by_cases hj : j < d.length
 ·exact h j hj
 ·rw [List.getElem?_eq_none (by omega), List.getElem?_eq_none (by omega)]
theorem same_not {d l0 : List SecS} {j : Nat} {s t : SecS} (hs : d[j]? = some s) (ht : l0[j]? = some t) (h : s.nm ≠ t.nm) : d.map SecS.nm ≠ l0.map SecS.nm := by
 intro e
 have := congrArg (fun x => x[j]?) e
 simp only [List.getElem?_map, hs, ht, Option.map_some] at this
 injection this with this
 exact h this
set_option maxRecDepth 100000 in
set_option maxHeartbeats 4000000 in
theorem rlink_bad {A : Option Addr} {n c : Nat} {L : List (List SecS)} (hn : L.length = n) (hl : 64 < n ∨ n ≤ 3) (hp : PerN L) (he : linkE L ≠ 0) (w : World) (hg : Gl w) (hr : NRow w A L) :
  Calls Tryz.prog 11 #[.slice A n c] w fun e w' => e = .returned (.tuple #[.slice none 0 0, .int .i64 (linkE L)]) ∧ Below w.heap.size w w' := by
 have hs := St.refl hg
 by_cases h0 : n = 0
 ·have e : linkE L = 11 := by unfold linkE; rw [if_pos (by omega)]
  rw [e]
  have q : ((n : Int) == 0) = true := by rw [h0]; rfl
  clear hn hl hp he hr h0 e
  go_enter Tryz.func11, Tryz.ntmps11
  go_wp2_with fail
  go_ret2
  exact ⟨rfl, hs.2⟩
 have q0 : ((n : Int) == 0) = false := by rw [beq_eq_false_iff_ne]; omega
 by_cases h64 : 64 < n
 ·have e : linkE L = 4 := by unfold linkE; rw [if_neg (by omega), if_pos (by omega)]
  rw [e]
  have q : decide ((64 : Int) < (n : Int)) = true := decide_eq_true (by omega)
  clear hn hl hp he hr h0 e
  go_enter Tryz.func11, Tryz.ntmps11
  go_wp2_with fail
  go_ret2
  exact ⟨rfl, hs.2⟩
 have q64 : decide ((64 : Int) < (n : Int)) = false := decide_eq_false (by omega)
 have h3 : n ≤ 3 := by omega
 have HLE := Lib.hid (linkE_at (L := L) (by omega) (by omega))
 have HE := Lib.hid he
 have HN := Lib.hid hn
 have HR := Lib.hid hr
 have HPN := Lib.hid hp
 clear hn hl hp he hr h64
 go_enter Tryz.func11, Tryz.ntmps11
 go_wp2_with fail
 go_loopw [4] (fun s wr => ∃ k : Nat, k ≤ n ∧ s = .int .i64 (k : Int) ∧ St w wr ∧ Hid (∀ i, i < k → linkErr L i = 0)) (fun s _ => (n - intOf s).toNat)
 case atStart => exact ⟨0, by omega, rfl, hs, fun i h => by omega⟩
 case round =>
  obtain ⟨k, hk, rfl, hs, HP⟩ := hrel
  by_cases hkn : k = n
  ·exact absurd (HLE.out.trans (errL_none (fun i hi => HP.out i (by rw [hkn, ← HN.out]; exact hi)))) HE.out
  ·have hkl : k < n := by omega
   have q : decide ((k : Int) < (n : Int)) = true := decide_eq_true (by omega)
   have qn : decide (k < n) = true := decide_eq_true hkl
   have q0n : decide (0 < n) = true := decide_eq_true (by omega)
   have q0i : (0 : Int) < (n : Int) := by omega
   obtain ⟨d, hd⟩ : ∃ d, L[k]? = some d := ⟨L[k]'(by rw [HN.out]; exact hkl), by simp⟩
   obtain ⟨l0, hl0⟩ : ∃ d, L[0]? = some d := ⟨L[0]'(by rw [HN.out]; omega), by simp⟩
   obtain ⟨b, o, v, hA, hb, hcell, B, cc, hv, hrow, h1, h2⟩ := HR.out k d hd
   obtain ⟨b', o', v', hA', hb', hcell', B0, c0, hv', hrow', h1', h2'⟩ := HR.out 0 l0 hl0
   have hAA := hA.symm.trans hA'
   injection hAA with hAA
   injection hAA with e1 e2
   subst e1 e2 hv hv'
   rw [Nat.add_zero] at hcell'
   have HLK := Lib.hid (linkErr_at hd hl0)
   have HPD := HPN.out d (List.mem_of_getElem? hd)
   have HPL := HPN.out l0 (List.mem_of_getElem? hl0)
   have HRX := Lib.hid hrow
   have HR0 := Lib.hid hrow'
   have K1 := rscheck_any (A := B) (c := cc) rfl HPD
   obtain ⟨n1, hn1⟩ : ∃ x, d.length = x := ⟨_, rfl⟩
   obtain ⟨n0, hn0⟩ : ∃ x, l0.length = x := ⟨_, rfl⟩
   rw [hn1] at h1 K1 hcell
   rw [hn0] at h1' hcell'
   have HSK : Hid (∀ W, St w W → W.cell? ⟨b, o + k, none⟩ = some (.slice B n1 cc) ∧ W.cell? ⟨b, o, none⟩ = some (.slice B0 n0 c0)) := fun W h => ⟨(h.2.cell (p := ⟨b, o + k, none⟩) hb).trans hcell, (h.2.cell (p := ⟨b, o, none⟩) hb').trans hcell'⟩
   have xk := (HSK.out _ hs).1
   have HD := Lib.hid hd
   have HL0 := Lib.hid hl0
   have HN1 := Lib.hid hn1
   have HN0 := Lib.hid hn0
   have HPDD := Lib.hid HPD
   have HPLL := Lib.hid HPL
   subst hA
   clear hd hl0 hrow hrow' hcell hcell' hA' hn1 hn0 HPD HPL hkn
   by_cases hck : chkS d = 0
   ·rw [hck] at K1
    have HCK := Lib.hid hck
    have HLK2 : Hid (linkErr L k = if d.map SecS.nm = l0.map SecS.nm then 0 else 9) := by
     show _ = _
     rw [HLK.out, if_neg (by rw [HCK.out]; decide)]
    clear hck HLK
    by_cases hnn : n1 = n0
    ·subst hnn
     have hfew := chk_few HPDD.out HCK.out
     have hn5 : n1 ≤ 5 := by have := hfew.1; have := HN1.out; omega
     have qe : ((n1 : Int) != (n1 : Int)) = false := by simp
     clear hfew
     have q1 : ((0 : Int) != 0) = false := rfl
     go_wp2_with fail
     refine K1.step hs (HRX.out.on hs.2) ?_
     intro w1 hs1 _
     clear xk hs
     have xk1 := (HSK.out _ hs1).1
     have x01 := (HSK.out _ hs1).2
     go_wp2_with fail
     go_quiet (fail)
     go_wp2_with fail
     have hs2 := hs1.drewN nq
     clear hs1 xk1 x01
     generalize w1.drewN nq = W2 at *
     go_loopw [6] (fun s wx => ∃ i : Nat, i ≤ n1 ∧ s = .int .i64 (i : Int) ∧ St w wx ∧ Hid (sameTo d l0 i)) (fun s _ => (n1 - intOf s).toNat)
     case atStart => exact ⟨0, by omega, rfl, hs2, fun i h => by omega⟩
     case round =>
      clear hs2
      obtain ⟨i, hi, rfl, hs2, HSM⟩ := hrel
      have xk2 := (HSK.out _ hs2).1
      have x02 := (HSK.out _ hs2).2
      by_cases hin : i = n1
      ·have q2 : decide ((i : Int) < (n1 : Int)) = false := decide_eq_false (by omega)
       have q2n : decide (i < n1) = false := decide_eq_false (by omega)
       have hz : linkErr L k = 0 := by rw [HLK2.out, if_pos (same_all (HN1.out.trans HN0.out.symm) (by rw [HN1.out, ← hin]; exact HSM.out))]
       have HPK : Hid (∀ i, i < k + 1 → linkErr L i = 0) := by
        intro i hi
        by_cases e : i = k
        ·subst e; exact hz
        ·exact HP.out i (by omega)
       clear hz hin
       go_wp2_with fail
       go_roundw
       case rel => exact ⟨k + 1, by omega, by go_num, hs2, HPK⟩
       case measure => simp [intOf]; omega
      ·have hil : i < n1 := by omega
       have q2 : decide ((i : Int) < (n1 : Int)) = true := decide_eq_true (by omega)
       have q2n : decide (i < n1) = true := decide_eq_true hil
       obtain ⟨s, hsx⟩ : ∃ s, d[i]? = some s := ⟨d[i]'(by rw [HN1.out]; exact hil), by simp⟩
       obtain ⟨s', hsy⟩ : ∃ s, l0[i]? = some s := ⟨l0[i]'(by rw [HN0.out]; exact hil), by simp⟩
       obtain ⟨bx, ox, hAx, hbx, hcx⟩ := row_at (cs := scells) (m := 9) scells_len (by decide) (HRX.out.on hs2.2) hsx
       obtain ⟨by', oy, hAy, hby, hcy⟩ := row_at (cs := scells) (m := 9) scells_len (by decide) (HR0.out.on hs2.2) hsy
       subst hAx hAy
       have HSX := Lib.hid hsx
       have HSY := Lib.hid hsy
       clear hsx hsy hin
       obtain ⟨f0, f1, f2, f3, f4, f5, f6, f7, f8⟩ := s
       obtain ⟨e0, e1, e2, e3, e4, e5, e6, e7, e8⟩ := s'
       have y0 : wr.cell? ⟨bx, ox + i * 9, none⟩ = some (.string f0) := hcx 0 _ rfl
       have y1 : wr.cell? ⟨by', oy + i * 9, none⟩ = some (.string e0) := hcy 0 _ rfl
       clear hcx hcy
       obtain ⟨tb, htb⟩ : ∃ tb, (f0.toList == e0.toList) = tb := ⟨_, rfl⟩
       have HTB := Lib.hid htb
       cases tb with
       | false =>
        have hz : linkErr L k = 9 := by
         rw [HLK2.out, if_neg]
         refine same_not HSX.out HSY.out ?_
         intro e
         have := HTB.out
         dsimp only at e
         rw [e] at this
         simp at this
        have h9 := HLE.out.trans (errL_at (by rw [HN.out]; exact hkl) (by rw [hz]; decide) HP.out)
        rw [hz] at h9
        have HZ := Lib.hid h9
        clear hz h9
        go_wp2_with fail
        go_quiet (fail)
        go_wp2_with fail
        go_ret2
        exact ⟨by (rw [HZ.out]; try rfl), (hs2.drewN nq).2⟩
       | true =>
        have HSS : Hid (sameTo d l0 (i + 1)) := by
         intro j hj
         by_cases e : j = i
         ·subst e
          rw [HSX.out, HSY.out]
          have h : f0 = e0 := toList_inj (eq_of_beq HTB.out)
          show some f0 = some e0
          rw [h]
         ·exact HSM.out j (by omega)
        go_wp2_with fail
        go_quiet (fail)
        go_wp2_with fail
        go_roundw
        case rel => exact ⟨i + 1, by omega, by go_num, hs2.drewN _, HSS⟩
        case measure => simp [intOf]; omega
    ·have qe : ((n1 : Int) != (n0 : Int)) = true := bne_iff_ne.2 (by omega)
     have hz : linkErr L k = 9 := by
      rw [HLK2.out, if_neg]
      intro e
      have := congrArg List.length e
      rw [List.length_map, List.length_map, HN1.out, HN0.out] at this
      exact hnn this
     have h9 := HLE.out.trans (errL_at (by rw [HN.out]; exact hkl) (by rw [hz]; decide) HP.out)
     rw [hz] at h9
     have HZ := Lib.hid h9
     clear hz h9 hnn
     have q1 : ((0 : Int) != 0) = false := rfl
     go_wp2_with fail
     refine K1.step hs (HRX.out.on hs.2) ?_
     intro w1 hs1 _
     clear xk hs
     have xk1 := (HSK.out _ hs1).1
     have x01 := (HSK.out _ hs1).2
     go_wp2_with fail
     go_quiet (fail)
     go_wp2_with fail
     go_ret2
     exact ⟨by (rw [HZ.out]; try rfl), (hs1.drewN nq).2⟩
   ·have hz : linkErr L k = chkS d := by rw [HLK.out, if_pos hck]
    have h9 := HLE.out.trans (errL_at (by rw [HN.out]; exact hkl) (by rw [hz]; exact hck) HP.out)
    rw [hz] at h9
    have HZ := Lib.hid h9
    have q1 : (chkS d != 0) = true := by simpa using hck
    clear hz h9 hck HLK HPDD
    generalize chkS d = ch at *
    go_wp2_with fail
    refine K1.step hs (HRX.out.on hs.2) ?_
    intro w1 hs1 _
    clear xk hs
    go_wp2_with fail
    go_ret2
    exact ⟨by (rw [HZ.out]; try rfl), hs1.2⟩
end Go.Proofs.YticfdeaphiifeaaGreatDoor
