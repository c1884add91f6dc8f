/- Attribution: the walk of AttributionMoney: for every input it returns true. Condition: the library's table and error lie as the program's text lays them. -/
import Derived.Test.YtndkglmokhndnaaGreatDoorAm
import Derived.Test.YtndkglmokhndnaaGreatDoorAt8
namespace Go.Proofs.YtndkglmokhndnaaGreatDoor
open Go.RowKit Go.Shelf Dec QQ

set_option maxRecDepth 100000 in
set_option maxHeartbeats 4000000 in
theorem money48_any {A : Option Addr} {n c : Nat} {l : List PrtS} {a : ByteArray} (w : World) (hn : l.length = n) (hc : n ≤ c) (hm : n ≤ 9223372036854775807) (hz : ∀ s ∈ l, s.big) (hza : a.size ≤ 9223372036854775807) (hr : Row w A (flatG pcells l)) (hg : Gl w) :
    Calls Tryz.prog 8 #[.slice A n c, .string a] w fun e w' => e = .returned (.bool true) ∧ Below w.heap.size w w' := by
  have hs := St.refl hg
  have AW := awake48
  have KG := many48 (A := A) (c := c) hn hm hz
  have HR := Lib.hid hr
  obtain ⟨t, ht⟩ : ∃ t, manyB l = t := ⟨_, rfl⟩
  rw [ht] at KG
  cases t with
  | true =>
    clear ht hn hm hz hr hc hza
    go_enter Tryz.func8, Tryz.ntmps8
    go_wp2_with fail
    refine KG.step hs HR.out ?_
    intro w1 hs _
    go_wp2_with fail
    refine AW.step hs ?_
    intro wa hs _
    go_wp2_with fail
    go_ret
    exact ⟨rfl, hs.2⟩
  | false =>
    by_cases h20 : 20 < a.size
    · have q : decide ((20 : Int) < (a.size : Int)) = true := decide_eq_true (by omega)
      have qn : decide (20 < a.size) = true := decide_eq_true h20
      clear ht hn hm hz hr hc hza h20
      go_enter Tryz.func8, Tryz.ntmps8
      go_wp2_with fail
      refine KG.step hs HR.out ?_
      intro w1 hs _
      go_wp2_with fail
      refine AW.step hs ?_
      intro wa hs _
      go_wp2_with fail
      go_ret
      exact ⟨rfl, hs.2⟩
    have q20 : decide ((20 : Int) < (a.size : Int)) = false := decide_eq_false (by omega)
    have q20n : decide (20 < a.size) = false := decide_eq_false h20
    have hl : 32 < n ∨ FewP 12 l := by have := manyB_not ht; rwa [hn] at this
    have KA := Lib.hid (fun w hg hr => Amounts_any (A := A) (c := c) (a := a) hn hl (by omega) w hg hr)
    by_cases hE : amtE l a = 0
    · obtain ⟨he, hk, h0⟩ := amtE_ok.1 hE
      have hf : FewP 12 l := by
        rcases hl with h | h
        · have := totE_len he; omega
        · exact h
      have e2 : amtR l a = amtsL (totQ l) (valS a) l n := by unfold amtR; rw [hE, if_pos rfl, hn]
      rw [hE, e2, amtsL_len] at KA
      have KT := Total_any (A := A) (c := c) hn hl
      rw [he] at KT
      have h5 := hf.1
      have HKT := Lib.hid (fun k (hk : k ≤ n) => Total_any (A := A) (c := c) (n := k) (k0 := 12) (l := l.take k) (by rw [List.length_take]; omega) (.inr (hf.take k)))
      have HTK : Hid (∀ k, totE (l.take k) = 0 ∧ totQ (l.take k) = sumQ PrtS.all (l.take k)) := fun k => totE_take he k
      have VT : Hid (Vq (frN (totQ l)) (frD (totQ l)) (totQ l) ∧ totQ l ≠ 0 ∧ FitQ (5 * (3 * 12 + 3) + 1) (totQ l)) := by
        have hq : FitQ (5 * (3 * 12 + 3) + 1) (totQ l) := by
          have := hf.sum l.length
          rwa [List.take_of_length_le (Nat.le_refl _), ← totQ_ok he] at this
        exact ⟨Vq.fr hq (by omega), h0, hq⟩
      have HT : Hid (∀ k, amtL (totQ l) (valS a) l k = ((valS a : Int) * sumQ PrtS.all (l.take k) / totQ l).floor) := fun k => rfl
      have HEND : Hid (canS (amtL (totQ l) (valS a) l n) = a) := by
        show _ = _
        rw [← hn, amt_all (totQ_ok he).symm h0]
        exact (chk_zero.1 hk).symm
      have KO : Ret 18 #[.int .i64 0] (.string (canS 0)) := fun w hg => Of_any 0 w (by decide) (by decide) hg
      have HZ0 : Hid (canS 0 = canS (amtL (totQ l) (valS a) l 0)) := by show _ = _; rw [amt_start]
      rw [HZ0.out] at KO
      unfold FR at KT
      clear he h0 hk hE e2 HZ0 hl
      generalize totQ l = T at *
      generalize frN T = tn at *
      generalize frD T = td at *
      have HN := Lib.hid hn
      have HL := Lib.hid hf
      have HA : Hid (a.size ≤ 20) := by show _ ≤ _; omega
      have h5n : n ≤ 5 := by omega
      have hcc : (n : Int) ≤ (c : Int) := by omega
      clear hn hf hr ht hm hz hza h20 h5
      go_enter Tryz.func8, Tryz.ntmps8
      go_wp2_with fail
      refine KG.step hs HR.out ?_
      intro w1 hs _
      go_wp2_with fail
      refine (KA.out _ hs.gl (HR.out.on hs.2)).mono ?_
      rintro e w2 ⟨v1, rfl, ho1, hb2⟩
      obtain ⟨A1, c1, hv1, hr1⟩ := ho1.row
      subst hv1
      replace hs := hs.on hb2
      have HX := Lib.hid hr1
      clear ho1 hr1 hb2
      go_wp2_with fail
      refine KT.step hs (HR.out.on hs.2) ?_
      intro w3 hs hb3
      have HX3 := Lib.hid (HX.out.on hb3)
      clear hb3 HX
      go_wp2_with fail
      have XT := Bx.new w3 #[.string tn, .string td] 42
      have HX4 := Lib.hid (HX3.out.on ((Below.refl _ w3).alloc (Nat.le_refl _) (.cells #[.string tn, .string td] 42)))
      replace hs := hs.alloc (.cells #[.string tn, .string td] 42)
      refine KO.step hs ?_
      intro w5 hs hb5
      have HXT := Lib.hid (XT.on hb5)
      have HX5 := Lib.hid (HX4.out.on hb5)
      clear XT hb5 HX4 HX3
      have q0 : ((n : Int) != (n : Int)) = false := by simp
      go_wp2_with fail
      obtain ⟨bT, hbT⟩ : ∃ b, w3.heap.size = b := ⟨_, rfl⟩
      rw [hbT] at HXT ⊢
      clear hbT
      go_loopw [55, 9] (fun s z wr => ∃ k : Nat, k ≤ n ∧ s = .int .i64 (k : Int) ∧ z = .string (canS (amtL T (valS a) l k)) ∧ St w wr ∧ Hid (Bx wr bT #[.string tn, .string td]) ∧ Hid (Row wr A1 (flatG icells (amtsL T (valS a) l n)))) (fun s _ _ => (n - intOf s).toNat)
      case atStart => exact ⟨0, by omega, rfl, rfl, hs, HXT, HX5⟩
      case round =>
        obtain ⟨k, hk, rfl, rfl, hs, HX1, HXR⟩ := hrel
        by_cases hkn : k = n
        · subst hkn
          have q : decide ((k : Int) < (k : Int)) = false := decide_eq_false (by omega)
          have HE2 := HEND.out
          generalize canS (amtL T (valS a) l k) = z at *
          subst HE2
          go_wp2_with fail
          refine AW.step hs ?_
          intro wa hs _
          go_wp2_with fail
          go_ret
          exact ⟨rfl, hs.2⟩
        · have hkl : k < n := by omega
          have q : decide ((k : Int) < (n : Int)) = true := decide_eq_true (by omega)
          have qn : decide (k < n) = true := decide_eq_true hkl
          obtain ⟨b, o, hA, hb, hcells⟩ := row_at (cs := icells) (m := 1) icells_len (by decide) HXR.out (amtsL_at hkl)
          subst hA
          have fa := HL.out.amt (a := a) (m := 20) HA.out (by omega) VT.out.2.2 (k + 1)
          have fa0 := HL.out.amt (a := a) (m := 20) HA.out (by omega) VT.out.2.2 k
          have KTk := HKT.out (k + 1) (by omega)
          rw [(HTK.out (k + 1)).1, (HTK.out (k + 1)).2] at KTk
          have KOf := OfF (a := a) (Vs.arg (by have := HA.out; omega)) (by have := HA.out; omega)
          have KMul := MulF (Vq.fr fa.1 (by omega)) (Vq.fr (HL.out.sum (k + 1)) (by omega))
          have KQuo := QuoF (Vq.fr fa.2.1 (by omega)) VT.out.1 VT.out.2.1
          have KFl := FloorF (Vq.fr fa.2.2 (by omega))
          rw [← HT.out] at KFl
          have ff1 := floor_fit fa.2.2
          have ff0 := floor_fit fa0.2.2
          rw [← HT.out] at ff1 ff0
          have KAd := AddR (Vs.can ff0 (by omega)) (Vs.can (Fit.sub ff1 ff0) (by omega))
          rw [show amtL T (valS a) l k + (amtL T (valS a) l (k + 1) - amtL T (valS a) l k) = amtL T (valS a) l (k + 1) by omega] at KAd
          have x0 : wr.cell? ⟨b, o + k, none⟩ = some (.string (canS (amtL T (valS a) l (k + 1) - amtL T (valS a) l k))) := by have := hcells 0 _ rfl; rw [Nat.mul_one] at this; exact this
          unfold FR at KTk KOf KMul KQuo
          unfold FV at KMul KQuo KFl
          clear hcells hkn fa fa0 ff1 ff0
          generalize frN (sumQ PrtS.all (l.take (k + 1))) = sn at *
          generalize frD (sumQ PrtS.all (l.take (k + 1))) = sd at *
          generalize frN ((valS a : Int) : Rat) = on at *
          generalize frD ((valS a : Int) : Rat) = od at *
          generalize frN ((valS a : Int) * sumQ PrtS.all (l.take (k + 1))) = mn at *
          generalize frD ((valS a : Int) * sumQ PrtS.all (l.take (k + 1))) = md at *
          generalize frN ((valS a : Int) * sumQ PrtS.all (l.take (k + 1)) / T) = qn1 at *
          generalize frD ((valS a : Int) * sumQ PrtS.all (l.take (k + 1)) / T) = qd1 at *
          obtain ⟨z1, hz1⟩ : ∃ x, canS (amtL T (valS a) l (k + 1)) = x := ⟨_, rfl⟩
          have HZ1 := Lib.hid hz1
          rw [hz1] at KFl KAd
          clear hz1
          generalize canS (amtL T (valS a) l k) = z0 at *
          generalize canS (amtL T (valS a) l (k + 1) - amtL T (valS a) l k) = zd at *
          have HRk : Hid (∀ w', Below wr.heap.size wr w' → Row w' A (flatG pcells (l.take (k + 1)))) := fun w' hb => RowG.cut pcells_len ((HR.out.on hs.2).on hb) (k + 1)
          have b1 : decide ((k : Int) + 1 ≤ (c : Int)) = true := decide_eq_true (by omega)
          have b2 : (k : Int) + 1 ≤ (c : Int) := by omega
          have b3 : (0 : Int) ≤ (k : Int) + 1 := by omega
          have hb63 : (n : Int) ≤ 5 := by omega
          go_wp2_with fail
          refine KAd.step hs ?_
          intro w6 hs hb6
          have HX6 := Lib.hid (HX1.out.on hb6)
          have HR6 := Lib.hid (HXR.out.on hb6)
          clear x0
          go_wp2_with fail
          refine KTk.step hs (HRk.out _ hb6) ?_
          intro w7 hs hb7
          have X9 := (HX6.out.on hb7).alloc (.cells #[.string sn, .string sd] 42)
          have X6 := Bx.new w7 #[.string sn, .string sd] 42
          have hsX := hs.alloc (.cells #[.string sn, .string sd] 42)
          have HR7 := Lib.hid ((HR6.out.on hb7).on ((Below.refl _ w7).alloc (Nat.le_refl _) (.cells #[.string sn, .string sd] 42)))
          have hbl := (HX6.out.on hb7).lt
          clear HX6 HR6 hb6 hb7 KTk KAd HX1 HXR HX5 HXT HRk hs KT KO KG b1 b2 b3
          go_wp2_with fail
          obtain ⟨W3, hW3⟩ : ∃ W, w7.alloc (.cells #[.string sn, .string sd] 42) = W := ⟨_, rfl⟩
          obtain ⟨bS, hbS⟩ : ∃ b, w7.heap.size = b := ⟨_, rfl⟩
          rw [hW3, hbS] at X6
          rw [hW3] at X9 hsX HR7 ⊢
          rw [hbS] at hbl ⊢
          clear hW3 hbS
          have lt6 := X6.lt
          have lt9 := X9.lt
          have e3 : W3.drew.heap.size = W3.heap.size := rfl
          have low0 : Below W3.heap.size W3 W3 := Below.refl _ _
          have x0 := X6.cell (i := 0) (v := .string sn) rfl
          have x1 := X6.cell (i := 1) (v := .string sd) rfl
          have x2 := X9.cell (i := 0) (v := .string tn) rfl
          have x3 := X9.cell (i := 1) (v := .string td) rfl
          go_region_held3 (fun w' => w'.cell? ⟨bS, 0, none⟩ = some (.string sn) ∧ w'.cell? ⟨bS, 1, none⟩ = some (.string sd) ∧ w'.cell? ⟨bT, 0, none⟩ = some (.string tn) ∧ w'.cell? ⟨bT, 1, none⟩ = some (.string td))
            (first
              | (with_reducible exact ⟨c0, c1, c2, c3⟩)
              | (with_reducible exact ⟨b0, b1, b2, b3⟩)
              | (with_reducible exact ⟨a0, a1, a2, a3⟩)
              | (with_reducible exact ⟨x0, x1, x2, x3⟩)
              | exact ⟨(C6.alloc _).cell (i := 0) (v := .string sn) rfl, (C6.alloc _).cell (i := 1) (v := .string sd) rfl, (C9.alloc _).cell (i := 0) (v := .string tn) rfl, (C9.alloc _).cell (i := 1) (v := .string td) rfl⟩
              | exact ⟨(B6.alloc _).cell (i := 0) (v := .string sn) rfl, (B6.alloc _).cell (i := 1) (v := .string sd) rfl, (B9.alloc _).cell (i := 0) (v := .string tn) rfl, (B9.alloc _).cell (i := 1) (v := .string td) rfl⟩
              | exact ⟨(A6.alloc _).cell (i := 0) (v := .string sn) rfl, (A6.alloc _).cell (i := 1) (v := .string sd) rfl, (A9.alloc _).cell (i := 0) (v := .string tn) rfl, (A9.alloc _).cell (i := 1) (v := .string td) rfl⟩
              | exact ⟨(X6.drew.alloc _).cell (i := 0) (v := .string sn) rfl, (X6.drew.alloc _).cell (i := 1) (v := .string sd) rfl, (X9.drew.alloc _).cell (i := 0) (v := .string tn) rfl, (X9.drew.alloc _).cell (i := 1) (v := .string td) rfl⟩
              | exact ⟨(X6.alloc _).cell (i := 0) (v := .string sn) rfl, (X6.alloc _).cell (i := 1) (v := .string sd) rfl, (X9.alloc _).cell (i := 0) (v := .string tn) rfl, (X9.alloc _).cell (i := 1) (v := .string td) rfl⟩
              | exact ⟨((C6.other (by omega) 0 (.string qn1)).other (by omega) 1 (.string qd1)).cell (i := 0) (v := .string sn) rfl, ((C6.other (by omega) 0 (.string qn1)).other (by omega) 1 (.string qd1)).cell (i := 1) (v := .string sd) rfl, ((C9.other (by omega) 0 (.string qn1)).other (by omega) 1 (.string qd1)).cell (i := 0) (v := .string tn) rfl, ((C9.other (by omega) 0 (.string qn1)).other (by omega) 1 (.string qd1)).cell (i := 1) (v := .string td) rfl⟩
              | exact ⟨(((C6.alloc _).other (by omega) 0 (.string qn1)).other (by omega) 1 (.string qd1)).cell (i := 0) (v := .string sn) rfl, (((C6.alloc _).other (by omega) 0 (.string qn1)).other (by omega) 1 (.string qd1)).cell (i := 1) (v := .string sd) rfl, (((C9.alloc _).other (by omega) 0 (.string qn1)).other (by omega) 1 (.string qd1)).cell (i := 0) (v := .string tn) rfl, (((C9.alloc _).other (by omega) 0 (.string qn1)).other (by omega) 1 (.string qd1)).cell (i := 1) (v := .string td) rfl⟩
              | exact ⟨(X6.alloc _).drew.cell (i := 0) (v := .string sn) rfl, (X6.alloc _).drew.cell (i := 1) (v := .string sd) rfl, (X9.alloc _).drew.cell (i := 0) (v := .string tn) rfl, (X9.alloc _).drew.cell (i := 1) (v := .string td) rfl⟩
              | (go_keep; done))
            (first
              | (go_at_call 32
                 refine KOf.step (by first | with_reducible exact hsX.drew | with_reducible exact hsX | with_reducible exact (hsX.alloc _).drew | with_reducible exact hsX.alloc _) ?_
                 intro wA hsA hbA
                 have A6 : Bx wA bS #[.string sn, .string sd] := (by first | with_reducible exact X6.drew.on hbA | with_reducible exact X6.on hbA | with_reducible exact (X6.alloc _).drew.on hbA | with_reducible exact (X6.alloc _).on hbA)
                 have A9 : Bx wA bT #[.string tn, .string td] := (by first | with_reducible exact X9.drew.on hbA | with_reducible exact X9.on hbA | with_reducible exact (X9.alloc _).drew.on hbA | with_reducible exact (X9.alloc _).on hbA)
                 have lowA : Below W3.heap.size W3 wA := (by first | with_reducible exact low0.trans (hbA.mono low0.size) | exact low0.drew.trans (hbA.mono low0.drew.size) | exact (low0.alloc low0.size _).trans (hbA.mono (by rw [World.size_alloc]; have := low0.size; omega)) | exact (low0.alloc low0.size _).drew.trans (hbA.mono (by show _ ≤ (World.alloc _ _).heap.size; rw [World.size_alloc]; have := low0.size; omega)))
                 have a0 := A6.cell (i := 0) (v := .string sn) rfl
                 have a1 := A6.cell (i := 1) (v := .string sd) rfl
                 have a2 := A9.cell (i := 0) (v := .string tn) rfl
                 have a3 := A9.cell (i := 1) (v := .string td) rfl
                 have AL := A6.lt
                 have AM := A9.lt
                 (first | have ZZ := pk_on ZZ hbA | have ZZ := pk_on (pk_new low0) hbA | have ZZ := pk_on (pk_drew (pk_new low0)) hbA | skip)
                 (try have zz0 := ZZ.z.cell (i := 0) (v := .string ⟨#[]⟩) rfl)
                 (try have zz1 := ZZ.z.cell (i := 1) (v := .string ⟨#[]⟩) rfl)
                 (try have zf0 := ZZ.z.frozen 0)
                 (try have zf1 := ZZ.z.frozen 1))
              | (go_at_call 33
                 refine KMul.step (by first | with_reducible exact hsA.drew | with_reducible exact hsA | with_reducible exact (hsA.alloc _).drew | with_reducible exact hsA.alloc _) ?_
                 intro wB hsB hbB
                 have B6 : Bx wB bS #[.string sn, .string sd] := (by first | with_reducible exact A6.drew.on hbB | with_reducible exact A6.on hbB | with_reducible exact (A6.alloc _).drew.on hbB | with_reducible exact (A6.alloc _).on hbB)
                 have B9 : Bx wB bT #[.string tn, .string td] := (by first | with_reducible exact A9.drew.on hbB | with_reducible exact A9.on hbB | with_reducible exact (A9.alloc _).drew.on hbB | with_reducible exact (A9.alloc _).on hbB)
                 have lowB : Below W3.heap.size W3 wB := (by first | with_reducible exact lowA.trans (hbB.mono lowA.size) | exact lowA.drew.trans (hbB.mono lowA.drew.size) | exact (lowA.alloc lowA.size _).trans (hbB.mono (by rw [World.size_alloc]; have := lowA.size; omega)) | exact (lowA.alloc lowA.size _).drew.trans (hbB.mono (by show _ ≤ (World.alloc _ _).heap.size; rw [World.size_alloc]; have := lowA.size; omega)))
                 have b0 := B6.cell (i := 0) (v := .string sn) rfl
                 have b1 := B6.cell (i := 1) (v := .string sd) rfl
                 have b2 := B9.cell (i := 0) (v := .string tn) rfl
                 have b3 := B9.cell (i := 1) (v := .string td) rfl
                 have BL := B6.lt
                 have BM := B9.lt
                 (first | have ZZ := pk_on ZZ hbB | have ZZ := pk_on (pk_new lowA) hbB | have ZZ := pk_on (pk_drew (pk_new lowA)) hbB | skip)
                 (try have zz0 := ZZ.z.cell (i := 0) (v := .string ⟨#[]⟩) rfl)
                 (try have zz1 := ZZ.z.cell (i := 1) (v := .string ⟨#[]⟩) rfl)
                 (try have zf0 := ZZ.z.frozen 0)
                 (try have zf1 := ZZ.z.frozen 1))
              | (go_at_call 42
                 refine KQuo.step (by first | with_reducible exact hsB.drew | with_reducible exact hsB | with_reducible exact (hsB.alloc _).drew | with_reducible exact hsB.alloc _) ?_
                 intro wC hsC hbC
                 have C6 : Bx wC bS #[.string sn, .string sd] := (by first | with_reducible exact B6.drew.on hbC | with_reducible exact B6.on hbC | with_reducible exact (B6.alloc _).drew.on hbC | with_reducible exact (B6.alloc _).on hbC)
                 have C9 : Bx wC bT #[.string tn, .string td] := (by first | with_reducible exact B9.drew.on hbC | with_reducible exact B9.on hbC | with_reducible exact (B9.alloc _).drew.on hbC | with_reducible exact (B9.alloc _).on hbC)
                 have lowC : Below W3.heap.size W3 wC := (by first | with_reducible exact lowB.trans (hbC.mono lowB.size) | exact lowB.drew.trans (hbC.mono lowB.drew.size) | exact (lowB.alloc lowB.size _).trans (hbC.mono (by rw [World.size_alloc]; have := lowB.size; omega)) | exact (lowB.alloc lowB.size _).drew.trans (hbC.mono (by show _ ≤ (World.alloc _ _).heap.size; rw [World.size_alloc]; have := lowB.size; omega)))
                 have c0 := C6.cell (i := 0) (v := .string sn) rfl
                 have c1 := C6.cell (i := 1) (v := .string sd) rfl
                 have c2 := C9.cell (i := 0) (v := .string tn) rfl
                 have c3 := C9.cell (i := 1) (v := .string td) rfl
                 have CL := C6.lt
                 have CM := C9.lt
                 (first | have ZZ := pk_on ZZ hbC | have ZZ := pk_on (pk_new lowB) hbC | have ZZ := pk_on (pk_drew (pk_new lowB)) hbC | skip)
                 (try have zz0 := ZZ.z.cell (i := 0) (v := .string ⟨#[]⟩) rfl)
                 (try have zz1 := ZZ.z.cell (i := 1) (v := .string ⟨#[]⟩) rfl)
                 (try have zf0 := ZZ.z.frozen 0)
                 (try have zf1 := ZZ.z.frozen 1))
    )
          all_goals
            first
              | (have P := pk_set (bz := wB.heap.size) ZZ qn1 qd1; generalize (wC.setCell ⟨wB.heap.size, 0, none⟩ (.string qn1)).setCell ⟨wB.heap.size, 1, none⟩ (.string qd1) = W4 at P ⊢; generalize wB.heap.size = bz at P ⊢)
              | (have P := pk_set (bz := wA.heap.size) ZZ qn1 qd1; generalize (wC.setCell ⟨wA.heap.size, 0, none⟩ (.string qn1)).setCell ⟨wA.heap.size, 1, none⟩ (.string qd1) = W4 at P ⊢; generalize wA.heap.size = bz at P ⊢)
              | (have P := pk_set (bz := W3.heap.size) ZZ qn1 qd1; generalize (wC.setCell ⟨W3.heap.size, 0, none⟩ (.string qn1)).setCell ⟨W3.heap.size, 1, none⟩ (.string qd1) = W4 at P ⊢; generalize W3.heap.size = bz at P ⊢)
              | (have P := pk_alloc (n := qn1) (d := qd1) lowC; generalize wC.alloc (.cells #[.string qn1, .string qd1] 42) = W4 at P ⊢; generalize wC.heap.size = bz at P ⊢)
          all_goals
            have hs4 := hsX.on P.low
            have H9 := Lib.hid (X9.on P.low)
            have HR8 := Lib.hid (HR7.out.on P.low)
            have Z := P.z
            have z0' := Z.cell (i := 0) (v := .string qn1) rfl
            have z1' := Z.cell (i := 1) (v := .string qd1) rfl
            have qz : (z1.toList != z1.toList) = false := by simp
            clear P low0 lowA lowB lowC A6 A9 B6 B9 C6 C9 X6 X9 hbA hbB hbC hsA hsB hsC hsX x0 x1 x2 x3 a0 a1 a2 a3 b0 b1 b2 b3 c0 c1 c2 c3 AL AM BL BM CL CM KOf KMul KQuo
            (try clear ZZ zz0 zz1 zf0 zf1)
            go_wp2_with fail
            refine KFl.step hs4 ?_
            intro w8 hs8 hb8
            go_wp2_with fail
            go_roundw
            case rel =>
              refine ⟨k + 1, by omega, by go_num, by rw [HZ1.out], hs8, ?_, ?_⟩
              · exact H9.out.on hb8
              · exact HR8.out.on hb8
            case measure => simp [intOf]; omega
    · have e2 : amtR l a = [] := if_neg hE
      rw [e2] at KA
      have q : (amtE l a != 0) = true := by simpa using hE
      generalize amtE l a = ce at *
      clear hE e2 hl hr ht hm hz hza hc h20
      go_enter Tryz.func8, Tryz.ntmps8
      go_wp2_with fail
      refine KG.step hs HR.out ?_
      intro w1 hs _
      go_wp2_with fail
      refine (KA.out _ hs.gl (HR.out.on hs.2)).mono ?_
      rintro e w2 ⟨v1, rfl, ho1, hb2⟩
      obtain ⟨A1, c1, hv1, hr1⟩ := ho1.row
      subst hv1
      replace hs := hs.on hb2
      clear ho1 hr1 hb2 KA
      go_wp2_with fail
      refine AW.step hs ?_
      intro wa hs _
      go_wp2_with fail
      go_ret
      exact ⟨rfl, hs.2⟩
end Go.Proofs.YtndkglmokhndnaaGreatDoor
