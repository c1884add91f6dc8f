/- Attribution: Link over valid periods. Conditions: up to three periods of up to five sectors with numbers of up to twelve bytes. -/
import Derived.RangeFuncLeaves
import Derived.Test.YticfdeaphiifeaaGreatDoorLk2
import Derived.Test.YticfdeaphiifeaaGreatDoorLk3
import Derived.Test.YticfdeaphiifeaaGreatDoorRegI
namespace Go.Proofs.YticfdeaphiifeaaGreatDoor
open Go.RowKit Go.Shelf Dec QQ
attribute [local go_sem] Oper.semAt_some
theorem link_all {L : List (List SecS)} (h : linkE L = 0) : 0 < L.length ∧ (∀ (t : Nat) (d : List SecS), L[t]? = some d → chkS d = 0 ∧ d.length = (L.getD 0 []).length ∧ d.map SecS.nm = (L.getD 0 []).map SecS.nm) := by
 have h0 := linkE_ok h
 refine ⟨h0.1, fun t d hd => ?_⟩
 have ht := (List.getElem?_eq_some_iff.1 hd).1
 have h1 := h0.2.1 t ht
 have h2 := h0.2.2 t ht
 rw [List.getD_eq_getElem?_getD, hd, Option.getD_some] at h1 h2
 refine ⟨chkS_iff.2 h1, h2, ?_⟩
 have h64 : L.length ≤ 64 := by
  unfold linkE at h
  rw [if_neg (by omega)] at h
  refine Decidable.byContradiction fun hc => ?_
  rw [if_pos (by omega)] at h
  cases h
 have hz := errL_zero ((linkE_at (by omega) h64).symm.trans h) t ht
 obtain ⟨l0, hl0⟩ : ∃ d, L[0]? = some d := ⟨L[0]'h0.1, by simp⟩
 rw [linkErr_at hd hl0, if_neg (by rw [chkS_iff.2 h1]; decide)] at hz
 rw [List.getD_eq_getElem?_getD, hl0, Option.getD_some]
 refine Decidable.byContradiction fun hc => ?_
 rw [if_neg hc] at hz
 cases hz
theorem linkTo_at {L : List (List SecS)} {p t k : Nat} {d : List SecS} {s : SecS} {o : PrtS} (hd : L.getD t [] = d) (ho : (linkTo L p t)[k]? = some o) (hs : d[k]? = some s) : (linkTo L p (t + 1))[k]? = some (linkP o (partS (benQ d) s) (benQ d) (growTo L t)) := by
 show (List.zipWith _ (linkTo L p t) (partsL (L.getD t [])))[k]? = _
 rw [hd, List.getElem?_zipWith, ho]
 unfold partsL
 rw [List.getElem?_map, hs]
 rfl
theorem made_row {w : World} {base b0 p : Nat} (hb : base ≤ b0) (hp : p ≤ 5) {Z : Array Value} (hZ : Z.toList = flatG pcells (List.replicate p zeroP)) (h : R3.BT w b0 (Z, 36)) :
  OutG pcells 36 7 base w (.slice (some ⟨b0, 0, none⟩) p p) p (List.replicate p zeroP) := by
 have hl : (flatG pcells (List.replicate p zeroP)).length = 7 * p := by rw [flatG_len pcells_len, List.length_replicate]
 have hz : Z.size = 7 * p := by rw [← hl, ← hZ]; simp
 refine ⟨by simp, by rw [hl, Nat.mul_comm], .inr ⟨b0, p, Z, rfl, hb, h, Nat.le_refl _, by unfold maxLen; omega, by rw [hz, Nat.mul_comm], ?_⟩⟩
 rw [List.take_of_length_le (by simp [hz, Nat.mul_comm]), hZ]
theorem made_run {p : Nat} (hp : p ≤ 5) : ∃ Z : Array Value, Z.toList = flatG pcells (List.replicate p zeroP) ∧ ∀ u : World, (Instr.makeSlice 27 (.int .i64 (p : Int)) (.int .i64 (p : Int))).run Tryz.prog u = .ok (R3.sliTo p p u.heap.size) (u.alloc (.cells Z 36)) := by
 have h : p = 0 ∨ p = 1 ∨ p = 2 ∨ p = 3 ∨ p = 4 ∨ p = 5 := by omega
 rcases h with rfl | rfl | rfl | rfl | rfl | rfl
 ·exact ⟨(flatG pcells (List.replicate 0 zeroP)).toArray, by simp, fun u => by kernel_rfl⟩
 ·exact ⟨(flatG pcells (List.replicate 1 zeroP)).toArray, by simp, fun u => by kernel_rfl⟩
 ·exact ⟨(flatG pcells (List.replicate 2 zeroP)).toArray, by simp, fun u => by kernel_rfl⟩
 ·exact ⟨(flatG pcells (List.replicate 3 zeroP)).toArray, by simp, fun u => by kernel_rfl⟩
 ·exact ⟨(flatG pcells (List.replicate 4 zeroP)).toArray, by simp, fun u => by kernel_rfl⟩
 ·exact ⟨(flatG pcells (List.replicate 5 zeroP)).toArray, by simp, fun u => by kernel_rfl⟩
set_option maxRecDepth 100000 in
set_option maxHeartbeats 4000000 in
theorem link_few {A : Option Addr} {n c : Nat} {L : List (List SecS)} (hn : L.length = n) (hf : FewN L) (he : linkE L = 0) (w : World) (hg : Gl w) (hr : NRow w A L) :
    Calls Tryz.prog 10 #[.slice A n c] w fun e w' => ∃ v, e = .returned (.tuple #[v, .int .i64 0]) ∧ OutG pcells 36 7 w.heap.size w' v (L.getD 0 []).length (linkTo L (L.getD 0 []).length L.length) ∧ Below w.heap.size w w' := by
  have hs := St.refl hg
  have hall := link_all he
  have h3 : n ≤ 3 := by rw [← hn]; exact hf.1
  have h0 : 0 < n := by rw [← hn]; exact hall.1
  have q0 : ((n : Int) == 0) = false := by rw [beq_eq_false_iff_ne]; omega
  have q64 : decide ((64 : Int) < (n : Int)) = false := decide_eq_false (by omega)
  obtain ⟨l0, hl0⟩ : ∃ d, L[0]? = some d := ⟨L[0]'hall.1, by simp⟩
  obtain ⟨b', o', v', hA', hb', hcell', B0, c0, hv', hrow', h1', h2'⟩ := hr 0 l0 hl0
  have hp0 : (L.getD 0 []) = l0 := by rw [List.getD_eq_getElem?_getD, hl0]; rfl
  have HN := Lib.hid hn
  have HF := Lib.hid hf
  have HALL := Lib.hid hall.2
  have HR := Lib.hid hr
  have HL0 := Lib.hid hl0
  have HR0 := Lib.hid hrow'
  have HP0 := Lib.hid hp0
  have HG := Lib.hid hg
  rw [Nat.add_zero] at hcell'
  subst hv'
  obtain ⟨p, hp⟩ : ∃ x, l0.length = x := ⟨_, rfl⟩
  have HP := Lib.hid hp
  have hp5 : p ≤ 5 := by have := (hf.2 l0 (List.mem_of_getElem? hl0)).1; omega
  rw [hp0, hp]
  rw [hp] at hcell' h1'
  have HC0 := Lib.hid hcell'
  have HB0 := Lib.hid hb'
  subst hA'
  clear hn hf he hr hg hall hl0 hrow' hp0 hp hcell' hb'
  refine (callsIn_wide (n := 6)).1 ?_
  refine callsIn_of_wp_marks Tryz.func10 rfl trivial ?_ rfl
  simp only [Tryz.ntmps10, List.size_toArray, List.length_cons, List.length_nil, Nat.reduceAdd, Nat.reduceSub, Array.replicate_succ, Array.replicate_zero, List.push_toArray, List.append_toArray, List.nil_append, List.cons_append]
  gi_wp2_with fail
  gi_loopw [23] (fun s wr => ∃ k : Nat, k ≤ n ∧ s = .int .i64 (k : Int) ∧ St w wr) (fun s _ => (n - intOf s).toNat)
  case atStart => exact ⟨0, by omega, rfl, hs⟩
  case round =>
    obtain ⟨k, hk, rfl, hs⟩ := hrel
    have HS0 : Hid (∀ W, St w W → W.cell? ⟨b', o', none⟩ = some (.slice B0 p c0)) := fun W h => (h.2.cell (p := ⟨b', o', none⟩) HB0.out).trans HC0.out
    by_cases hkn : k = n
    · subst hkn
      have q : decide ((k : Int) < (k : Int)) = false := decide_eq_false (by omega)
      gi_wp2_with fail
      have KO := one_any
      unfold FR at KO
      obtain ⟨Z, hZ, hmake⟩ := made_run (p := p) hp5
      have HZ := Lib.hid hZ
      have HMK := Lib.hid hmake
      have q0n : decide (0 < k) = true := decide_eq_true (by omega)
      obtain ⟨on, hon⟩ : ∃ x, frN 1 = x := ⟨_, rfl⟩
      obtain ⟨od, hod⟩ : ∃ x, frD 1 = x := ⟨_, rfl⟩
      have HON := Lib.hid hon
      have HOD := Lib.hid hod
      rw [hon, hod] at KO
      clear hZ hmake hon hod
      refine wpIn_wide.2 ?_
      refine R3.wp_region_lays3 8 4 45 6 7 7 8 (R3.sliTo p p) ptrTo ptrTo (Z, 36) (#[.slice none 0 0], 27) (#[.string ⟨#[]⟩, .string ⟨#[]⟩], 34) (by kernel_rfl) (by kernel_rfl) (by kernel_rfl) (by omega) (by omega) (by omega) rfl rfl rfl (by kernel_rfl) (R3.sli_inj _ _) R3.ptr_inj R3.ptr_inj (R3.sli_undef _ _) R3.ptr_undef R3.ptr_undef ?_
      apply Exists.intro
      refine ⟨fun S W hne hk hcl => ?_, ⟨?_, ?_, ?_⟩, ?_⟩
      · simp only [List.take_succ_cons, List.take_zero, quietL, List.mem_cons, List.not_mem_nil, or_false, Nat.reduceAdd, Nat.reduceEqDiff, reduceIte, Nat.zero_add]
        have kk0 : ∀ u, (W u).cell? ⟨b', o', none⟩ = some (.slice B0 p c0) := fun u => HS0.out _ (hs.on (hk u))
        repeat (go_big_quiet_step (with_reducible exact KO.fresh hs hk hcl))
        exact wpQuiet_nil rfl
      · intro oo hoo u
        obtain rfl := Option.some.inj hoo
        have := HMK.out u
        simp [execOp, go_sem, this]
      · intro oo hoo u
        obtain rfl := Option.some.inj hoo
        simp [execOp, go_sem, ptrTo]
      · intro oo hoo u
        obtain rfl := Option.some.inj hoo
        simp [execOp, go_sem, ptrTo]
      intro g b7 b8 v hg0 hb7 hb8 n07 n08 n78 hv BG B7 B8
      simp only [List.drop_succ_cons, List.drop_zero, R3.sliTo, ptrTo]
      have e7 := B7.bx.cell (i := 0) (v := .slice none 0 0) rfl
      have g7 := B7.bx.frozen 0
      have e80 := B8.bx.cell (i := 0) (v := .string ⟨#[]⟩) rfl
      have e81 := B8.bx.cell (i := 1) (v := .string ⟨#[]⟩) rfl
      have g80 := B8.bx.frozen 0
      have g81 := B8.bx.frozen 1
      have m1 : ¬ b8 = b7 := fun e => n78 e.symm
      have m2 : ¬ b7 = b8 := n78
      go_wp2_with fail
      obtain ⟨W5, hW5, X7, X8, hlow5, HO5⟩ : ∃ W5, ((v.setCell ⟨b7, 0, none⟩ (.slice (some ⟨g, 0, none⟩) p p)).setCell ⟨b8, 0, none⟩ (.string on)).setCell ⟨b8, 1, none⟩ (.string od) = W5 ∧ Boxed W5 b7 27 (.slice (some ⟨g, 0, none⟩) p p) ∧ BF W5 b8 #[.string on, .string od] ∧ Below w.heap.size w W5 ∧ OutG pcells 36 7 w.heap.size W5 (.slice (some ⟨g, 0, none⟩) p p) p (linkTo L p 0) := by
        have hz := hs.2.size
        have k1 : Boxed v b7 27 (.slice none 0 0) := B7
        have k2 : BF v b8 #[.string ⟨#[]⟩, .string ⟨#[]⟩] := B8
        have hw0 : w.heap.size ≤ g := Nat.le_trans hz hg0
        have hO := made_row (p := p) hw0 hp5 HZ.out BG
        have hOO : OutG pcells 36 7 w.heap.size v (.slice (some ⟨g, 0, none⟩) p p) p (linkTo L p 0) := hO
        refine ⟨_, rfl, boxed_other2 (k1.set _) (fun e => n78 e) , bf_two (k2.other (fun e => n78 e.symm) 0 _), ((((hs.2.trans (hv.mono hz)).setCell (p := ⟨b7, 0, none⟩) (Nat.le_trans hz hb7) _).setCell (p := ⟨b8, 0, none⟩) (Nat.le_trans hz hb8) _).setCell (p := ⟨b8, 1, none⟩) (Nat.le_trans hz hb8) _), out_other2 hOO n07 n08⟩
      rw [hW5]
      clear e7 g7 e80 e81 g80 g81 m1 m2 n78 n07 n08 hv BG B7 B8 hW5
      gi_wp2_with fail
      have HX8 : Hid (BF W5 b8 #[.string (frN (growTo L 0)), .string (frD (growTo L 0))]) := by
        show BF _ _ _
        have e1 : frN (growTo L 0) = on := HON.out
        have e2 : frD (growTo L 0) = od := HOD.out
        rw [e1, e2]
        exact X8
      have HLO0 : Hid (LO w L p g b7 b8 [] 0 W5) := ⟨HG.out, hlow5, X7, HX8.out, HO5, Marks.nil _ _, Nat.le_trans hs.2.size hb8⟩
      clear X7 X8 hlow5 HO5 HX8 hs KO HZ HMK HS0 q0n
      refine wpIn_loop (fun a' W => ∃ (t : Nat) (Ds : List Nat) (v10 v11 v12 v50 v51 v52 v53 v54 v55 v56 v57 v58 v59 v77 v78 v79 v80 v81 v82 : Value), a' = { tmps := #[.slice (some ⟨b', o', none⟩) k c, undef, u2, u3, undef, u5, u6, .pointer (some ⟨b7, 0, none⟩), .pointer (some ⟨b8, 0, none⟩), undef, v10, v11, v12, undef, undef, .slice (some ⟨b', o', none⟩) k c, .int .i64 (k : Int), .bool false, .slice (some ⟨b', o', none⟩) k c, .int .i64 (k : Int), .bool false, .slice (some ⟨b', o', none⟩) k c, .int .i64 (k : Int), .int .i64 (k : Int), .bool false, u25, u26, u27, u28, u29, u30, u31, u32, u33, u34, u35, u36, u37, u38, u39, u40, .slice (some ⟨b', o', none⟩) k c, .pointer (some ⟨b', o', none⟩), .slice B0 p c0, .int .i64 (p : Int), .slice (some ⟨g, 0, none⟩) p p, .agg #[.string on, .string od], .slice (some ⟨b', o', none⟩) k c, .int .i64 (k : Int), .int .i64 (t : Int), v50, v51, v52, v53, v54, v55, v56, v57, v58, v59, undef, undef, undef, undef, undef, undef, undef, undef, undef, undef, undef, undef, undef, undef, undef, undef, undef, v77, v78, v79, v80, v81, v82, undef], defers := Ds.map markOf } ∧ t ≤ k ∧ Hid (LO w L p g b7 b8 Ds t W)) (fun a' _ => ((k : Int) - intOf (a'.tmps.getD 49 undef)).toNat) ?_ ?_
      · exact ⟨0, [], _, _, _, _, _, _, _, _, _, _, _, _, _, _, _, _, _, _, _, rfl, by omega, HLO0⟩
      clear HLO0
      rintro _ W6 ⟨t, Ds, v10, v11, v12, v50, v51, v52, v53, v54, v55, v56, v57, v58, v59, v77, v78, v79, v80, v81, v82, rfl, ht, HO⟩
      by_cases htk : t = k
      · subst htk
        have q : decide ((t : Int) < (t : Int)) = false := decide_eq_false (by omega)
        have x7 := HO.out.x7.cell
        gi_wp2_with fail
        refine leaves_marks (base := w.heap.size) (J := fun W => OutG pcells 36 7 w.heap.size W (.slice (some ⟨g, 0, none⟩) p p) p (linkTo L p t) ∧ Below w.heap.size w W) ?_ ?_ Ds W6 HO.out.ms ⟨HO.out.out, HO.out.low⟩
        · rintro W D hD hd ⟨h1, h2⟩
          exact ⟨⟨h1.1, ownsRow_putObj h1.2 _ hd rfl⟩, below_put h2 hD _⟩
        · rintro W ⟨h1, h2⟩
          refine ⟨_, results_tmp2 rfl _ _ _, _, rfl, ?_, h2⟩
          rw [HN.out]
          exact h1
      have htl : t < k := by omega
      have q : decide ((t : Int) < (k : Int)) = true := decide_eq_true (by omega)
      have qn : decide (t < k) = true := decide_eq_true htl
      obtain ⟨d, hd⟩ : ∃ d, L[t]? = some d := ⟨L[t]'(by rw [HN.out]; exact htl), by simp⟩
      obtain ⟨b, o, v', hA, hb, hcell, B, cc, hv', hrow, h1, h2⟩ := HR.out t d hd
      injection hA with hA
      injection hA with e1 e2
      subst e1 e2 hv'
      have hda := HALL.out t d hd
      have hdl : d.length = p := by rw [hda.2.1, HP0.out]; exact HP.out
      rw [hdl] at h1 hcell
      have hs6 : St w W6 := ⟨HG.out, HO.out.low⟩
      have xk : W6.cell? ⟨b', o' + t, none⟩ = some (.slice B p cc) := (hs6.2.cell (p := ⟨b', o' + t, none⟩) hb).trans hcell
      have hfew := HF.out.2 d (List.mem_of_getElem? hd)
      have KR := returns_any (A := B) (c := cc) hdl hfew
      have HDT : Hid (L.getD t [] = d) := by
        show _ = _
        rw [List.getD_eq_getElem?_getD, hd]
        rfl
      have HRX := Lib.hid hrow
      have HDL := Lib.hid hdl
      have HFW := Lib.hid hfew
      unfold FR at KR
      obtain ⟨an, han⟩ : ∃ x, frN (ownQ d) = x := ⟨_, rfl⟩
      obtain ⟨ad, had⟩ : ∃ x, frD (ownQ d) = x := ⟨_, rfl⟩
      obtain ⟨bn, hbn⟩ : ∃ x, frN (benQ d) = x := ⟨_, rfl⟩
      obtain ⟨bd, hbd⟩ : ∃ x, frD (benQ d) = x := ⟨_, rfl⟩
      have HAN : Hid ((frN (ownQ d) = an ∧ frD (ownQ d) = ad) ∧ (frN (benQ d) = bn ∧ frD (benQ d) = bd)) := ⟨⟨han, had⟩, hbn, hbd⟩
      rw [han, had, hbn, hbd] at KR
      clear hd hda hrow hcell hb hdl hfew han had hbn hbd
      gi_wp2_with fail
      refine ⟨trivial, (callsIn_wide.2 (KR W6 hs6.gl (HRX.out.on hs6.2))).mono ?_⟩
      rintro e w1 ⟨rfl, hb1⟩
      have HO1 := Lib.hid (HO.out.up hb1)
      clear xk hb1 HO hs6
      gi_wp2_with fail
      have hb2 : Below w1.heap.size w1 ((w1.alloc (.cells #[.string an, .string ad] 34)).alloc (.cells #[.string bn, .string bd] 34)) := ((Below.refl _ _).alloc (Nat.le_refl _) _).alloc (by simp) _
      have HO2 := Lib.hid (HO1.out.up hb2)
      have X11 : Hid (BF ((w1.alloc (.cells #[.string an, .string ad] 34)).alloc (.cells #[.string bn, .string bd] 34)) w1.heap.size #[.string an, .string ad]) := (Below.heap_alloc _ _ _ (by simp)).trans (heap_new w1 _)
      have X12 : Hid (BF ((w1.alloc (.cells #[.string an, .string ad] 34)).alloc (.cells #[.string bn, .string bd] 34)) (w1.heap.size + 1) #[.string bn, .string bd]) := by
        have := heap_new (w1.alloc (.cells #[.string an, .string ad] 34)) (.cells #[.string bn, .string bd] 34)
        rwa [World.size_alloc] at this
      have HS2 : Hid (((w1.alloc (.cells #[.string an, .string ad] 34)).alloc (.cells #[.string bn, .string bd] 34)).heap.size = w1.heap.size + 2) := by show _ = _; simp
      generalize (w1.alloc (.cells #[.string an, .string ad] 34)).alloc (.cells #[.string bn, .string bd] 34) = w2 at *
      clear hb2 HO1
      refine ⟨trivial, (callsIn_wide.2 (contributions_any B p cc w2)).mono ?_⟩
      rintro e w3 ⟨rfl, hw3⟩
      gi_wp2_with fail
      have hb3 : Below w2.heap.size w2 w3 := by rw [hw3]; exact (Below.refl _ _).alloc (Nat.le_refl _) _
      have Bl3 : Hid (Boxed w3 w2.heap.size 24 (.slice B p cc)) := by show Boxed _ _ _ _; rw [hw3]; exact Boxed.new _ _ _
      have HS3 : Hid (w3.heap.size = w2.heap.size + 1) := by show _ = _; rw [hw3]; simp
      have HO3 := Lib.hid (HO2.out.up hb3)
      have X113 := Lib.hid (X11.out.on hb3)
      have X123 := Lib.hid (X12.out.on hb3)
      rw [← hw3]
      clear hw3 hb3 X11 X12 HO2
      refine range_call rfl (by omega) rfl trivial (enters_of Tryz.func96 (by kernel_rfl) rfl) ?_
      intro fn hfn r hr
      have hst : r.state = .ready := by rw [hr]
      have hpe : r.pending = none := by rw [hr]
      have HD3 : Hid (w.heap.size ≤ w3.heap.size) := HO3.out.low.size
      have HDS : Hid (w3.heap.size ∉ Ds) := fun h => by have := (HO3.out.ms.there _ h).2; have := (Array.getElem?_eq_some_iff.1 this).1; omega
      have HS : Hid (LS w L d B p cc g b7 b8 w1.heap.size (w1.heap.size + 1) w2.heap.size (w3.heap.size + 1) w3.heap.size Ds r t 0 ((w3.alloc (.deferred (some []))).alloc (.loop r))) := by
        have hbb : Below w3.heap.size w3 ((w3.alloc (.deferred (some []))).alloc (.loop r)) := ((Below.refl _ _).alloc (Nat.le_refl _) _).alloc (by simp) _
        have HO4 := HO3.out.up hbb
        refine ⟨HG.out, HO4.low, HRX.out, boxed_below Bl3.out hbb, HO4.x7, HO4.x8, ?_, ?_, ?_, ?_, ?_, HO4.ms, by have := HO3.out.low.size; omega, HO4.l8⟩
        · rw [HAN.out.1.1, HAN.out.1.2]; exact X113.out.on hbb
        · rw [HAN.out.2.1, HAN.out.2.2]; exact X123.out.on hbb
        · rw [midL_zero]; exact HO4.out
        · have := World.alloc_heap_new (w3.alloc (.deferred (some []))) (.loop r)
          rwa [World.size_alloc] at this
        · exact (Below.heap_alloc _ _ _ (by simp)).trans (World.alloc_heap_new w3 _)
      clear HO3 X113 X123 Bl3 KR
      have HLN : Hid ((linkTo L p t).length = p ∧ (linkTo L p (t + 1)).length = p) := by
        have hk : ∀ s, s < L.length → (L.getD s []).length = p := fun s hs => by
          obtain ⟨x, hx⟩ : ∃ d, L[s]? = some d := ⟨L[s]'hs, by simp⟩
          have := (HALL.out s x hx).2.1
          rw [List.getD_eq_getElem?_getD, hx]
          show x.length = p
          rw [this, HP0.out]
          exact HP.out
        exact ⟨linkTo_len hk t (by rw [HN.out]; omega), linkTo_len hk (t + 1) (by rw [HN.out]; omega)⟩
      have HLF : Hid ((∀ q ∈ linkTo L p t, q.fit (600 * t + 1) ∧ q.le (600 * t + 2)) ∧ FitQ (128 * t + 1) (growTo L t)) := ⟨link_fit HF.out t (by rw [HN.out]; omega), grow_fit HF.out t (by rw [HN.out]; omega)⟩
      refine (contrib_in (A := B) (n := p) (c := cc) (L := d) (w3.heap.size + 1) w2.heap.size HDL.out HFW.out (fun j W => LS w L d B p cc g b7 b8 w1.heap.size (w1.heap.size + 1) w2.heap.size (w3.heap.size + 1) w3.heap.size Ds r t j W) (fun j W h => ⟨h.gl.below h.low, h.row.on h.low, h.bl⟩) (fun j W W' h hb => h.up hb) ?_ _ HS.out).mono ?_
      · intro j W1 s hj hs1 hG
        have hy := run_yield (P := Tryz.prog) (args := #[.int .i64 (j : Int), prtV (partS (benQ d) s)]) hG.lp (by rw [hr]; rfl)
        refine ⟨_, _, _, _, hy, roundIn_of_wpIn (by rw [hr]; exact hfn) ?_⟩
        have e1 := congrArg Loop.assign hr
        have e2 := congrArg Loop.body hr
        have e3 := congrArg Loop.tmps hr
        have e4 := congrArg Loop.params hr
        dsimp only at e1 e2 e3 e4
        rw [e1, e2, e3, e4]
        have HGG := Lib.hid hG
        have Hst := Lib.hid hst
        have Hpe := Lib.hid hpe
        obtain ⟨q0, hq0⟩ : ∃ q0, (linkTo L p t)[j]? = some q0 := ⟨_, List.getElem?_eq_getElem (by rw [HLN.out.1]; exact hj)⟩
        have hm := midL_at (y := linkTo L p (t + 1)) (HLN.out.1.trans HLN.out.2.symm) hq0
        have hx := linkTo_at HDT.out hq0 hs1
        have hms := midL_succ (HLN.out.1.trans HLN.out.2.symm) hq0 hx
        have hqf := HLF.out.1 q0 (List.mem_of_getElem? hq0)
        have hpf := parts_fit HFW.out (p := partS (benQ d) s) (by unfold partsL; exact List.mem_map.2 ⟨s, List.mem_of_getElem? hs1, rfl⟩)
        have hob := one_own HFW.out
        have ht3 : t ≤ 2 := by omega
        have K0 := one_any
        have K1 := AddF (Vq.fr (FitQ.one (k := 1) (by omega)) (by omega)) (Vq.fr HFW.out.q.2.2.2 (by omega))
        have hl2 : ∀ {m : Nat} {x : PrtS}, m ≤ 20000 → x.le m → x.le 20000 := fun hm h => by unfold PrtS.le at *; omega
        have K2 := timesP_any q0 (hl2 (by omega) hqf.2) (Vq.fr hob.2 (by omega))
        have K3 := timesP_any (partS (benQ d) s) (hl2 (by omega) hpf.2) (Vq.fr HLF.out.2 (by omega))
        have K4 := plusP_any (timesP q0 (1 + benQ d)) (timesP (partS (benQ d) s) (growTo L t)) (hl2 (by omega) (fit_made (times_fit hqf.1 hob.2) (mkP_made _ _ _ _))) (hl2 (by omega) (fit_made (times_fit hpf.1 HLF.out.2) (mkP_made _ _ _ _)))
        change Ret _ _ (prtV (linkP q0 (partS (benQ d) s) (benQ d) (growTo L t))) at K4
        have HMS := Lib.hid hms
        clear e1 e2 e3 e4 hr hy hG hst hpe HS hx hms hq0 hs1 hqf hpf hob hl2
        have HMQ := Lib.hid hm
        obtain ⟨X, hX⟩ : ∃ X, linkP q0 (partS (benQ d) s) (benQ d) (growTo L t) = X := ⟨_, rfl⟩
        rw [hX] at K4 HMS
        obtain ⟨T1, hT1⟩ : ∃ X, timesP q0 (1 + benQ d) = X := ⟨_, rfl⟩
        rw [hT1] at K2 K4
        obtain ⟨T2, hT2⟩ : ∃ X, timesP (partS (benQ d) s) (growTo L t) = X := ⟨_, rfl⟩
        rw [hT2] at K3 K4
        obtain ⟨pp, hpp⟩ : ∃ X, partS (benQ d) s = X := ⟨_, rfl⟩
        rw [hpp] at K3 ⊢
        clear hX hT1 hT2 hpp hm
        unfold FR at K0 K1
        unfold FV at K1 K2 K3
        rw [HON.out, HOD.out] at K0 K1
        rw [HAN.out.2.1, HAN.out.2.2] at K1
        obtain ⟨gn, hgn⟩ : ∃ x, frN (growTo L t) = x := ⟨_, rfl⟩
        obtain ⟨gd, hgd⟩ : ∃ x, frD (growTo L t) = x := ⟨_, rfl⟩
        rw [hgn, hgd] at K3
        have HGN : Hid (frN (growTo L t) = gn ∧ frD (growTo L t) = gd) := ⟨hgn, hgd⟩
        clear hgn hgd
        generalize frN (1 + benQ d) = on1 at *
        generalize frD (1 + benQ d) = od1 at *
        obtain ⟨q0, q1, q2, q3, q4, q5, q6⟩ := q0
        obtain ⟨f0, f1, f2, f3, f4, f5, f6⟩ := pp
        obtain ⟨t0, t1, t2, t3, t4, t5, t6⟩ := T1
        obtain ⟨s0, s1, s2, s3, s4, s5, s6⟩ := T2
        obtain ⟨x0, x1, x2, x3, x4, x5, x6⟩ := X
        dsimp only [prtV] at K2 K3 K4 ⊢
        gi_wp2_with fail
        have hbb : Below W1.heap.size W1 (W1.alloc (.cells #[.string f0, .string f1, .string f2, .string f3, .string f4, .string f5, .string f6] 36)) := (Below.refl _ _).alloc (Nat.le_refl _) _
        have HGa := Lib.hid (HGG.out.up hbb)
        refine ⟨_, run_beginRound HGa.out.lp Hst.out, ?_⟩
        have HGP := Lib.hid (HGa.out.wp { r with state := .busy })
        have hl0 : W1.heap.size ≠ w3.heap.size + 1 := by have := (Array.getElem?_eq_some_iff.1 HGG.out.lp).1; omega
        have XP : Bx ((W1.alloc (.cells #[.string f0, .string f1, .string f2, .string f3, .string f4, .string f5, .string f6] 36)).putObj (w3.heap.size + 1) (.loop { r with state := .busy })) W1.heap.size #[.string f0, .string f1, .string f2, .string f3, .string f4, .string f5, .string f6] := ⟨_, (World.putObj_heap_other hl0).trans (heap_new W1 _)⟩
        have HKF : Hid (∀ b cs, BF W1 b cs → BF ((W1.alloc (.cells #[.string f0, .string f1, .string f2, .string f3, .string f4, .string f5, .string f6] 36)).putObj (w3.heap.size + 1) (.loop { r with state := .busy })) b cs) := fun b cs h => by
          refine (World.putObj_heap_other ?_).trans (h.on hbb)
          rintro rfl
          have := HGG.out.lp.symm.trans h
          cases this
        obtain ⟨WP, hWP⟩ : ∃ WP, (W1.alloc (.cells #[.string f0, .string f1, .string f2, .string f3, .string f4, .string f5, .string f6] 36)).putObj (w3.heap.size + 1) (.loop { r with state := .busy }) = WP := ⟨_, rfl⟩
        rw [hWP] at XP HKF HGP ⊢
        have hbt : W1.heap.size = W1.heap.size := rfl
        generalize W1.heap.size = bt at *
        have hsP : St w WP := ⟨HG.out, HGP.out.low⟩
        have hr7 := HGP.out.row0 HMQ.out
        have k7 : ∀ u : Kept WP, u.W.cell? ⟨b7, 0, none⟩ = some (.slice (some ⟨g, 0, none⟩) p p) := fun u => Kept.cell_of HGP.out.x7.cell u
        have y8 := HGP.out.x8
        rw [HGN.out.1, HGN.out.2] at y8
        have k80 := y8.bx.keeps (i := 0) (v := .string gn) rfl
        have k81 := y8.bx.keeps (i := 1) (v := .string gd) rfl
        have y12 := HGP.out.x12
        rw [HAN.out.2.1, HAN.out.2.2] at y12
        have k120 := y12.bx.keeps (i := 0) (v := .string bn) rfl
        have k121 := y12.bx.keeps (i := 1) (v := .string bd) rfl
        have kf0 := XP.keeps (i := 0) (v := .string f0) rfl
        have kf1 := XP.keeps (i := 1) (v := .string f1) rfl
        have kf2 := XP.keeps (i := 2) (v := .string f2) rfl
        have kf3 := XP.keeps (i := 3) (v := .string f3) rfl
        have kf4 := XP.keeps (i := 4) (v := .string f4) rfl
        have kf5 := XP.keeps (i := 5) (v := .string f5) rfl
        have kf6 := XP.keeps (i := 6) (v := .string f6) rfl
        have kr0 : ∀ u : Kept WP, u.W.cell? ⟨g, j * 7, none⟩ = some (.string q0) := fun u => Kept.cell_of (hr7 0 _ rfl) u
        have kr1 : ∀ u : Kept WP, u.W.cell? ⟨g, j * 7 + 1, none⟩ = some (.string q1) := fun u => Kept.cell_of (hr7 1 _ rfl) u
        have kr2 : ∀ u : Kept WP, u.W.cell? ⟨g, j * 7 + 2, none⟩ = some (.string q2) := fun u => Kept.cell_of (hr7 2 _ rfl) u
        have kr3 : ∀ u : Kept WP, u.W.cell? ⟨g, j * 7 + 3, none⟩ = some (.string q3) := fun u => Kept.cell_of (hr7 3 _ rfl) u
        have kr4 : ∀ u : Kept WP, u.W.cell? ⟨g, j * 7 + 4, none⟩ = some (.string q4) := fun u => Kept.cell_of (hr7 4 _ rfl) u
        have kr5 : ∀ u : Kept WP, u.W.cell? ⟨g, j * 7 + 5, none⟩ = some (.string q5) := fun u => Kept.cell_of (hr7 5 _ rfl) u
        have kr6 : ∀ u : Kept WP, u.W.cell? ⟨g, j * 7 + 6, none⟩ = some (.string q6) := fun u => Kept.cell_of (hr7 6 _ rfl) u
        have qj : decide ((j : Int) < (p : Int)) = true := decide_eq_true (by omega)
        have qjn : decide (j < p) = true := decide_eq_true hj
        clear hr7 y8 y12 hl0 hbb HGa
        gi_wp2_with fail
        refine wpIn_region_kept_tail 15 (by kernel_rfl) (by kernel_rfl) (by kernel_rfl) ?_
        simp only [List.take_succ_cons, List.take_zero, List.drop_succ_cons, List.drop_zero]
        repeat (go_big_quiet_step (first | (with_reducible exact K0.kept hsP) | (with_reducible exact K1.kept hsP) | (with_reducible exact K2.kept hsP) | (with_reducible exact K3.kept hsP) | (with_reducible exact K4.kept hsP)))
        refine wpQuiet_nil ?_
        rintro _ ⟨u, rfl⟩
        have HU := Lib.hid (HGP.out.up u.low)
        have c0 := kr0 u
        have c1 := kr1 u
        have c2 := kr2 u
        have c3 := kr3 u
        have c4 := kr4 u
        have c5 := kr5 u
        have c6 := kr6 u
        have hfz := out_frozen HU.out.out
        clear k7 k80 k81 k120 k121 kf0 kr0 kf1 kr1 kf2 kr2 kf3 kr3 kf4 kr4 kf5 kr5 kf6 kr6 K0 K1 K2 K3 K4 XP
        gi_wp2_with fail
        obtain ⟨W7, hW7⟩ : ∃ W, W = u.W.setCells g (j * 7) (pcells ⟨x0, x1, x2, x3, x4, x5, x6⟩) := ⟨_, rfl⟩
        have hchain : (((((((u.W.setCell ⟨g, j * 7, none⟩ (.string x0)).setCell ⟨g, j * 7 + 1, none⟩ (.string x1)).setCell ⟨g, j * 7 + 2, none⟩ (.string x2)).setCell ⟨g, j * 7 + 3, none⟩ (.string x3)).setCell ⟨g, j * 7 + 4, none⟩ (.string x4)).setCell ⟨g, j * 7 + 5, none⟩ (.string x5)).setCell ⟨g, j * 7 + 6, none⟩ (.string x6)) = W7 := hW7.symm
        rw [hchain]
        have hP := HU.out.put (x := ⟨x0, x1, x2, x3, x4, x5, x6⟩) hj HMS.out
        rw [← hW7] at hP
        refine ⟨_, _, run_endRound none hP.1.lp, rfl, ?_, ?_⟩
        · have hlr : ({ { r with state := .busy } with state := if (none : Option Code).isNone then LoopState.ready else .done, pending := none } : Loop) = r := by have h1 := Hst.out; have h2 := Hpe.out; cases r; simp_all
          rw [hlr]
          exact hP.1.wp r
        · intro b cs hb
          have h1 := hP.2 _ _ ((HKF.out b cs hb).on u.low)
          refine (World.putObj_heap_other ?_).trans h1
          rintro rfl
          have := hP.1.lp.symm.trans h1
          cases this
      · rintro e W4 ⟨⟨v, rfl⟩, hG⟩
        have hend := run_endLoop (P := Tryz.prog) hG.lp (by rw [hst]; decide)
        obtain ⟨o5, ho5⟩ : ∃ o5 : Loop, o5 = { r with state := .exhausted } := ⟨_, rfl⟩
        rw [← ho5] at hend
        clear ho5
        have HX := Lib.hid (hG.wp o5)
        rw [hpe] at hend
        obtain ⟨W8, hW8⟩ : ∃ W8, W4.putObj (w3.heap.size + 1) (.loop o5) = W8 := ⟨_, rfl⟩
        rw [hW8] at hend HX
        refine ⟨none, W8, hend, ?_⟩
        clear hend hG hst hpe HS hW8
        have K0 := one_any
        have K1 := AddF (Vq.fr (FitQ.one (k := 1) (by omega)) (by omega)) (Vq.fr HFW.out.q.2.2.1 (by omega))
        have hob := one_own HFW.out
        have K2 := MulF (Vq.fr HLF.out.2 (by omega)) (Vq.fr hob.1 (by omega))
        have hgr : growTo L (t + 1) = growTo L t * (1 + ownQ d) := by
          show growTo L t * (1 + ownQ (L.getD t [])) = _
          rw [HDT.out]
        rw [← hgr] at K2
        unfold FR at K0 K1 K2
        unfold FV at K1 K2
        rw [HON.out, HOD.out] at K0 K1
        rw [HAN.out.1.1, HAN.out.1.2] at K1
        have y8 := HX.out.x8
        obtain ⟨gn, hgn⟩ : ∃ x, frN (growTo L t) = x := ⟨_, rfl⟩
        obtain ⟨gd, hgd⟩ : ∃ x, frD (growTo L t) = x := ⟨_, rfl⟩
        rw [hgn, hgd] at K2 y8
        obtain ⟨hn', hhn⟩ : ∃ x, frN (growTo L (t + 1)) = x := ⟨_, rfl⟩
        obtain ⟨hd', hhd⟩ : ∃ x, frD (growTo L (t + 1)) = x := ⟨_, rfl⟩
        rw [hhn, hhd] at K2
        have HHN : Hid (frN (growTo L (t + 1)) = hn' ∧ frD (growTo L (t + 1)) = hd') := ⟨hhn, hhd⟩
        generalize frN (1 + ownQ d) = on1 at *
        generalize frD (1 + ownQ d) = od1 at *
        have y11 := HX.out.x11
        rw [HAN.out.1.1, HAN.out.1.2] at y11
        have k80 := y8.bx.keeps (i := 0) (v := .string gn) rfl
        have k81 := y8.bx.keeps (i := 1) (v := .string gd) rfl
        have k110 := y11.bx.keeps (i := 0) (v := .string an) rfl
        have k111 := y11.bx.keeps (i := 1) (v := .string ad) rfl
        have hs8 : St w W8 := ⟨HG.out, HX.out.low⟩
        have X8 := y8.bx
        clear hgr hhn hhd hgn hgd y8 y11 hob hr
        gi_wp2_with fail
        refine wpIn_wide.2 ?_
        refine wp_region_kept_tail 5 (by kernel_rfl) (by kernel_rfl) ?_
        simp only [List.take_succ_cons, List.take_zero, List.drop_succ_cons, List.drop_zero]
        repeat (go_big_quiet_step (first | (with_reducible exact K0.kept hs8) | (with_reducible exact K1.kept hs8) | (with_reducible exact K2.kept hs8)))
        refine wpQuiet_nil ?_
        rintro _ ⟨u, rfl⟩
        have X8u := X8.kept u
        have c0 := X8u.cell (i := 0) (v := .string gn) rfl
        have c1 := X8u.cell (i := 1) (v := .string gd) rfl
        have g0 := X8u.frozen 0
        have g1 := X8u.frozen 1
        have HNX := Lib.hid ((HX.out.up u.low).next HLN.out HD3.out HDS.out HHN.out)
        clear k80 k81 k110 k111 X8 K0 K1 K2
        go_wp2_with fail
        gi_wp2_with fail
        refine ⟨⟨t + 1, w3.heap.size :: Ds, _, _, _, _, _, _, _, _, _, _, _, _, _, _, _, _, _, _, _, by go_num, by omega, HNX⟩, ?_⟩
        simp [intOf]
        omega
    · have hkl : k < n := by omega
      have q : decide ((k : Int) < (n : Int)) = true := decide_eq_true (by omega)
      have qn : decide (k < n) = true := decide_eq_true hkl
      have q0n : decide (0 < n) = true := decide_eq_true (by omega)
      have q0i : (0 : Int) < (n : Int) := by omega
      obtain ⟨d, hd⟩ : ∃ d, L[k]? = some d := ⟨L[k]'(by rw [HN.out]; exact hkl), by simp⟩
      obtain ⟨b, o, v, hA, hb, hcell, B, cc, hv, hrow, h1, h2⟩ := HR.out k d hd
      injection hA with hA
      injection hA with e1 e2
      subst e1 e2 hv
      have HRX := Lib.hid hrow
      have hda := HALL.out k d hd
      have hdl : d.length = p := by rw [hda.2.1, HP0.out]; exact HP.out
      have K1 := scheck_any (A := B) (c := cc) rfl (.inr (HF.out.2 d (List.mem_of_getElem? hd))) h1
      rw [hda.1, hdl] at K1
      rw [hdl] at h1 hcell
      have xk : wr.cell? ⟨b', o' + k, none⟩ = some (.slice B p cc) := (hs.2.cell (p := ⟨b', o' + k, none⟩) hb).trans hcell
      have HE : Hid (d.map SecS.nm = l0.map SecS.nm) := by
        show _ = _
        rw [hda.2.2, HP0.out]
      have HDL := Lib.hid hdl
      have q1 : ((0 : Int) != 0) = false := rfl
      clear hd hda hrow hcell hkn hb hdl
      have KX : Hid (∀ W, St w W → Calls Tryz.prog 40 #[.slice B p cc] W fun e w' => ∃ v, e = .returned v ∧ OutG ncells 9 1 W.heap.size w' v p (d.map SecS.nm) ∧ Below W.heap.size W w') := fun W h => namesS_any HDL.out (by omega) W h.gl (HRX.out.on h.2)
      have K0 : Hid (∀ W, St w W → Calls Tryz.prog 40 #[.slice B0 p c0] W fun e w' => ∃ v, e = .returned v ∧ OutG ncells 9 1 W.heap.size w' v p (l0.map SecS.nm) ∧ Below W.heap.size W w') := fun W h => namesS_any HP.out (by omega) W h.gl (HR0.out.on h.2)
      have KE : Hid (∀ A A' c c', RetI (fun w => Row w A (flatG ncells (d.map SecS.nm)) ∧ Row w A' (flatG ncells (l0.map SecS.nm))) 39 #[.slice A p c, .slice A' p c'] (.bool true)) := by
        intro A A' c c'
        rw [flat_names, flat_names]
        have := equalStr (n := p) (n' := p) (A := A) (A' := A') (c := c) (c' := c') (x := d.map SecS.nm) (y := l0.map SecS.nm) (by rw [List.length_map]; exact HDL.out) (by rw [List.length_map]; exact HP.out) (by omega) (by omega)
        rwa [decide_eq_true HE.out] at this
      generalize d.map SecS.nm = xs at *
      generalize l0.map SecS.nm = ys at *
      gi_wp2_with fail
      refine ⟨trivial, (callsIn_wide.2 (K1 wr hs.gl (HRX.out.on hs.2))).mono ?_⟩
      rintro e w1 ⟨rfl, hb1⟩
      have hs1 := hs.on hb1
      clear xk hs hb1 HE
      gi_wp2_with fail
      refine wpIn_wide.2 ?_
      have s0 := HS0.out _ hs1
      go_region_held3 (fun w' => w'.cell? ⟨b', o', none⟩ = some (.slice B0 p c0))
        (first
          | (with_reducible exact sE)
          | (with_reducible exact sD)
          | (with_reducible exact sC)
          | (with_reducible exact sB)
          | (with_reducible exact sA)
          | (with_reducible exact s0)
          | exact HS0.out _ hs1.drew
          | (go_keep; done))
        (first
          | (go_at_call 40
             with_reducible refine (KX.out _ (by first | with_reducible exact hs1 | with_reducible exact hs1.drew)).mono ?_
             rintro e wA ⟨vA, rfl, hoA, hbA⟩
             have hsA := (by first | with_reducible exact hs1.on hbA | with_reducible exact hs1.drew.on hbA : St w wA)
             obtain ⟨AA, cA, hvA, rA⟩ := hoA.row
             subst hvA
             have sA := HS0.out _ hsA
             clear hoA)
          | (go_at_call 40
             with_reducible refine (K0.out _ (by first | with_reducible exact hsA | with_reducible exact hsA.drew)).mono ?_
             rintro e wB ⟨vB, rfl, hoB, hbB⟩
             have hsB := (by first | with_reducible exact hsA.on hbB | with_reducible exact hsA.drew.on hbB : St w wB)
             obtain ⟨AB, cB, hvB, rB⟩ := hoB.row
             subst hvB
             have sB := HS0.out _ hsB
             have rAB := rA.on hbB
             clear hoB)
          | (go_at_call 40
             with_reducible refine (K0.out _ (by first | with_reducible exact hs1 | with_reducible exact hs1.drew)).mono ?_
             rintro e wC ⟨vC, rfl, hoC, hbC⟩
             have hsC := (by first | with_reducible exact hs1.on hbC | with_reducible exact hs1.drew.on hbC : St w wC)
             obtain ⟨AC, cC, hvC, rC⟩ := hoC.row
             subst hvC
             have sC := HS0.out _ hsC
             clear hoC)
          | (go_at_call 40
             with_reducible refine (KX.out _ (by first | with_reducible exact hsC | with_reducible exact hsC.drew)).mono ?_
             rintro e wD ⟨vD, rfl, hoD, hbD⟩
             have hsD := (by first | with_reducible exact hsC.on hbD | with_reducible exact hsC.drew.on hbD : St w wD)
             obtain ⟨AD, cD, hvD, rD⟩ := hoD.row
             subst hvD
             have sD := HS0.out _ hsD
             have rCD := rC.on hbD
             clear hoD)
          | (go_at_call 39
             with_reducible refine (KE.out _ _ _ _).step (by first | with_reducible exact hsB | with_reducible exact hsB.drew) (by first | with_reducible exact ⟨rAB, rB⟩) ?_
             intro wE hsE hbE
             have sE := HS0.out _ hsE)
          | (go_at_call 39
             with_reducible refine (KE.out _ _ _ _).step (by first | with_reducible exact hsD | with_reducible exact hsD.drew) (by first | with_reducible exact ⟨rD, rCD⟩) ?_
             intro wE hsE hbE
             have sE := HS0.out _ hsE))
      all_goals (clear KX K0 KE)
      all_goals (gi_wp2_with fail)
      all_goals go_roundw
      all_goals first
        | exact ⟨k + 1, by omega, by go_num, hsE⟩
        | (simp [intOf]; omega)
end Go.Proofs.YticfdeaphiifeaaGreatDoor
