/- Unit prices: the contract of Run. Conditions: up to six days of deals with numbers of up to 20 bytes. -/
import Derived.Test.YtndkglmokhndnaaGreatDoorRunR
import Derived.Test.YtndkglmokhndnaaGreatDoorUa
namespace Go.Proofs.YtndkglmokhndnaaGreatDoor
open Go.RowKit Go.Shelf Dec QQ

theorem own_set {w : World} {base n size : Nat} {T : TypeId} {v : Value} {xs : List Value} (h : w.ownsRow base T size v n xs) {c : Nat} (hc : c < base) (i : Nat) (x : Value) : (w.setCell ⟨c, i, none⟩ x).ownsRow base T size v n xs := by
  refine ⟨h.1, ?_⟩
  rcases h.2 with h | ⟨g, cap, cur, e1, e2, e3, r⟩
  · exact .inl h
  · exact .inr ⟨g, cap, cur, e1, e2, (Below.heap_setCell w _ x g (by show g ≠ c; omega)).trans e3, r⟩
theorem own_low {w : World} {base base' n size : Nat} {T : TypeId} {v : Value} {xs : List Value} (h : w.ownsRow base T size v n xs) (hb : base' ≤ base) : w.ownsRow base' T size v n xs := by
  refine ⟨h.1, ?_⟩
  rcases h.2 with h | ⟨g, cap, cur, e1, e2, e3, r⟩
  · exact .inl h
  · exact .inr ⟨g, cap, cur, e1, by omega, e3, r⟩
theorem Bx.grown {w w' : World} {b : Nat} {cs : Array Value} {row : Option Nat} (h : Bx w b cs) (hg : w.grownBy w' row) (hne : some b ≠ row) : Bx w' b cs := by
  obtain ⟨T, h⟩ := h
  exact ⟨T, (hg.block b (Array.getElem?_eq_some_iff.1 h).1 hne).trans h⟩
theorem Bx.drewN {w : World} {b : Nat} {cs : Array Value} (h : Bx w b cs) (n : Nat) : Bx (w.drewN n) b cs := h.on (below_drewN _ _ _)
theorem ucheck_skip {u : ByteArray} {l : List ByteArray} (h : u = canS (valS u) ∧ 0 ≤ valS u) : ucheck (u :: l) = ucheck l := by
  have h1 : (chk u != 0) = false := by rw [chk_zero.2 h.1]; rfl
  have h2 : decide (valS u < 0) = false := decide_eq_false (by omega)
  unfold ucheck
  rw [List.any_cons, List.any_cons, h1, h2, Bool.false_or, Bool.false_or]
theorem deal_same {u v p b : ByteArray} (h : u = canS (valS u) ∧ 0 ≤ valS u) : DealR u v p b = if ucheck [v, p, b] != 0 then ⟨nil, nil, nil, nil, ucheck [v, p, b]⟩ else dealR u v p b := by
  unfold DealR
  rw [ucheck_skip h]
set_option maxRecDepth 100000 in
set_option maxHeartbeats 8000000 in
theorem run_any (bb oo n c : Nat) (l : List DealIn) (w : World) (hl : l.length = n) (hn : n ≤ 6) (hz : ∀ d ∈ l, d.v.size ≤ 20 ∧ d.p.size ≤ 20 ∧ d.b.size ≤ 20) (hg : Gl w) (hr : Row w (some ⟨bb, oo, none⟩) (dflat l)) :
    Calls Tryz.prog 16 #[.slice (some ⟨bb, oo, none⟩) n c] w fun e w' => ∃ v xs er, e = .returned (.tuple #[v, .int .i64 er]) ∧ RunsTo l xs er ∧ OutIs w.heap.size w' v xs.length xs ∧ Below w.heap.size w w' := by
  have hs := (St.refl hg).alloc (.cells #[.string ⟨#[]⟩, .string ⟨#[]⟩] 94)
  have F0 := Bx.new w #[.string ⟨#[]⟩, .string ⟨#[]⟩] 94
  have HL := Lib.hid hl
  have HZ := Lib.hid hz
  have HR := Lib.hid hr
  have HF0 := Lib.hid F0
  clear hl hz hr F0
  have q400 : decide ((400 : Int) < (n : Int)) = false := decide_eq_false (by omega)
  go_enter Tryz.func16, Tryz.ntmps16
  go_wp2_with fail
  go_loopw [17, 4] (fun s o wr => ∃ (k : Nat) (u fv : ByteArray) (xs : List DealtR) (vo : Value), k ≤ n ∧ s = .int .i64 (k : Int) ∧ o = vo ∧ St w wr ∧ u.size + 50 ≤ 50 * 2 ^ k ∧ Hid (u = canS (valS u) ∧ 0 ≤ valS u) ∧ Hid (Bx wr w.heap.size #[.string fv, .string u]) ∧ Hid (runTo l k = some (u, xs)) ∧ Hid (OutIs (w.heap.size + 1) wr vo k xs)) (fun s _ _ => (n - intOf s).toNat)
  case atStart => exact ⟨0, nil, nil, [], .slice none 0 0, by omega, rfl, rfl, hs, by decide, ⟨by decide +kernel, by decide +kernel⟩, HF0.out, rfl, rfl, World.ownsRow_nil _ _ _ _⟩
  case round =>
    obtain ⟨k, u, fv, xs, vo, hk, rfl, ho, hs, hu, HG, HF, HT, HO⟩ := hrel
    have ho' := ho.symm
    clear ho
    subst ho'
    by_cases hkn : k = n
    · subst hkn
      have q : decide ((k : Int) < (k : Int)) = false := decide_eq_false (by omega)
      have HE : Hid (RunsTo l xs 0) := by have h := HL.out; exact .inr ⟨u, by rw [h]; exact HT.out, rfl⟩
      go_wp2_with fail
      go_ret2
      exact ⟨_, _, _, rfl, HE.out, ⟨rfl, by rw [HO.out.1]; exact own_low HO.out.2 (by omega)⟩, hs.2⟩
    · have hkl : k < n := by omega
      obtain ⟨d, hd⟩ : ∃ d, l[k]? = some d := ⟨l[k]'(by rw [HL.out]; exact hkl), by simp⟩
      have HD := Lib.hid hd
      clear hd hkn
      have hp2 : 2 ^ k ≤ 2 ^ 6 := Nat.pow_le_pow_right (by omega) (by omega)
      have hdz := HZ.out d (List.mem_of_getElem? HD.out)
      obtain ⟨dz1, dz2, dz3⟩ := hdz
      have K8 := deal_any (v0 := fv) (u := u) (v := d.v) (p := d.p) (b := d.b) d.day (by omega) (by omega) (by omega) (by omega)
      have hus := (deal_size0 u d.v d.p d.b)
      have hpow : 2 ^ (k + 1) = 2 * 2 ^ k := by rw [Nat.pow_succ]; omega
      have HSZ : Hid ((DealR u d.v d.p d.b).units.size + 50 ≤ 50 * 2 ^ (k + 1)) := by show _ ≤ _; omega
      have HSE := Lib.hid (step_err (u := u) HD.out)
      have HSM := Lib.hid (deal_same (v := d.v) (p := d.p) (b := d.b) HG.out)
      have HRN := Lib.hid (fun h0 : stepErr l k u = 0 => runTo_next HT.out HD.out h0)
      have HGD := Lib.hid (units_good (u := u) (v := d.v) (p := d.p) (b := d.b))
      have hu6 : u.size ≤ 3200 := by omega
      clear hus hpow hp2 hu
      have HW := Lib.hid (HR.out.on hs.2)
      have xk : ∀ j v, (dcells d)[j]? = some v → wr.cell? ⟨bb, oo + (k * 4 + j), none⟩ = some v := by
        intro j v hj
        obtain ⟨b, o, hA, hB, hc⟩ := HW.out _ _ (dflat_at HD.out hj)
        injection hA with hA
        injection hA with h1 h2
        subst h1 h2
        rwa [show oo + (4 * k + j) = oo + (k * 4 + j) by omega] at hc
      have XK := Lib.hid xk
      clear xk
      have hbl : bb < w.heap.size := by
        obtain ⟨b, o, hA, hB, hc⟩ := HR.out _ _ (dflat_at (j := 0) HD.out rfl)
        injection hA with hA
        injection hA with h1 h2
        subst h1
        exact hB
      by_cases hk0 : k = 0
      · subst hk0
        have q : decide ((0 : Int) < (n : Int)) = true := decide_eq_true (by omega)
        have q' : decide (((0 : Nat) : Int) < (n : Int)) = true := decide_eq_true (by omega)
        have qn : decide (0 < n) = true := decide_eq_true hkl
        have HSE0 := Lib.hid (HSE.out (fun h => absurd h (by omega)))
        clear HSE
        have x0 : wr.cell? ⟨bb, oo, none⟩ = some (.int .i64 d.day) := by have := XK.out 0 _ rfl; simpa using this
        have x1 : wr.cell? ⟨bb, oo + 1, none⟩ = some (.string d.v) := by have := XK.out 1 _ rfl; simpa using this
        have x2 : wr.cell? ⟨bb, oo + 2, none⟩ = some (.string d.p) := by have := XK.out 2 _ rfl; simpa using this
        have x3 : wr.cell? ⟨bb, oo + 3, none⟩ = some (.string d.b) := by have := XK.out 3 _ rfl; simpa using this
        have hbb : bb < wr.heap.size := block_lt_of_cell x0
        go_wp2_with fail
        go_quiet (fail)
        go_wp2_with fail
        obtain ⟨e1, he1⟩ : ∃ e, ucheck [d.v, d.p, d.b] = e := ⟨_, rfl⟩
        have K7 := ucheck_any (A := some ⟨wr.heap.size + 1, 0, none⟩) (c := 3) (n := 3) (l := [d.v, d.p, d.b]) rfl (by omega) (by intro s hs; simp at hs; rcases hs with rfl | rfl | rfl <;> omega)
        have BD := ((Bx.new wr #[.int .i64 d.day, .string d.v, .string d.p, .string d.b] 37).drewN nq).alloc (.cells #[.string d.v, .string d.p, .string d.b] 30)
        have BF := (((HF.out.alloc (.cells #[.int .i64 d.day, .string d.v, .string d.p, .string d.b] 37)).drewN nq).alloc (.cells #[.string d.v, .string d.p, .string d.b] 30))
        have hs1 := ((hs.alloc (.cells #[.int .i64 d.day, .string d.v, .string d.p, .string d.b] 37)).drewN nq).alloc (.cells #[.string d.v, .string d.p, .string d.b] 30)
        have BR : Bx (((wr.alloc (.cells #[.int .i64 d.day, .string d.v, .string d.p, .string d.b] 37)).drewN nq).alloc (.cells #[.string d.v, .string d.p, .string d.b] 30)) (wr.heap.size + 1) #[.string d.v, .string d.p, .string d.b] := by
          have h := Bx.new ((wr.alloc (.cells #[.int .i64 d.day, .string d.v, .string d.p, .string d.b] 37)).drewN nq) #[.string d.v, .string d.p, .string d.b] 30
          rwa [show ((wr.alloc (.cells #[.int .i64 d.day, .string d.v, .string d.p, .string d.b] 37)).drewN nq).heap.size = wr.heap.size + 1 from World.size_alloc _ _] at h
        have HRW := Lib.hid (Row.of BR)
        have HO1 : Hid ((((wr.alloc (.cells #[.int .i64 d.day, .string d.v, .string d.p, .string d.b] 37)).drewN nq).alloc (.cells #[.string d.v, .string d.p, .string d.b] 30)).ownsRow (w.heap.size + 1) 32 4 vo 0 (rflat xs)) := World.ownsRow.alloc (w := (wr.alloc (.cells #[.int .i64 d.day, .string d.v, .string d.p, .string d.b] 37)).drewN nq) (World.ownsRow.alloc HO.out.2 _) _
        have hltw : w.heap.size < wr.heap.size := HF.out.lt
        rw [he1] at K7
        have HE1 := Lib.hid he1
        clear he1 BR
        refine K7.step hs1 HRW.out ?_
        intro w1 hs hb
        replace BD := BD.on hb
        replace BF := BF.on hb
        have HO2 := Lib.hid (own_below HO1.out hb)
        clear HO1 HRW hb
        by_cases h1 : e1 = 0
        · subst h1
          have HSM0 : Hid (DealR u d.v d.p d.b = dealR u d.v d.p d.b) := by have h := HSM.out; rw [HE1.out] at h; exact h
          obtain ⟨r, hr⟩ : ∃ r, DealR u d.v d.p d.b = r := ⟨_, rfl⟩
          have hr2 : dealR u d.v d.p d.b = r := HSM0.out.symm.trans hr
          have HSZ' := HSZ.out
          have HRN' := HRN.out
          have HGD' := HGD.out
          have HSE' := HSE0.out
          rw [hr] at HSZ' HRN' HGD' HSE'
          rw [hr2] at K8
          have HSZ2 := Lib.hid HSZ'
          have HRN2 := Lib.hid HRN'
          have HGD2 := Lib.hid HGD'
          have HSE2 := Lib.hid HSE'
          clear HSM0 hr hr2 HSZ' HRN' HGD' HSE' HSZ HRN HGD HSE0 HSM HE1
          obtain ⟨r1, r2, r3, r4, r5⟩ := r
          unfold dealV DealtR.val at K8
          simp only at K8
          have y0 := BD.cell (i := 0) rfl
          have y1 := BD.cell (i := 1) rfl
          have y2 := BD.cell (i := 2) rfl
          have y3 := BD.cell (i := 3) rfl
          have g0 := BF.cell (i := 0) rfl
          have g1 := BF.cell (i := 1) rfl
          go_wp2_with fail
          refine K8.step hs ?_
          intro w2 hs hb
          replace BF := BF.on hb
          replace HO2 := Lib.hid (own_below HO2.out hb)
          clear y0 y1 y2 y3 g0 g1
          have X := Bx.new w2 #[.string r1, .string r2, .string r3, .string r4] 32
          by_cases h5 : r5 = 0
          · subst h5
            have z0 := X.cell (i := 0) (v := .string r1) rfl
            have z1 := X.cell (i := 1) (v := .string r2) rfl
            have z2 := X.cell (i := 2) (v := .string r3) rfl
            have z3 := X.cell (i := 3) (v := .string r4) rfl
            obtain ⟨i0, hi, hz0, hz1, hz2⟩ := info_parts infoD
            have Hi := Lib.hid hi
            have Hz0 := Lib.hid hz0
            have Hz1 := Lib.hid hz1
            have Hz2 := Lib.hid hz2
            have hsz : w.heap.size ≤ w2.heap.size := hs.size
            have hlt2 : w.heap.size < w2.heap.size := BF.lt
            clear hi hz0 hz1 hz2
            go_wp2_with (at_builtin; refine wpList_append_any _ rfl (.tmp 57) (.tmp 59) 25 rfl (w.heap.size + 1) 32 i0 (.agg #[.string ⟨#[]⟩, .string ⟨#[]⟩, .string ⟨#[]⟩, .string ⟨#[]⟩]) 4 64 (by kernel_rfl) Hi.out Hz0.out Hz1.out Hz2.out rfl (by omega) _ 0 (rflat xs) rfl ((HO2.out.alloc _).alloc _) (w2.heap.size + 1 + 1) (some ⟨w2.heap.size + 1, 0, none⟩) 1 1 (rcells ⟨r1, r2, r3, r4, 0⟩) rfl (reads_row1 w2 _ _ _) (rcells_one _) (by unfold maxLen; omega) (by omega) (by simp; omega) ?_; intro v3 w3 hown3 hg3 _; have HO3 := Lib.hid hown3; have HG3 := Lib.hid hg3; have v2 := hg3.cell (((X.alloc _).cell (i := 2) (v := .string r3) rfl)) (fun e => by have := (HO2.out.lt _ e.symm).2; simp at this); have v4 := hg3.cell (((X.alloc _).cell (i := 3) (v := .string r4) rfl)) (fun e => by have := (HO2.out.lt _ e.symm).2; simp at this); have BF3 := ((BF.alloc _).alloc _).grown hg3 (fun e => by have := own_gen HO2.out _ e.symm; omega); have k0 := BF3.cell (i := 0) rfl; have k1 := BF3.cell (i := 1) rfl; have m0 := BF3.frozen 0; have m1 := BF3.frozen 1; clear hown3 hg3)
            go_roundw
            case rel =>
              have hs3 : St w w3 := ⟨hs.1, ((hs.2.alloc hsz _).alloc (by simp; omega) _).grown HG3.out (by simp; omega) (fun k hk => by have := own_gen HO2.out k hk; omega)⟩
              refine ⟨0 + 1, r3, r4, xs ++ [DealtR.mk r1 r2 r3 r4 0], v3, by omega, by go_num, rfl, (hs3.set (b := w.heap.size) (Nat.le_refl _) 0 (.string r4)).set (b := w.heap.size) (Nat.le_refl _) 1 (.string r3), HSZ2.out, HGD2.out (by first | rfl | trivial), (BF3.set 0 (.string r4)).set 1 (.string r3), HRN2.out HSE2.out, ?_⟩
              exact ⟨by simp [HO.out.1], by rw [rflat_snoc]; exact own_set (own_set HO3.out (by omega) _ _) (by omega) _ _⟩
            case measure => simp [intOf]; omega
          · have p2 : (r5 != 0) = true := by simpa using h5
            have HN := Lib.hid h5
            clear h5
            go_wp2_with fail
            go_ret2
            exact ⟨_, [], r5, rfl, .inl ⟨0, u, xs, by rw [HL.out]; exact hkl, HT.out, HSE2.out, HN.out, rfl⟩, ⟨rfl, World.ownsRow_nil _ _ _ _⟩, (hs.alloc _).2⟩
        · have p1 : (e1 != 0) = true := by simpa using h1
          have HSX : Hid (stepErr l 0 u = e1) := by
            show _ = _
            have h := HSM.out
            rw [HE1.out, p1] at h
            have h2 := HSE0.out
            rw [h] at h2
            exact h2
          have HN := Lib.hid h1
          clear h1 HSM HE1 HSE0 HSZ HRN HGD K8
          go_wp2_with fail
          go_ret2
          exact ⟨_, [], e1, rfl, .inl ⟨0, u, xs, by rw [HL.out]; exact hkl, HT.out, HSX.out, HN.out, rfl⟩, ⟨rfl, World.ownsRow_nil _ _ _ _⟩, hs.2⟩
      · obtain ⟨i, rfl⟩ : ∃ i, k = i + 1 := ⟨k - 1, by omega⟩
        obtain ⟨c0, hc0⟩ : ∃ d, l[i]? = some d := ⟨l[i]'(by rw [HL.out]; omega), by simp⟩
        have HC0 := Lib.hid hc0
        have xi : (wr.alloc (.cells #[.int .i64 d.day, .string d.v, .string d.p, .string d.b] 37)).cell? ⟨bb, oo + i * 4, none⟩ = some (.int .i64 c0.day) := by
          obtain ⟨b, o, hA, hB, hc⟩ := HW.out _ _ (dflat_at (j := 0) hc0 rfl)
          injection hA with hA
          injection hA with h1 h2
          subst h1 h2
          rw [World.cell?_alloc_lt _ _ _ (by exact hB)]
          rwa [show oo + (4 * i + 0) = oo + i * 4 by omega] at hc
        have x0 : wr.cell? ⟨bb, oo + (i + 1) * 4, none⟩ = some (.int .i64 d.day) := XK.out 0 _ rfl
        have x1 : wr.cell? ⟨bb, oo + (i + 1) * 4 + 1, none⟩ = some (.string d.v) := XK.out 1 _ rfl
        have x2 : wr.cell? ⟨bb, oo + (i + 1) * 4 + 2, none⟩ = some (.string d.p) := XK.out 2 _ rfl
        have x3 : wr.cell? ⟨bb, oo + (i + 1) * 4 + 3, none⟩ = some (.string d.b) := XK.out 3 _ rfl
        have hbb : bb < wr.heap.size := block_lt_of_cell x0
        have yd := (Bx.new wr #[.int .i64 d.day, .string d.v, .string d.p, .string d.b] 37).cell (i := 0) rfl
        have ek : ((i + 1 : Nat) : Int) - 1 = (i : Int) := by omega
        have ek2 : (i : Int) + 1 - 1 = (i : Int) := by omega
        have q : decide (((i + 1 : Nat) : Int) < (n : Int)) = true := decide_eq_true (by omega)
        have q2 : decide ((i : Int) + 1 < (n : Int)) = true := decide_eq_true (by omega)
        have q3 : decide ((0 : Int) < ((i + 1 : Nat) : Int)) = true := decide_eq_true (by omega)
        have q3n : decide ((0 : Int) < (i : Int) + 1) = true := decide_eq_true (by omega)
        obtain ⟨t, ht⟩ : ∃ t, decide (d.day ≤ c0.day) = t := ⟨_, rfl⟩
        clear hk0 hc0
        cases t with
        | true =>
          have HS8 := Lib.hid (step_order (u := u) HD.out (by omega) HC0.out ht)
          go_wp2_with fail
          go_quiet (fail)
          go_wp2_with fail
          go_ret2
          exact ⟨_, [], 8, rfl, .inl ⟨i + 1, u, xs, by rw [HL.out]; exact hkl, HT.out, HS8.out, by decide, rfl⟩, ⟨rfl, World.ownsRow_nil _ _ _ _⟩, ((hs.alloc _).drewN _).2⟩
        | false =>
          have HSE0 := Lib.hid (HSE.out (fun _ => ⟨c0, HC0.out, ht⟩))
          clear HSE
          go_wp2_with fail
          go_quiet (fail)
          go_wp2_with fail
          obtain ⟨e1, he1⟩ : ∃ e, ucheck [d.v, d.p, d.b] = e := ⟨_, rfl⟩
          have K7 := ucheck_any (A := some ⟨wr.heap.size + 1, 0, none⟩) (c := 3) (n := 3) (l := [d.v, d.p, d.b]) rfl (by omega) (by intro s hs; simp at hs; rcases hs with rfl | rfl | rfl <;> omega)
          have BD := ((Bx.new wr #[.int .i64 d.day, .string d.v, .string d.p, .string d.b] 37).drewN nq).alloc (.cells #[.string d.v, .string d.p, .string d.b] 30)
          have BF := (((HF.out.alloc (.cells #[.int .i64 d.day, .string d.v, .string d.p, .string d.b] 37)).drewN nq).alloc (.cells #[.string d.v, .string d.p, .string d.b] 30))
          have hs1 := ((hs.alloc (.cells #[.int .i64 d.day, .string d.v, .string d.p, .string d.b] 37)).drewN nq).alloc (.cells #[.string d.v, .string d.p, .string d.b] 30)
          have BR : Bx (((wr.alloc (.cells #[.int .i64 d.day, .string d.v, .string d.p, .string d.b] 37)).drewN nq).alloc (.cells #[.string d.v, .string d.p, .string d.b] 30)) (wr.heap.size + 1) #[.string d.v, .string d.p, .string d.b] := by
            have h := Bx.new ((wr.alloc (.cells #[.int .i64 d.day, .string d.v, .string d.p, .string d.b] 37)).drewN nq) #[.string d.v, .string d.p, .string d.b] 30
            rwa [show ((wr.alloc (.cells #[.int .i64 d.day, .string d.v, .string d.p, .string d.b] 37)).drewN nq).heap.size = wr.heap.size + 1 from World.size_alloc _ _] at h
          have HRW := Lib.hid (Row.of BR)
          have HO1 : Hid ((((wr.alloc (.cells #[.int .i64 d.day, .string d.v, .string d.p, .string d.b] 37)).drewN nq).alloc (.cells #[.string d.v, .string d.p, .string d.b] 30)).ownsRow (w.heap.size + 1) 32 4 vo (i + 1) (rflat xs)) := World.ownsRow.alloc (w := (wr.alloc (.cells #[.int .i64 d.day, .string d.v, .string d.p, .string d.b] 37)).drewN nq) (World.ownsRow.alloc HO.out.2 _) _
          have hltw : w.heap.size < wr.heap.size := HF.out.lt
          rw [he1] at K7
          have HE1 := Lib.hid he1
          clear he1 BR
          refine K7.step hs1 HRW.out ?_
          intro w1 hs hb
          replace BD := BD.on hb
          replace BF := BF.on hb
          have HO2 := Lib.hid (own_below HO1.out hb)
          clear HO1 HRW hb
          by_cases h1 : e1 = 0
          · subst h1
            have HSM0 : Hid (DealR u d.v d.p d.b = dealR u d.v d.p d.b) := by have h := HSM.out; rw [HE1.out] at h; exact h
            obtain ⟨r, hr⟩ : ∃ r, DealR u d.v d.p d.b = r := ⟨_, rfl⟩
            have hr2 : dealR u d.v d.p d.b = r := HSM0.out.symm.trans hr
            have HSZ' := HSZ.out
            have HRN' := HRN.out
            have HGD' := HGD.out
            have HSE' := HSE0.out
            rw [hr] at HSZ' HRN' HGD' HSE'
            rw [hr2] at K8
            have HSZ2 := Lib.hid HSZ'
            have HRN2 := Lib.hid HRN'
            have HGD2 := Lib.hid HGD'
            have HSE2 := Lib.hid HSE'
            clear HSM0 hr hr2 HSZ' HRN' HGD' HSE' HSZ HRN HGD HSE0 HSM HE1
            obtain ⟨r1, r2, r3, r4, r5⟩ := r
            unfold dealV DealtR.val at K8
            simp only at K8
            have y0 := BD.cell (i := 0) rfl
            have y1 := BD.cell (i := 1) rfl
            have y2 := BD.cell (i := 2) rfl
            have y3 := BD.cell (i := 3) rfl
            have g0 := BF.cell (i := 0) rfl
            have g1 := BF.cell (i := 1) rfl
            go_wp2_with fail
            refine K8.step hs ?_
            intro w2 hs hb
            replace BF := BF.on hb
            replace HO2 := Lib.hid (own_below HO2.out hb)
            clear y0 y1 y2 y3 g0 g1
            have X := Bx.new w2 #[.string r1, .string r2, .string r3, .string r4] 32
            by_cases h5 : r5 = 0
            · subst h5
              have z0 := X.cell (i := 0) (v := .string r1) rfl
              have z1 := X.cell (i := 1) (v := .string r2) rfl
              have z2 := X.cell (i := 2) (v := .string r3) rfl
              have z3 := X.cell (i := 3) (v := .string r4) rfl
              obtain ⟨i0, hi, hz0, hz1, hz2⟩ := info_parts infoD
              have Hi := Lib.hid hi
              have Hz0 := Lib.hid hz0
              have Hz1 := Lib.hid hz1
              have Hz2 := Lib.hid hz2
              have hsz : w.heap.size ≤ w2.heap.size := hs.size
              have hlt2 : w.heap.size < w2.heap.size := BF.lt
              clear hi hz0 hz1 hz2
              go_wp2_with (at_builtin; refine wpList_append_any _ rfl (.tmp 57) (.tmp 59) 25 rfl (w.heap.size + 1) 32 i0 (.agg #[.string ⟨#[]⟩, .string ⟨#[]⟩, .string ⟨#[]⟩, .string ⟨#[]⟩]) 4 64 (by kernel_rfl) Hi.out Hz0.out Hz1.out Hz2.out rfl (by omega) _ (i + 1) (rflat xs) rfl ((HO2.out.alloc _).alloc _) (w2.heap.size + 1 + 1) (some ⟨w2.heap.size + 1, 0, none⟩) 1 1 (rcells ⟨r1, r2, r3, r4, 0⟩) rfl (reads_row1 w2 _ _ _) (rcells_one _) (by unfold maxLen; omega) (by omega) (by simp; omega) ?_; intro v3 w3 hown3 hg3 _; have HO3 := Lib.hid hown3; have HG3 := Lib.hid hg3; have v2 := hg3.cell (((X.alloc _).cell (i := 2) (v := .string r3) rfl)) (fun e => by have := (HO2.out.lt _ e.symm).2; simp at this); have v4 := hg3.cell (((X.alloc _).cell (i := 3) (v := .string r4) rfl)) (fun e => by have := (HO2.out.lt _ e.symm).2; simp at this); have BF3 := ((BF.alloc _).alloc _).grown hg3 (fun e => by have := own_gen HO2.out _ e.symm; omega); have k0 := BF3.cell (i := 0) rfl; have k1 := BF3.cell (i := 1) rfl; have m0 := BF3.frozen 0; have m1 := BF3.frozen 1; clear hown3 hg3)
              go_roundw
              case rel =>
                have hs3 : St w w3 := ⟨hs.1, ((hs.2.alloc hsz _).alloc (by simp; omega) _).grown HG3.out (by simp; omega) (fun k hk => by have := own_gen HO2.out k hk; omega)⟩
                refine ⟨(i + 1) + 1, r3, r4, xs ++ [DealtR.mk r1 r2 r3 r4 0], v3, by omega, by go_num, rfl, (hs3.set (b := w.heap.size) (Nat.le_refl _) 0 (.string r4)).set (b := w.heap.size) (Nat.le_refl _) 1 (.string r3), HSZ2.out, HGD2.out (by first | rfl | trivial), (BF3.set 0 (.string r4)).set 1 (.string r3), HRN2.out HSE2.out, ?_⟩
                exact ⟨by simp [HO.out.1], by rw [rflat_snoc]; exact own_set (own_set HO3.out (by omega) _ _) (by omega) _ _⟩
              case measure => simp [intOf]; omega
            · have p2 : (r5 != 0) = true := by simpa using h5
              have HN := Lib.hid h5
              clear h5
              go_wp2_with fail
              go_ret2
              exact ⟨_, [], r5, rfl, .inl ⟨(i + 1), u, xs, by rw [HL.out]; exact hkl, HT.out, HSE2.out, HN.out, rfl⟩, ⟨rfl, World.ownsRow_nil _ _ _ _⟩, (hs.alloc _).2⟩
          · have p1 : (e1 != 0) = true := by simpa using h1
            have HSX : Hid (stepErr l (i + 1) u = e1) := by
              show _ = _
              have h := HSM.out
              rw [HE1.out, p1] at h
              have h2 := HSE0.out
              rw [h] at h2
              exact h2
            have HN := Lib.hid h1
            clear h1 HSM HE1 HSE0 HSZ HRN HGD K8
            go_wp2_with fail
            go_ret2
            exact ⟨_, [], e1, rfl, .inl ⟨(i + 1), u, xs, by rw [HL.out]; exact hkl, HT.out, HSX.out, HN.out, rfl⟩, ⟨rfl, World.ownsRow_nil _ _ _ _⟩, hs.2⟩
end Go.Proofs.YtndkglmokhndnaaGreatDoor
