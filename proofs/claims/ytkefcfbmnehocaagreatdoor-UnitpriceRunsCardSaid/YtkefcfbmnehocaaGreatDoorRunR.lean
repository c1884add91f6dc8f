/- Unit prices, the reference: the contract of Run. Conditions: up to six days of deals with numbers of up to 20 bytes. -/
import Derived.Test.YtkefcfbmnehocaaGreatDoorRunP
import Derived.Test.YtkefcfbmnehocaaGreatDoorRg5
import Derived.Test.YtkefcfbmnehocaaGreatDoorUpX0
namespace Go.Proofs.YtkefcfbmnehocaaGreatDoor
open Go.RowKit Go.Shelf Dec QQ

theorem own_below {w w' : World} {base n size : Nat} {T : TypeId} {v : Value} {xs : List Value} (h : w.ownsRow base T size v n xs) (hb : Below w.heap.size w w') : w'.ownsRow base T size v n xs := by
  refine ⟨h.1, ?_⟩
  rcases h.2 with h | ⟨g, cap, cur, e1, e2, e3, r⟩
  · exact .inl h
  · exact .inr ⟨g, cap, cur, e1, e2, (hb.block g (Array.getElem?_eq_some_iff.1 e3).1).trans e3, r⟩
theorem own_gen {w : World} {base n size : Nat} {T : TypeId} {v : Value} {xs : List Value} (h : w.ownsRow base T size v n xs) : ∀ k, v.ownBlock = some k → base ≤ k := by
  intro k hk
  rcases h.2 with ⟨rfl, _⟩ | ⟨g, cap, cur, rfl, hb, _⟩
  · simp [Value.ownBlock] at hk
  · simp [Value.ownBlock] at hk; omega
theorem reads_row (w : World) (T : TypeId) (cs : List Value) : Reads (w.alloc (.cells cs.toArray T)) (w.heap.size + 1) cs.length (some ⟨w.heap.size, 0, none⟩) 1 cs := by
  refine ⟨by simp, fun _ => ⟨_, rfl, by simp, ?_⟩⟩
  intro j u hu
  have h := heap_new w (.cells cs.toArray T)
  rw [show (⟨w.heap.size, 0, none⟩ : Addr).add j = ⟨w.heap.size, j, none⟩ by unfold Addr.add; by_cases h : j = 0 <;> simp [h]]
  unfold World.cell?
  rw [h]
  simp [hu]
theorem reads_row1 (w : World) (o : Obj) (T : TypeId) (cs : List Value) : Reads ((w.alloc o).alloc (.cells cs.toArray T)) (w.heap.size + 1 + 1) cs.length (some ⟨w.heap.size + 1, 0, none⟩) 1 cs := by
  have := reads_row (w.alloc o) T cs
  rwa [World.size_alloc] at this
theorem rcells_one (r : DealtR) : ∀ u ∈ rcells r, u.oneCell' = true := by
  intro u hu
  simp [rcells] at hu
  rcases hu with rfl | rfl | rfl | rfl <;> rfl
theorem infoD : (Tryz.prog.info? 39).map (fun i => (i.zero, i.size, i.bytes)) = some (some (.agg #[.string ⟨#[]⟩, .string ⟨#[]⟩, .string ⟨#[]⟩, .string ⟨#[]⟩]), 4, 64) := by kernel_rfl
/-- the results in memory -/
def OutIs (base : Nat) (w : World) (v : Value) (n : Nat) (xs : List DealtR) : Prop := xs.length = n ∧ w.ownsRow base 39 4 v n (rflat xs)
theorem step_err {l : List DealIn} {k : Nat} {u : ByteArray} {d : DealIn} (h : l[k]? = some d) (hp : 0 < k → ∃ c, l[k - 1]? = some c ∧ decide (d.day ≤ c.day) = false) : stepErr l k u = (DealR u d.v d.p d.b).err := by
  unfold stepErr
  rw [h]
  show (if _ then _ else _) = _
  rw [if_neg]
  rintro ⟨h0, h1⟩
  obtain ⟨c, hc, hd⟩ := hp h0
  rw [hc] at h1
  simp only at h1
  rw [hd] at h1
  cases h1
theorem step_order {l : List DealIn} {k : Nat} {u : ByteArray} {d c : DealIn} (h : l[k]? = some d) (h0 : 0 < k) (hc : l[k - 1]? = some c) (hd : decide (d.day ≤ c.day) = true) : stepErr l k u = 8 := by
  unfold stepErr
  rw [h]
  show (if _ then _ else _) = _
  rw [if_pos ⟨h0, by rw [hc]; exact hd⟩]
set_option maxRecDepth 100000 in
set_option maxHeartbeats 8000000 in
theorem rrun_any (bb oo n c : Nat) (l : List DealIn) (w : World) (hl : l.length = n) (hn : n ≤ 6) (hz : ∀ d ∈ l, d.v.size ≤ 20 ∧ d.p.size ≤ 20 ∧ d.b.size ≤ 20) (hg : Gl w) (hr : Row w (some ⟨bb, oo, none⟩) (dflat l)) :
    Calls Tryz.prog 35 #[.slice (some ⟨bb, oo, none⟩) n c] w fun e w' => ∃ v xs er, e = .returned (.tuple #[v, .int .i64 er]) ∧ RunsTo l xs er ∧ OutIs w.heap.size w' v xs.length xs ∧ Below w.heap.size w w' := by
  have hs := St.refl hg
  have HL := Lib.hid hl
  have HZ := Lib.hid hz
  have HR := Lib.hid hr
  clear hl hz hr
  have q400 : decide ((400 : Int) < (n : Int)) = false := decide_eq_false (by omega)
  go_enter Tryz.func35, Tryz.ntmps35
  go_wp2_with fail
  go_loopw [6, 4, 5] (fun s o t wr => ∃ (k : Nat) (u : ByteArray) (xs : List DealtR) (vo : Value), k ≤ n ∧ s = .int .i64 (k : Int) ∧ o = vo ∧ t = .string u ∧ St w wr ∧ u.size + 50 ≤ 50 * 2 ^ k ∧ Hid (runTo l k = some (u, xs)) ∧ Hid (OutIs w.heap.size wr vo k xs)) (fun s _ _ _ => (n - intOf s).toNat)
  case atStart => exact ⟨0, nil, [], .slice none 0 0, by omega, rfl, rfl, rfl, hs, by decide, rfl, rfl, World.ownsRow_nil _ _ _ _⟩
  case round =>
    obtain ⟨k, u, xs, vo, hk, rfl, ho, rfl, hs, hu, HT, HO⟩ := hrel
    have ho' := ho.symm
    clear ho
    subst ho'
    by_cases hkn : k = n
    · subst hkn
      have q : decide ((k : Int) < (k : Int)) = false := decide_eq_false (by omega)
      have HE : Hid (RunsTo l xs 0) := by have h := HL.out; exact .inr ⟨u, by rw [h]; exact HT.out, rfl⟩
      go_wp2_with fail
      go_ret2
      exact ⟨_, _, _, rfl, HE.out, by rw [HO.out.1]; exact HO.out, hs.2⟩
    · have hkl : k < n := by omega
      obtain ⟨d, hd⟩ : ∃ d, l[k]? = some d := ⟨l[k]'(by rw [HL.out]; exact hkl), by simp⟩
      have HD := Lib.hid hd
      clear hd hkn
      have hp2 : 2 ^ k ≤ 2 ^ 6 := Nat.pow_le_pow_right (by omega) (by omega)
      have hdz := HZ.out d (List.mem_of_getElem? HD.out)
      obtain ⟨dz1, dz2, dz3⟩ := hdz
      have K8 := rdeal (u := u) (v := d.v) (p := d.p) (b := d.b) d.day (by omega) (by omega) (by omega) (by omega)
      have hus := (deal_size0 u d.v d.p d.b)
      have hpow : 2 ^ (k + 1) = 2 * 2 ^ k := by rw [Nat.pow_succ]; omega
      have HSZ : Hid ((DealR u d.v d.p d.b).units.size + 50 ≤ 50 * 2 ^ (k + 1)) := by show _ ≤ _; omega
      have HSE := Lib.hid (step_err (u := u) HD.out)
      have HSZ' := HSZ.out
      obtain ⟨r, hr⟩ : ∃ r, DealR u d.v d.p d.b = r := ⟨_, rfl⟩
      have HRN := Lib.hid (fun h0 : stepErr l k u = 0 => runTo_next HT.out HD.out h0)
      rw [hr] at K8 HSZ' HSE HRN
      clear hr HSZ
      have HSZ := Lib.hid HSZ'
      clear HSZ'
      obtain ⟨r1, r2, r3, r4, r5⟩ := r
      unfold dealV DealtR.val at K8
      simp only at K8
      have hu6 : u.size ≤ 3200 := by omega
      clear hus hpow hp2 hu
      have HW := Lib.hid (HR.out.on hs.2)
      have xk : ∀ j v, (dcells d)[j]? = some v → wr.cell? ⟨bb, oo + (k * 4 + j), none⟩ = some v := by
        intro j v hj
        obtain ⟨b, o, hA, hB, hc⟩ := HW.out _ _ (dflat_at HD.out hj)
        injection hA with hA
        injection hA with h1 h2
        subst h1 h2
        rwa [show oo + (4 * k + j) = oo + (k * 4 + j) by omega] at hc
      have XK := Lib.hid xk
      clear xk
      by_cases hk0 : k = 0
      · subst hk0
        have q : decide ((0 : Int) < (n : Int)) = true := decide_eq_true (by omega)
        have q' : decide (((0 : Nat) : Int) < (n : Int)) = true := decide_eq_true (by omega)
        have qn : decide (0 < n) = true := decide_eq_true hkl
        have HSE0 := Lib.hid (HSE.out (fun h => absurd h (by omega)))
        clear HSE
        have x0 : wr.cell? ⟨bb, oo, none⟩ = some (.int .i64 d.day) := by have := XK.out 0 _ rfl; simpa using this
        have x1 : wr.cell? ⟨bb, oo + 1, none⟩ = some (.string d.v) := by have := XK.out 1 _ rfl; simpa using this
        have x2 : wr.cell? ⟨bb, oo + 2, none⟩ = some (.string d.p) := by have := XK.out 2 _ rfl; simpa using this
        have x3 : wr.cell? ⟨bb, oo + 3, none⟩ = some (.string d.b) := by have := XK.out 3 _ rfl; simpa using this
        have hbb : bb < wr.heap.size := block_lt_of_cell x0
        go_wp2_with fail
        go_quiet (fail)
        go_wp2_with fail
        refine K8.step (hs.drewN _) ?_
        intro w2 hs hb
        have HO1 : Hid ((wr.drewN nq).ownsRow w.heap.size 39 4 vo 0 (rflat xs)) := HO.out.2
        have HO2 := Lib.hid (own_below HO1.out hb)
        have X := Bx.new w2 #[.string r1, .string r2, .string r3, .string r4] 39
        clear HO1
        by_cases h5 : r5 = 0
        · subst h5
          have z0 := X.cell (i := 0) (v := .string r1) rfl
          have z1 := X.cell (i := 1) (v := .string r2) rfl
          have z2 := X.cell (i := 2) (v := .string r3) rfl
          have z3 := X.cell (i := 3) (v := .string r4) rfl
          obtain ⟨i0, hi, hz0, hz1, hz2⟩ := info_parts infoD
          have Hi := Lib.hid hi
          have Hz0 := Lib.hid hz0
          have Hz1 := Lib.hid hz1
          have Hz2 := Lib.hid hz2
          have hsz : w.heap.size ≤ w2.heap.size := hs.size
          clear hi hz0 hz1 hz2
          go_wp2_with (at_builtin; refine wpList_append_any _ rfl (.tmp 46) (.tmp 48) 47 rfl w.heap.size 39 i0 (.agg #[.string ⟨#[]⟩, .string ⟨#[]⟩, .string ⟨#[]⟩, .string ⟨#[]⟩]) 4 64 (by kernel_rfl) Hi.out Hz0.out Hz1.out Hz2.out rfl (by omega) _ 0 (rflat xs) rfl ((HO2.out.alloc _).alloc _) (w2.heap.size + 1 + 1) (some ⟨w2.heap.size + 1, 0, none⟩) 1 1 (rcells ⟨r1, r2, r3, r4, 0⟩) rfl (reads_row1 w2 _ _ _) (rcells_one _) (by unfold maxLen; omega) (by omega) (by simp; omega) ?_; intro v3 w3 hown3 hg3 _; have HO3 := Lib.hid hown3; have HG3 := Lib.hid hg3; have y2 := hg3.cell (((X.alloc _).cell (i := 2) (v := .string r3) rfl)) (fun e => by have := (HO2.out.lt _ e.symm).2; simp at this); clear hown3 hg3)
          go_roundw
          case rel =>
            refine ⟨0 + 1, r3, xs ++ [DealtR.mk r1 r2 r3 r4 0], v3, by omega, by go_num, rfl, rfl, ?_, HSZ.out, HRN.out HSE0.out, ?_⟩
            · exact ⟨hs.1, ((hs.2.alloc hsz _).alloc (by simp; omega) _).grown HG3.out (by simp; omega) (own_gen HO2.out)⟩
            · exact ⟨by simp [HO.out.1], by rw [rflat_snoc]; exact HO3.out⟩
          case measure => simp [intOf]; omega
        · have p2 : (r5 != 0) = true := by simpa using h5
          have HN := Lib.hid h5
          clear h5
          go_wp2_with fail
          go_ret2
          exact ⟨_, [], r5, rfl, .inl ⟨0, u, xs, by rw [HL.out]; exact hkl, HT.out, HSE0.out, HN.out, rfl⟩, ⟨rfl, World.ownsRow_nil _ _ _ _⟩, (hs.alloc _).2⟩
      · obtain ⟨i, rfl⟩ : ∃ i, k = i + 1 := ⟨k - 1, by omega⟩
        obtain ⟨c0, hc0⟩ : ∃ d, l[i]? = some d := ⟨l[i]'(by rw [HL.out]; omega), by simp⟩
        have HC0 := Lib.hid hc0
        have xi : wr.cell? ⟨bb, oo + i * 4, none⟩ = some (.int .i64 c0.day) := by
          obtain ⟨b, o, hA, hB, hc⟩ := HW.out _ _ (dflat_at (j := 0) hc0 rfl)
          injection hA with hA
          injection hA with h1 h2
          subst h1 h2
          rwa [show oo + (4 * i + 0) = oo + i * 4 by omega] at hc
        have hbb : bb < wr.heap.size := block_lt_of_cell xi
        have x0 : wr.cell? ⟨bb, oo + (i + 1) * 4, none⟩ = some (.int .i64 d.day) := XK.out 0 _ rfl
        have x1 : wr.cell? ⟨bb, oo + (i + 1) * 4 + 1, none⟩ = some (.string d.v) := XK.out 1 _ rfl
        have x2 : wr.cell? ⟨bb, oo + (i + 1) * 4 + 2, none⟩ = some (.string d.p) := XK.out 2 _ rfl
        have x3 : wr.cell? ⟨bb, oo + (i + 1) * 4 + 3, none⟩ = some (.string d.b) := XK.out 3 _ rfl
        have ek : ((i + 1 : Nat) : Int) - 1 = (i : Int) := by omega
        have ek2 : (i : Int) + 1 - 1 = (i : Int) := by omega
        have q : decide (((i + 1 : Nat) : Int) < (n : Int)) = true := decide_eq_true (by omega)
        have q2 : decide ((i : Int) + 1 < (n : Int)) = true := decide_eq_true (by omega)
        have q3 : decide ((0 : Int) < ((i + 1 : Nat) : Int)) = true := decide_eq_true (by omega)
        have q3n : decide ((0 : Int) < (i : Int) + 1) = true := decide_eq_true (by omega)
        obtain ⟨t, ht⟩ : ∃ t, decide (d.day ≤ c0.day) = t := ⟨_, rfl⟩
        clear hk0 hc0
        cases t with
        | true =>
          have HS8 := Lib.hid (step_order (u := u) HD.out (by omega) HC0.out ht)
          go_wp2_with fail
          go_quiet (fail)
          go_wp2_with fail
          go_ret2
          exact ⟨_, [], 8, rfl, .inl ⟨i + 1, u, xs, by rw [HL.out]; exact hkl, HT.out, HS8.out, by decide, rfl⟩, ⟨rfl, World.ownsRow_nil _ _ _ _⟩, (hs.drewN _).2⟩
        | false =>
          have HSE0 := Lib.hid (HSE.out (fun _ => ⟨c0, HC0.out, ht⟩))
          clear HSE
          go_wp2_with fail
          go_quiet (fail)
          go_wp2_with fail
          refine K8.step (hs.drewN _) ?_
          intro w2 hs hb
          have HO1 : Hid ((wr.drewN nq).ownsRow w.heap.size 39 4 vo (i + 1) (rflat xs)) := HO.out.2
          have HO2 := Lib.hid (own_below HO1.out hb)
          have X := Bx.new w2 #[.string r1, .string r2, .string r3, .string r4] 39
          clear HO1
          by_cases h5 : r5 = 0
          · subst h5
            have z0 := X.cell (i := 0) (v := .string r1) rfl
            have z1 := X.cell (i := 1) (v := .string r2) rfl
            have z2 := X.cell (i := 2) (v := .string r3) rfl
            have z3 := X.cell (i := 3) (v := .string r4) rfl
            obtain ⟨i0, hi, hz0, hz1, hz2⟩ := info_parts infoD
            have Hi := Lib.hid hi
            have Hz0 := Lib.hid hz0
            have Hz1 := Lib.hid hz1
            have Hz2 := Lib.hid hz2
            have hsz : w.heap.size ≤ w2.heap.size := hs.size
            clear hi hz0 hz1 hz2
            go_wp2_with (at_builtin; refine wpList_append_any _ rfl (.tmp 46) (.tmp 48) 47 rfl w.heap.size 39 i0 (.agg #[.string ⟨#[]⟩, .string ⟨#[]⟩, .string ⟨#[]⟩, .string ⟨#[]⟩]) 4 64 (by kernel_rfl) Hi.out Hz0.out Hz1.out Hz2.out rfl (by omega) _ (i + 1) (rflat xs) rfl ((HO2.out.alloc _).alloc _) (w2.heap.size + 1 + 1) (some ⟨w2.heap.size + 1, 0, none⟩) 1 1 (rcells ⟨r1, r2, r3, r4, 0⟩) rfl (reads_row1 w2 _ _ _) (rcells_one _) (by unfold maxLen; omega) (by omega) (by simp; omega) ?_; intro v3 w3 hown3 hg3 _; have HO3 := Lib.hid hown3; have HG3 := Lib.hid hg3; have y2 := hg3.cell (((X.alloc _).cell (i := 2) (v := .string r3) rfl)) (fun e => by have := (HO2.out.lt _ e.symm).2; simp at this); clear hown3 hg3)
            go_roundw
            case rel =>
              refine ⟨(i + 1) + 1, r3, xs ++ [DealtR.mk r1 r2 r3 r4 0], v3, by omega, by go_num, rfl, rfl, ?_, HSZ.out, HRN.out HSE0.out, ?_⟩
              · exact ⟨hs.1, ((hs.2.alloc hsz _).alloc (by simp; omega) _).grown HG3.out (by simp; omega) (own_gen HO2.out)⟩
              · exact ⟨by simp [HO.out.1], by rw [rflat_snoc]; exact HO3.out⟩
            case measure => simp [intOf]; omega
          · have p2 : (r5 != 0) = true := by simpa using h5
            have HN := Lib.hid h5
            clear h5
            go_wp2_with fail
            go_ret2
            exact ⟨_, [], r5, rfl, .inl ⟨(i + 1), u, xs, by rw [HL.out]; exact hkl, HT.out, HSE0.out, HN.out, rfl⟩, ⟨rfl, World.ownsRow_nil _ _ _ _⟩, (hs.alloc _).2⟩
end Go.Proofs.YtkefcfbmnehocaaGreatDoor
