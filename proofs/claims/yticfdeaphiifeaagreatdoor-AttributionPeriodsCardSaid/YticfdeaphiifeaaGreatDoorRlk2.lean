/- Attribution, the reference: Link over valid periods. Conditions: up to three periods of up to five sectors with numbers of up to twelve bytes. -/
import Derived.Test.YticfdeaphiifeaaGreatDoorRlk1
import Derived.Test.YticfdeaphiifeaaGreatDoorLk4
namespace Go.Proofs.YticfdeaphiifeaaGreatDoor
open Go.RowKit Go.Shelf Dec QQ
theorem flat_cell {x x' : PrtS} {j : Nat} {v : Value} (hx : pcells x' = (pcells x).set j v) (hj : j < 7) : ∀ (ys : List PrtS) (i : Nat), i < ys.length → flatG pcells (ys.set i x') = (flatG pcells (ys.set i x)).set (i * 7 + j) v
 | [], i, h => by simp at h
 | d :: ys, 0, _ => by
  show pcells x' ++ flatG pcells ys = (pcells x ++ flatG pcells ys).set (0 * 7 + j) v
  rw [Nat.zero_mul, Nat.zero_add, List.set_append_left _ _ (by rw [pcells_len]; exact hj), hx]
 | d :: ys, i + 1, h => by
  show pcells d ++ flatG pcells (ys.set i x') = (pcells d ++ flatG pcells (ys.set i x)).set ((i + 1) * 7 + j) v
  rw [List.set_append_right _ _ (by rw [pcells_len]; omega), pcells_len, show (i + 1) * 7 + j - 7 = i * 7 + j by omega, flat_cell hx hj ys i (by simpa using h)]
theorem out_cell {W : World} {base p g i j : Nat} {v : Value} {x x' : PrtS} {ys : List PrtS} (h : OutG pcells 36 7 base W (.slice (some ⟨g, 0, none⟩) p p) p (ys.set i x)) (hx : pcells x' = (pcells x).set j v) (hj : j < 7) (hi : i < p) :
  OutG pcells 36 7 base (W.setCell ⟨g, i * 7 + j, none⟩ v) (.slice (some ⟨g, 0, none⟩) p p) p (ys.set i x') ∧ W.grownBy (W.setCell ⟨g, i * 7 + j, none⟩ v) (some g) := by
 have hl : ys.length = p := by have := h.1; rwa [List.length_set] at this
 have h1 := World.ownsRow.stored h.2 (i * 7 + j) v
 rw [← flat_cell hx hj ys i (by omega)] at h1
 exact ⟨⟨by rw [List.length_set]; exact hl, h1.1⟩, h1.2⟩
theorem out_cells {W : World} {base p g i : Nat} {x : PrtS} {ys : List PrtS} (h : OutG pcells 36 7 base W (.slice (some ⟨g, 0, none⟩) p p) p (ys.set i x)) (hi : i < p) : ∀ j v, (pcells x)[j]? = some v → W.cell? ⟨g, i * 7 + j, none⟩ = some v := by
 have hl : ys.length = p := by have := h.1; rwa [List.length_set] at this
 obtain ⟨A, c, e, hr⟩ := h.row
 injection e with e1 e2 e3
 subst e1
 obtain ⟨b, o', hA, _, hc⟩ := row_at pcells_len (by decide) hr (List.getElem?_set_self (by omega))
 injection hA with hA
 injection hA with h1 h2
 subst h1 h2
 intro j v hv
 have := hc j v hv
 rwa [Nat.zero_add] at this
structure LQ (w : World) (p g b7 : Nat) (Q : Rat) (ys : List PrtS) (W : World) : Prop where
 gl : Gl w
 low : Below w.heap.size w W
 x7 : BF W b7 #[.string (frN Q), .string (frD Q)]
 out : OutG pcells 36 7 w.heap.size W (.slice (some ⟨g, 0, none⟩) p p) p ys
theorem LQ.up {w : World} {p g b7 : Nat} {Q : Rat} {ys : List PrtS} {W W' : World} (h : LQ w p g b7 Q ys W) (hb : Below W.heap.size W W') : LQ w p g b7 Q ys W' := ⟨h.gl, h.low.trans (hb.mono h.low.size), h.x7.on hb, h.out.on hb⟩
theorem row_cells {α : Type} {cs : α → List Value} {m : Nat} (hm : ∀ a, (cs a).length = m) {w : World} {b o k : Nat} {l : List α} {d : α} (h : Row w (some ⟨b, o, none⟩) (flatG cs l)) (hk : l[k]? = some d) : ∀ j x, (cs d)[j]? = some x → w.cell? ⟨b, o + (k * m + j), none⟩ = some x := by
 intro j x hx
 obtain ⟨b', o', hA, _, hc⟩ := h _ _ (flatG_at hm hk hx)
 injection hA with hA
 injection hA with h1 h2
 subst h1 h2
 exact hc
structure LR (w : World) (p g b7 b10 : Nat) (Q F : Rat) (ys : List PrtS) (W : World) : Prop where
 gl : Gl w
 low : Below w.heap.size w W
 x7 : BF W b7 #[.string (frN Q), .string (frD Q)]
 x10 : BF W b10 #[.string (frN F), .string (frD F)]
 out : OutG pcells 36 7 w.heap.size W (.slice (some ⟨g, 0, none⟩) p p) p ys
 l10 : w.heap.size ≤ b10
 ne : b10 ≠ b7
section
variable {w : World} {p g b7 b10 : Nat} {Q F : Rat} {ys : List PrtS} {W W' : World}
theorem LR.st (h : LR w p g b7 b10 Q F ys W) : St w W := ⟨h.gl, h.low⟩
theorem LR.up (h : LR w p g b7 b10 Q F ys W) (hb : Below W.heap.size W W') : LR w p g b7 b10 Q F ys W' := ⟨h.gl, h.low.trans (hb.mono h.low.size), h.x7.on hb, h.x10.on hb, h.out.on hb, h.l10, h.ne⟩
theorem LR.fac (h : LR w p g b7 b10 Q F ys W) {G : Rat} {n d : ByteArray} (hg : frN G = n ∧ frD G = d) : LR w p g b7 b10 Q G ys ((W.setCell ⟨b10, 0, none⟩ (.string n)).setCell ⟨b10, 1, none⟩ (.string d)) := by
 have hne : g ≠ b10 := by
  rintro rfl
  have := own_ne h.out.2 h.x10 (fun cur e => by injection e with _ e; exact absurd e (by decide))
  exact this rfl
 refine ⟨h.gl, (h.low.setCell (p := ⟨b10, 0, none⟩) h.l10 _).setCell (p := ⟨b10, 1, none⟩) h.l10 _, (h.x7.other (fun e => h.ne e.symm) 0 _).other (fun e => h.ne e.symm) 1 _, ?_, out_far (out_far h.out hne) hne, h.l10, h.ne⟩
 rw [hg.1, hg.2]
 exact bf_two h.x10
theorem LR.cell {i j : Nat} {v : Value} {x x' : PrtS} (h : LR w p g b7 b10 Q F (ys.set i x) W) (hx : pcells x' = (pcells x).set j v) (hj : j < 7) (hi : i < p) : LR w p g b7 b10 Q F (ys.set i x') (W.setCell ⟨g, i * 7 + j, none⟩ v) ∧ W.grownBy (W.setCell ⟨g, i * 7 + j, none⟩ v) (some g) := by
 have hs := out_cell h.out hx hj hi
 have f : ∀ {b : Nat} {u : Obj}, W.heap[b]? = some u → (∀ cur, u ≠ .cells cur 36 (0, 0)) → (W.setCell ⟨g, i * 7 + j, none⟩ v).heap[b]? = some u := by
  intro b u hb hu
  refine (hs.2.block b (Array.getElem?_eq_some_iff.1 hb).1 ?_).trans hb
  exact own_ne h.out.2 hb hu
 exact ⟨⟨h.gl, h.low.grown hs.2 h.low.size (fun i hi => by injection hi with hi; subst hi; exact out_gen h.out), f h.x7 (fun cur e => by injection e with _ e; exact absurd e (by decide)), f h.x10 (fun cur e => by injection e with _ e; exact absurd e (by decide)), hs.1, h.l10, h.ne⟩, hs.2⟩
theorem LR.row_kept {i j : Nat} {v : Value} {x x' : PrtS} (h : LR w p g b7 b10 Q F (ys.set i x) W) (hx : pcells x' = (pcells x).set j v) (hj : j < 7) (hi : i < p) {A : Option Addr} {vs : List Value} (hr : Row W A vs) (hA : ∀ b o, A = some ⟨b, o, none⟩ → b ≠ g) : Row (W.setCell ⟨g, i * 7 + j, none⟩ v) A vs := by
 have hs := (h.cell hx hj hi).2
 intro m y hm
 obtain ⟨b, o, e, hb, hc⟩ := hr m y hm
 exact ⟨b, o, e, Nat.lt_of_lt_of_le hb hs.size, hs.cell (a := ⟨b, o + m, none⟩) hc (fun e' => hA b o e (by injection e'))⟩
theorem set_self {i : Nat} {x : PrtS} (h : ys[i]? = some x) : ys.set i x = ys := by
 obtain ⟨hi, rfl⟩ := List.getElem?_eq_some_iff.1 h
 exact List.set_getElem_self hi
end
theorem refTo_at {L : List (List SecS)} {p t k : Nat} {d : List SecS} {s : SecS} {o : PrtS} (hd : L.getD t [] = d) (ho : (refTo L p t)[k]? = some o) (hs : d[k]? = some s) : (refTo L p (t + 1))[k]? = some (rlinkP o (partS (benQ d) s) (growTo L t * restB L (t + 1))) := by
 show (List.zipWith _ (refTo L p t) (partsL (L.getD t [])))[k]? = _
 rw [hd, List.getElem?_zipWith, ho]
 unfold partsL
 rw [List.getElem?_map, hs]
 rfl
set_option maxRecDepth 100000 in
set_option maxHeartbeats 4000000 in
theorem rlink_few {A : Option Addr} {n c : Nat} {L : List (List SecS)} (hn : L.length = n) (hf : FewN L) (he : linkE L = 0) (w : World) (hg : Gl w) (hr : NRow w A L) :
  Calls Tryz.prog 11 #[.slice A n c] w fun e w' => ∃ v, e = .returned (.tuple #[v, .int .i64 0]) ∧ OutG pcells 36 7 w.heap.size w' v (L.getD 0 []).length (refTo L (L.getD 0 []).length L.length) ∧ Below w.heap.size w w' := by
 have hs := St.refl hg
 have hall := link_all he
 have h3 : n ≤ 3 := by rw [← hn]; exact hf.1
 have h0 : 0 < n := by rw [← hn]; exact hall.1
 have q0 : ((n : Int) == 0) = false := by rw [beq_eq_false_iff_ne]; omega
 have q64 : decide ((64 : Int) < (n : Int)) = false := decide_eq_false (by omega)
 have HZ : Hid (∀ i, i < n → linkErr L i = 0) := fun i hi => errL_zero ((linkE_at (by omega) (by omega)).symm.trans he) i (by rw [hn]; exact hi)
 obtain ⟨p, hp⟩ : ∃ p, (L.getD 0 []).length = p := ⟨_, rfl⟩
 have hp5 : p ≤ 5 := by have := (hf.at (t := 0) hall.1).1; omega
 have HP0 := Lib.hid hp
 have HN := Lib.hid hn
 have HF := Lib.hid hf
 have HALL := Lib.hid hall.2
 have HR := Lib.hid hr
 have HPN : Hid (PerN L) := fun l hl => .inr (hf.2 l hl)
 have HG := Lib.hid hg
 rw [hp]
 clear hn hf he hr hg hall hp
 go_enter Tryz.func11, Tryz.ntmps11
 go_wp2_with fail
 go_loopw [4] (fun s wr => ∃ k : Nat, k ≤ n ∧ s = .int .i64 (k : Int) ∧ St w wr ∧ Hid (∀ i, i < k → linkErr L i = 0)) (fun s _ => (n - intOf s).toNat)
 case atStart => exact ⟨0, by omega, rfl, hs, fun i h => by omega⟩
 case round =>
  obtain ⟨k, hk, rfl, hs, HP⟩ := hrel
  by_cases hkn : k = n
  ·subst hkn
   have q : decide ((k : Int) < (k : Int)) = false := decide_eq_false (by omega)
   go_wp2_with fail
   have KO := rof_r (a := ⟨#[49]⟩) (by decide)
   have e1 : ((valS ⟨#[49]⟩ : Int) : Rat) = 1 := by
    have : valS ⟨#[49]⟩ = 1 := by decide +kernel
    rw [this]
    rfl
   rw [e1] at KO
   unfold FR at KO
   obtain ⟨Z, hZ, hmake⟩ := made_run (p := p) hp5
   have HZZ := Lib.hid hZ
   have hmk : ∀ u : World, (Instr.makeSlice 27 (.int .i64 (p : Int)) (.int .i64 (p : Int))).run Tryz.prog u = .ok (.slice (some ⟨u.heap.size, 0, none⟩) p p) (u.alloc (.cells Z 36)) := hmake
   obtain ⟨l0, hl0⟩ : ∃ d, L[0]? = some d := ⟨L[0]'(by rw [HN.out]; exact h0), by simp⟩
   obtain ⟨b', o', v', hA', hb', hcell', B0, c0, hv', hrow', h1', h2'⟩ := HR.out 0 l0 hl0
   subst hv' hA'
   have hlp : l0.length = p := by rw [(HALL.out 0 l0 hl0).2.1, HP0.out]
   rw [hlp, Nat.add_zero] at hcell'
   have HC0 : Hid (∀ W, St w W → W.cell? ⟨b', o', none⟩ = some (.slice B0 p c0)) := fun W h => (h.2.cell (p := ⟨b', o', none⟩) hb').trans hcell'
   obtain ⟨on, hon⟩ : ∃ x, frN 1 = x := ⟨_, rfl⟩
   obtain ⟨od, hod⟩ : ∃ x, frD 1 = x := ⟨_, rfl⟩
   have HON : Hid (frN 1 = on ∧ frD 1 = od) := ⟨hon, hod⟩
   rw [hon, hod] at KO
   have q0i : (0 : Int) < (k : Int) := by omega
   have q0n : decide (0 < k) = true := decide_eq_true (by omega)
   clear hZ hmake hl0 hrow' hcell' hlp hon hod e1
   go_wp2_with fail
   refine KO.step hs ?_
   intro w1 hs1 _
   have x0 := HC0.out _ (hs1.alloc (.cells #[.string on, .string od] 34))
   go_wp2_with fail
   obtain ⟨g, hg⟩ : ∃ g, w1.heap.size + 1 = g := ⟨_, rfl⟩
   obtain ⟨W5, hW5, X7, hlow5, HO5⟩ : ∃ W5, (w1.alloc (.cells #[.string on, .string od] 34)).alloc (.cells Z 36) = W5 ∧ BF W5 w1.heap.size #[.string on, .string od] ∧ Below w.heap.size w W5 ∧ OutG pcells 36 7 w.heap.size W5 (.slice (some ⟨g, 0, none⟩) p p) p (refTo L p 0) := by
    refine ⟨_, rfl, (Below.heap_alloc _ _ _ (by simp)).trans (heap_new w1 _), (hs1.2.alloc hs1.2.size _).alloc (by have := hs1.2.size; simp; omega) _, ?_⟩
    refine made_row (by have := hs1.2.size; omega) hp5 HZZ.out ?_
    have := heap_new (w1.alloc (.cells #[.string on, .string od] 34)) (.cells Z 36)
    rw [World.size_alloc, hg] at this
    exact this
   rw [hW5, hg]
   clear hg hW5 x0 hmk HZZ hs1
   generalize w1.heap.size = b7 at *
   have HQ0 : Hid (LQ w p g b7 1 (refTo L p 0) W5) := by
    refine ⟨HG.out, hlow5, ?_, HO5⟩
    rw [HON.out.1, HON.out.2]
    exact X7
   clear X7 hlow5 HO5 KO hs
   go_loopw [9] (fun s wr => ∃ t : Nat, t ≤ k ∧ s = .int .i64 (t : Int) ∧ Hid (LQ w p g b7 1 (refTo L p t) wr)) (fun s _ => (k - intOf s).toNat)
   case atStart => exact ⟨0, by omega, rfl, HQ0⟩
   case round =>
    clear HQ0
    obtain ⟨t, ht, rfl, HQ⟩ := hrel
    by_cases htk : t = k
    ·subst htk
     have q2 : decide ((t : Int) < (t : Int)) = false := decide_eq_false (by omega)
     go_wp2_with fail
     go_ret2
     refine ⟨_, rfl, ?_, HQ.out.low⟩
     rw [HN.out]
     exact HQ.out.out
    have htl : t < k := by omega
    have q2 : decide ((t : Int) < (k : Int)) = true := decide_eq_true (by omega)
    have q2n : decide (t < k) = true := decide_eq_true htl
    obtain ⟨d, hd⟩ : ∃ d, L[t]? = some d := ⟨L[t]'(by rw [HN.out]; exact htl), by simp⟩
    obtain ⟨b, o, v', hA, hb, hcell, B, cc, hv', hrow, h1, h2⟩ := HR.out t d hd
    injection hA with hA
    injection hA with e1 e2
    subst e1 e2 hv'
    have hda := HALL.out t d hd
    have hdl : d.length = p := hda.2.1.trans HP0.out
    rw [hdl] at h1 hcell
    have HCT : Hid (∀ W, St w W → W.cell? ⟨b', o' + t, none⟩ = some (.slice B p cc)) := fun W h => (h.2.cell (p := ⟨b', o' + t, none⟩) hb).trans hcell
    have hfew := HF.out.2 d (List.mem_of_getElem? hd)
    have hp0 : 0 < p := by rw [← hdl]; exact (chkS_iff.1 hda.1).pos
    have KP : Hid (∀ W, St w W → Calls Tryz.prog 51 #[.slice B p cc] W fun e w' => ∃ v, e = .returned (.tuple #[v, .int .i64 0]) ∧ OutG pcells 36 7 W.heap.size w' v p (partsL d) ∧ Below W.heap.size W w') := fun W h => rparts_few hdl hfew (by decide) hda.1 W h.gl (hrow.on h.2)
    have HDT : Hid (L.getD t [] = d) := by
     show _ = _
     rw [List.getD_eq_getElem?_getD, hd]
     rfl
    have HDL := Lib.hid hdl
    have HFW := Lib.hid hfew
    have HDD := Lib.hid hd
    have HCHK := Lib.hid hda.1
    clear hd hda hrow hcell hb hdl hfew htk
    have y7 := HQ.out.x7
    rw [HON.out.1, HON.out.2] at y7
    have z70 := y7.bx.cell (i := 0) (v := .string on) rfl
    have z71 := y7.bx.cell (i := 1) (v := .string od) rfl
    have hlt7 := y7.bx.lt
    go_wp2_with fail
    have HLR0 : Hid (LR w p g b7 wr.heap.size 1 (facTo L t 0) (refTo L p t) (wr.alloc (.cells #[.string on, .string od] 34))) := by
     have hbb : Below wr.heap.size wr (wr.alloc (.cells #[.string on, .string od] 34)) := (Below.refl _ _).alloc (Nat.le_refl _) _
     have h := HQ.out.up hbb
     refine ⟨h.gl, h.low, h.x7, ?_, h.out, HQ.out.low.size, by omega⟩
     show BF _ _ #[.string (frN 1), .string (frD 1)]
     rw [HON.out.1, HON.out.2]
     exact heap_new wr _
    clear y7 z70 z71 hlt7 HQ
    generalize wr.alloc (.cells #[.string on, .string od] 34) = W10 at *
    generalize wr.heap.size = b10 at *
    go_loopw [11] (fun s wx => ∃ e : Nat, e ≤ k ∧ s = .int .i64 (e : Int) ∧ Hid (LR w p g b7 b10 1 (facTo L t e) (refTo L p t) wx)) (fun s _ => (k - intOf s).toNat)
    case atStart => exact ⟨0, by omega, rfl, HLR0⟩
    case round =>
     clear HLR0
     obtain ⟨e, he, rfl, HLR⟩ := hrel
     by_cases hek : e = k
     ·subst hek
      have q3 : decide ((e : Int) < (e : Int)) = false := decide_eq_false (by omega)
      have xt := HCT.out _ HLR.out.st
      go_wp2_with fail
      refine (KP.out _ HLR.out.st).mono ?_
      rintro e' w2 ⟨v, rfl, ho, hb2⟩
      have hgl : g < wr.heap.size := (HLR.out.out.2.lt g rfl).2
      obtain ⟨Ap, cp, hv, hrp⟩ := ho.row
      obtain ⟨bp, op, hAp, hq1, hq2⟩ := row_at (cs := pcells) (m := 7) pcells_len (by decide) hrp (List.getElem?_eq_getElem (l := partsL d) (i := 0) (by rw [ho.1]; exact hp0))
      subst hv hAp
      have HBG : Hid (bp ≠ g) := fun e => by have := own_gen ho.2 bp rfl; omega
      have HLP := Lib.hid ho.1
      have HI0 : Hid (LR w p g b7 b10 1 (facTo L t e) (midL (refTo L p t) (refTo L p (t + 1)) 0) w2 ∧ Row w2 (some ⟨bp, op, none⟩) (flatG pcells (partsL d))) := ⟨by rw [midL_zero]; exact HLR.out.up hb2, hrp⟩
      clear hq2
      clear ho hb2 hgl hrp xt HLR KP
      have HFE : Hid (facTo L t e = growTo L t * restB L (t + 1)) := by
       have := fac_end (L := L) (t := t) (by rw [HN.out]; exact htl)
       rwa [HN.out] at this
      have HFF : Hid (FitQ 385 (facTo L t e)) := (fac_fit HF.out t e (by rw [HN.out]; omega)).mono (by omega)
      generalize facTo L t e = F at *
      have HRL : Hid ((refTo L p t).length = p ∧ (refTo L p (t + 1)).length = p) := by
       have hk : ∀ s, s < L.length → (L.getD s []).length = p := fun s hs => by
        obtain ⟨x, hx⟩ : ∃ d, L[s]? = some d := ⟨L[s]'hs, by simp⟩
        have := (HALL.out s x hx).2.1
        rw [List.getD_eq_getElem?_getD, hx]
        show x.length = p
        rw [this, HP0.out]
       exact ⟨refTo_len hk t (by rw [HN.out]; omega), refTo_len hk (t + 1) (by rw [HN.out]; omega)⟩
      go_wp2_with fail
      go_loopw [17] (fun s wz => ∃ i : Nat, i ≤ p ∧ s = .int .i64 (i : Int) ∧ Hid (LR w p g b7 b10 1 F (midL (refTo L p t) (refTo L p (t + 1)) i) wz ∧ Row wz (some ⟨bp, op, none⟩) (flatG pcells (partsL d)))) (fun s _ => (p - intOf s).toNat)
      case atStart => exact ⟨0, by omega, rfl, HI0⟩
      case round =>
       clear HI0
       obtain ⟨i, hi, rfl, HI⟩ := hrel
       by_cases hip : i = p
       ·have q4 : decide ((i : Int) < (p : Int)) = false := decide_eq_false (by omega)
        have q4n : decide (i < p) = false := decide_eq_false (by omega)
        have hend := HI.out.1
        rw [hip, midL_end HRL.out.1 HRL.out.2] at hend
        have HEN : Hid (LQ w p g b7 1 (refTo L p (t + 1)) wr) := ⟨hend.gl, hend.low, hend.x7, hend.out⟩
        clear hend hip
        go_wp2_with fail
        go_roundw
        case rel => exact ⟨t + 1, by omega, by go_num, HEN⟩
        case measure => simp [intOf]; omega
       have hil : i < p := by omega
       have q4 : decide ((i : Int) < (p : Int)) = true := decide_eq_true (by omega)
       have q4n : decide (i < p) = true := decide_eq_true hil
       obtain ⟨s, hsd⟩ : ∃ s, d[i]? = some s := ⟨d[i]'(by rw [HDL.out]; exact hil), by simp⟩
       obtain ⟨oo, hoo⟩ : ∃ s, (refTo L p t)[i]? = some s := ⟨_, List.getElem?_eq_getElem (by rw [HRL.out.1]; exact hil)⟩
       have hx := refTo_at HDT.out hoo hsd
       rw [← HFE.out] at hx
       have hpp : (partsL d)[i]? = some (partS (benQ d) s) := partsL_at hsd
       have hms := midL_succ (HRL.out.1.trans HRL.out.2.symm) hoo hx
       have hat := midL_at (y := refTo L p (t + 1)) (HRL.out.1.trans HRL.out.2.symm) hoo
       have hof := ref_fit HF.out t (by rw [HN.out]; omega) oo (List.mem_of_getElem? hoo)
       have hpf := parts_fit HFW.out (List.mem_of_getElem? hpp)
       have htt : t ≤ 2 := by omega
       obtain ⟨x, hxx⟩ : ∃ x, rlinkP oo (partS (benQ d) s) F = x := ⟨_, rfl⟩
       obtain ⟨pp, hpe⟩ : ∃ x, partS (benQ d) s = x := ⟨_, rfl⟩
       rw [hxx] at hms
       rw [hpe] at hxx hpp hpf
       have ho1 := hof.1
       have hp1 := hpf.1
       have ho2 := hof.2
       have hp2 := hpf.2
       have hsz := FitQ.sizes HFF.out
       unfold PrtS.le at ho2 hp2
       have KM1 := rmul_r (a := frN F) (b := frD F) (c := pp.an) (d := pp.ad) (by omega) (by omega) (by omega) (by omega)
       rw [ratV_fr] at KM1
       change Ret _ _ (FR (F * pp.a)) at KM1
       have hm1 := FitQ.sizes (HFF.out.mul hp1.2.1)
       have KA1 := radd_r (a := oo.an) (b := oo.ad) (c := frN (F * pp.a)) (d := frD (F * pp.a)) (by omega) (by omega) (by omega) (by omega)
       rw [ratV_fr] at KA1
       change Ret _ _ (FR (oo.a + F * pp.a)) at KA1
       have KM3 := rmul_r (a := frN F) (b := frD F) (c := pp.sn) (d := pp.sd) (by omega) (by omega) (by omega) (by omega)
       rw [ratV_fr] at KM3
       change Ret _ _ (FR (F * pp.s)) at KM3
       have hm3 := FitQ.sizes (HFF.out.mul hp1.2.2.1)
       have KA3 := radd_r (a := oo.sn) (b := oo.sd) (c := frN (F * pp.s)) (d := frD (F * pp.s)) (by omega) (by omega) (by omega) (by omega)
       rw [ratV_fr] at KA3
       change Ret _ _ (FR (oo.s + F * pp.s)) at KA3
       have KM5 := rmul_r (a := frN F) (b := frD F) (c := pp.jn) (d := pp.jd) (by omega) (by omega) (by omega) (by omega)
       rw [ratV_fr] at KM5
       change Ret _ _ (FR (F * pp.j)) at KM5
       have hm5 := FitQ.sizes (HFF.out.mul hp1.2.2.2)
       have KA5 := radd_r (a := oo.jn) (b := oo.jd) (c := frN (F * pp.j)) (d := frD (F * pp.j)) (by omega) (by omega) (by omega) (by omega)
       rw [ratV_fr] at KA5
       change Ret _ _ (FR (oo.j + F * pp.j)) at KA5
       have HXE : Hid (x = ⟨pp.nm, frN (oo.a + F * pp.a), frD (oo.a + F * pp.a), frN (oo.s + F * pp.s), frD (oo.s + F * pp.s), frN (oo.j + F * pp.j), frD (oo.j + F * pp.j)⟩) := by
        show _ = _
        rw [← hxx]
        rfl
       have HMS := Lib.hid hms
       have HPPA := Lib.hid hpp
       have HYS := Lib.hid (set_self hat)
       clear hxx hms hpp hat hof hpf hsd hoo hx hpe ho1 hp1 ho2 hp2 hsz hm1 hm3 hm5 hip
       unfold FR at KM1 KM3 KM5 KA1 KA3 KA5
       unfold FV at KM1 KM3 KM5 KA1 KA3 KA5
       generalize frN (oo.a + F * pp.a) = x1 at *
       generalize frD (oo.a + F * pp.a) = x2 at *
       generalize frN (F * pp.a) = m1 at *
       generalize frD (F * pp.a) = m2 at *
       generalize frN (oo.s + F * pp.s) = x3 at *
       generalize frD (oo.s + F * pp.s) = x4 at *
       generalize frN (F * pp.s) = m3 at *
       generalize frD (F * pp.s) = m4 at *
       generalize frN (oo.j + F * pp.j) = x5 at *
       generalize frD (oo.j + F * pp.j) = x6 at *
       generalize frN (F * pp.j) = m5 at *
       generalize frD (F * pp.j) = m6 at *
       have HI0 := HI.out.1
       rw [← HYS.out] at HI0
       have HIL := Lib.hid HI0
       have HIR := Lib.hid HI.out.2
       clear HI0 HI
       obtain ⟨o0, o1, o2, o3, o4, o5, o6⟩ := oo
       obtain ⟨f0, f1, f2, f3, f4, f5, f6⟩ := pp
       dsimp only at KM1 KM3 KM5 KA1 KA3 KA5 HXE
       obtain ⟨fn, hfn⟩ : ∃ x, frN F = x := ⟨_, rfl⟩
       obtain ⟨fd, hfd⟩ : ∃ x, frD F = x := ⟨_, rfl⟩
       rw [hfn, hfd] at KM1 KM3 KM5
       have HFN : Hid (frN F = fn ∧ frD F = fd) := ⟨hfn, hfd⟩
       clear hfn hfd
       generalize midL (refTo L p t) (refTo L p (t + 1)) i = ys at *
       have hpr := row_cells pcells_len HIR.out HPPA.out
       have a0 : wr.cell? ⟨bp, op + i * 7, none⟩ = some (.string f0) := hpr 0 _ rfl
       have b0 : wr.cell? ⟨g, i * 7, none⟩ = some (.string o0) := out_cells HIL.out.out hil 0 _ rfl
       have c0 := out_frozen HIL.out.out
       go_wp2_with fail
       have HL1 := Lib.hid (HIL.out.cell (x' := ⟨f0, o1, o2, o3, o4, o5, o6⟩) (j := 0) (v := .string f0) rfl (by decide) hil).1
       have HR1 := Lib.hid (HIL.out.row_kept (x' := ⟨f0, o1, o2, o3, o4, o5, o6⟩) (j := 0) (v := .string f0) rfl (by decide) hil HIR.out (fun b o e => by injection e with e; injection e with e1 e2; subst e1; exact HBG.out))
       obtain ⟨V1, hV1⟩ : ∃ V, wr.setCell ⟨g, i * 7 + 0, none⟩ (.string f0) = V := ⟨_, rfl⟩
       have hV1' : wr.setCell ⟨g, i * 7, none⟩ (.string f0) = V1 := hV1
       rw [hV1] at HL1 HR1
       rw [hV1']
       clear hV1 hV1' a0 b0 c0 hpr HIL HIR
       have hpr := row_cells pcells_len HR1.out HPPA.out
       have a1 : V1.cell? ⟨bp, op + i * 7 + 1, none⟩ = some (.string f1) := hpr 1 _ rfl
       have a2 : V1.cell? ⟨bp, op + i * 7 + 2, none⟩ = some (.string f2) := hpr 2 _ rfl
       have b1 : V1.cell? ⟨g, i * 7 + 1, none⟩ = some (.string o1) := out_cells HL1.out.out hil 1 _ rfl
       have b2 : V1.cell? ⟨g, i * 7 + 2, none⟩ = some (.string o2) := out_cells HL1.out.out hil 2 _ rfl
       have y10 := HL1.out.x10
       rw [HFN.out.1, HFN.out.2] at y10
       have k0 := y10.bx.keeps (i := 0) (v := .string fn) rfl
       have k1 := y10.bx.keeps (i := 1) (v := .string fd) rfl
       have ka1 := fun u : Kept V1 => Kept.cell_of a1 u
       have ka2 := fun u : Kept V1 => Kept.cell_of a2 u
       have kb1 := fun u : Kept V1 => Kept.cell_of b1 u
       have kb2 := fun u : Kept V1 => Kept.cell_of b2 u
       have hsV := HL1.out.st
       clear a1 a2 b1 b2 y10 hpr
       go_wp2_with fail
       refine wp_region_kept_tail 17 (by kernel_rfl) (by kernel_rfl) ?_
       simp only [List.take_succ_cons, List.take_zero, List.drop_succ_cons, List.drop_zero]
       repeat (go_big_quiet_step (first | (with_reducible exact KM1.kept hsV) | (with_reducible exact KA1.kept hsV)))
       refine wpQuiet_nil ?_
       rintro _ ⟨u, rfl⟩
       have HU := Lib.hid (HL1.out.up u.low)
       have HUR := Lib.hid (HR1.out.on u.low)
       have b1 := kb1 u
       have b2 := kb2 u
       have c0 := out_frozen HU.out.out
       clear k0 k1 ka1 ka2 kb1 kb2 hsV HL1 HR1 KM1 KA1
       generalize u.W = Wu at *
       clear u
       go_wp2_with fail
       have HLa := Lib.hid (HU.out.cell (x' := ⟨f0, x1, o2, o3, o4, o5, o6⟩) (j := 1) (v := .string x1) rfl (by decide) hil).1
       have HRa := Lib.hid (HU.out.row_kept (x' := ⟨f0, x1, o2, o3, o4, o5, o6⟩) (j := 1) (v := .string x1) rfl (by decide) hil HUR.out (fun b o e => by injection e with e; injection e with e1 e2; subst e1; exact HBG.out))
       have HL2 := Lib.hid (HLa.out.cell (x' := ⟨f0, x1, x2, o3, o4, o5, o6⟩) (j := 2) (v := .string x2) rfl (by decide) hil).1
       have HR2 := Lib.hid (HLa.out.row_kept (x' := ⟨f0, x1, x2, o3, o4, o5, o6⟩) (j := 2) (v := .string x2) rfl (by decide) hil HRa.out (fun b o e => by injection e with e; injection e with e1 e2; subst e1; exact HBG.out))
       generalize (Wu.setCell ⟨g, i * 7 + 1, none⟩ (.string x1)).setCell ⟨g, i * 7 + 2, none⟩ (.string x2) = V2 at *
       clear b1 b2 c0 HU HUR HLa HRa
       have hpr := row_cells pcells_len HR2.out HPPA.out
       have a1 : V2.cell? ⟨bp, op + i * 7 + 3, none⟩ = some (.string f3) := hpr 3 _ rfl
       have a2 : V2.cell? ⟨bp, op + i * 7 + 4, none⟩ = some (.string f4) := hpr 4 _ rfl
       have b1 : V2.cell? ⟨g, i * 7 + 3, none⟩ = some (.string o3) := out_cells HL2.out.out hil 3 _ rfl
       have b2 : V2.cell? ⟨g, i * 7 + 4, none⟩ = some (.string o4) := out_cells HL2.out.out hil 4 _ rfl
       have y10 := HL2.out.x10
       rw [HFN.out.1, HFN.out.2] at y10
       have k0 := y10.bx.keeps (i := 0) (v := .string fn) rfl
       have k1 := y10.bx.keeps (i := 1) (v := .string fd) rfl
       have ka1 := fun u : Kept V2 => Kept.cell_of a1 u
       have ka2 := fun u : Kept V2 => Kept.cell_of a2 u
       have kb1 := fun u : Kept V2 => Kept.cell_of b1 u
       have kb2 := fun u : Kept V2 => Kept.cell_of b2 u
       have hsV := HL2.out.st
       clear a1 a2 b1 b2 y10 hpr
       go_wp2_with fail
       refine wp_region_kept_tail 17 (by kernel_rfl) (by kernel_rfl) ?_
       simp only [List.take_succ_cons, List.take_zero, List.drop_succ_cons, List.drop_zero]
       repeat (go_big_quiet_step (first | (with_reducible exact KM3.kept hsV) | (with_reducible exact KA3.kept hsV)))
       refine wpQuiet_nil ?_
       rintro _ ⟨u, rfl⟩
       have HU := Lib.hid (HL2.out.up u.low)
       have HUR := Lib.hid (HR2.out.on u.low)
       have b1 := kb1 u
       have b2 := kb2 u
       have c0 := out_frozen HU.out.out
       clear k0 k1 ka1 ka2 kb1 kb2 hsV HL2 HR2 KM3 KA3
       generalize u.W = Wu at *
       clear u
       go_wp2_with fail
       have HLa := Lib.hid (HU.out.cell (x' := ⟨f0, x1, x2, x3, o4, o5, o6⟩) (j := 3) (v := .string x3) rfl (by decide) hil).1
       have HRa := Lib.hid (HU.out.row_kept (x' := ⟨f0, x1, x2, x3, o4, o5, o6⟩) (j := 3) (v := .string x3) rfl (by decide) hil HUR.out (fun b o e => by injection e with e; injection e with e1 e2; subst e1; exact HBG.out))
       have HL3 := Lib.hid (HLa.out.cell (x' := ⟨f0, x1, x2, x3, x4, o5, o6⟩) (j := 4) (v := .string x4) rfl (by decide) hil).1
       have HR3 := Lib.hid (HLa.out.row_kept (x' := ⟨f0, x1, x2, x3, x4, o5, o6⟩) (j := 4) (v := .string x4) rfl (by decide) hil HRa.out (fun b o e => by injection e with e; injection e with e1 e2; subst e1; exact HBG.out))
       generalize (Wu.setCell ⟨g, i * 7 + 3, none⟩ (.string x3)).setCell ⟨g, i * 7 + 4, none⟩ (.string x4) = V3 at *
       clear b1 b2 c0 HU HUR HLa HRa
       have hpr := row_cells pcells_len HR3.out HPPA.out
       have a1 : V3.cell? ⟨bp, op + i * 7 + 5, none⟩ = some (.string f5) := hpr 5 _ rfl
       have a2 : V3.cell? ⟨bp, op + i * 7 + 6, none⟩ = some (.string f6) := hpr 6 _ rfl
       have b1 : V3.cell? ⟨g, i * 7 + 5, none⟩ = some (.string o5) := out_cells HL3.out.out hil 5 _ rfl
       have b2 : V3.cell? ⟨g, i * 7 + 6, none⟩ = some (.string o6) := out_cells HL3.out.out hil 6 _ rfl
       have y10 := HL3.out.x10
       rw [HFN.out.1, HFN.out.2] at y10
       have k0 := y10.bx.keeps (i := 0) (v := .string fn) rfl
       have k1 := y10.bx.keeps (i := 1) (v := .string fd) rfl
       have ka1 := fun u : Kept V3 => Kept.cell_of a1 u
       have ka2 := fun u : Kept V3 => Kept.cell_of a2 u
       have kb1 := fun u : Kept V3 => Kept.cell_of b1 u
       have kb2 := fun u : Kept V3 => Kept.cell_of b2 u
       have hsV := HL3.out.st
       clear a1 a2 b1 b2 y10 hpr
       go_wp2_with fail
       refine wp_region_kept_tail 17 (by kernel_rfl) (by kernel_rfl) ?_
       simp only [List.take_succ_cons, List.take_zero, List.drop_succ_cons, List.drop_zero]
       repeat (go_big_quiet_step (first | (with_reducible exact KM5.kept hsV) | (with_reducible exact KA5.kept hsV)))
       refine wpQuiet_nil ?_
       rintro _ ⟨u, rfl⟩
       have HU := Lib.hid (HL3.out.up u.low)
       have HUR := Lib.hid (HR3.out.on u.low)
       have b1 := kb1 u
       have b2 := kb2 u
       have c0 := out_frozen HU.out.out
       clear k0 k1 ka1 ka2 kb1 kb2 hsV HL3 HR3 KM5 KA5
       generalize u.W = Wu at *
       clear u
       go_wp2_with fail
       have HLa := Lib.hid (HU.out.cell (x' := ⟨f0, x1, x2, x3, x4, x5, o6⟩) (j := 5) (v := .string x5) rfl (by decide) hil).1
       have HRa := Lib.hid (HU.out.row_kept (x' := ⟨f0, x1, x2, x3, x4, x5, o6⟩) (j := 5) (v := .string x5) rfl (by decide) hil HUR.out (fun b o e => by injection e with e; injection e with e1 e2; subst e1; exact HBG.out))
       have HL4 := Lib.hid (HLa.out.cell (x' := ⟨f0, x1, x2, x3, x4, x5, x6⟩) (j := 6) (v := .string x6) rfl (by decide) hil).1
       have HR4 := Lib.hid (HLa.out.row_kept (x' := ⟨f0, x1, x2, x3, x4, x5, x6⟩) (j := 6) (v := .string x6) rfl (by decide) hil HRa.out (fun b o e => by injection e with e; injection e with e1 e2; subst e1; exact HBG.out))
       generalize (Wu.setCell ⟨g, i * 7 + 5, none⟩ (.string x5)).setCell ⟨g, i * 7 + 6, none⟩ (.string x6) = V4 at *
       clear b1 b2 c0 HU HUR HLa HRa
       have HFI : Hid (LR w p g b7 b10 1 F (midL (refTo L p t) (refTo L p (t + 1)) (i + 1)) V4 ∧ Row V4 (some ⟨bp, op, none⟩) (flatG pcells (partsL d))) := by
        refine ⟨?_, HR4.out⟩
        rw [HMS.out, HXE.out]
        exact HL4.out
       go_wp2_with fail
       go_roundw
       case rel => exact ⟨i + 1, by omega, by go_num, HFI⟩
       case measure => simp [intOf]; omega
     have hel : e < k := by omega
     have q3 : decide ((e : Int) < (k : Int)) = true := decide_eq_true (by omega)
     have q3n : decide (e < k) = true := decide_eq_true hel
     obtain ⟨x, hxe⟩ : ∃ d, L[e]? = some d := ⟨L[e]'(by rw [HN.out]; exact hel), by simp⟩
     obtain ⟨b, o, v', hA, hb, hcell, Be, ce, hv', hrow, h1e, h2e⟩ := HR.out e x hxe
     injection hA with hA
     injection hA with e1 e2
     subst e1 e2 hv'
     have hxa := HALL.out e x hxe
     have hxl : x.length = p := hxa.2.1.trans HP0.out
     rw [hxl] at hcell
     have xe : wr.cell? ⟨b', o' + e, none⟩ = some (.slice Be p ce) := (HLR.out.low.cell (p := ⟨b', o' + e, none⟩) hb).trans hcell
     have hxf := HF.out.2 x (List.mem_of_getElem? hxe)
     have KR := rReturn_any (A := Be) (c := ce) hxl (.inr hxf) (by decide)
     have eo : retOwn x = ownQ x := if_pos hxa.1
     have eb : retBen x = benQ x := if_pos hxa.1
     rw [eo, eb, hxa.1] at KR
     have hob := one_own hxf
     have hq := hxf.q
     have hfa := fac_fit HF.out t e (by rw [HN.out]; omega)
     have so := FitQ.sizes hq.2.2.1
     have sb := FitQ.sizes hq.2.2.2
     have s1 := FitQ.sizes hob.1
     have s2 := FitQ.sizes hob.2
     have s3 := FitQ.sizes hfa
     have s4 := FitQ.sizes (FitQ.one (k := 1) (by omega))
     have KA1 := radd_r (a := frN 1) (b := frD 1) (c := frN (ownQ x)) (d := frD (ownQ x)) (by omega) (by omega) (by omega) (by omega)
     have KA2 := radd_r (a := frN 1) (b := frD 1) (c := frN (benQ x)) (d := frD (benQ x)) (by omega) (by omega) (by omega) (by omega)
     have KM1 := rmul_r (a := frN (facTo L t e)) (b := frD (facTo L t e)) (c := frN (1 + ownQ x)) (d := frD (1 + ownQ x)) (by omega) (by omega) (by omega) (by omega)
     have KM2 := rmul_r (a := frN (facTo L t e)) (b := frD (facTo L t e)) (c := frN (1 + benQ x)) (d := frD (1 + benQ x)) (by omega) (by omega) (by omega) (by omega)
     rw [ratV_fr, ratV_fr] at KA1 KA2 KM1 KM2
     have HXD : Hid (L.getD e [] = x) := by
      show _ = _
      rw [List.getD_eq_getElem?_getD, hxe]
      rfl
     have HF1 : Hid (e < t → facTo L t (e + 1) = facTo L t e * (1 + ownQ x)) := fun h => by
      conv => lhs; unfold facTo
      rw [if_pos h, HXD.out]
     have HF2 : Hid (t < e → facTo L t (e + 1) = facTo L t e * (1 + benQ x)) := fun h => by
      conv => lhs; unfold facTo
      rw [if_neg (by omega), if_pos h, HXD.out]
     have HF3 : Hid (e = t → facTo L t (e + 1) = facTo L t e) := fun h => by
      conv => lhs; unfold facTo
      rw [if_neg (by omega), if_neg (by omega)]
     have HRE := Lib.hid hrow
     unfold FR at KR KA1 KA2 KM1 KM2
     unfold FV at KA1 KA2 KM1 KM2
     rw [HON.out.1, HON.out.2] at KA1 KA2
     clear hxe hb hcell hxa hxl hrow hxf eo eb hob hq hfa so sb s1 s2 s3 s4 hek
     generalize frN (ownQ x) = rn at *
     generalize frD (ownQ x) = rd at *
     generalize frN (benQ x) = bn at *
     generalize frD (benQ x) = bd at *
     generalize frN (1 + ownQ x) = rn1 at *
     generalize frD (1 + ownQ x) = rd1 at *
     generalize frN (1 + benQ x) = bn1 at *
     generalize frD (1 + benQ x) = bd1 at *
     obtain ⟨fn, hfn⟩ : ∃ x, frN (facTo L t e) = x := ⟨_, rfl⟩
     obtain ⟨fd, hfd⟩ : ∃ x, frD (facTo L t e) = x := ⟨_, rfl⟩
     rw [hfn, hfd] at KM1 KM2
     have HFN : Hid (frN (facTo L t e) = fn ∧ frD (facTo L t e) = fd) := ⟨hfn, hfd⟩
     clear hfn hfd
     have hs2 := HLR.out.st
     go_wp2_with fail
     refine KR.step hs2 (HRE.out.on hs2.2) ?_
     intro w2 hs3 hb2
     have HLR2 := Lib.hid (HLR.out.up hb2)
     clear xe hs2 hb2 HLR KR
     by_cases h5 : e < t
     ·have h6 := h5
      have q5 : decide ((e : Int) < (t : Int)) = true := decide_eq_true (by omega)
      have q5n : decide (e < t) = true := decide_eq_true (by omega)
      go_wp2_with fail
      have hbb : Below w2.heap.size w2 ((w2.alloc (.cells #[.string rn, .string rd] 34)).alloc (.cells #[.string bn, .string bd] 34)) := ((Below.refl _ _).alloc (Nat.le_refl _) _).alloc (by simp) _
      have HL3 := Lib.hid (HLR2.out.up hbb)
      have X12 := (Bx.new w2 #[.string rn, .string rd] 34).alloc (.cells #[.string bn, .string bd] 34)
      have X13 := Bx.new1 w2 (.cells #[.string rn, .string rd] 34) #[.string bn, .string bd] 34
      generalize (w2.alloc (.cells #[.string rn, .string rd] 34)).alloc (.cells #[.string bn, .string bd] 34) = W3 at *
      have hs4 := HL3.out.st
      have y10 := HL3.out.x10
      rw [HFN.out.1, HFN.out.2] at y10
      have y7 := HL3.out.x7
      rw [HON.out.1, HON.out.2] at y7
      have k0 := y10.bx.keeps (i := 0) (v := .string fn) rfl
      have k1 := y10.bx.keeps (i := 1) (v := .string fd) rfl
      have k2 := y7.bx.keeps (i := 0) (v := .string on) rfl
      have k3 := y7.bx.keeps (i := 1) (v := .string od) rfl
      have k4 := X12.keeps (i := 0) (v := .string rn) rfl
      have k5 := X12.keeps (i := 1) (v := .string rd) rfl
      have yy := y10.bx
      obtain ⟨hn', hhn⟩ : ∃ x, frN (facTo L t (e + 1)) = x := ⟨_, rfl⟩
      obtain ⟨hd', hhd⟩ : ∃ x, frD (facTo L t (e + 1)) = x := ⟨_, rfl⟩
      rw [← HF1.out (by omega), hhn, hhd] at KM1
      have HHN : Hid (frN (facTo L t (e + 1)) = hn' ∧ frD (facTo L t (e + 1)) = hd') := ⟨hhn, hhd⟩
      clear hbb HLR2 hs3 y10 y7 hhn hhd X12 X13
      refine wp_region_kept_tail 5 (by kernel_rfl) (by kernel_rfl) ?_
      simp only [List.take_succ_cons, List.take_zero, List.drop_succ_cons, List.drop_zero]
      repeat (go_big_quiet_step (first | (with_reducible exact KA1.kept hs4) | (with_reducible exact KM1.kept hs4)))
      refine wpQuiet_nil ?_
      rintro _ ⟨u, rfl⟩
      have yu := yy.kept u
      have c0 := yu.cell (i := 0) (v := .string fn) rfl
      have c1 := yu.cell (i := 1) (v := .string fd) rfl
      have g0 := yu.frozen 0
      have g1 := yu.frozen 1
      have HNX := Lib.hid ((HL3.out.up u.low).fac HHN.out)
      clear k0 k1 k2 k3 k4 k5 yy HL3 hs4
      go_wp2_with fail
      go_roundw
      case rel => exact ⟨e + 1, by omega, by go_num, HNX⟩
      case measure => simp [intOf]; omega
     by_cases h6 : t < e
     ·have h7 := h6
      have q5 : decide ((e : Int) < (t : Int)) = false := decide_eq_false (by omega)
      have q5n : decide (e < t) = false := decide_eq_false (by omega)
      have q6 : decide ((t : Int) < (e : Int)) = true := decide_eq_true (by omega)
      have q6n : decide (t < e) = true := decide_eq_true (by omega)
      go_wp2_with fail
      have hbb : Below w2.heap.size w2 ((w2.alloc (.cells #[.string rn, .string rd] 34)).alloc (.cells #[.string bn, .string bd] 34)) := ((Below.refl _ _).alloc (Nat.le_refl _) _).alloc (by simp) _
      have HL3 := Lib.hid (HLR2.out.up hbb)
      have X12 := (Bx.new w2 #[.string rn, .string rd] 34).alloc (.cells #[.string bn, .string bd] 34)
      have X13 := Bx.new1 w2 (.cells #[.string rn, .string rd] 34) #[.string bn, .string bd] 34
      generalize (w2.alloc (.cells #[.string rn, .string rd] 34)).alloc (.cells #[.string bn, .string bd] 34) = W3 at *
      have hs4 := HL3.out.st
      have y10 := HL3.out.x10
      rw [HFN.out.1, HFN.out.2] at y10
      have y7 := HL3.out.x7
      rw [HON.out.1, HON.out.2] at y7
      have k0 := y10.bx.keeps (i := 0) (v := .string fn) rfl
      have k1 := y10.bx.keeps (i := 1) (v := .string fd) rfl
      have k2 := y7.bx.keeps (i := 0) (v := .string on) rfl
      have k3 := y7.bx.keeps (i := 1) (v := .string od) rfl
      have k4 := X13.keeps (i := 0) (v := .string bn) rfl
      have k5 := X13.keeps (i := 1) (v := .string bd) rfl
      have yy := y10.bx
      obtain ⟨hn', hhn⟩ : ∃ x, frN (facTo L t (e + 1)) = x := ⟨_, rfl⟩
      obtain ⟨hd', hhd⟩ : ∃ x, frD (facTo L t (e + 1)) = x := ⟨_, rfl⟩
      rw [← HF2.out (by omega), hhn, hhd] at KM2
      have HHN : Hid (frN (facTo L t (e + 1)) = hn' ∧ frD (facTo L t (e + 1)) = hd') := ⟨hhn, hhd⟩
      clear hbb HLR2 hs3 y10 y7 hhn hhd X12 X13
      refine wp_region_kept_tail 5 (by kernel_rfl) (by kernel_rfl) ?_
      simp only [List.take_succ_cons, List.take_zero, List.drop_succ_cons, List.drop_zero]
      repeat (go_big_quiet_step (first | (with_reducible exact KA2.kept hs4) | (with_reducible exact KM2.kept hs4)))
      refine wpQuiet_nil ?_
      rintro _ ⟨u, rfl⟩
      have yu := yy.kept u
      have c0 := yu.cell (i := 0) (v := .string fn) rfl
      have c1 := yu.cell (i := 1) (v := .string fd) rfl
      have g0 := yu.frozen 0
      have g1 := yu.frozen 1
      have HNX := Lib.hid ((HL3.out.up u.low).fac HHN.out)
      clear k0 k1 k2 k3 k4 k5 yy HL3 hs4
      go_wp2_with fail
      go_roundw
      case rel => exact ⟨e + 1, by omega, by go_num, HNX⟩
      case measure => simp [intOf]; omega
     ·have h7 : e = t := by omega
      have q5 : decide ((e : Int) < (t : Int)) = false := decide_eq_false (by omega)
      have q5n : decide (e < t) = false := decide_eq_false (by omega)
      have q6 : decide ((t : Int) < (e : Int)) = false := decide_eq_false (by omega)
      have q6n : decide (t < e) = false := decide_eq_false (by omega)
      go_wp2_with fail
      have hbb : Below w2.heap.size w2 ((w2.alloc (.cells #[.string rn, .string rd] 34)).alloc (.cells #[.string bn, .string bd] 34)) := ((Below.refl _ _).alloc (Nat.le_refl _) _).alloc (by simp) _
      have HL3 := Lib.hid (HLR2.out.up hbb)
      have HNX := HL3
      rw [← HF3.out (by omega)] at HNX
      clear hbb HL3 HLR2 hs3
      go_roundw
      case rel => exact ⟨e + 1, by omega, by go_num, HNX⟩
      case measure => simp [intOf]; omega
  ·have hkl : k < n := by omega
   have q : decide ((k : Int) < (n : Int)) = true := decide_eq_true (by omega)
   have qn : decide (k < n) = true := decide_eq_true hkl
   have q0n : decide (0 < n) = true := decide_eq_true (by omega)
   have q0i : (0 : Int) < (n : Int) := by omega
   obtain ⟨d, hd⟩ : ∃ d, L[k]? = some d := ⟨L[k]'(by rw [HN.out]; exact hkl), by simp⟩
   obtain ⟨l0, hl0⟩ : ∃ d, L[0]? = some d := ⟨L[0]'(by rw [HN.out]; omega), by simp⟩
   obtain ⟨b, o, v, hA, hb, hcell, B, cc, hv, hrow, h1, h2⟩ := HR.out k d hd
   obtain ⟨b', o', v', hA', hb', hcell', B0, c0, hv', hrow', h1', h2'⟩ := HR.out 0 l0 hl0
   have hAA := hA.symm.trans hA'
   injection hAA with hAA
   injection hAA with e1 e2
   subst e1 e2 hv hv'
   rw [Nat.add_zero] at hcell'
   have HLK := Lib.hid (linkErr_at hd hl0)
   have HPD := HPN.out d (List.mem_of_getElem? hd)
   have HPL := HPN.out l0 (List.mem_of_getElem? hl0)
   have HRX := Lib.hid hrow
   have HR0 := Lib.hid hrow'
   have K1 := rscheck_any (A := B) (c := cc) rfl HPD
   obtain ⟨n1, hn1⟩ : ∃ x, d.length = x := ⟨_, rfl⟩
   obtain ⟨n0, hn0⟩ : ∃ x, l0.length = x := ⟨_, rfl⟩
   rw [hn1] at h1 K1 hcell
   rw [hn0] at h1' hcell'
   have HSK : Hid (∀ W, St w W → W.cell? ⟨b, o + k, none⟩ = some (.slice B n1 cc) ∧ W.cell? ⟨b, o, none⟩ = some (.slice B0 n0 c0)) := fun W h => ⟨(h.2.cell (p := ⟨b, o + k, none⟩) hb).trans hcell, (h.2.cell (p := ⟨b, o, none⟩) hb').trans hcell'⟩
   have xk := (HSK.out _ hs).1
   have HD := Lib.hid hd
   have HL0 := Lib.hid hl0
   have HN1 := Lib.hid hn1
   have HN0 := Lib.hid hn0
   have HPDD := Lib.hid HPD
   have HPLL := Lib.hid HPL
   subst hA
   clear hd hl0 hrow hrow' hcell hcell' hA' hn1 hn0 HPD HPL hkn
   have hda := HALL.out k d HD.out
   have hda0 := HALL.out 0 l0 HL0.out
   have hck : chkS d = 0 := hda.1
   have hnn : n1 = n0 := by rw [← HN1.out, ← HN0.out, hda.2.1, hda0.2.1]
   have HNM : Hid (d.map SecS.nm = l0.map SecS.nm) := hda.2.2.trans hda0.2.2.symm
   clear hda hda0
   rw [hck] at K1
   clear hck
   subst hnn
   have hfew := HF.out.2 d (List.mem_of_getElem? HD.out)
   have hn5 : n1 ≤ 5 := by have := hfew.1; have := HN1.out; omega
   have qe : ((n1 : Int) != (n1 : Int)) = false := by simp
   clear hfew
   have q1 : ((0 : Int) != 0) = false := rfl
   go_wp2_with fail
   refine K1.step hs (HRX.out.on hs.2) ?_
   intro w1 hs1 _
   clear xk hs
   have xk1 := (HSK.out _ hs1).1
   have x01 := (HSK.out _ hs1).2
   go_wp2_with fail
   go_quiet (fail)
   go_wp2_with fail
   have hs2 := hs1.drewN nq
   clear hs1 xk1 x01
   generalize w1.drewN nq = W2 at *
   go_loopw [6] (fun s wx => ∃ i : Nat, i ≤ n1 ∧ s = .int .i64 (i : Int) ∧ St w wx ∧ Hid (sameTo d l0 i)) (fun s _ => (n1 - intOf s).toNat)
   case atStart => exact ⟨0, by omega, rfl, hs2, fun i h => by omega⟩
   case round =>
    clear hs2
    obtain ⟨i, hi, rfl, hs2, HSM⟩ := hrel
    have xk2 := (HSK.out _ hs2).1
    have x02 := (HSK.out _ hs2).2
    by_cases hin : i = n1
    ·have q2 : decide ((i : Int) < (n1 : Int)) = false := decide_eq_false (by omega)
     have q2n : decide (i < n1) = false := decide_eq_false (by omega)
     have HPK : Hid (∀ i, i < k + 1 → linkErr L i = 0) := fun i hi => HZ.out i (by omega)
     clear hin
     go_wp2_with fail
     go_roundw
     case rel => exact ⟨k + 1, by omega, by go_num, hs2, HPK⟩
     case measure => simp [intOf]; omega
    ·have hil : i < n1 := by omega
     have q2 : decide ((i : Int) < (n1 : Int)) = true := decide_eq_true (by omega)
     have q2n : decide (i < n1) = true := decide_eq_true hil
     obtain ⟨s, hsx⟩ : ∃ s, d[i]? = some s := ⟨d[i]'(by rw [HN1.out]; exact hil), by simp⟩
     obtain ⟨s', hsy⟩ : ∃ s, l0[i]? = some s := ⟨l0[i]'(by rw [HN0.out]; exact hil), by simp⟩
     obtain ⟨bx, ox, hAx, hbx, hcx⟩ := row_at (cs := scells) (m := 9) scells_len (by decide) (HRX.out.on hs2.2) hsx
     obtain ⟨by', oy, hAy, hby, hcy⟩ := row_at (cs := scells) (m := 9) scells_len (by decide) (HR0.out.on hs2.2) hsy
     subst hAx hAy
     have HSX := Lib.hid hsx
     have HSY := Lib.hid hsy
     clear hsx hsy hin
     obtain ⟨f0, f1, f2, f3, f4, f5, f6, f7, f8⟩ := s
     obtain ⟨e0, e1, e2, e3, e4, e5, e6, e7, e8⟩ := s'
     have y0 : wr.cell? ⟨bx, ox + i * 9, none⟩ = some (.string f0) := hcx 0 _ rfl
     have y1 : wr.cell? ⟨by', oy + i * 9, none⟩ = some (.string e0) := hcy 0 _ rfl
     clear hcx hcy
     have hfe : f0 = e0 := by
      have := congrArg (fun x => x[i]?) HNM.out
      simp only [List.getElem?_map, HSX.out, HSY.out, Option.map_some] at this
      injection this
     subst hfe
     have htb : (f0.toList == f0.toList) = true := by simp
     have HSS : Hid (sameTo d l0 (i + 1)) := by
      intro j hj
      by_cases e : j = i
      ·subst e
       rw [HSX.out, HSY.out]
       rfl
      ·exact HSM.out j (by omega)
     go_wp2_with fail
     go_quiet (fail)
     go_wp2_with fail
     go_roundw
     case rel => exact ⟨i + 1, by omega, by go_num, hs2.drewN _, HSS⟩
     case measure => simp [intOf]; omega
end Go.Proofs.YticfdeaphiifeaaGreatDoor
