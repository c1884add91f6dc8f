/- Walk of AllocateNearest. Condition: sizes that strings and slices can have. -/
import Derived.Test.YtdpoagcgglfijaaGreatDoorAw4
import Derived.Test.YtdpoagcgglfijaaGreatDoorLw4
import Derived.Test.YtdpoagcgglfijaaGreatDoorWl
import Derived.Test.YtdpoagcgglfijaaGreatDoorLn1
import Derived.Test.YtdpoagcgglfijaaGreatDoorLor
namespace Go.Proofs.YtdpoagcgglfijaaGreatDoor
open Go.RowKit Go.Shelf SP Dec QQ

/-- two boxes that hold places -/
structure TwoB (w : World) (B C i k : Nat) (W : World) : Prop where
  low : Below w.heap.size w W
  x : Bx W B #[.int .i64 (i : Int)]
  y : Bx W C #[.int .i64 (k : Int)]
theorem two_low (w : World) (o o' : Obj) : Below w.heap.size w ((w.alloc o).alloc o').drew := (((Below.refl _ _).alloc (Nat.le_refl _) _).alloc (by simp) _).drew
theorem two_fst (w : World) (o o' : Obj) : ((w.alloc o).alloc o').drew.heap[w.heap.size]? = some o := (Below.heap_alloc _ _ _ (by simp)).trans (heap_new w _)
theorem two_snd (w : World) (o o' : Obj) : ((w.alloc o).alloc o').drew.heap[w.heap.size + 1]? = some o' := by
  have := heap_new (w.alloc o) o'
  rwa [World.size_alloc] at this
theorem twoB_a (w : World) (i k : Nat) : TwoB w w.heap.size (w.heap.size + 1) i k ((w.alloc (.cells #[.int .i64 (i : Int)] 3)).alloc (.cells #[.int .i64 (k : Int)] 3)).drew := ⟨two_low _ _ _, ⟨_, two_fst _ _ _⟩, ⟨_, two_snd _ _ _⟩⟩
theorem twoB_b (w : World) (i k : Nat) : TwoB w (w.heap.size + 1) w.heap.size i k ((w.alloc (.cells #[.int .i64 (k : Int)] 3)).alloc (.cells #[.int .i64 (i : Int)] 3)).drew := ⟨two_low _ _ _, ⟨_, two_snd _ _ _⟩, ⟨_, two_fst _ _ _⟩⟩
set_option maxRecDepth 100000 in
set_option maxHeartbeats 4000000 in
theorem nearest04_any {A : Option Addr} {n c p r : Nat} {t : ByteArray} {ws : List ByteArray} (z0 : t.size ≤ 9223372036854775807) (hn : ws.length = n) (hm : n ≤ 9223372036854775807) (hbig : ∀ s ∈ ws, s.size ≤ 9223372036854775807) (hp : p ≤ 255) (hr0 : r ≤ 255) :
    ∀ w, Gl w → Row w A (ws.map sv) → Calls Tryz.prog 6 #[.string t, .slice A n c, .int .u8 (p : Int), .int .u8 (r : Int)] w fun e w' => e = .returned (.bool true) ∧ Below w.heap.size w w' := by
  intro w hg hr
  have hs := St.refl hg
  have HR := Lib.hid hr
  have KA := awake04
  have HR1 : Hid (Row (w.alloc (.cells #[.string t] 22)) (some ⟨w.heap.size, 0, none⟩) ([t].map sv)) := Row.of (Bx.new w #[.string t] 22)
  have KG1 := great4_any (A := some ⟨w.heap.size, 0, none⟩) (n := 1) (c := 1) (l := [t]) rfl (by decide) (by intro s hs; simp at hs; rw [hs]; exact z0)
  have KG2 := great4_any (A := A) (n := n) (c := c) (l := ws) hn hm hbig
  cases hG1 : great4 [t] with
  | true =>
    rw [hG1] at KG1
    clear hG1 KG2 hr hn hbig
    go_enter Tryz.func6, Tryz.ntmps6
    go_wp2_with fail
    refine KG1.step (hs.alloc _) HR1.out ?_
    intro w1 hs hb
    go_wp2_with fail
    refine KA.step hs ?_
    intro w2 hs hb
    go_wp2_with fail
    go_ret
    exact ⟨rfl, hs.2⟩
  | false =>
  rw [hG1] at KG1
  have y0 : t.size ≤ 30 := great4_one hG1 (by simp) t (by simp)
  cases hG2 : great4 ws with
  | true =>
    rw [hG2] at KG2
    clear hG1 hG2 hr hn hbig y0
    go_enter Tryz.func6, Tryz.ntmps6
    go_wp2_with fail
    refine KG1.step (hs.alloc _) HR1.out ?_
    intro w1 hs hb
    go_wp2_with fail
    refine KG2.step hs (HR.out.on hs.2) ?_
    intro w2 hs hb
    go_wp2_with fail
    refine KA.step hs ?_
    intro w3 hs hb
    go_wp2_with fail
    go_ret
    exact ⟨rfl, hs.2⟩
  | false =>
  rw [hG2] at KG2
  obtain ⟨h12, h1005, hz⟩ := great4_few hG2
  rw [hn] at h12 h1005
  clear hG1 hG2 hbig hr
  by_cases h8 : 8 < n
  · have q8 : decide ((8 : Int) < (n : Int)) = true := decide_eq_true (by omega)
    have q8n : decide (8 < n) = true := decide_eq_true h8
    clear hn hz h12 h1005 y0 z0 h8
    go_enter Tryz.func6, Tryz.ntmps6
    go_wp2_with fail
    refine KG1.step (hs.alloc _) HR1.out ?_
    intro w1 hs hb
    go_wp2_with fail
    refine KG2.step hs (HR.out.on hs.2) ?_
    intro w2 hs hb
    go_wp2_with fail
    refine KA.step hs ?_
    intro w3 hs hb
    go_wp2_with fail
    go_ret
    exact ⟨rfl, hs.2⟩
  have q8 : decide ((8 : Int) < (n : Int)) = false := decide_eq_false (by omega)
  have q8n : decide (8 < n) = false := decide_eq_false h8
  have KS := Lib.hid (fun (u : World) (hg : Gl u) (hr : Row u A (ws.map sv)) => split4_any (A := A) (c := c) (n := n) (k0 := 30) (t := t) (ws := ws) hn h12 (by omega) (by decide) y0 hz u hg hr)
  have KI := Lib.hid (fun (u : World) (hg : Gl u) (hr : Row u A (ws.map sv)) => ideal_any (A := A) (c := c) (n := n) (k0 := 30) (t := t) (ws := ws) hn h12 (by omega) (by decide) y0 hz u hg hr)
  by_cases he : alE t ws = 0
  · have ho := alE_zero.1 he
    have h0 : 0 < n := by have := ho.len0; omega
    have hn12 : n ≤ 12 := by have := ho.len; omega
    have eS : alS t ws = splL (valS t) (iv ws) := if_pos he
    have eI : alI t ws = idL (valS t) (iv ws) := if_pos he
    have hil : (iv ws).length = n := by rw [iv_len, hn]
    rw [he, eS, splL_len, hil] at KS
    rw [he, eI, idL_len, hil] at KI
    obtain ⟨i, hi⟩ : ∃ i, p % n = i := ⟨_, rfl⟩
    obtain ⟨k, hk⟩ : ∃ k, r % n = k := ⟨_, rfl⟩
    have hin : i < n := by have := Nat.mod_lt p h0; omega
    have hkn : k < n := by have := Nat.mod_lt r h0; omega
    have hmod1 := mod_u8W p n
    have hmod2 := mod_u8W r n
    rw [hi] at hmod1
    rw [hk] at hmod2
    have hpi : (p : Int) % (n : Int) = (i : Int) := by rw [← hi]; rfl
    have hpk : (r : Int) % (n : Int) = (k : Int) := by rw [← hk]; rfl
    have wp : IntKind.i64.wrap (p : Int) = (p : Int) := IntWalk.i64_in _ (by omega)
    have wr' : IntKind.i64.wrap (r : Int) = (r : Int) := IntWalk.i64_in _ (by omega)
    have wi : IntKind.i64.wrap (i : Int) = (i : Int) := IntWalk.i64_in _ (by omega)
    have wk : IntKind.i64.wrap (k : Int) = (k : Int) := IntWalk.i64_in _ (by omega)
    have hn0 : ¬ (n : Int) = 0 := by omega
    have qlen : ((n : Int) != (n : Int)) = false := by simp
    have fT : Fit 30 (valS t) := Fit.val y0
    have gS : ∀ j, j < n → Fit 62 (at0 (splL (valS t) (iv ws)) j) := fun j hj => spl_fit fT (iv_fit hz) _ (List.mem_of_getElem? (at0_lt (by rw [splL_len, hil]; exact hj)))
    have gQ : ∀ j, j < n → FitQ 62 (rat (valS t * at0 (iv ws) j) (iv ws).sum) := fun j hj => FitQ.mono (FitQ.rat (k := 60) (m := 32) (fT.mul (iv_fit hz _ (List.mem_of_getElem? (at0_lt (by rw [hil]; exact hj))))) (whole_fit hz (by omega)) (by decide)) (by decide)
    have lS : ∀ j, j < n → (splL (valS t) (iv ws))[j]? = some (at0 (splL (valS t) (iv ws)) j) := fun j hj => at0_lt (by rw [splL_len, hil]; exact hj)
    have lI : ∀ j, j < n → (idL (valS t) (iv ws))[j]? = some (rat (valS t * at0 (iv ws) j) (iv ws).sum) := fun j hj => idL_at (by rw [hil]; exact hj)
    have KQ := fun (m : ByteArray) (z : Int) (hm : Vs m z) (h3 : Fit 62 z) => Lib.hid (fun (b1 b2 b3 b4 g g2 c1 c2 : Nat) => sq4_any (b1 := b1) (b2 := b2) (b3 := b3) (b4 := b4) (g := g) (g2 := g2) (n := n) (c1 := c1) (c2 := c2) (i := i) (k := k) (m := m) (z := z) hm hin hkn (lS i hin) (lS k hkn) (lI i hin) (lI k hkn) (gS i hin) (gS k hkn) h3 (gQ i hin) (gQ k hkn))
    have KQ1 := KQ ⟨#[49]⟩ 1 (⟨by decide, by decide⟩ : Vs ⟨#[49]⟩ 1) (by show (1 : Int).natAbs < 10 ^ 62; decide)
    have KQ0 := KQ ⟨#[]⟩ 0 Vs.nil (by show (0 : Int).natAbs < 10 ^ 62; decide)
    have f1 := (sqV_fit (gS i hin) (gS k hkn) (show Fit 62 1 by show (1 : Int).natAbs < 10 ^ 62; decide) (gQ i hin) (gQ k hkn)).2.2
    have f0 := (sqV_fit (gS i hin) (gS k hkn) (show Fit 62 0 by show (0 : Int).natAbs < 10 ^ 62; decide) (gQ i hin) (gQ k hkn)).2.2
    have KCm := CmpF (Vq.fr f1 (by decide)) (Vq.fr f0 (by decide)) (f1.sub f0) (by decide)
    have hge : sqV (at0 (splL (valS t) (iv ws)) i) (at0 (splL (valS t) (iv ws)) k) (rat (valS t * at0 (iv ws) i) (iv ws).sum) (rat (valS t * at0 (iv ws) k) (iv ws).sum) 0 ≤ sqV (at0 (splL (valS t) (iv ws)) i) (at0 (splL (valS t) (iv ws)) k) (rat (valS t * at0 (iv ws) i) (iv ws).sum) (rat (valS t * at0 (iv ws) k) (iv ws).sum) 1 := by
      rw [sqV_eq, sqV_eq]
      exact sq_moved (nearest4 ho.ok (by rw [hil]; exact hin) (by rw [hil]; exact hkn))
    have qge : decide (0 ≤ cmpQ (sqV (at0 (splL (valS t) (iv ws)) i) (at0 (splL (valS t) (iv ws)) k) (rat (valS t * at0 (iv ws) i) (iv ws).sum) (rat (valS t * at0 (iv ws) k) (iv ws).sum) 1) (sqV (at0 (splL (valS t) (iv ws)) i) (at0 (splL (valS t) (iv ws)) k) (rat (valS t * at0 (iv ws) i) (iv ws).sum) (rat (valS t * at0 (iv ws) k) (iv ws).sum) 0)) = true := by
      rw [decide_eq_true_eq]
      exact Int.not_lt.1 (fun h => Rat.not_lt.2 hge (cmpQ_neg.1 h))
    generalize sqV (at0 (splL (valS t) (iv ws)) i) (at0 (splL (valS t) (iv ws)) k) (rat (valS t * at0 (iv ws) i) (iv ws).sum) (rat (valS t * at0 (iv ws) k) (iv ws).sum) 1 = v1 at *
    generalize sqV (at0 (splL (valS t) (iv ws)) i) (at0 (splL (valS t) (iv ws)) k) (rat (valS t * at0 (iv ws) i) (iv ws).sum) (rat (valS t * at0 (iv ws) k) (iv ws).sum) 0 = v0 at *
    generalize cmpQ v1 v0 = cv at *
    unfold FV at KCm
    unfold FR at KQ1 KQ0
    generalize frN v1 = n1 at *
    generalize frD v1 = d1 at *
    generalize frN v0 = n0 at *
    generalize frD v0 = d0 at *
    generalize splL (valS t) (iv ws) = L at *
    generalize idL (valS t) (iv ws) = Q at *
    clear he eS eI ho hil hz hn h12 h1005 y0 z0 fT gS gQ lS lI KQ f1 f0 hge hi hk hn12 h8
    go_enter Tryz.func6, Tryz.ntmps6
    go_wp2_with fail
    refine KG1.step (hs.alloc _) HR1.out ?_
    intro w1 hs hb
    go_wp2_with fail
    refine KG2.step hs (HR.out.on hs.2) ?_
    intro w2 hs hb
    go_wp2_with fail
    refine (KS.out w2 hs.gl (HR.out.on hs.2)).mono ?_
    rintro e w3 ⟨v, rfl, hov, hb3⟩
    obtain ⟨g, c1, rfl, hc1, hc2', hrow⟩ := hov.some4 h0
    rw [flat_sv] at hrow
    replace hs := (hs.on hb3).alloc (.cells #[.slice (some ⟨g, 0, none⟩) n c1] 23)
    have X9 := Bx.new w3 #[.slice (some ⟨g, 0, none⟩) n c1] 23
    have R1 := Lib.hid (hrow.on ((Below.refl _ w3).alloc (Nat.le_refl _) (.cells #[.slice (some ⟨g, 0, none⟩) n c1] 23)))
    clear hov hrow hc2' hc1
    go_wp2_with fail
    obtain ⟨b9, hb9⟩ : ∃ b, w3.heap.size = b := ⟨_, rfl⟩
    rw [hb9] at X9 ⊢
    generalize w3.alloc (.cells #[.slice (some ⟨g, 0, none⟩) n c1] 23) = w4 at *
    clear hb9
    try go_wp2_with fail
    refine (KI.out w4 hs.gl (HR.out.on hs.2)).mono ?_
    rintro e w5 ⟨v, rfl, hov, hb5⟩
    obtain ⟨g2, c2, rfl, hc1, hc2', hrow⟩ := hov.some4 h0
    replace hs := (hs.on hb5).alloc (.cells #[.slice (some ⟨g2, 0, none⟩) n c2] 43)
    have hbA : Below w5.heap.size w5 (w5.alloc (.cells #[.slice (some ⟨g2, 0, none⟩) n c2] 43)) := (Below.refl _ w5).alloc (Nat.le_refl _) _
    have X11 := Bx.new w5 #[.slice (some ⟨g2, 0, none⟩) n c2] 43
    replace X9 := (X9.on hb5).on hbA
    replace R1 := Lib.hid ((R1.out.on hb5).on hbA)
    have R2 := Lib.hid (hrow.on hbA)
    clear hov hrow hc2' hc1
    have x9 := X9.cell (i := 0) (v := .slice (some ⟨g, 0, none⟩) n c1) rfl
    have x11 := X11.cell (i := 0) (v := .slice (some ⟨g2, 0, none⟩) n c2) rfl
    clear hbA
    obtain ⟨b11, hb11⟩ : ∃ b, w5.heap.size = b := ⟨_, rfl⟩
    rw [hb11] at X11 x11
    go_wp2_with fail
    clear x9 x11 hb11
    generalize w5.alloc (.cells #[.slice (some ⟨g2, 0, none⟩) n c2] 43) = w6 at *
    try go_wp2_with fail
    have x9 := X9.cell (i := 0) (v := .slice (some ⟨g, 0, none⟩) n c1) rfl
    have hl9 := X9.lt
    go_upto_region 7 with (fail)
    go_cut [13, 14] (fun a13 a14 wx => ∃ B C, a13 = .pointer (some ⟨B, 0, none⟩) ∧ a14 = .pointer (some ⟨C, 0, none⟩) ∧ Hid (TwoB w6 B C i k wx))
    case first =>
      clear KA KG1 KG2 KS KI KQ1 KQ0 KCm R1 R2 HR HR1
      go_big_region
      all_goals
        go_wp2_with fail
        go_meet
        first
          | exact ⟨_, _, rfl, rfl, twoB_a _ _ _⟩
          | exact ⟨_, _, rfl, rfl, twoB_b _ _ _⟩
    case rest =>
    obtain ⟨b13, b14, rfl, rfl, HT2⟩ := hcut
    have low7 := HT2.out.low
    have X13 := HT2.out.x
    have X14 := HT2.out.y
    replace X9 := X9.on low7
    replace X11 := X11.on low7
    replace R1 := Lib.hid (R1.out.on low7)
    replace R2 := Lib.hid (R2.out.on low7)
    replace hs := hs.on low7
    clear x9 hl9 low7 HT2
    generalize wc = w7 at *
    have x13 := X13.cell (i := 0) (v := .int .i64 (i : Int)) rfl
    have x14 := X14.cell (i := 0) (v := .int .i64 (k : Int)) rfl
    by_cases hik : i = k
    · have qik : ((i : Int) == (k : Int)) = true := beq_iff_eq.2 (by omega)
      have qikn : (i == k) = true := beq_iff_eq.2 hik
      try go_wp2_with fail
      refine KA.step hs ?_
      intro w8 hs hb
      go_wp2_with fail
      go_ret
      exact ⟨rfl, hs.2⟩
    · have qik : ((i : Int) == (k : Int)) = false := beq_eq_false_iff_ne.2 (by omega)
      have qikn : (i == k) = false := beq_eq_false_iff_ne.2 hik
      have qd : decide (i = k) = false := decide_eq_false hik
      try go_wp2_with fail
      refine (KQ1.out b9 b13 b11 b14 g g2 c1 c2 w7 hs.gl (X9.cell (i := 0) rfl) (X13.cell (i := 0) rfl) (X11.cell (i := 0) rfl) (X14.cell (i := 0) rfl) R1.out R2.out).mono ?_
      rintro e w8 ⟨rfl, hb8⟩
      replace X9 := X9.on hb8
      replace X11 := X11.on hb8
      replace X13 := X13.on hb8
      replace X14 := X14.on hb8
      replace R1 := Lib.hid (R1.out.on hb8)
      replace R2 := Lib.hid (R2.out.on hb8)
      replace hs := hs.on hb8
      clear x13 x14
      go_wp2_with fail
      refine (KQ0.out b9 b13 b11 b14 g g2 c1 c2 w8 hs.gl (X9.cell (i := 0) rfl) (X13.cell (i := 0) rfl) (X11.cell (i := 0) rfl) (X14.cell (i := 0) rfl) R1.out R2.out).mono ?_
      rintro e w9 ⟨rfl, hb9⟩
      replace hs := hs.on hb9
      go_wp2_with fail
      refine KCm.step hs ?_
      intro w10 hs hb
      go_wp2_with fail
      refine KA.step hs ?_
      intro w11 hs hb
      go_wp2_with fail
      go_ret
      exact ⟨rfl, hs.2⟩
  · have q : (alE t ws != 0) = true := by simpa using he
    have eS : alS t ws = [] := if_neg he
    have eI : alI t ws = [] := if_neg he
    rw [eS] at KS
    rw [eI] at KI
    generalize alE t ws = ee at *
    clear he hn hz h12 h1005 y0 z0 eS eI h8
    go_enter Tryz.func6, Tryz.ntmps6
    go_wp2_with fail
    refine KG1.step (hs.alloc _) HR1.out ?_
    intro w1 hs hb
    go_wp2_with fail
    refine KG2.step hs (HR.out.on hs.2) ?_
    intro w2 hs hb
    go_wp2_with fail
    refine (KS.out w2 hs.gl (HR.out.on hs.2)).mono ?_
    rintro e w3 ⟨v, rfl, hov, hb3⟩
    obtain ⟨A1, c1, rfl, hrow⟩ : ∃ A c, v = .slice A 0 c ∧ True := by obtain ⟨A1, c1, e, _⟩ := hov.row; exact ⟨A1, c1, e, trivial⟩
    replace hs := (hs.on hb3).alloc (.cells #[.slice A1 0 c1] 23)
    clear hov hrow
    go_wp2_with fail
    refine (KI.out _ hs.gl (HR.out.on hs.2)).mono ?_
    rintro e w4 ⟨v, rfl, hov, hb4⟩
    obtain ⟨A2, c2, rfl, hrow⟩ : ∃ A c, v = .slice A 0 c ∧ True := by obtain ⟨A1, c1, e, _⟩ := hov.row; exact ⟨A1, c1, e, trivial⟩
    replace hs := (hs.on hb4).alloc (.cells #[.slice A2 0 c2] 43)
    clear hov hrow
    go_wp2_with fail
    refine KA.step hs ?_
    intro w5 hs hb
    go_wp2_with fail
    go_ret
    exact ⟨rfl, hs.2⟩
end Go.Proofs.YtdpoagcgglfijaaGreatDoor
