/- Attribution: the walk of AttributionOrder: for every input it returns true. Condition: the library's table and error lie as the program's text lays them. -/
import Derived.Test.YtndkglmokhndnaaGreatDoorLaw48s
import Derived.Test.YtndkglmokhndnaaGreatDoorSw
namespace Go.Proofs.YtndkglmokhndnaaGreatDoor
open Go.RowKit Go.Shelf Dec QQ

theorem mod_u8 (x n : Nat) : ((x : Int)).tmod ((n : Int)) = ((x % n : Nat) : Int) := by
  show Int.tmod (Int.ofNat x) (Int.ofNat n) = Int.ofNat (x % n)
  rfl
/-- exchanging sectors keeps whether they are valid -/
theorem chk_swap {l : List SecS} {i j : Nat} (hi : i < l.length) (hj : j < l.length) : chkS (swapL l i j) = 0 ↔ chkS l = 0 := by
  rw [chkS_iff, chkS_iff, swap_ok hi hj]
theorem few_swap {k0 : Nat} {l : List SecS} {i j : Nat} (hi : i < l.length) (hj : j < l.length) (h : FewS k0 l) : FewS k0 (swapL l i j) :=
  ⟨by rw [swapL_len]; exact h.1, h.2.1, h.2.2.1, fun s hs => h.2.2.2 s ((swapL_perm hi hj).mem_iff.1 hs)⟩
/-- two structs of an own row exchanged -/
theorem OutG.swap {α : Type} {cs : α → List Value} {T : TypeId} {m base n cap g : Nat} {w : World} {xs : List α} (hm : ∀ a, (cs a).length = m) {i j : Nat} {x y : α} (h : OutG cs T m base w (.slice (some ⟨g, 0, none⟩) n cap) n xs) (hi : xs[i]? = some x) (hj : xs[j]? = some y) :
    OutG cs T m base ((w.setCells g (i * m) (cs y)).setCells g (j * m) (cs x)) (.slice (some ⟨g, 0, none⟩) n cap) n (swapL xs i j) ∧ w.grownBy ((w.setCells g (i * m) (cs y)).setCells g (j * m) (cs x)) (some g) := by
  have h1 := own_cells (cs y) _ (i * m) _ h.2
  have h2 := own_cells (cs x) _ (j * m) _ h1.1
  have hil := (List.getElem?_eq_some_iff.1 hi).1
  have hjl := (List.getElem?_eq_some_iff.1 hj).1
  have e : setFrom (setFrom (flatG cs xs) (i * m) (cs y)) (j * m) (cs x) = flatG cs (swapL xs i j) := by
    rw [swapL_at hi hj, flatG_set hm _ _ _ (by rw [List.length_set]; exact hjl), flatG_set hm _ _ _ hil]
  rw [e] at h2
  exact ⟨⟨by rw [swapL_len]; exact h.1, h2.1⟩, h1.2.trans h2.2⟩
theorem OutG.row0 {α : Type} {cs : α → List Value} {T : TypeId} {m base n cap g : Nat} {w : World} {xs : List α} (h : OutG cs T m base w (.slice (some ⟨g, 0, none⟩) n cap) n xs) : Row w (some ⟨g, 0, none⟩) (flatG cs xs) := by
  obtain ⟨A, c, e, hr⟩ := h.row
  injection e with e1 e2 e3
  subst e1
  exact hr
theorem own_at {α : Type} {cs : α → List Value} {m g : Nat} {w : World} {xs : List α} (hm : ∀ a, (cs a).length = m) (h0 : 0 < m) (h : Row w (some ⟨g, 0, none⟩) (flatG cs xs)) {i : Nat} {d : α} (hd : xs[i]? = some d) : ∀ t v, (cs d)[t]? = some v → w.cell? ⟨g, i * m + t, none⟩ = some v := by
  obtain ⟨b, o, hA, _, hc⟩ := row_at hm h0 h hd
  injection hA with hA
  injection hA with h1 h2
  subst h1 h2
  intro t v hv
  have := hc t v hv
  rwa [Nat.zero_add] at this
theorem cells_same {w : World} {g i j m : Nat} {cs : List Value} (h : ∀ t v, cs[t]? = some v → w.cell? ⟨g, j * m + t, none⟩ = some v) (hi : ∀ t, t < m → (w.cell? ⟨g, i * m + t, none⟩).isSome = true) (hm : cs.length = m) {t : Nat} {v : Value} (hv : cs[t]? = some v) : (w.setCells g (i * m) (cs.take (t + 1))).cell? ⟨g, j * m + t, none⟩ = some v := by
  have ht : t < cs.length := (List.getElem?_eq_some_iff.1 hv).1
  have hl : (cs.take (t + 1)).length = t + 1 := by rw [List.length_take]; omega
  by_cases e : i = j
  · subst e
    rw [World.cell?_setCells_in g (cs.take (t + 1)) (i * m) w (fun s hs => hi s (by omega)) t (by omega)]
    rw [List.getElem_take, ← hv, List.getElem?_eq_getElem ht]
  · rw [World.cell?_setCells_out]
    · exact h t v hv
    · intro _ _
      show j * m + t < i * m ∨ i * m + (cs.take (t + 1)).length ≤ j * m + t
      rcases Nat.lt_or_ge i j with h1 | h1
      · right
        have : (i + 1) * m ≤ j * m := Nat.mul_le_mul_right _ h1
        rw [Nat.add_mul, Nat.one_mul] at this
        omega
      · left
        have : (j + 1) * m ≤ i * m := Nat.mul_le_mul_right _ (by omega)
        rw [Nat.add_mul, Nat.one_mul] at this
        omega
theorem OutG.drew {α : Type} {cs : α → List Value} {T : TypeId} {m base n : Nat} {w : World} {v : Value} {xs : List α} (h : OutG cs T m base w v n xs) : OutG cs T m base w.drew v n xs := h
theorem OutG.slice {α : Type} {cs : α → List Value} {T : TypeId} {m base n : Nat} {w : World} {v : Value} {xs : List α} (h : OutG cs T m base w v n xs) (h0 : 0 < n) : ∃ g cap, v = .slice (some ⟨g, 0, none⟩) n cap ∧ base ≤ g ∧ g < w.heap.size ∧ n ≤ cap ∧ ∀ j, w.frozen? ⟨g, j, none⟩ = false := by
  rcases h.2.2 with ⟨_, h1⟩ | ⟨g, cap, cur, rfl, hb, hg, hn, _⟩
  · omega
  · exact ⟨g, cap, rfl, hb, (Array.getElem?_eq_some_iff.1 hg).1, hn, fun j => by simp [World.frozen?, hg]⟩
set_option maxRecDepth 100000 in
set_option maxHeartbeats 4000000 in
theorem order48_any {A : Option Addr} {n c : Nat} {l : List SecS} (x y : Nat) (w : World) (hx : x < 256) (hy : y < 256) (hn : l.length = n) (hc : n ≤ c) (hm : n ≤ 9223372036854775807) (hz : ∀ s ∈ l, s.big) (hr : Row w A (flatG scells l)) (hg : Gl w) :
    Calls Tryz.prog 5 #[.slice A n c, .int .u8 (x : Int), .int .u8 (y : Int)] w fun e w' => e = .returned (.bool true) ∧ Below w.heap.size w w' := by
  have hs := St.refl hg
  have AW := awake48
  have KG := great48 (A := A) (c := c) hn hm hz
  have HR := Lib.hid hr
  obtain ⟨t, ht⟩ : ∃ t, greatB l = t := ⟨_, rfl⟩
  rw [ht] at KG
  cases t with
  | true =>
    clear ht hn hm hz hr hc hx hy
    go_enter Tryz.func5, Tryz.ntmps5
    go_wp2_with fail
    refine KG.step hs HR.out ?_
    intro w1 hs _
    go_wp2_with fail
    refine AW.step hs ?_
    intro wa hs _
    go_wp2_with fail
    go_ret
    exact ⟨rfl, hs.2⟩
  | false =>
    by_cases h0 : n = 0
    · have q : ((n : Int) == 0) = true := by rw [h0]; rfl
      clear ht hn hm hz hr hc hx hy h0
      go_enter Tryz.func5, Tryz.ntmps5
      go_wp2_with fail
      refine KG.step hs HR.out ?_
      intro w1 hs _
      go_wp2_with fail
      refine AW.step hs ?_
      intro wa hs _
      go_wp2_with fail
      go_ret
      exact ⟨rfl, hs.2⟩
    have q0 : ((n : Int) == 0) = false := by rw [beq_eq_false_iff_ne]; omega
    have hl : 32 < n ∨ FewS 12 l := by have := greatB_not ht; rwa [hn] at this
    have hn34 : n ≤ 34 := by
      unfold greatB at ht
      rw [hn] at ht
      refine Decidable.byContradiction fun h => ?_
      rw [if_pos (by omega)] at ht
      cases ht
    have hm1 : ((x : Int)).tmod ((n : Int)) = ((x % n : Nat) : Int) := mod_u8 _ _
    have hm2 : ((y : Int)).tmod ((n : Int)) = ((y % n : Nat) : Int) := mod_u8 _ _
    have hi : x % n < n := Nat.mod_lt _ (by omega)
    have hj : y % n < n := Nat.mod_lt _ (by omega)
    generalize x % n = i at *
    generalize y % n = j at *
    obtain ⟨d, hd⟩ : ∃ d, l[i]? = some d := ⟨l[i]'(by omega), by simp⟩
    obtain ⟨e', he'⟩ : ∃ d, l[j]? = some d := ⟨l[j]'(by omega), by simp⟩
    have HD := Lib.hid hd
    have HE := Lib.hid he'
    have HN := Lib.hid hn
    have HL := Lib.hid hl
    clear ht hm hz hr hn hl hd he' h0
    go_enter Tryz.func5, Tryz.ntmps5
    go_wp2_with fail
    refine KG.step hs HR.out ?_
    intro w1 hs0 _
    go_wp2_with fail
    go_quiet (fail)
    go_wp2_with fail
    refine (cloneS (A := A) (c := c) HN.out (by omega) _ (HR.out.on (hs0.drewN _).2)).mono ?_
    rintro e w2 ⟨v, rfl, ho, hb2⟩
    obtain ⟨g, cap, rfl, hgb, hgl, hcap, hfz⟩ := ho.slice (by omega)
    have hs := (hs0.drewN _).on hb2
    have HO := Lib.hid ho
    clear ho hb2
    go_wp2_with fail
    obtain ⟨f0, f1, f2, f3, f4, f5, f6, f7, f8⟩ := d
    obtain ⟨e0, e1, e2, e3, e4, e5, e6, e7, e8⟩ := e'
    have xk := own_at scells_len (by decide) HO.out.row0 HD.out
    have yk := own_at scells_len (by decide) HO.out.row0 HE.out
    have x0 : w2.cell? ⟨g, i * 9, none⟩ = some (.string f0) := xk 0 _ rfl
    have y0 : w2.cell? ⟨g, j * 9, none⟩ = some (.string e0) := yk 0 _ rfl
    have x1 : w2.cell? ⟨g, i * 9 + 1, none⟩ = some (.string f1) := xk 1 _ rfl
    have y1 : w2.cell? ⟨g, j * 9 + 1, none⟩ = some (.string e1) := yk 1 _ rfl
    have x2 : w2.cell? ⟨g, i * 9 + 2, none⟩ = some (.string f2) := xk 2 _ rfl
    have y2 : w2.cell? ⟨g, j * 9 + 2, none⟩ = some (.string e2) := yk 2 _ rfl
    have x3 : w2.cell? ⟨g, i * 9 + 3, none⟩ = some (.string f3) := xk 3 _ rfl
    have y3 : w2.cell? ⟨g, j * 9 + 3, none⟩ = some (.string e3) := yk 3 _ rfl
    have x4 : w2.cell? ⟨g, i * 9 + 4, none⟩ = some (.string f4) := xk 4 _ rfl
    have y4 : w2.cell? ⟨g, j * 9 + 4, none⟩ = some (.string e4) := yk 4 _ rfl
    have x5 : w2.cell? ⟨g, i * 9 + 5, none⟩ = some (.string f5) := xk 5 _ rfl
    have y5 : w2.cell? ⟨g, j * 9 + 5, none⟩ = some (.string e5) := yk 5 _ rfl
    have x6 : w2.cell? ⟨g, i * 9 + 6, none⟩ = some (.string f6) := xk 6 _ rfl
    have y6 : w2.cell? ⟨g, j * 9 + 6, none⟩ = some (.string e6) := yk 6 _ rfl
    have x7 : w2.cell? ⟨g, i * 9 + 7, none⟩ = some (.string f7) := xk 7 _ rfl
    have y7 : w2.cell? ⟨g, j * 9 + 7, none⟩ = some (.string e7) := yk 7 _ rfl
    have x8 : w2.cell? ⟨g, i * 9 + 8, none⟩ = some (.string f8) := xk 8 _ rfl
    have y8 : w2.cell? ⟨g, j * 9 + 8, none⟩ = some (.string e8) := yk 8 _ rfl
    have h0 : (w2.setCell ⟨g, i * 9, none⟩ (.string e0)).cell? ⟨g, j * 9, none⟩ = some (.string e0) := cells_same (cs := scells ⟨e0, e1, e2, e3, e4, e5, e6, e7, e8⟩) (m := 9) yk (fun t ht => by have hh : t < (scells ⟨f0, f1, f2, f3, f4, f5, f6, f7, f8⟩).length := ht; rw [xk t _ (List.getElem?_eq_getElem hh)]; rfl) rfl (t := 0) rfl
    have h1 : ((w2.setCell ⟨g, i * 9, none⟩ (.string e0)).setCell ⟨g, i * 9 + 1, none⟩ (.string e1)).cell? ⟨g, j * 9 + 1, none⟩ = some (.string e1) := cells_same (cs := scells ⟨e0, e1, e2, e3, e4, e5, e6, e7, e8⟩) (m := 9) yk (fun t ht => by have hh : t < (scells ⟨f0, f1, f2, f3, f4, f5, f6, f7, f8⟩).length := ht; rw [xk t _ (List.getElem?_eq_getElem hh)]; rfl) rfl (t := 1) rfl
    have h2 : (((w2.setCell ⟨g, i * 9, none⟩ (.string e0)).setCell ⟨g, i * 9 + 1, none⟩ (.string e1)).setCell ⟨g, i * 9 + 2, none⟩ (.string e2)).cell? ⟨g, j * 9 + 2, none⟩ = some (.string e2) := cells_same (cs := scells ⟨e0, e1, e2, e3, e4, e5, e6, e7, e8⟩) (m := 9) yk (fun t ht => by have hh : t < (scells ⟨f0, f1, f2, f3, f4, f5, f6, f7, f8⟩).length := ht; rw [xk t _ (List.getElem?_eq_getElem hh)]; rfl) rfl (t := 2) rfl
    have h3 : ((((w2.setCell ⟨g, i * 9, none⟩ (.string e0)).setCell ⟨g, i * 9 + 1, none⟩ (.string e1)).setCell ⟨g, i * 9 + 2, none⟩ (.string e2)).setCell ⟨g, i * 9 + 3, none⟩ (.string e3)).cell? ⟨g, j * 9 + 3, none⟩ = some (.string e3) := cells_same (cs := scells ⟨e0, e1, e2, e3, e4, e5, e6, e7, e8⟩) (m := 9) yk (fun t ht => by have hh : t < (scells ⟨f0, f1, f2, f3, f4, f5, f6, f7, f8⟩).length := ht; rw [xk t _ (List.getElem?_eq_getElem hh)]; rfl) rfl (t := 3) rfl
    have h4 : (((((w2.setCell ⟨g, i * 9, none⟩ (.string e0)).setCell ⟨g, i * 9 + 1, none⟩ (.string e1)).setCell ⟨g, i * 9 + 2, none⟩ (.string e2)).setCell ⟨g, i * 9 + 3, none⟩ (.string e3)).setCell ⟨g, i * 9 + 4, none⟩ (.string e4)).cell? ⟨g, j * 9 + 4, none⟩ = some (.string e4) := cells_same (cs := scells ⟨e0, e1, e2, e3, e4, e5, e6, e7, e8⟩) (m := 9) yk (fun t ht => by have hh : t < (scells ⟨f0, f1, f2, f3, f4, f5, f6, f7, f8⟩).length := ht; rw [xk t _ (List.getElem?_eq_getElem hh)]; rfl) rfl (t := 4) rfl
    have h5 : ((((((w2.setCell ⟨g, i * 9, none⟩ (.string e0)).setCell ⟨g, i * 9 + 1, none⟩ (.string e1)).setCell ⟨g, i * 9 + 2, none⟩ (.string e2)).setCell ⟨g, i * 9 + 3, none⟩ (.string e3)).setCell ⟨g, i * 9 + 4, none⟩ (.string e4)).setCell ⟨g, i * 9 + 5, none⟩ (.string e5)).cell? ⟨g, j * 9 + 5, none⟩ = some (.string e5) := cells_same (cs := scells ⟨e0, e1, e2, e3, e4, e5, e6, e7, e8⟩) (m := 9) yk (fun t ht => by have hh : t < (scells ⟨f0, f1, f2, f3, f4, f5, f6, f7, f8⟩).length := ht; rw [xk t _ (List.getElem?_eq_getElem hh)]; rfl) rfl (t := 5) rfl
    have h6 : (((((((w2.setCell ⟨g, i * 9, none⟩ (.string e0)).setCell ⟨g, i * 9 + 1, none⟩ (.string e1)).setCell ⟨g, i * 9 + 2, none⟩ (.string e2)).setCell ⟨g, i * 9 + 3, none⟩ (.string e3)).setCell ⟨g, i * 9 + 4, none⟩ (.string e4)).setCell ⟨g, i * 9 + 5, none⟩ (.string e5)).setCell ⟨g, i * 9 + 6, none⟩ (.string e6)).cell? ⟨g, j * 9 + 6, none⟩ = some (.string e6) := cells_same (cs := scells ⟨e0, e1, e2, e3, e4, e5, e6, e7, e8⟩) (m := 9) yk (fun t ht => by have hh : t < (scells ⟨f0, f1, f2, f3, f4, f5, f6, f7, f8⟩).length := ht; rw [xk t _ (List.getElem?_eq_getElem hh)]; rfl) rfl (t := 6) rfl
    have h7 : ((((((((w2.setCell ⟨g, i * 9, none⟩ (.string e0)).setCell ⟨g, i * 9 + 1, none⟩ (.string e1)).setCell ⟨g, i * 9 + 2, none⟩ (.string e2)).setCell ⟨g, i * 9 + 3, none⟩ (.string e3)).setCell ⟨g, i * 9 + 4, none⟩ (.string e4)).setCell ⟨g, i * 9 + 5, none⟩ (.string e5)).setCell ⟨g, i * 9 + 6, none⟩ (.string e6)).setCell ⟨g, i * 9 + 7, none⟩ (.string e7)).cell? ⟨g, j * 9 + 7, none⟩ = some (.string e7) := cells_same (cs := scells ⟨e0, e1, e2, e3, e4, e5, e6, e7, e8⟩) (m := 9) yk (fun t ht => by have hh : t < (scells ⟨f0, f1, f2, f3, f4, f5, f6, f7, f8⟩).length := ht; rw [xk t _ (List.getElem?_eq_getElem hh)]; rfl) rfl (t := 7) rfl
    have h8 : (((((((((w2.setCell ⟨g, i * 9, none⟩ (.string e0)).setCell ⟨g, i * 9 + 1, none⟩ (.string e1)).setCell ⟨g, i * 9 + 2, none⟩ (.string e2)).setCell ⟨g, i * 9 + 3, none⟩ (.string e3)).setCell ⟨g, i * 9 + 4, none⟩ (.string e4)).setCell ⟨g, i * 9 + 5, none⟩ (.string e5)).setCell ⟨g, i * 9 + 6, none⟩ (.string e6)).setCell ⟨g, i * 9 + 7, none⟩ (.string e7)).setCell ⟨g, i * 9 + 8, none⟩ (.string e8)).cell? ⟨g, j * 9 + 8, none⟩ = some (.string e8) := cells_same (cs := scells ⟨e0, e1, e2, e3, e4, e5, e6, e7, e8⟩) (m := 9) yk (fun t ht => by have hh : t < (scells ⟨f0, f1, f2, f3, f4, f5, f6, f7, f8⟩).length := ht; rw [xk t _ (List.getElem?_eq_getElem hh)]; rfl) rfl (t := 8) rfl
    clear xk yk
    go_region
    obtain ⟨W3, hW3⟩ : ∃ W, W = ((w2.setCells g (i * 9) (scells ⟨e0, e1, e2, e3, e4, e5, e6, e7, e8⟩)).setCells g (j * 9) (scells ⟨f0, f1, f2, f3, f4, f5, f6, f7, f8⟩)).drew := ⟨_, rfl⟩
    have hGW3 : ((((((((((((((((((w2.setCell ⟨g, i * 9, none⟩ (.string e0)).setCell ⟨g, i * 9 + 1, none⟩ (.string e1)).setCell ⟨g, i * 9 + 2, none⟩ (.string e2)).setCell ⟨g, i * 9 + 3, none⟩ (.string e3)).setCell ⟨g, i * 9 + 4, none⟩ (.string e4)).setCell ⟨g, i * 9 + 5, none⟩ (.string e5)).setCell ⟨g, i * 9 + 6, none⟩ (.string e6)).setCell ⟨g, i * 9 + 7, none⟩ (.string e7)).setCell ⟨g, i * 9 + 8, none⟩ (.string e8)).setCell ⟨g, j * 9, none⟩ (.string f0)).setCell ⟨g, j * 9 + 1, none⟩ (.string f1)).setCell ⟨g, j * 9 + 2, none⟩ (.string f2)).setCell ⟨g, j * 9 + 3, none⟩ (.string f3)).setCell ⟨g, j * 9 + 4, none⟩ (.string f4)).setCell ⟨g, j * 9 + 5, none⟩ (.string f5)).setCell ⟨g, j * 9 + 6, none⟩ (.string f6)).setCell ⟨g, j * 9 + 7, none⟩ (.string f7)).setCell ⟨g, j * 9 + 8, none⟩ (.string f8)).drew = W3 := hW3.symm
    rw [hGW3]
    clear hGW3
    have HSW := OutG.swap scells_len HO.out HD.out HE.out
    have HO3 : Hid (OutG scells 54 9 (w1.drewN nq).heap.size W3 (.slice (some ⟨g, 0, none⟩) n cap) n (swapL l i j)) := by show OutG _ _ _ _ _ _ _ _; rw [hW3]; exact HSW.1.drew
    have hg0 : w.heap.size ≤ g := Nat.le_trans (hs0.drewN nq).2.size hgb
    have hs3 : St w W3 := ⟨hs.1, by rw [hW3]; exact (hs.2.grown HSW.2 hs.2.size (fun k hk => by injection hk with hk; omega)).drew⟩
    have HI : Hid (i < l.length ∧ j < l.length) := ⟨by rw [HN.out]; exact hi, by rw [HN.out]; exact hj⟩
    have HLS : Hid ((swapL l i j).length = n) := by show _ = _; rw [swapL_len]; exact HN.out
    have hl2 : 32 < n ∨ FewS 12 (swapL l i j) := HL.out.imp id (few_swap HI.out.1 HI.out.2)
    have KP1 := Lib.hid (fun w hg hr => Parts_any (A := A) (c := c) HN.out HL.out hc w hg hr)
    have KP2 := Lib.hid (fun A w hg hr => Parts_any (A := A) (c := cap) HLS.out hl2 hcap w hg hr)
    have HCS := Lib.hid (chk_swap (l := l) HI.out.1 HI.out.2)
    have HRG := Lib.hid (HO3.out.row0)
    clear HSW hW3 hs0 x0 x1 x2 x3 x4 x5 x6 x7 x8 y0 y1 y2 y3 y4 y5 y6 y7 y8 h0 h1 h2 h3 h4 h5 h6 h7 h8 HO hfz hgl hgb hg0 hl2 HD HE HO3 hs
    by_cases he : chkS l = 0
    · have hf : FewS 12 l := by
        rcases HL.out with h32 | hf
        · unfold chkS at he; rw [if_neg (by have := HN.out; omega), if_pos (by have := HN.out; omega)] at he; cases he
        · exact hf
      have he2 := HCS.out.2 he
      have e1 : prtsR l = partsL l := if_pos he
      have e2 : prtsR (swapL l i j) = partsL (swapL l i j) := if_pos he2
      have hlen1 : (partsL l).length = n := by unfold partsL; rw [List.length_map]; exact HN.out
      have hlen2 : (partsL (swapL l i j)).length = n := by unfold partsL; rw [List.length_map]; exact HLS.out
      rw [e1, he, hlen1] at KP1
      rw [e2, he2, hlen2] at KP2
      obtain ⟨p, hp⟩ : ∃ p, (partsL (swapL l i j))[i]? = some p := ⟨_, List.getElem?_eq_getElem (by omega)⟩
      obtain ⟨q', hq'⟩ : ∃ p, (partsL (swapL l i j))[j]? = some p := ⟨_, List.getElem?_eq_getElem (by omega)⟩
      have HD := Lib.hid hp
      have HE := Lib.hid hq'
      have HSL : Hid (swapL (partsL (swapL l i j)) i j = partsL l) := parts_swap HI.out.1 HI.out.2
      have HL1 := Lib.hid hlen1
      have HL2 := Lib.hid hlen2
      clear he he2 e1 e2 hlen1 hlen2 hp hq' hf
      go_wp2_with fail
      refine (KP1.out _ hs3.gl (HR.out.on hs3.2)).mono ?_
      rintro e w4 ⟨v1, rfl, ho1, hb4⟩
      obtain ⟨A1, c1, hv1, hr1⟩ := ho1.row
      subst hv1
      have hs4 := hs3.on hb4
      have HR1 := Lib.hid hr1
      have HG4 := Lib.hid (HRG.out.on hb4)
      clear hr1 ho1 hb4 hs3 HRG KP1
      go_wp2_with fail
      refine (KP2.out _ _ hs4.gl HG4.out).mono ?_
      rintro e w5 ⟨v2, rfl, ho2, hb5⟩
      obtain ⟨A2, c2, hv2, hr2⟩ := ho2.row
      subst hv2
      have hs5 := hs4.on hb5
      have HR5 := Lib.hid (HR1.out.on hb5)
      have HR2 := Lib.hid hr2
      clear hr2 ho2 hb5 hs4 HG4 KP2 HR1
      have q1 : ((n : Int) != (n : Int)) = false := by simp
      go_wp2_with fail
      refine (cloneP (A := A2) (c := c2) HL2.out (by omega) w5 HR2.out).mono ?_
      rintro e w6 ⟨v3, rfl, ho3, hb6⟩
      obtain ⟨gz, cz, rfl, hgz, hgz2, hcz, hfz⟩ := ho3.slice (by omega)
      have hs6 := hs5.on hb6
      have HR6 := Lib.hid (HR5.out.on hb6)
      have HO6 := Lib.hid ho3
      have hgw : w.heap.size ≤ gz := Nat.le_trans hs5.2.size hgz
      clear ho3 HR2
      go_wp2_with fail
      obtain ⟨p0, p1, p2, p3, p4, p5, p6⟩ := p
      obtain ⟨r0, r1, r2, r3, r4, r5, r6⟩ := q'
      have xk := own_at pcells_len (by decide) HO6.out.row0 HD.out
      have yk := own_at pcells_len (by decide) HO6.out.row0 HE.out
      have x0 : w6.cell? ⟨gz, i * 7, none⟩ = some (.string p0) := xk 0 _ rfl
      have y0 : w6.cell? ⟨gz, j * 7, none⟩ = some (.string r0) := yk 0 _ rfl
      have x1 : w6.cell? ⟨gz, i * 7 + 1, none⟩ = some (.string p1) := xk 1 _ rfl
      have y1 : w6.cell? ⟨gz, j * 7 + 1, none⟩ = some (.string r1) := yk 1 _ rfl
      have x2 : w6.cell? ⟨gz, i * 7 + 2, none⟩ = some (.string p2) := xk 2 _ rfl
      have y2 : w6.cell? ⟨gz, j * 7 + 2, none⟩ = some (.string r2) := yk 2 _ rfl
      have x3 : w6.cell? ⟨gz, i * 7 + 3, none⟩ = some (.string p3) := xk 3 _ rfl
      have y3 : w6.cell? ⟨gz, j * 7 + 3, none⟩ = some (.string r3) := yk 3 _ rfl
      have x4 : w6.cell? ⟨gz, i * 7 + 4, none⟩ = some (.string p4) := xk 4 _ rfl
      have y4 : w6.cell? ⟨gz, j * 7 + 4, none⟩ = some (.string r4) := yk 4 _ rfl
      have x5 : w6.cell? ⟨gz, i * 7 + 5, none⟩ = some (.string p5) := xk 5 _ rfl
      have y5 : w6.cell? ⟨gz, j * 7 + 5, none⟩ = some (.string r5) := yk 5 _ rfl
      have x6 : w6.cell? ⟨gz, i * 7 + 6, none⟩ = some (.string p6) := xk 6 _ rfl
      have y6 : w6.cell? ⟨gz, j * 7 + 6, none⟩ = some (.string r6) := yk 6 _ rfl
      have h0 : (w6.setCell ⟨gz, i * 7, none⟩ (.string r0)).cell? ⟨gz, j * 7, none⟩ = some (.string r0) := cells_same (cs := pcells ⟨r0, r1, r2, r3, r4, r5, r6⟩) (m := 7) yk (fun t ht => by have hh : t < (pcells ⟨p0, p1, p2, p3, p4, p5, p6⟩).length := ht; rw [xk t _ (List.getElem?_eq_getElem hh)]; rfl) rfl (t := 0) rfl
      have h1 : ((w6.setCell ⟨gz, i * 7, none⟩ (.string r0)).setCell ⟨gz, i * 7 + 1, none⟩ (.string r1)).cell? ⟨gz, j * 7 + 1, none⟩ = some (.string r1) := cells_same (cs := pcells ⟨r0, r1, r2, r3, r4, r5, r6⟩) (m := 7) yk (fun t ht => by have hh : t < (pcells ⟨p0, p1, p2, p3, p4, p5, p6⟩).length := ht; rw [xk t _ (List.getElem?_eq_getElem hh)]; rfl) rfl (t := 1) rfl
      have h2 : (((w6.setCell ⟨gz, i * 7, none⟩ (.string r0)).setCell ⟨gz, i * 7 + 1, none⟩ (.string r1)).setCell ⟨gz, i * 7 + 2, none⟩ (.string r2)).cell? ⟨gz, j * 7 + 2, none⟩ = some (.string r2) := cells_same (cs := pcells ⟨r0, r1, r2, r3, r4, r5, r6⟩) (m := 7) yk (fun t ht => by have hh : t < (pcells ⟨p0, p1, p2, p3, p4, p5, p6⟩).length := ht; rw [xk t _ (List.getElem?_eq_getElem hh)]; rfl) rfl (t := 2) rfl
      have h3 : ((((w6.setCell ⟨gz, i * 7, none⟩ (.string r0)).setCell ⟨gz, i * 7 + 1, none⟩ (.string r1)).setCell ⟨gz, i * 7 + 2, none⟩ (.string r2)).setCell ⟨gz, i * 7 + 3, none⟩ (.string r3)).cell? ⟨gz, j * 7 + 3, none⟩ = some (.string r3) := cells_same (cs := pcells ⟨r0, r1, r2, r3, r4, r5, r6⟩) (m := 7) yk (fun t ht => by have hh : t < (pcells ⟨p0, p1, p2, p3, p4, p5, p6⟩).length := ht; rw [xk t _ (List.getElem?_eq_getElem hh)]; rfl) rfl (t := 3) rfl
      have h4 : (((((w6.setCell ⟨gz, i * 7, none⟩ (.string r0)).setCell ⟨gz, i * 7 + 1, none⟩ (.string r1)).setCell ⟨gz, i * 7 + 2, none⟩ (.string r2)).setCell ⟨gz, i * 7 + 3, none⟩ (.string r3)).setCell ⟨gz, i * 7 + 4, none⟩ (.string r4)).cell? ⟨gz, j * 7 + 4, none⟩ = some (.string r4) := cells_same (cs := pcells ⟨r0, r1, r2, r3, r4, r5, r6⟩) (m := 7) yk (fun t ht => by have hh : t < (pcells ⟨p0, p1, p2, p3, p4, p5, p6⟩).length := ht; rw [xk t _ (List.getElem?_eq_getElem hh)]; rfl) rfl (t := 4) rfl
      have h5 : ((((((w6.setCell ⟨gz, i * 7, none⟩ (.string r0)).setCell ⟨gz, i * 7 + 1, none⟩ (.string r1)).setCell ⟨gz, i * 7 + 2, none⟩ (.string r2)).setCell ⟨gz, i * 7 + 3, none⟩ (.string r3)).setCell ⟨gz, i * 7 + 4, none⟩ (.string r4)).setCell ⟨gz, i * 7 + 5, none⟩ (.string r5)).cell? ⟨gz, j * 7 + 5, none⟩ = some (.string r5) := cells_same (cs := pcells ⟨r0, r1, r2, r3, r4, r5, r6⟩) (m := 7) yk (fun t ht => by have hh : t < (pcells ⟨p0, p1, p2, p3, p4, p5, p6⟩).length := ht; rw [xk t _ (List.getElem?_eq_getElem hh)]; rfl) rfl (t := 5) rfl
      have h6 : (((((((w6.setCell ⟨gz, i * 7, none⟩ (.string r0)).setCell ⟨gz, i * 7 + 1, none⟩ (.string r1)).setCell ⟨gz, i * 7 + 2, none⟩ (.string r2)).setCell ⟨gz, i * 7 + 3, none⟩ (.string r3)).setCell ⟨gz, i * 7 + 4, none⟩ (.string r4)).setCell ⟨gz, i * 7 + 5, none⟩ (.string r5)).setCell ⟨gz, i * 7 + 6, none⟩ (.string r6)).cell? ⟨gz, j * 7 + 6, none⟩ = some (.string r6) := cells_same (cs := pcells ⟨r0, r1, r2, r3, r4, r5, r6⟩) (m := 7) yk (fun t ht => by have hh : t < (pcells ⟨p0, p1, p2, p3, p4, p5, p6⟩).length := ht; rw [xk t _ (List.getElem?_eq_getElem hh)]; rfl) rfl (t := 6) rfl
      clear xk yk
      go_region
      obtain ⟨W7, hW7⟩ : ∃ W, W = ((w6.setCells gz (i * 7) (pcells ⟨r0, r1, r2, r3, r4, r5, r6⟩)).setCells gz (j * 7) (pcells ⟨p0, p1, p2, p3, p4, p5, p6⟩)).drew := ⟨_, rfl⟩
      have hGW7 : ((((((((((((((w6.setCell ⟨gz, i * 7, none⟩ (.string r0)).setCell ⟨gz, i * 7 + 1, none⟩ (.string r1)).setCell ⟨gz, i * 7 + 2, none⟩ (.string r2)).setCell ⟨gz, i * 7 + 3, none⟩ (.string r3)).setCell ⟨gz, i * 7 + 4, none⟩ (.string r4)).setCell ⟨gz, i * 7 + 5, none⟩ (.string r5)).setCell ⟨gz, i * 7 + 6, none⟩ (.string r6)).setCell ⟨gz, j * 7, none⟩ (.string p0)).setCell ⟨gz, j * 7 + 1, none⟩ (.string p1)).setCell ⟨gz, j * 7 + 2, none⟩ (.string p2)).setCell ⟨gz, j * 7 + 3, none⟩ (.string p3)).setCell ⟨gz, j * 7 + 4, none⟩ (.string p4)).setCell ⟨gz, j * 7 + 5, none⟩ (.string p5)).setCell ⟨gz, j * 7 + 6, none⟩ (.string p6)).drew = W7 := hW7.symm
      rw [hGW7]
      clear hGW7
      have HSW := OutG.swap pcells_len HO6.out HD.out HE.out
      have hb7 : Below w5.heap.size w5 W7 := by
        rw [hW7]
        exact (((Below.refl _ w5).trans hb6).grown HSW.2 hb6.size (fun k hk => by injection hk with hk; omega)).drew
      have HO7 : Hid (OutG pcells 52 7 w5.heap.size W7 (.slice (some ⟨gz, 0, none⟩) n cz) n (swapL (partsL (swapL l i j)) i j)) := by show OutG _ _ _ _ _ _ _ _; rw [hW7]; exact HSW.1.drew
      rw [HSL.out] at HO7
      have hs7 : St w W7 := hs5.on hb7
      have HEQ : Hid (Row W7 A1 (flatG pcells (partsL l)) ∧ Row W7 (some ⟨gz, 0, none⟩) (flatG pcells (partsL l))) := ⟨HR5.out.on hb7, HO7.out.row0⟩
      have KE := equalP (A := A1) (A' := some ⟨gz, 0, none⟩) (c := c1) (c' := cz) HL1.out (by omega)
      clear HSW hW7 x0 x1 x2 x3 x4 x5 x6 y0 y1 y2 y3 y4 y5 y6 h0 h1 h2 h3 h4 h5 h6 hfz HO6 HD HE hs5 hs6
      go_wp2_with fail
      refine KE.step hs7 HEQ.out ?_
      intro w8 hs _
      go_wp2_with fail
      refine AW.step hs ?_
      intro wa hs _
      go_wp2_with fail
      go_ret
      exact ⟨rfl, hs.2⟩
    · have he2 : chkS (swapL l i j) ≠ 0 := fun h => he (HCS.out.1 h)
      have q1 : (chkS l != 0) = true := by simpa using he
      have q2 : (chkS l == 0) = false := by simpa using he
      have q3 : (chkS (swapL l i j) == 0) = false := by simpa using he2
      have q4 : (chkS (swapL l i j) != 0) = true := by simpa using he2
      clear he he2 HCS
      generalize chkS l = c1 at *
      generalize chkS (swapL l i j) = c2 at *
      go_wp2_with fail
      refine (KP1.out _ hs3.gl (HR.out.on hs3.2)).mono ?_
      rintro e w4 ⟨v1, rfl, ho1, hb4⟩
      have hs4 := hs3.on hb4
      have HG4 := Lib.hid (HRG.out.on hb4)
      clear ho1 hb4 hs3 HRG KP1
      go_wp2_with fail
      refine (KP2.out _ _ hs4.gl HG4.out).mono ?_
      rintro e w5 ⟨v2, rfl, ho2, hb5⟩
      have hs5 := hs4.on hb5
      clear ho2 hb5 hs4 HG4 KP2
      go_wp2_with fail
      refine AW.step hs5 ?_
      intro wa hs _
      go_wp2_with fail
      go_ret
      exact ⟨rfl, hs.2⟩
end Go.Proofs.YtndkglmokhndnaaGreatDoor
