/- Parts of years: the names of the conventions; the walk of DaycountNames: for every input it returns true. Condition: the library's table and error lie as the program's text lays them. -/
import Derived.Test.YtndkglmokhndnaaGreatDoorDh
import Derived.Test.YtndkglmokhndnaaGreatDoorAs
import Derived.Test.YtndkglmokhndnaaGreatDoorFc
import Derived.Test.YtndkglmokhndnaaGreatDoorRunR
namespace Go.Proofs.YtndkglmokhndnaaGreatDoor
open Go.RowKit Go.Shelf Dec QQ

def nmL : List ByteArray := [⟨#[]⟩, ⟨#[97, 99, 116, 47, 51, 54, 48]⟩, ⟨#[97, 99, 116, 47, 51, 54, 53]⟩, ⟨#[51, 48, 47, 51, 54, 48]⟩, ⟨#[51, 48, 101, 47, 51, 54, 48]⟩, ⟨#[97, 99, 116, 47, 97, 99, 116]⟩]
/-- the name of a convention -/
def nmR (c : Int) : ByteArray := if 1 ≤ c ∧ c ≤ 5 then nmL.getD c.toNat ⟨#[]⟩ else ⟨#[]⟩
def nmE (c : Int) : Int := if 1 ≤ c ∧ c ≤ 5 then 0 else 2
/-- the convention of a name -/
def pnR (s : ByteArray) : Int := if eqB s ⟨#[97, 99, 116, 47, 51, 54, 48]⟩ then 1 else if eqB s ⟨#[97, 99, 116, 47, 51, 54, 53]⟩ then 2 else if eqB s ⟨#[51, 48, 47, 51, 54, 48]⟩ then 3 else if eqB s ⟨#[51, 48, 101, 47, 51, 54, 48]⟩ then 4 else if eqB s ⟨#[97, 99, 116, 47, 97, 99, 116]⟩ then 5 else 0
def pnE (s : ByteArray) : Int := if pnR s = 0 then 3 else 0
theorem pn_nm {c : Int} (h : 1 ≤ c ∧ c ≤ 5) : pnR (nmR c) = c := by
  have : c = 1 ∨ c = 2 ∨ c = 3 ∨ c = 4 ∨ c = 5 := by omega
  rcases this with rfl | rfl | rfl | rfl | rfl <;> decide +kernel
theorem pn_range (s : ByteArray) : 0 ≤ pnR s ∧ pnR s ≤ 5 := by
  unfold pnR
  repeat' split
  all_goals omega
theorem nm_pn {s : ByteArray} (h : pnR s ≠ 0) : nmR (pnR s) = s := by
  unfold pnR at h ⊢
  by_cases h1 : eqB s ⟨#[97, 99, 116, 47, 51, 54, 48]⟩ = true
  · rw [if_pos h1]
    exact (eqB_iff.1 h1).symm ▸ (by decide +kernel)
  by_cases h2 : eqB s ⟨#[97, 99, 116, 47, 51, 54, 53]⟩ = true
  · rw [if_neg h1, if_pos h2]
    exact (eqB_iff.1 h2).symm ▸ (by decide +kernel)
  by_cases h3 : eqB s ⟨#[51, 48, 47, 51, 54, 48]⟩ = true
  · rw [if_neg h1, if_neg h2, if_pos h3]
    exact (eqB_iff.1 h3).symm ▸ (by decide +kernel)
  by_cases h4 : eqB s ⟨#[51, 48, 101, 47, 51, 54, 48]⟩ = true
  · rw [if_neg h1, if_neg h2, if_neg h3, if_pos h4]
    exact (eqB_iff.1 h4).symm ▸ (by decide +kernel)
  by_cases h5 : eqB s ⟨#[97, 99, 116, 47, 97, 99, 116]⟩ = true
  · rw [if_neg h1, if_neg h2, if_neg h3, if_neg h4, if_pos h5]
    exact (eqB_iff.1 h5).symm ▸ (by decide +kernel)
  rw [if_neg h1, if_neg h2, if_neg h3, if_neg h4, if_neg h5] at h
  exact absurd rfl h
set_option maxRecDepth 100000 in
set_option maxHeartbeats 4000000 in
theorem names_any (w : World) : Calls Tryz.prog 127 #[] w fun e w' => e = .returned (.agg #[.string ⟨#[]⟩, .string ⟨#[97, 99, 116, 47, 51, 54, 48]⟩, .string ⟨#[97, 99, 116, 47, 51, 54, 53]⟩, .string ⟨#[51, 48, 47, 51, 54, 48]⟩, .string ⟨#[51, 48, 101, 47, 51, 54, 48]⟩, .string ⟨#[97, 99, 116, 47, 97, 99, 116]⟩]) ∧ Below w.heap.size w w' := by
  go_enter Tryz.func127, Tryz.ntmps127
  go_wp2_with fail
  have y : ∀ j v, (#[.string ⟨#[]⟩, .string ⟨#[97, 99, 116, 47, 51, 54, 48]⟩, .string ⟨#[97, 99, 116, 47, 51, 54, 53]⟩, .string ⟨#[51, 48, 47, 51, 54, 48]⟩, .string ⟨#[51, 48, 101, 47, 51, 54, 48]⟩, .string ⟨#[97, 99, 116, 47, 97, 99, 116]⟩] : Array Value)[j]? = some v → _ := fun j v h => (Bx.new w #[.string ⟨#[]⟩, .string ⟨#[97, 99, 116, 47, 51, 54, 48]⟩, .string ⟨#[97, 99, 116, 47, 51, 54, 53]⟩, .string ⟨#[51, 48, 47, 51, 54, 48]⟩, .string ⟨#[51, 48, 101, 47, 51, 54, 48]⟩, .string ⟨#[97, 99, 116, 47, 97, 99, 116]⟩] 155).cell (i := j) (v := v) h
  have hbe : Below w.heap.size w (w.alloc (.cells #[.string ⟨#[]⟩, .string ⟨#[97, 99, 116, 47, 51, 54, 48]⟩, .string ⟨#[97, 99, 116, 47, 51, 54, 53]⟩, .string ⟨#[51, 48, 47, 51, 54, 48]⟩, .string ⟨#[51, 48, 101, 47, 51, 54, 48]⟩, .string ⟨#[97, 99, 116, 47, 97, 99, 116]⟩] 155)) := (Below.refl _ _).alloc (Nat.le_refl _) _
  have y0 := y 0 _ rfl
  have y1 := y 1 _ rfl
  have y2 := y 2 _ rfl
  have y3 := y 3 _ rfl
  have y4 := y 4 _ rfl
  have y5 := y 5 _ rfl
  exact bodyPost_ret (v := .agg #[.string ⟨#[]⟩, .string ⟨#[97, 99, 116, 47, 51, 54, 48]⟩, .string ⟨#[97, 99, 116, 47, 51, 54, 53]⟩, .string ⟨#[51, 48, 47, 51, 54, 48]⟩, .string ⟨#[51, 48, 101, 47, 51, 54, 48]⟩, .string ⟨#[97, 99, 116, 47, 97, 99, 116]⟩]) (by simp [results, Tryz.results127, go_sem, y0, y1, y2, y3, y4, y5]) rfl ⟨rfl, hbe⟩
set_option maxRecDepth 100000 in
set_option maxHeartbeats 4000000 in
theorem indexS {A : Option Addr} {n c : Nat} {l : List ByteArray} {s : ByteArray} (hn : l.length = n) (hm : n ≤ 1000000) : RetI (fun w => Row w A (l.map sv)) 129 #[.slice A n c, .string s] (.int .i64 (idxI (fun t => eqB s t) l)) := by
  intro w hg hi
  have hs := St.refl hg
  have HN := Lib.hid hn
  have HI := Lib.hid hi
  obtain ⟨v, hv⟩ : ∃ v, idxI (fun t => eqB s t) l = v := ⟨_, rfl⟩
  rw [hv]
  have HV := Lib.hid hv
  clear hn hi hv
  go_enter Tryz.func129, Tryz.ntmps129
  go_wp2_with fail
  go_loopw [8] (fun s' wr => ∃ k : Nat, k ≤ n ∧ s' = .int .i64 (k : Int) ∧ St w wr ∧ Hid (∀ i, i < k → ∀ t, l[i]? = some t → eqB s t = false)) (fun s _ => (n - intOf s).toNat)
  case atStart => exact ⟨0, by omega, rfl, hs, fun i h => by omega⟩
  case round =>
    obtain ⟨k, hk, rfl, hs, HP⟩ := hrel
    by_cases hkn : k = n
    · subst hkn
      have q : decide ((k : Int) < (k : Int)) = false := decide_eq_false (by omega)
      have hv : v = -1 := by rw [← HV.out]; exact idxI_none (fun i hi t ht => HP.out i (by rw [HN.out] at hi; exact hi) t ht)
      subst hv
      go_wp2_with fail
      go_ret
      exact ⟨rfl, hs.2⟩
    · have hkl : k < n := by omega
      have q : decide ((k : Int) < (n : Int)) = true := decide_eq_true (by omega)
      have qn : decide (k < n) = true := decide_eq_true hkl
      obtain ⟨d, hd⟩ : ∃ d, l[k]? = some d := ⟨l[k]'(by rw [HN.out]; exact hkl), by simp⟩
      obtain ⟨b, o, hA, hB, hc⟩ := (HI.out.on hs.2) k (.string d) (by rw [List.getElem?_map, hd]; rfl)
      subst hA
      have HD := Lib.hid hd
      clear hd hkn
      obtain ⟨t, ht⟩ : ∃ t, (s.toList == d.toList) = t := ⟨_, rfl⟩
      have HT : Hid (eqB s d = t) := ht
      cases t with
      | true =>
        have hv : v = (k : Int) := by rw [← HV.out]; exact idxI_at HD.out HT.out HP.out
        subst hv
        go_wp2_with fail
        go_ret
        exact ⟨rfl, hs.2⟩
      | false =>
        go_wp2_with fail
        go_roundw
        case rel =>
          refine ⟨k + 1, by omega, by go_num, hs, fun i hi t ht => ?_⟩
          by_cases e : i = k
          · subst e
            rw [HD.out] at ht
            cases ht
            exact HT.out
          · exact HP.out i (by omega) t ht
        case measure => simp [intOf]; omega
theorem idx_pn (s : ByteArray) : (0 < idxI (fun t => eqB s t) nmL ∧ idxI (fun t => eqB s t) nmL = pnR s) ∨ (idxI (fun t => eqB s t) nmL ≤ 0 ∧ pnR s = 0) := by
  by_cases h0 : eqB s ⟨#[]⟩ = true
  · right
    have := eqB_iff.1 h0
    subst this
    decide +kernel
  by_cases h1 : eqB s ⟨#[97, 99, 116, 47, 51, 54, 48]⟩ = true
  · left
    have := eqB_iff.1 h1
    subst this
    decide +kernel
  by_cases h2 : eqB s ⟨#[97, 99, 116, 47, 51, 54, 53]⟩ = true
  · left
    have := eqB_iff.1 h2
    subst this
    decide +kernel
  by_cases h3 : eqB s ⟨#[51, 48, 47, 51, 54, 48]⟩ = true
  · left
    have := eqB_iff.1 h3
    subst this
    decide +kernel
  by_cases h4 : eqB s ⟨#[51, 48, 101, 47, 51, 54, 48]⟩ = true
  · left
    have := eqB_iff.1 h4
    subst this
    decide +kernel
  by_cases h5 : eqB s ⟨#[97, 99, 116, 47, 97, 99, 116]⟩ = true
  · left
    have := eqB_iff.1 h5
    subst this
    decide +kernel
  right
  have e : idxI (fun t => eqB s t) nmL = -1 := by
    refine idxI_none (fun i hi t ht => ?_)
    have hm := List.mem_of_getElem? ht
    simp only [nmL, List.mem_cons, List.not_mem_nil, or_false] at hm
    rcases hm with rfl | rfl | rfl | rfl | rfl | rfl
    · simpa using h0
    · simpa using h1
    · simpa using h2
    · simpa using h3
    · simpa using h4
    · simpa using h5
  refine ⟨by rw [e]; decide, ?_⟩
  unfold pnR
  rw [if_neg h1, if_neg h2, if_neg h3, if_neg h4, if_neg h5]
set_option maxRecDepth 100000 in
set_option maxHeartbeats 4000000 in
theorem Parse08 (s : ByteArray) : Ret 59 #[.string s] (.tuple #[.int .i64 (pnR s), .int .i64 (pnE s)]) := by
  intro w hg
  have hs := St.refl hg
  have KI := fun B => indexS (A := some ⟨B, 0, none⟩) (c := 6) (l := nmL) (s := s) (n := 6) rfl (by omega)
  have HE : Hid (pnE s = if pnR s = 0 then 3 else 0) := rfl
  have HX := Lib.hid (idx_pn s)
  generalize idxI (fun t => eqB s t) nmL = v at *
  generalize pnR s = r at *
  generalize pnE s = er at *
  go_enter Tryz.func59, Tryz.ntmps59
  go_wp2_with fail
  refine (names_any _).mono ?_
  rintro e w1 ⟨rfl, hb1⟩
  replace hs := hs.on hb1
  clear hb1
  go_wp2_with fail
  have HR : Hid (Row (w1.alloc (.cells #[.string ⟨#[]⟩, .string ⟨#[97, 99, 116, 47, 51, 54, 48]⟩, .string ⟨#[97, 99, 116, 47, 51, 54, 53]⟩, .string ⟨#[51, 48, 47, 51, 54, 48]⟩, .string ⟨#[51, 48, 101, 47, 51, 54, 48]⟩, .string ⟨#[97, 99, 116, 47, 97, 99, 116]⟩] 155)) (some ⟨w1.heap.size, 0, none⟩) (nmL.map sv)) := Row.of (Bx.new w1 #[.string ⟨#[]⟩, .string ⟨#[97, 99, 116, 47, 51, 54, 48]⟩, .string ⟨#[97, 99, 116, 47, 51, 54, 53]⟩, .string ⟨#[51, 48, 47, 51, 54, 48]⟩, .string ⟨#[51, 48, 101, 47, 51, 54, 48]⟩, .string ⟨#[97, 99, 116, 47, 97, 99, 116]⟩] 155)
  replace hs := hs.alloc (.cells #[.string ⟨#[]⟩, .string ⟨#[97, 99, 116, 47, 51, 54, 48]⟩, .string ⟨#[97, 99, 116, 47, 51, 54, 53]⟩, .string ⟨#[51, 48, 47, 51, 54, 48]⟩, .string ⟨#[51, 48, 101, 47, 51, 54, 48]⟩, .string ⟨#[97, 99, 116, 47, 97, 99, 116]⟩] 155)
  refine (KI _).step hs HR.out ?_
  intro w2 hs _
  have HEO := HE.out
  rcases HX.out with ⟨h1, h2⟩ | ⟨h1, h2⟩
  · have q : decide (0 < v) = true := decide_eq_true h1
    rw [if_neg (by omega)] at HEO
    subst HEO h2
    clear h1 HX HE KI
    go_wp2_with fail
    go_ret2
    exact ⟨rfl, hs.2⟩
  · have q : decide (0 < v) = false := decide_eq_false (by omega)
    rw [if_pos h2] at HEO
    subst HEO h2
    clear h1 HX HE KI
    go_wp2_with fail
    go_ret2
    exact ⟨rfl, hs.2⟩
theorem idxN_1 (u : World) : (Instr.index 155 (.agg #[.string ⟨#[]⟩, .string ⟨#[97, 99, 116, 47, 51, 54, 48]⟩, .string ⟨#[97, 99, 116, 47, 51, 54, 53]⟩, .string ⟨#[51, 48, 47, 51, 54, 48]⟩, .string ⟨#[51, 48, 101, 47, 51, 54, 48]⟩, .string ⟨#[97, 99, 116, 47, 97, 99, 116]⟩]) (.int .i64 1)).run Tryz.prog u = .ok (.string ⟨#[97, 99, 116, 47, 51, 54, 48]⟩) u := by kernel_rfl
theorem idxN_2 (u : World) : (Instr.index 155 (.agg #[.string ⟨#[]⟩, .string ⟨#[97, 99, 116, 47, 51, 54, 48]⟩, .string ⟨#[97, 99, 116, 47, 51, 54, 53]⟩, .string ⟨#[51, 48, 47, 51, 54, 48]⟩, .string ⟨#[51, 48, 101, 47, 51, 54, 48]⟩, .string ⟨#[97, 99, 116, 47, 97, 99, 116]⟩]) (.int .i64 2)).run Tryz.prog u = .ok (.string ⟨#[97, 99, 116, 47, 51, 54, 53]⟩) u := by kernel_rfl
theorem idxN_3 (u : World) : (Instr.index 155 (.agg #[.string ⟨#[]⟩, .string ⟨#[97, 99, 116, 47, 51, 54, 48]⟩, .string ⟨#[97, 99, 116, 47, 51, 54, 53]⟩, .string ⟨#[51, 48, 47, 51, 54, 48]⟩, .string ⟨#[51, 48, 101, 47, 51, 54, 48]⟩, .string ⟨#[97, 99, 116, 47, 97, 99, 116]⟩]) (.int .i64 3)).run Tryz.prog u = .ok (.string ⟨#[51, 48, 47, 51, 54, 48]⟩) u := by kernel_rfl
theorem idxN_4 (u : World) : (Instr.index 155 (.agg #[.string ⟨#[]⟩, .string ⟨#[97, 99, 116, 47, 51, 54, 48]⟩, .string ⟨#[97, 99, 116, 47, 51, 54, 53]⟩, .string ⟨#[51, 48, 47, 51, 54, 48]⟩, .string ⟨#[51, 48, 101, 47, 51, 54, 48]⟩, .string ⟨#[97, 99, 116, 47, 97, 99, 116]⟩]) (.int .i64 4)).run Tryz.prog u = .ok (.string ⟨#[51, 48, 101, 47, 51, 54, 48]⟩) u := by kernel_rfl
theorem idxN_5 (u : World) : (Instr.index 155 (.agg #[.string ⟨#[]⟩, .string ⟨#[97, 99, 116, 47, 51, 54, 48]⟩, .string ⟨#[97, 99, 116, 47, 51, 54, 53]⟩, .string ⟨#[51, 48, 47, 51, 54, 48]⟩, .string ⟨#[51, 48, 101, 47, 51, 54, 48]⟩, .string ⟨#[97, 99, 116, 47, 97, 99, 116]⟩]) (.int .i64 5)).run Tryz.prog u = .ok (.string ⟨#[97, 99, 116, 47, 97, 99, 116]⟩) u := by kernel_rfl
set_option maxRecDepth 100000 in
set_option maxHeartbeats 4000000 in
theorem Name_in {c : Int} (h : 1 ≤ c ∧ c ≤ 5) : Ret 57 #[.int .i64 c] (.tuple #[.string (nmR c), .int .i64 0]) := by
  intro w hg
  have hs := St.refl hg
  have KF := find_in h.1 h.2 w
  have hc : c = 1 ∨ c = 2 ∨ c = 3 ∨ c = 4 ∨ c = 5 := by omega
  rcases hc with rfl | rfl | rfl | rfl | rfl
  · show Calls _ _ _ _ (fun e w' => e = .returned (.tuple #[.string ⟨#[97, 99, 116, 47, 51, 54, 48]⟩, .int .i64 0]) ∧ _)
    clear h
    go_enter Tryz.func57, Tryz.ntmps57
    go_wp2_with fail
    refine KF.mono ?_
    rintro e w1 ⟨v, rfl, hcv, hb1⟩
    obtain ⟨f, cap, g, cap', rfl⟩ := hcv.two
    replace hs := hs.on hb1
    clear hcv hb1
    go_wp2_with fail
    replace hs := hs.alloc (.cells #[.func (.func f) #[] cap, .func (.func g) #[] cap'] 136)
    refine (names_any _).mono ?_
    rintro e w2 ⟨rfl, hb2⟩
    replace hs := hs.on hb2
    have ix := idxN_1
    go_wp2_with fail
    go_ret2
    exact ⟨rfl, hs.2⟩
  · show Calls _ _ _ _ (fun e w' => e = .returned (.tuple #[.string ⟨#[97, 99, 116, 47, 51, 54, 53]⟩, .int .i64 0]) ∧ _)
    clear h
    go_enter Tryz.func57, Tryz.ntmps57
    go_wp2_with fail
    refine KF.mono ?_
    rintro e w1 ⟨v, rfl, hcv, hb1⟩
    obtain ⟨f, cap, g, cap', rfl⟩ := hcv.two
    replace hs := hs.on hb1
    clear hcv hb1
    go_wp2_with fail
    replace hs := hs.alloc (.cells #[.func (.func f) #[] cap, .func (.func g) #[] cap'] 136)
    refine (names_any _).mono ?_
    rintro e w2 ⟨rfl, hb2⟩
    replace hs := hs.on hb2
    have ix := idxN_2
    go_wp2_with fail
    go_ret2
    exact ⟨rfl, hs.2⟩
  · show Calls _ _ _ _ (fun e w' => e = .returned (.tuple #[.string ⟨#[51, 48, 47, 51, 54, 48]⟩, .int .i64 0]) ∧ _)
    clear h
    go_enter Tryz.func57, Tryz.ntmps57
    go_wp2_with fail
    refine KF.mono ?_
    rintro e w1 ⟨v, rfl, hcv, hb1⟩
    obtain ⟨f, cap, g, cap', rfl⟩ := hcv.two
    replace hs := hs.on hb1
    clear hcv hb1
    go_wp2_with fail
    replace hs := hs.alloc (.cells #[.func (.func f) #[] cap, .func (.func g) #[] cap'] 136)
    refine (names_any _).mono ?_
    rintro e w2 ⟨rfl, hb2⟩
    replace hs := hs.on hb2
    have ix := idxN_3
    go_wp2_with fail
    go_ret2
    exact ⟨rfl, hs.2⟩
  · show Calls _ _ _ _ (fun e w' => e = .returned (.tuple #[.string ⟨#[51, 48, 101, 47, 51, 54, 48]⟩, .int .i64 0]) ∧ _)
    clear h
    go_enter Tryz.func57, Tryz.ntmps57
    go_wp2_with fail
    refine KF.mono ?_
    rintro e w1 ⟨v, rfl, hcv, hb1⟩
    obtain ⟨f, cap, g, cap', rfl⟩ := hcv.two
    replace hs := hs.on hb1
    clear hcv hb1
    go_wp2_with fail
    replace hs := hs.alloc (.cells #[.func (.func f) #[] cap, .func (.func g) #[] cap'] 136)
    refine (names_any _).mono ?_
    rintro e w2 ⟨rfl, hb2⟩
    replace hs := hs.on hb2
    have ix := idxN_4
    go_wp2_with fail
    go_ret2
    exact ⟨rfl, hs.2⟩
  · show Calls _ _ _ _ (fun e w' => e = .returned (.tuple #[.string ⟨#[97, 99, 116, 47, 97, 99, 116]⟩, .int .i64 0]) ∧ _)
    clear h
    go_enter Tryz.func57, Tryz.ntmps57
    go_wp2_with fail
    refine KF.mono ?_
    rintro e w1 ⟨v, rfl, hcv, hb1⟩
    obtain ⟨f, cap, g, cap', rfl⟩ := hcv.two
    replace hs := hs.on hb1
    clear hcv hb1
    go_wp2_with fail
    replace hs := hs.alloc (.cells #[.func (.func f) #[] cap, .func (.func g) #[] cap'] 136)
    refine (names_any _).mono ?_
    rintro e w2 ⟨rfl, hb2⟩
    replace hs := hs.on hb2
    have ix := idxN_5
    go_wp2_with fail
    go_ret2
    exact ⟨rfl, hs.2⟩
set_option maxRecDepth 100000 in
set_option maxHeartbeats 4000000 in
theorem Name_no {c : Int} (h : c < 1 ∨ 5 < c) : Ret 57 #[.int .i64 c] (.tuple #[.string ⟨#[]⟩, .int .i64 2]) := by
  intro w hg
  have hs := St.refl hg
  have KF := find_no h w
  clear h
  go_enter Tryz.func57, Tryz.ntmps57
  go_wp2_with fail
  refine KF.mono ?_
  rintro e w1 ⟨rfl, hb1⟩
  replace hs := hs.on hb1
  clear hb1
  go_wp2_with fail
  replace hs := hs.alloc (.cells #[.nilFunc, .nilFunc] 136)
  go_ret2
  exact ⟨rfl, hs.2⟩
theorem Name08 (c : Int) : Ret 57 #[.int .i64 c] (.tuple #[.string (nmR c), .int .i64 (nmE c)]) := by
  by_cases h : 1 ≤ c ∧ c ≤ 5
  · have e : nmE c = 0 := if_pos h
    rw [e]
    exact Name_in h
  · have e : nmE c = 2 := if_neg h
    have e2 : nmR c = ⟨#[]⟩ := if_neg h
    rw [e, e2]
    exact Name_no (by omega)
set_option maxRecDepth 100000 in
set_option maxHeartbeats 4000000 in
theorem rnames_any (w : World) : Calls Tryz.prog 128 #[] w fun e w' => e = .returned (.slice (some ⟨w.heap.size, 0, none⟩) 5 5) ∧ w' = w.alloc (.cells #[.string ⟨#[97, 99, 116, 47, 51, 54, 48]⟩, .string ⟨#[97, 99, 116, 47, 51, 54, 53]⟩, .string ⟨#[51, 48, 47, 51, 54, 48]⟩, .string ⟨#[51, 48, 101, 47, 51, 54, 48]⟩, .string ⟨#[97, 99, 116, 47, 97, 99, 116]⟩] 9) := by
  go_enter Tryz.func128, Tryz.ntmps128
  go_wp2_with fail
  go_ret
  exact ⟨rfl, rfl⟩
set_option maxRecDepth 100000 in
set_option maxHeartbeats 4000000 in
theorem rName08 (c : Int) (hc0 : -9223372036854775808 ≤ c) (hc9 : c ≤ 9223372036854775807) : Ret 58 #[.int .i64 c] (.tuple #[.string (nmR c), .int .i64 (nmE c)]) := by
  by_cases h : 1 ≤ c ∧ c ≤ 5
  · have e : nmE c = 0 := if_pos h
    rw [e]
    intro w hg
    have hs := St.refl hg
    have hc : c = 1 ∨ c = 2 ∨ c = 3 ∨ c = 4 ∨ c = 5 := by omega
    rcases hc with rfl | rfl | rfl | rfl | rfl
    · show Calls _ _ _ _ (fun e w' => e = .returned (.tuple #[.string ⟨#[97, 99, 116, 47, 51, 54, 48]⟩, .int .i64 0]) ∧ _)
      clear h e hc0 hc9
      go_enter Tryz.func58, Tryz.ntmps58
      go_wp2_with fail
      refine (rnames_any _).mono ?_
      rintro e w1 ⟨rfl, rfl⟩
      have B := Bx.new w #[.string ⟨#[97, 99, 116, 47, 51, 54, 48]⟩, .string ⟨#[97, 99, 116, 47, 51, 54, 53]⟩, .string ⟨#[51, 48, 47, 51, 54, 48]⟩, .string ⟨#[51, 48, 101, 47, 51, 54, 48]⟩, .string ⟨#[97, 99, 116, 47, 97, 99, 116]⟩] 9
      have x0 := B.cell (i := 0) (v := .string ⟨#[97, 99, 116, 47, 51, 54, 48]⟩) rfl
      replace hs := hs.alloc (.cells #[.string ⟨#[97, 99, 116, 47, 51, 54, 48]⟩, .string ⟨#[97, 99, 116, 47, 51, 54, 53]⟩, .string ⟨#[51, 48, 47, 51, 54, 48]⟩, .string ⟨#[51, 48, 101, 47, 51, 54, 48]⟩, .string ⟨#[97, 99, 116, 47, 97, 99, 116]⟩] 9)
      go_wp2_with fail
      go_ret2
      exact ⟨rfl, hs.2⟩
    · show Calls _ _ _ _ (fun e w' => e = .returned (.tuple #[.string ⟨#[97, 99, 116, 47, 51, 54, 53]⟩, .int .i64 0]) ∧ _)
      clear h e hc0 hc9
      go_enter Tryz.func58, Tryz.ntmps58
      go_wp2_with fail
      refine (rnames_any _).mono ?_
      rintro e w1 ⟨rfl, rfl⟩
      have B := Bx.new w #[.string ⟨#[97, 99, 116, 47, 51, 54, 48]⟩, .string ⟨#[97, 99, 116, 47, 51, 54, 53]⟩, .string ⟨#[51, 48, 47, 51, 54, 48]⟩, .string ⟨#[51, 48, 101, 47, 51, 54, 48]⟩, .string ⟨#[97, 99, 116, 47, 97, 99, 116]⟩] 9
      have x0 := B.cell (i := 1) (v := .string ⟨#[97, 99, 116, 47, 51, 54, 53]⟩) rfl
      replace hs := hs.alloc (.cells #[.string ⟨#[97, 99, 116, 47, 51, 54, 48]⟩, .string ⟨#[97, 99, 116, 47, 51, 54, 53]⟩, .string ⟨#[51, 48, 47, 51, 54, 48]⟩, .string ⟨#[51, 48, 101, 47, 51, 54, 48]⟩, .string ⟨#[97, 99, 116, 47, 97, 99, 116]⟩] 9)
      go_wp2_with fail
      go_ret2
      exact ⟨rfl, hs.2⟩
    · show Calls _ _ _ _ (fun e w' => e = .returned (.tuple #[.string ⟨#[51, 48, 47, 51, 54, 48]⟩, .int .i64 0]) ∧ _)
      clear h e hc0 hc9
      go_enter Tryz.func58, Tryz.ntmps58
      go_wp2_with fail
      refine (rnames_any _).mono ?_
      rintro e w1 ⟨rfl, rfl⟩
      have B := Bx.new w #[.string ⟨#[97, 99, 116, 47, 51, 54, 48]⟩, .string ⟨#[97, 99, 116, 47, 51, 54, 53]⟩, .string ⟨#[51, 48, 47, 51, 54, 48]⟩, .string ⟨#[51, 48, 101, 47, 51, 54, 48]⟩, .string ⟨#[97, 99, 116, 47, 97, 99, 116]⟩] 9
      have x0 := B.cell (i := 2) (v := .string ⟨#[51, 48, 47, 51, 54, 48]⟩) rfl
      replace hs := hs.alloc (.cells #[.string ⟨#[97, 99, 116, 47, 51, 54, 48]⟩, .string ⟨#[97, 99, 116, 47, 51, 54, 53]⟩, .string ⟨#[51, 48, 47, 51, 54, 48]⟩, .string ⟨#[51, 48, 101, 47, 51, 54, 48]⟩, .string ⟨#[97, 99, 116, 47, 97, 99, 116]⟩] 9)
      go_wp2_with fail
      go_ret2
      exact ⟨rfl, hs.2⟩
    · show Calls _ _ _ _ (fun e w' => e = .returned (.tuple #[.string ⟨#[51, 48, 101, 47, 51, 54, 48]⟩, .int .i64 0]) ∧ _)
      clear h e hc0 hc9
      go_enter Tryz.func58, Tryz.ntmps58
      go_wp2_with fail
      refine (rnames_any _).mono ?_
      rintro e w1 ⟨rfl, rfl⟩
      have B := Bx.new w #[.string ⟨#[97, 99, 116, 47, 51, 54, 48]⟩, .string ⟨#[97, 99, 116, 47, 51, 54, 53]⟩, .string ⟨#[51, 48, 47, 51, 54, 48]⟩, .string ⟨#[51, 48, 101, 47, 51, 54, 48]⟩, .string ⟨#[97, 99, 116, 47, 97, 99, 116]⟩] 9
      have x0 := B.cell (i := 3) (v := .string ⟨#[51, 48, 101, 47, 51, 54, 48]⟩) rfl
      replace hs := hs.alloc (.cells #[.string ⟨#[97, 99, 116, 47, 51, 54, 48]⟩, .string ⟨#[97, 99, 116, 47, 51, 54, 53]⟩, .string ⟨#[51, 48, 47, 51, 54, 48]⟩, .string ⟨#[51, 48, 101, 47, 51, 54, 48]⟩, .string ⟨#[97, 99, 116, 47, 97, 99, 116]⟩] 9)
      go_wp2_with fail
      go_ret2
      exact ⟨rfl, hs.2⟩
    · show Calls _ _ _ _ (fun e w' => e = .returned (.tuple #[.string ⟨#[97, 99, 116, 47, 97, 99, 116]⟩, .int .i64 0]) ∧ _)
      clear h e hc0 hc9
      go_enter Tryz.func58, Tryz.ntmps58
      go_wp2_with fail
      refine (rnames_any _).mono ?_
      rintro e w1 ⟨rfl, rfl⟩
      have B := Bx.new w #[.string ⟨#[97, 99, 116, 47, 51, 54, 48]⟩, .string ⟨#[97, 99, 116, 47, 51, 54, 53]⟩, .string ⟨#[51, 48, 47, 51, 54, 48]⟩, .string ⟨#[51, 48, 101, 47, 51, 54, 48]⟩, .string ⟨#[97, 99, 116, 47, 97, 99, 116]⟩] 9
      have x0 := B.cell (i := 4) (v := .string ⟨#[97, 99, 116, 47, 97, 99, 116]⟩) rfl
      replace hs := hs.alloc (.cells #[.string ⟨#[97, 99, 116, 47, 51, 54, 48]⟩, .string ⟨#[97, 99, 116, 47, 51, 54, 53]⟩, .string ⟨#[51, 48, 47, 51, 54, 48]⟩, .string ⟨#[51, 48, 101, 47, 51, 54, 48]⟩, .string ⟨#[97, 99, 116, 47, 97, 99, 116]⟩] 9)
      go_wp2_with fail
      go_ret2
      exact ⟨rfl, hs.2⟩
  · have e : nmE c = 2 := if_neg h
    have e2 : nmR c = ⟨#[]⟩ := if_neg h
    rw [e, e2]
    intro w hg
    have hs := St.refl hg
    by_cases h1 : c < 1
    · have q : decide (c < 1) = true := decide_eq_true h1
      clear h e e2
      go_enter Tryz.func58, Tryz.ntmps58
      go_wp2_with fail
      go_ret2
      exact ⟨rfl, hs.2⟩
    · have q : decide (c < 1) = false := decide_eq_false h1
      have q5 : decide (5 < c) = true := decide_eq_true (by omega)
      clear h e e2
      go_enter Tryz.func58, Tryz.ntmps58
      go_wp2_with fail
      go_ret2
      exact ⟨rfl, hs.2⟩
/-- none of the first names is s -/
def noneOf (s : ByteArray) (k : Nat) : Prop := ∀ j, 1 ≤ j → j < k → eqB (nmR (j : Nat)) s = false
theorem noneOf_pn {s : ByteArray} (h : noneOf s 6) : pnR s = 0 := by
  refine Decidable.byContradiction fun h0 => ?_
  have hr := pn_range s
  have e := nm_pn h0
  have := h (pnR s).toNat (by omega) (by omega)
  rw [show (((pnR s).toNat : Nat) : Int) = pnR s by omega, e] at this
  rw [eqB_iff.2 rfl] at this
  cases this
set_option maxRecDepth 100000 in
set_option maxHeartbeats 4000000 in
theorem rParse08 (s : ByteArray) : Ret 60 #[.string s] (.tuple #[.int .i64 (pnR s), .int .i64 (pnE s)]) := by
  intro w hg
  have hs := St.refl hg
  have HN := Lib.hid (fun h : noneOf s 6 => noneOf_pn h)
  have HH := Lib.hid (fun (k : Nat) (hk : 1 ≤ (k : Int) ∧ (k : Int) ≤ 5) (he : nmR k = s) => (show pnR s = k by rw [← he]; exact pn_nm hk))
  have HE : Hid (pnE s = if pnR s = 0 then 3 else 0) := rfl
  generalize pnR s = r at *
  generalize pnE s = er at *
  go_enter Tryz.func60, Tryz.ntmps60
  go_wp2_with fail
  go_loopw [4] (fun s' wr => ∃ k : Nat, 1 ≤ k ∧ k ≤ 6 ∧ s' = .int .i64 (k : Int) ∧ St w wr ∧ Hid (noneOf s k)) (fun s _ => (6 - intOf s).toNat)
  case atStart => exact ⟨1, by omega, by omega, rfl, hs, fun j h1 h2 => by omega⟩
  case round =>
    obtain ⟨k, hk1, hk, rfl, hs, HP⟩ := hrel
    by_cases hk6 : k = 6
    · subst hk6
      have hr := HN.out HP.out
      have HEO := HE.out
      rw [if_pos hr] at HEO
      subst HEO hr
      clear HE HH HN
      go_wp2_with fail
      go_ret2
      exact ⟨rfl, hs.2⟩
    · have hkc : k = 1 ∨ k = 2 ∨ k = 3 ∨ k = 4 ∨ k = 5 := by omega
      clear hk1 hk hk6
      rcases hkc with rfl | rfl | rfl | rfl | rfl
      · obtain ⟨t, ht⟩ : ∃ t, ((⟨#[97, 99, 116, 47, 51, 54, 48]⟩ : ByteArray).toList == s.toList) = t := ⟨_, rfl⟩
        have HT : Hid (eqB (nmR ((1 : Nat) : Int)) s = t) := ht
        cases t with
        | true =>
          have hr := HH.out 1 (by omega) (eqB_iff.1 HT.out)
          have HEO := HE.out
          rw [if_neg (by omega)] at HEO
          subst HEO
          have hr2 : r = 1 := hr
          subst hr2
          clear HE HH HN hr
          go_wp2_with fail
          refine (rnames_any _).mono ?_
          rintro e w1 ⟨rfl, rfl⟩
          have B := Bx.new wr #[.string ⟨#[97, 99, 116, 47, 51, 54, 48]⟩, .string ⟨#[97, 99, 116, 47, 51, 54, 53]⟩, .string ⟨#[51, 48, 47, 51, 54, 48]⟩, .string ⟨#[51, 48, 101, 47, 51, 54, 48]⟩, .string ⟨#[97, 99, 116, 47, 97, 99, 116]⟩] 9
          have x0 := B.cell (i := 0) (v := .string ⟨#[97, 99, 116, 47, 51, 54, 48]⟩) rfl
          replace hs := hs.alloc (.cells #[.string ⟨#[97, 99, 116, 47, 51, 54, 48]⟩, .string ⟨#[97, 99, 116, 47, 51, 54, 53]⟩, .string ⟨#[51, 48, 47, 51, 54, 48]⟩, .string ⟨#[51, 48, 101, 47, 51, 54, 48]⟩, .string ⟨#[97, 99, 116, 47, 97, 99, 116]⟩] 9)
          generalize (⟨#[97, 99, 116, 47, 51, 54, 48]⟩ : ByteArray) = m at *
          go_wp2_with fail
          go_ret2
          exact ⟨rfl, hs.2⟩
        | false =>
          go_wp2_with fail
          refine (rnames_any _).mono ?_
          rintro e w1 ⟨rfl, rfl⟩
          have B := Bx.new wr #[.string ⟨#[97, 99, 116, 47, 51, 54, 48]⟩, .string ⟨#[97, 99, 116, 47, 51, 54, 53]⟩, .string ⟨#[51, 48, 47, 51, 54, 48]⟩, .string ⟨#[51, 48, 101, 47, 51, 54, 48]⟩, .string ⟨#[97, 99, 116, 47, 97, 99, 116]⟩] 9
          have x0 := B.cell (i := 0) (v := .string ⟨#[97, 99, 116, 47, 51, 54, 48]⟩) rfl
          replace hs := hs.alloc (.cells #[.string ⟨#[97, 99, 116, 47, 51, 54, 48]⟩, .string ⟨#[97, 99, 116, 47, 51, 54, 53]⟩, .string ⟨#[51, 48, 47, 51, 54, 48]⟩, .string ⟨#[51, 48, 101, 47, 51, 54, 48]⟩, .string ⟨#[97, 99, 116, 47, 97, 99, 116]⟩] 9)
          generalize (⟨#[97, 99, 116, 47, 51, 54, 48]⟩ : ByteArray) = m at *
          go_wp2_with fail
          go_roundw
          case rel =>
            refine ⟨2, by omega, by omega, rfl, hs, fun j h1 h2 => ?_⟩
            by_cases e : j = 1
            · subst e; exact HT.out
            · exact HP.out j h1 (by omega)
          case measure => simp [intOf]
      · obtain ⟨t, ht⟩ : ∃ t, ((⟨#[97, 99, 116, 47, 51, 54, 53]⟩ : ByteArray).toList == s.toList) = t := ⟨_, rfl⟩
        have HT : Hid (eqB (nmR ((2 : Nat) : Int)) s = t) := ht
        cases t with
        | true =>
          have hr := HH.out 2 (by omega) (eqB_iff.1 HT.out)
          have HEO := HE.out
          rw [if_neg (by omega)] at HEO
          subst HEO
          have hr2 : r = 2 := hr
          subst hr2
          clear HE HH HN hr
          go_wp2_with fail
          refine (rnames_any _).mono ?_
          rintro e w1 ⟨rfl, rfl⟩
          have B := Bx.new wr #[.string ⟨#[97, 99, 116, 47, 51, 54, 48]⟩, .string ⟨#[97, 99, 116, 47, 51, 54, 53]⟩, .string ⟨#[51, 48, 47, 51, 54, 48]⟩, .string ⟨#[51, 48, 101, 47, 51, 54, 48]⟩, .string ⟨#[97, 99, 116, 47, 97, 99, 116]⟩] 9
          have x0 := B.cell (i := 1) (v := .string ⟨#[97, 99, 116, 47, 51, 54, 53]⟩) rfl
          replace hs := hs.alloc (.cells #[.string ⟨#[97, 99, 116, 47, 51, 54, 48]⟩, .string ⟨#[97, 99, 116, 47, 51, 54, 53]⟩, .string ⟨#[51, 48, 47, 51, 54, 48]⟩, .string ⟨#[51, 48, 101, 47, 51, 54, 48]⟩, .string ⟨#[97, 99, 116, 47, 97, 99, 116]⟩] 9)
          generalize (⟨#[97, 99, 116, 47, 51, 54, 53]⟩ : ByteArray) = m at *
          go_wp2_with fail
          go_ret2
          exact ⟨rfl, hs.2⟩
        | false =>
          go_wp2_with fail
          refine (rnames_any _).mono ?_
          rintro e w1 ⟨rfl, rfl⟩
          have B := Bx.new wr #[.string ⟨#[97, 99, 116, 47, 51, 54, 48]⟩, .string ⟨#[97, 99, 116, 47, 51, 54, 53]⟩, .string ⟨#[51, 48, 47, 51, 54, 48]⟩, .string ⟨#[51, 48, 101, 47, 51, 54, 48]⟩, .string ⟨#[97, 99, 116, 47, 97, 99, 116]⟩] 9
          have x0 := B.cell (i := 1) (v := .string ⟨#[97, 99, 116, 47, 51, 54, 53]⟩) rfl
          replace hs := hs.alloc (.cells #[.string ⟨#[97, 99, 116, 47, 51, 54, 48]⟩, .string ⟨#[97, 99, 116, 47, 51, 54, 53]⟩, .string ⟨#[51, 48, 47, 51, 54, 48]⟩, .string ⟨#[51, 48, 101, 47, 51, 54, 48]⟩, .string ⟨#[97, 99, 116, 47, 97, 99, 116]⟩] 9)
          generalize (⟨#[97, 99, 116, 47, 51, 54, 53]⟩ : ByteArray) = m at *
          go_wp2_with fail
          go_roundw
          case rel =>
            refine ⟨3, by omega, by omega, rfl, hs, fun j h1 h2 => ?_⟩
            by_cases e : j = 2
            · subst e; exact HT.out
            · exact HP.out j h1 (by omega)
          case measure => simp [intOf]
      · obtain ⟨t, ht⟩ : ∃ t, ((⟨#[51, 48, 47, 51, 54, 48]⟩ : ByteArray).toList == s.toList) = t := ⟨_, rfl⟩
        have HT : Hid (eqB (nmR ((3 : Nat) : Int)) s = t) := ht
        cases t with
        | true =>
          have hr := HH.out 3 (by omega) (eqB_iff.1 HT.out)
          have HEO := HE.out
          rw [if_neg (by omega)] at HEO
          subst HEO
          have hr2 : r = 3 := hr
          subst hr2
          clear HE HH HN hr
          go_wp2_with fail
          refine (rnames_any _).mono ?_
          rintro e w1 ⟨rfl, rfl⟩
          have B := Bx.new wr #[.string ⟨#[97, 99, 116, 47, 51, 54, 48]⟩, .string ⟨#[97, 99, 116, 47, 51, 54, 53]⟩, .string ⟨#[51, 48, 47, 51, 54, 48]⟩, .string ⟨#[51, 48, 101, 47, 51, 54, 48]⟩, .string ⟨#[97, 99, 116, 47, 97, 99, 116]⟩] 9
          have x0 := B.cell (i := 2) (v := .string ⟨#[51, 48, 47, 51, 54, 48]⟩) rfl
          replace hs := hs.alloc (.cells #[.string ⟨#[97, 99, 116, 47, 51, 54, 48]⟩, .string ⟨#[97, 99, 116, 47, 51, 54, 53]⟩, .string ⟨#[51, 48, 47, 51, 54, 48]⟩, .string ⟨#[51, 48, 101, 47, 51, 54, 48]⟩, .string ⟨#[97, 99, 116, 47, 97, 99, 116]⟩] 9)
          generalize (⟨#[51, 48, 47, 51, 54, 48]⟩ : ByteArray) = m at *
          go_wp2_with fail
          go_ret2
          exact ⟨rfl, hs.2⟩
        | false =>
          go_wp2_with fail
          refine (rnames_any _).mono ?_
          rintro e w1 ⟨rfl, rfl⟩
          have B := Bx.new wr #[.string ⟨#[97, 99, 116, 47, 51, 54, 48]⟩, .string ⟨#[97, 99, 116, 47, 51, 54, 53]⟩, .string ⟨#[51, 48, 47, 51, 54, 48]⟩, .string ⟨#[51, 48, 101, 47, 51, 54, 48]⟩, .string ⟨#[97, 99, 116, 47, 97, 99, 116]⟩] 9
          have x0 := B.cell (i := 2) (v := .string ⟨#[51, 48, 47, 51, 54, 48]⟩) rfl
          replace hs := hs.alloc (.cells #[.string ⟨#[97, 99, 116, 47, 51, 54, 48]⟩, .string ⟨#[97, 99, 116, 47, 51, 54, 53]⟩, .string ⟨#[51, 48, 47, 51, 54, 48]⟩, .string ⟨#[51, 48, 101, 47, 51, 54, 48]⟩, .string ⟨#[97, 99, 116, 47, 97, 99, 116]⟩] 9)
          generalize (⟨#[51, 48, 47, 51, 54, 48]⟩ : ByteArray) = m at *
          go_wp2_with fail
          go_roundw
          case rel =>
            refine ⟨4, by omega, by omega, rfl, hs, fun j h1 h2 => ?_⟩
            by_cases e : j = 3
            · subst e; exact HT.out
            · exact HP.out j h1 (by omega)
          case measure => simp [intOf]
      · obtain ⟨t, ht⟩ : ∃ t, ((⟨#[51, 48, 101, 47, 51, 54, 48]⟩ : ByteArray).toList == s.toList) = t := ⟨_, rfl⟩
        have HT : Hid (eqB (nmR ((4 : Nat) : Int)) s = t) := ht
        cases t with
        | true =>
          have hr := HH.out 4 (by omega) (eqB_iff.1 HT.out)
          have HEO := HE.out
          rw [if_neg (by omega)] at HEO
          subst HEO
          have hr2 : r = 4 := hr
          subst hr2
          clear HE HH HN hr
          go_wp2_with fail
          refine (rnames_any _).mono ?_
          rintro e w1 ⟨rfl, rfl⟩
          have B := Bx.new wr #[.string ⟨#[97, 99, 116, 47, 51, 54, 48]⟩, .string ⟨#[97, 99, 116, 47, 51, 54, 53]⟩, .string ⟨#[51, 48, 47, 51, 54, 48]⟩, .string ⟨#[51, 48, 101, 47, 51, 54, 48]⟩, .string ⟨#[97, 99, 116, 47, 97, 99, 116]⟩] 9
          have x0 := B.cell (i := 3) (v := .string ⟨#[51, 48, 101, 47, 51, 54, 48]⟩) rfl
          replace hs := hs.alloc (.cells #[.string ⟨#[97, 99, 116, 47, 51, 54, 48]⟩, .string ⟨#[97, 99, 116, 47, 51, 54, 53]⟩, .string ⟨#[51, 48, 47, 51, 54, 48]⟩, .string ⟨#[51, 48, 101, 47, 51, 54, 48]⟩, .string ⟨#[97, 99, 116, 47, 97, 99, 116]⟩] 9)
          generalize (⟨#[51, 48, 101, 47, 51, 54, 48]⟩ : ByteArray) = m at *
          go_wp2_with fail
          go_ret2
          exact ⟨rfl, hs.2⟩
        | false =>
          go_wp2_with fail
          refine (rnames_any _).mono ?_
          rintro e w1 ⟨rfl, rfl⟩
          have B := Bx.new wr #[.string ⟨#[97, 99, 116, 47, 51, 54, 48]⟩, .string ⟨#[97, 99, 116, 47, 51, 54, 53]⟩, .string ⟨#[51, 48, 47, 51, 54, 48]⟩, .string ⟨#[51, 48, 101, 47, 51, 54, 48]⟩, .string ⟨#[97, 99, 116, 47, 97, 99, 116]⟩] 9
          have x0 := B.cell (i := 3) (v := .string ⟨#[51, 48, 101, 47, 51, 54, 48]⟩) rfl
          replace hs := hs.alloc (.cells #[.string ⟨#[97, 99, 116, 47, 51, 54, 48]⟩, .string ⟨#[97, 99, 116, 47, 51, 54, 53]⟩, .string ⟨#[51, 48, 47, 51, 54, 48]⟩, .string ⟨#[51, 48, 101, 47, 51, 54, 48]⟩, .string ⟨#[97, 99, 116, 47, 97, 99, 116]⟩] 9)
          generalize (⟨#[51, 48, 101, 47, 51, 54, 48]⟩ : ByteArray) = m at *
          go_wp2_with fail
          go_roundw
          case rel =>
            refine ⟨5, by omega, by omega, rfl, hs, fun j h1 h2 => ?_⟩
            by_cases e : j = 4
            · subst e; exact HT.out
            · exact HP.out j h1 (by omega)
          case measure => simp [intOf]
      · obtain ⟨t, ht⟩ : ∃ t, ((⟨#[97, 99, 116, 47, 97, 99, 116]⟩ : ByteArray).toList == s.toList) = t := ⟨_, rfl⟩
        have HT : Hid (eqB (nmR ((5 : Nat) : Int)) s = t) := ht
        cases t with
        | true =>
          have hr := HH.out 5 (by omega) (eqB_iff.1 HT.out)
          have HEO := HE.out
          rw [if_neg (by omega)] at HEO
          subst HEO
          have hr2 : r = 5 := hr
          subst hr2
          clear HE HH HN hr
          go_wp2_with fail
          refine (rnames_any _).mono ?_
          rintro e w1 ⟨rfl, rfl⟩
          have B := Bx.new wr #[.string ⟨#[97, 99, 116, 47, 51, 54, 48]⟩, .string ⟨#[97, 99, 116, 47, 51, 54, 53]⟩, .string ⟨#[51, 48, 47, 51, 54, 48]⟩, .string ⟨#[51, 48, 101, 47, 51, 54, 48]⟩, .string ⟨#[97, 99, 116, 47, 97, 99, 116]⟩] 9
          have x0 := B.cell (i := 4) (v := .string ⟨#[97, 99, 116, 47, 97, 99, 116]⟩) rfl
          replace hs := hs.alloc (.cells #[.string ⟨#[97, 99, 116, 47, 51, 54, 48]⟩, .string ⟨#[97, 99, 116, 47, 51, 54, 53]⟩, .string ⟨#[51, 48, 47, 51, 54, 48]⟩, .string ⟨#[51, 48, 101, 47, 51, 54, 48]⟩, .string ⟨#[97, 99, 116, 47, 97, 99, 116]⟩] 9)
          generalize (⟨#[97, 99, 116, 47, 97, 99, 116]⟩ : ByteArray) = m at *
          go_wp2_with fail
          go_ret2
          exact ⟨rfl, hs.2⟩
        | false =>
          go_wp2_with fail
          refine (rnames_any _).mono ?_
          rintro e w1 ⟨rfl, rfl⟩
          have B := Bx.new wr #[.string ⟨#[97, 99, 116, 47, 51, 54, 48]⟩, .string ⟨#[97, 99, 116, 47, 51, 54, 53]⟩, .string ⟨#[51, 48, 47, 51, 54, 48]⟩, .string ⟨#[51, 48, 101, 47, 51, 54, 48]⟩, .string ⟨#[97, 99, 116, 47, 97, 99, 116]⟩] 9
          have x0 := B.cell (i := 4) (v := .string ⟨#[97, 99, 116, 47, 97, 99, 116]⟩) rfl
          replace hs := hs.alloc (.cells #[.string ⟨#[97, 99, 116, 47, 51, 54, 48]⟩, .string ⟨#[97, 99, 116, 47, 51, 54, 53]⟩, .string ⟨#[51, 48, 47, 51, 54, 48]⟩, .string ⟨#[51, 48, 101, 47, 51, 54, 48]⟩, .string ⟨#[97, 99, 116, 47, 97, 99, 116]⟩] 9)
          generalize (⟨#[97, 99, 116, 47, 97, 99, 116]⟩ : ByteArray) = m at *
          go_wp2_with fail
          go_roundw
          case rel =>
            refine ⟨6, by omega, by omega, rfl, hs, fun j h1 h2 => ?_⟩
            by_cases e : j = 5
            · subst e; exact HT.out
            · exact HP.out j h1 (by omega)
          case measure => simp [intOf]
set_option maxRecDepth 100000 in
set_option maxHeartbeats 4000000 in
theorem names08_any (c : Int) (s : ByteArray) (w : World) (hc0 : -9223372036854775808 ≤ c) (hc9 : c ≤ 9223372036854775807) (hz : s.size ≤ 9223372036854775807) (hg : Gl w) :
    Calls Tryz.prog 13 #[.int .i64 c, .string s] w fun e w' => e = .returned (.bool true) ∧ Below w.heap.size w w' := by
  have hs := St.refl hg
  have AW := awake08
  by_cases h40 : 40 < s.size
  · have q : decide ((40 : Int) < (s.size : Int)) = true := decide_eq_true (by omega)
    have qn : decide (40 < s.size) = true := decide_eq_true h40
    clear h40 hz
    go_enter Tryz.func13, Tryz.ntmps13
    go_wp2_with fail
    refine AW.step hs ?_
    intro wa hs _
    go_wp2_with fail
    go_ret
    exact ⟨rfl, hs.2⟩
  · have q : decide ((40 : Int) < (s.size : Int)) = false := decide_eq_false (by omega)
    have qn : decide (40 < s.size) = false := decide_eq_false h40
    have K1 := Name08 c
    have K2 := rName08 c hc0 hc9
    have K3 := Parse08 s
    have K4 := rParse08 s
    have K5 := Parse08 (nmR c)
    have K6 := Name08 (pnR s)
    have HB : Hid ((nmE c = 0 → pnR (nmR c) = c ∧ pnE (nmR c) = 0) ∧ (pnE s = 0 → nmR (pnR s) = s ∧ nmE (pnR s) = 0)) := by
      refine ⟨fun h => ?_, fun h => ?_⟩
      · have hc : 1 ≤ c ∧ c ≤ 5 := by
          refine Decidable.byContradiction fun hn => ?_
          unfold nmE at h
          rw [if_neg hn] at h
          cases h
        have e := pn_nm hc
        refine ⟨e, ?_⟩
        unfold pnE
        rw [e, if_neg (by omega)]
      · have hp : pnR s ≠ 0 := by
          intro hp
          unfold pnE at h
          rw [if_pos hp] at h
          cases h
        have hr := pn_range s
        exact ⟨nm_pn hp, if_pos (by omega)⟩
    have HN : Hid ((nmE c = 0 ∨ nmE c = 2) ∧ (pnE s = 0 ∨ pnE s = 3)) := by
      refine ⟨?_, ?_⟩
      · unfold nmE; split <;> simp
      · unfold pnE; split <;> simp
    generalize pnR (nmR c) = r1 at *
    generalize pnE (nmR c) = r2 at *
    generalize nmR (pnR s) = r3 at *
    generalize nmE (pnR s) = r4 at *
    generalize nmR c = n1 at *
    generalize nmE c = n2 at *
    generalize pnR s = p1 at *
    generalize pnE s = p2 at *
    have q1 : (n1.toList != n1.toList) = false := by simp
    have q2 : (p1 != p1) = false := by simp
    have q3 : (c != c) = false := by simp
    have q4 : (s.toList != s.toList) = false := by simp
    clear h40 hz hc0 hc9
    rcases HN.out.1 with h1 | h1 <;> rcases HN.out.2 with h2 | h2
    · obtain ⟨e1, e2⟩ := HB.out.1 h1
      obtain ⟨e3, e4⟩ := HB.out.2 h2
      subst h1 h2
      subst e2
      subst e4
      subst e1
      subst e3
      clear HB HN
      go_enter Tryz.func13, Tryz.ntmps13
      go_wp2_with fail
      refine K1.step hs ?_
      intro wa hs _
      go_wp2_with fail
      refine K2.step hs ?_
      intro wa hs _
      go_wp2_with fail
      refine K3.step hs ?_
      intro wa hs _
      go_wp2_with fail
      refine K4.step hs ?_
      intro wa hs _
      go_wp2_with fail
      refine K5.step hs ?_
      intro wa hs _
      go_wp2_with fail
      refine K6.step hs ?_
      intro wa hs _
      go_wp2_with fail
      refine AW.step hs ?_
      intro wa hs _
      go_wp2_with fail
      go_ret
      exact ⟨rfl, hs.2⟩
    · obtain ⟨e1, e2⟩ := HB.out.1 h1
      skip
      subst h1 h2
      subst e2
      skip
      subst e1
      skip
      clear HB HN
      go_enter Tryz.func13, Tryz.ntmps13
      go_wp2_with fail
      refine K1.step hs ?_
      intro wa hs _
      go_wp2_with fail
      refine K2.step hs ?_
      intro wa hs _
      go_wp2_with fail
      refine K3.step hs ?_
      intro wa hs _
      go_wp2_with fail
      refine K4.step hs ?_
      intro wa hs _
      go_wp2_with fail
      refine K5.step hs ?_
      intro wa hs _
      go_wp2_with fail
      refine AW.step hs ?_
      intro wa hs _
      go_wp2_with fail
      go_ret
      exact ⟨rfl, hs.2⟩
    · skip
      obtain ⟨e3, e4⟩ := HB.out.2 h2
      subst h1 h2
      skip
      subst e4
      skip
      subst e3
      clear HB HN
      go_enter Tryz.func13, Tryz.ntmps13
      go_wp2_with fail
      refine K1.step hs ?_
      intro wa hs _
      go_wp2_with fail
      refine K2.step hs ?_
      intro wa hs _
      go_wp2_with fail
      refine K3.step hs ?_
      intro wa hs _
      go_wp2_with fail
      refine K4.step hs ?_
      intro wa hs _
      go_wp2_with fail
      refine K6.step hs ?_
      intro wa hs _
      go_wp2_with fail
      refine AW.step hs ?_
      intro wa hs _
      go_wp2_with fail
      go_ret
      exact ⟨rfl, hs.2⟩
    · skip
      skip
      subst h1 h2
      skip
      skip
      skip
      skip
      clear HB HN
      go_enter Tryz.func13, Tryz.ntmps13
      go_wp2_with fail
      refine K1.step hs ?_
      intro wa hs _
      go_wp2_with fail
      refine K2.step hs ?_
      intro wa hs _
      go_wp2_with fail
      refine K3.step hs ?_
      intro wa hs _
      go_wp2_with fail
      refine K4.step hs ?_
      intro wa hs _
      go_wp2_with fail
      refine AW.step hs ?_
      intro wa hs _
      go_wp2_with fail
      go_ret
      exact ⟨rfl, hs.2⟩
end Go.Proofs.YtndkglmokhndnaaGreatDoor
