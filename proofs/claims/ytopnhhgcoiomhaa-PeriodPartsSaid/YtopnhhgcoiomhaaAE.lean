/- Period: AE; for every input. -/
import Derived.Test.YtopnhhgcoiomhaaAC
import Derived.Test.YtopnhhgcoiomhaaS
import Derived.Test.YtopnhhgcoiomhaaRows
import Derived.WalkKit
import Derived.ProofKit
import Derived.OpenShut
import Derived.WalkLawsBesides
import Derived.Deep.QuietTactic
import Derived.Deep.LoopGhost
import Derived.Deep.RegionWith
import Derived.BigQuiet
import Derived.Lib.Hide
import Derived.Lib.SmallJoins
import Derived.Deep.RegionHeld3
namespace Go.Proofs.Ytopnhhgcoiomhaa
open Go.RowKit
theorem fnd_pre (l : List (Int × Int)) (d : Int) : ∀ (j : Nat) (x : Int × Int), j < fnd l d → l[j]? = some x → x.1 < d := by
  intro j x hj hx
  have hp := List.takeWhile_prefix (fun x : Int × Int => decide (x.1 < d)) (l := l)
  have e := List.prefix_iff_eq_take.1 hp
  have hx' : (l.takeWhile (fun x => decide (x.1 < d)))[j]? = some x := by
    rw [e, List.getElem?_take, if_pos (show j < (l.takeWhile (fun x => decide (x.1 < d))).length from hj)]; exact hx
  have := mem_tw _ l (List.mem_of_getElem? hx')
  simpa using this
theorem fnd_at (l : List (Int × Int)) (d : Int) : ∀ x : Int × Int, l[fnd l d]? = some x → d ≤ x.1 := by
  unfold fnd
  induction l with
  | nil => intro x h; simp at h
  | cons a l ih =>
    intro x h
    by_cases ha : a.1 < d
    · rw [List.takeWhile_cons, if_pos (by simpa using ha)] at h
      exact ih x (by simpa using h)
    · rw [List.takeWhile_cons, if_neg (by simpa using ha)] at h
      simp at h
      subst h
      omega
theorem dayAt_lt {l : List (Int × Int)} (h : Good l) {k : Nat} {x : Int × Int} (hx : l[k]? = some x) : dayAt l k ≤ x.1 := by
  cases k with
  | zero => have := h.one 0 x hx; simp [dayAt]; omega
  | succ k =>
    have hk : k + 1 < l.length := (List.getElem?_eq_some_iff.1 hx).1
    obtain ⟨y, hy⟩ : ∃ y, l[k]? = some y := ⟨l[k], by simp [show k < l.length by omega]⟩
    have := h.two k y x hy hx
    rw [dayAt_succ hy]; omega
/-- a day lies in the k-th period exactly if Find returns k -/
theorem in_period {l : List (Int × Int)} (_h : Good l) {d : Int} (hd : -25567 ≤ d) {k : Nat} {x : Int × Int} (hx : l[k]? = some x) : (dayAt l k ≤ d ∧ d < x.1 + 1) ↔ fnd l d = k := by
  have hk : k < l.length := (List.getElem?_eq_some_iff.1 hx).1
  constructor
  · rintro ⟨h1, h2⟩
    refine fnd_is (by omega) (fun j y hj hy => ?_) (fun y hy => by rw [hx] at hy; cases hy; omega)
    have hk1 : k - 1 < l.length := by omega
    obtain ⟨z, hz⟩ : ∃ z, l[k - 1]? = some z := ⟨l[k - 1], by simp [hk1]⟩
    have e : dayAt l k = z.1 + 1 := by have := dayAt_succ hz; rwa [show k - 1 + 1 = k by omega] at this
    have := _h.mono j (k - 1) y z (by omega) hy hz
    omega
  · intro e
    subst e
    refine ⟨?_, by have := fnd_at l d x hx; omega⟩
    cases hf : fnd l d with
    | zero => simp [dayAt]; omega
    | succ n =>
      obtain ⟨z, hz⟩ : ∃ z, l[n]? = some z := ⟨l[n]'(by omega), by simp⟩
      rw [dayAt_succ hz]
      have := fnd_pre l d n z (by omega) hz
      omega
theorem closed_all {l : List (Int × Int)} (h : Good l) {d : Int} (hd : -25567 ≤ d) : fnd l d < l.length ↔ d < dayAt l l.length := by
  constructor
  · intro hf
    obtain ⟨x, hx⟩ : ∃ x, l[fnd l d]? = some x := ⟨l[fnd l d], by simp [hf]⟩
    have h1 := fnd_at l d x hx
    have h2 := dayAt_mono h (fnd l d + 1) l.length (by omega) (by omega)
    rw [dayAt_succ hx] at h2
    omega
  · intro hlt
    rcases Nat.lt_or_ge (fnd l d) l.length with hh | hh
    · exact hh
    · exfalso
      have e : fnd l d = l.length := by have := fnd_le l d; omega
      cases hl : l.length with
      | zero => rw [hl] at hlt; simp [dayAt] at hlt; omega
      | succ n =>
        obtain ⟨z, hz⟩ : ∃ z, l[n]? = some z := ⟨l[n]'(by omega), by simp⟩
        rw [hl, dayAt_succ hz] at hlt
        have := fnd_pre l d n z (by omega) hz
        omega

theorem periods_good {l : List (Int × Int)} (h : chk l = 0) (A : Option Addr) (c : Nat) (w : World) (hc : Cl w w.heap.size A l) (hm : l.length ≤ 9223372036854775807) :
    Calls Try.prog 24 #[.slice A l.length c] w fun e w' => ∃ A' c', e = .returned (.tuple #[.slice A' l.length c', .int .i64 0]) ∧ Cl w' w'.heap.size A' (prd l l.length) ∧ Below w.heap.size w w' := by
  refine (Periods_any A c l w hc hm).mono ?_
  intro e w' hh
  obtain ⟨A', c', rfl, hc', hb⟩ := handed_cl hh
  have e0 : perE l = 0 := by simp [perE, h]
  have e1 : lst (perE l) (prd l l.length) = prd l l.length := by simp [lst, e0]
  rw [e1] at hc' ⊢
  rw [prd_len, e0]
  exact ⟨A', c', rfl, hc', hb⟩
theorem find_good {l : List (Int × Int)} (h : chk l = 0) (A : Option Addr) (c : Nat) (d : Int) (h1 : -25567 ≤ d) (h2 : d ≤ 84005) (w : World) (hc : Cl w w.heap.size A l) (hm : l.length ≤ 9223372036854775807) (i : Int) (b : Bool) (hi : fndI l d = i) (hb : fndB l d = b) :
    Calls Try.prog 22 #[.slice A l.length c, .int .i64 d] w fun e w' => e = .returned (.tuple #[.int .i64 i, .bool b, .int .i64 0]) ∧ Below w.heap.size w w' := by
  have := Find_any A c l d w hc hm
  rw [ck_good h (by omega) h1 h2, hi, hb] at this
  exact this

set_option maxRecDepth 100000 in
set_option maxHeartbeats 4000000 in
theorem parts_fine (A : Option Addr) (c : Nat) (l : List (Int × Int)) (d : Int) (w : World) (hc : Cl w w.heap.size A l) (hm : l.length ≤ 9223372036854775807)
    (hf : fineB l = true) (h1 : -25567 ≤ d) (h2 : d ≤ 84005) :
    Calls Try.prog 8 #[.slice A l.length c, .int .i64 d] w fun e w' => e = .returned (.bool true) ∧ Below w.heap.size w w' := by
  obtain ⟨h0, hg⟩ := fine_good hf
  have hlen := hg.len
  have hF := fine_any A c l w hc hm
  rw [hf] at hF
  have HF := Lib.hid hF
  have H0 := Lib.hid h0
  have HG := Lib.hid hg
  have Hc := Lib.hid hc
  clear hF hc h0 hf hg
  have k1 : decide (d < -25567) = false := by simp; omega
  have k2 : decide (84005 < d) = false := by simp; omega
  have hck : ck l 0 d = 0 := ck_good H0.out (by omega) h1 h2
  obtain ⟨i, hi⟩ : ∃ i, fndI l d = i := ⟨_, rfl⟩
  obtain ⟨is, his⟩ : ∃ b, fndB l d = b := ⟨_, rfl⟩
  have HB : Hid (is = decide (fnd l d < l.length)) := by show is = _; rw [← his]; simp [fndB, hck]
  have HI : Hid (is = true → i = fnd l d) := by
    show is = true → i = fnd l d
    intro h; rw [← hi]; rw [← his] at h; unfold fndB at h; unfold fndI; rw [if_pos (of_decide_eq_true h)]
  have HN : Hid (is = false → i = 0) := by
    show is = false → i = 0
    intro h; rw [← hi]; rw [← his] at h; unfold fndB at h; unfold fndI; rw [if_neg (of_decide_eq_false h)]
  have HFI := Lib.hid hi
  have HFB := Lib.hid his
  clear hi his hck
  go_enter Try.func8, Try.ntmps8
  go_wp2_with fail
  refine HF.out.mono ?_
  rintro e w1 ⟨rfl, hb1⟩
  have Hc1 := Lib.hid (Hc.out.up hb1)
  go_wp2_with fail
  refine (periods_good H0.out A c w1 Hc1.out hm).mono ?_
  rintro e w2 ⟨A2, c2, rfl, hc2, hb2⟩
  have Hc2 := Lib.hid (Hc1.out.up hb2)
  have HP := Lib.hid hc2
  have hB2 := hb1.trans (hb2.mono hb1.size)
  clear hc2
  go_wp2_with fail
  refine (find_good H0.out A c d h1 h2 w2 Hc2.out hm i is HFI.out HFB.out).mono ?_
  rintro e w3 ⟨rfl, hb3⟩
  have HP3 := Lib.hid (HP.out.up hb3)
  have Hc3 := Lib.hid (Hc2.out.up hb3)
  have hB3 := hB2.trans (hb3.mono hB2.size)
  clear hb1 hb2 hb3 hB2 Hc1 Hc2 HP HF
  have HD0 : Hid (dayAt l 0 = -25567) := rfl
  go_wp2_with fail
  go_loopw [10, 53] (fun f j wr => ∃ k : Nat, k ≤ l.length ∧ j = .int .i64 k ∧ f = .int .i64 (dayAt l k) ∧ Below w3.heap.size w3 wr) (fun _ j _ => l.length - (intOf j).toNat)
  case atStart => exact ⟨0, by omega, rfl, by rw [HD0.out], Below.refl _ _⟩
  case round =>
    obtain ⟨k, hk, rfl, rfl, hb⟩ := hrel
    have hB := hB3.trans (hb.mono hB3.size)
    by_cases hlt : k < l.length
    · obtain ⟨y, hy⟩ : ∃ y, l[k]? = some y := ⟨l[k], by simp [hlt]⟩
      obtain ⟨b, o, hA, hBl, g1, g2⟩ := (Hc3.out.below hb) k _ hy
      obtain ⟨b2, o2, hA2, hBl2, p1, p2⟩ := (HP3.out.below hb) k _ (prd_get l l.length k hlt)
      subst hA hA2
      have hbl : b < wr.heap.size := Nat.lt_of_lt_of_le hBl hb.size
      have hyb := HG.out.one k y hy
      have HIn := Lib.hid (in_period HG.out h1 hy)
      have hda := dayAt_lt HG.out hy
      have HD := Lib.hid (dayAt_succ hy)
      dsimp only at p1 p2
      rw [HD.out] at p2
      clear hy g2
      obtain ⟨a, ha⟩ : ∃ a, dayAt l k = a := ⟨_, rfl⟩
      have HA := Lib.hid ha
      rw [ha] at hda p1 ⊢
      clear ha
      have t1 : decide (y.1 + 1 ≤ a) = false := by simp; omega
      have hin : (a ≤ d ∧ d < y.1 + 1) ↔ fnd l d = k := by rw [← HA.out]; exact HIn.out
      by_cases hc1 : a ≤ d
      · have t2 : decide (a ≤ d) = true := by simp [hc1]
        by_cases hc2 : d < y.1 + 1
        · have t3 : decide (d < y.1 + 1) = true := by simp [hc2]
          have hfk := hin.1 ⟨hc1, hc2⟩
          have e1 : is = true := by rw [HB.out]; simp; omega
          have e2 : i = k := by rw [HI.out e1, hfk]
          clear hin hfk
          subst e1 e2
          go_wp2
          go_quiet (fail)
          go_wp2
          go_roundw
          case rel => exact ⟨k + 1, by omega, by go_num, by rw [HD.out], below_drewN (hb.alloc hb.size _) _⟩
          case measure => simp [intOf]; omega
        · have t3 : decide (d < y.1 + 1) = false := by simp; omega
          have hfk : fnd l d ≠ k := fun e => hc2 (hin.2 e).2
          cases is with
          | true =>
            have t4 : (i == (k : Int)) = false := by have := HI.out rfl; simp; omega
            clear hin hfk
            go_wp2
            go_quiet (fail)
            go_wp2
            go_roundw
            case rel => exact ⟨k + 1, by omega, by go_num, by rw [HD.out], below_drewN (hb.alloc hb.size _) _⟩
            case measure => simp [intOf]; omega
          | false =>
            clear hin hfk
            go_wp2
            go_quiet (fail)
            go_wp2
            go_roundw
            case rel => exact ⟨k + 1, by omega, by go_num, by rw [HD.out], below_drewN (hb.alloc hb.size _) _⟩
            case measure => simp [intOf]; omega
      · have t2 : decide (a ≤ d) = false := by simp; omega
        have hfk : fnd l d ≠ k := fun e => hc1 (hin.2 e).1
        cases is with
        | true =>
          have t4 : (i == (k : Int)) = false := by have := HI.out rfl; simp; omega
          clear hin hfk
          go_wp2
          go_quiet (fail)
          go_wp2
          go_roundw
          case rel => exact ⟨k + 1, by omega, by go_num, by rw [HD.out], below_drewN (hb.alloc hb.size _) _⟩
          case measure => simp [intOf]; omega
        | false =>
          clear hin hfk
          go_wp2
          go_quiet (fail)
          go_wp2
          go_roundw
          case rel => exact ⟨k + 1, by omega, by go_num, by rw [HD.out], below_drewN (hb.alloc hb.size _) _⟩
          case measure => simp [intOf]; omega
    · have hkk : k = l.length := by omega
      have hcl := closed_all HG.out h1
      rw [← hkk] at hcl
      obtain ⟨a, ha⟩ : ∃ a, dayAt l k = a := ⟨_, rfl⟩
      rw [ha] at hcl ⊢
      clear ha
      cases is with
      | true =>
        have t1 : decide (d < a) = true := by have := HB.out; simp at this ⊢; omega
        clear hcl hkk
        go_wp2_with fail
        refine (awake_any _).mono ?_
        rintro e w9 ⟨rfl, hb9⟩
        have hB9 := hB.trans (hb9.mono hB.size)
        go_wp2_with fail
        go_ret
        exact ⟨rfl, hB9⟩
      | false =>
        have t1 : decide (d < a) = false := by have := HB.out; simp at this ⊢; omega
        have e0 := HN.out rfl
        subst e0
        clear hcl hkk
        go_wp2_with fail
        refine (awake_any _).mono ?_
        rintro e w9 ⟨rfl, hb9⟩
        have hB9 := hB.trans (hb9.mono hB.size)
        go_wp2_with fail
        go_ret
        exact ⟨rfl, hB9⟩

set_option maxHeartbeats 2000000 in
theorem parts_any (A : Option Addr) (c : Nat) (l : List (Int × Int)) (d : Int) (w : World) (hc : Cl w w.heap.size A l) (hm : l.length ≤ 9223372036854775807) :
    Calls Try.prog 8 #[.slice A l.length c, .int .i64 d] w fun e w' => e = .returned (.bool true) ∧ Below w.heap.size w w' := by
  by_cases hall : fineB l = true ∧ -25567 ≤ d ∧ d ≤ 84005
  · exact parts_fine A c l d w hc hm hall.1 hall.2.1 hall.2.2
  have hb0 : Below w.heap.size w w := Below.refl _ _
  obtain ⟨f, hf⟩ : ∃ f, fineB l = f := ⟨_, rfl⟩
  have hF := fine_any A c l _ hc hm
  rw [hf] at hF hall
  have HF := Lib.hid hF
  clear hF hc hf
  have h3 : f = false ∨ f = true ∧ (d < -25567 ∨ ¬ d < -25567 ∧ 84005 < d) := by
    cases f
    · exact .inl rfl
    refine .inr ⟨rfl, ?_⟩
    by_cases b : d < -25567
    · exact .inl b
    exact .inr ⟨b, Int.not_le.1 fun hn => hall ⟨rfl, by omega, hn⟩⟩
  clear hall
  rcases h3 with rfl | ⟨rfl, b | ⟨b, b'⟩⟩
  · go_enter Try.func8, Try.ntmps8
    go_wp2_with fail
    refine HF.out.mono ?_
    rintro e w1 ⟨rfl, hb1⟩
    go_wp2_with fail
    refine (awake_any w1).mono ?_
    rintro e w7 ⟨rfl, hb7⟩
    have hB1 := hb0.trans (hb1.mono hb0.size)
    have hB7 := hB1.trans (hb7.mono hB1.size)
    go_wp2_with fail
    go_ret
    exact ⟨rfl, hB7⟩
  · have k1 : decide (d < -25567) = true := by simp; omega
    go_enter Try.func8, Try.ntmps8
    go_wp2_with fail
    refine HF.out.mono ?_
    rintro e w1 ⟨rfl, hb1⟩
    go_wp2_with fail
    refine (awake_any w1).mono ?_
    rintro e w7 ⟨rfl, hb7⟩
    have hB1 := hb0.trans (hb1.mono hb0.size)
    have hB7 := hB1.trans (hb7.mono hB1.size)
    go_wp2_with fail
    go_ret
    exact ⟨rfl, hB7⟩
  · have k1 : decide (d < -25567) = false := by simp; omega
    have k2 : decide (84005 < d) = true := by simp; omega
    go_enter Try.func8, Try.ntmps8
    go_wp2_with fail
    refine HF.out.mono ?_
    rintro e w1 ⟨rfl, hb1⟩
    go_wp2_with fail
    refine (awake_any w1).mono ?_
    rintro e w7 ⟨rfl, hb7⟩
    have hB1 := hb0.trans (hb1.mono hb0.size)
    have hB7 := hB1.trans (hb7.mono hB1.size)
    go_wp2_with fail
    go_ret
    exact ⟨rfl, hB7⟩
end Go.Proofs.Ytopnhhgcoiomhaa
