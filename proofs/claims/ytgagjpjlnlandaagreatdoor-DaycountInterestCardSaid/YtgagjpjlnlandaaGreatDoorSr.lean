/- The contract of sort.Search over a closure that turns nothing old. Conditions: sizes below 2^62; the closure's answers rise. -/
import Derived.Test.YtgagjpjlnlandaaGreatDoorFc
namespace Go.Proofs.YtgagjpjlnlandaaGreatDoor
open Go.RowKit Go.Shelf Dec

set_option maxRecDepth 100000 in
set_option maxHeartbeats 4000000 in
theorem search_any {n r : Nat} {p : Nat → Bool} {f : FuncId} {cap : Array Value} {I : World → Prop} (hI : Stays I) (hn : n ≤ 1099511627776) (hcf : ∀ (args : Array Value) (u : World), (callFunc f args).run Tryz.prog u = .ok (.enter f args) u)
    (hr : r ≤ n) (h0 : ∀ i, i < r → p i = false) (h1 : ∀ i, r ≤ i → i < n → p i = true) (KF : Hid (∀ i, i < n → RetI I f (#[.int .i64 (i : Int)] ++ cap) (.bool (p i)))) :
    RetI I 104 #[.int .i64 (n : Int), .func (.func f) #[] cap] (.int .i64 (r : Int)) := by
  intro w hg hi
  have hs := St.refl hg
  have Hi := Lib.hid hi
  have HI := Lib.hid hI
  have H0 := Lib.hid h0
  have H1 := Lib.hid h1
  have HR := Lib.hid hr
  clear hi hI h0 h1 hr
  go_enter Tryz.func104, Tryz.ntmps104
  go_wp2_with fail
  go_loopw [5, 6] (fun s t wr => ∃ i j : Nat, s = .int .i64 (i : Int) ∧ t = .int .i64 (j : Int) ∧ j ≤ n ∧ St w wr ∧ Hid (I wr) ∧ Hid (i ≤ r ∧ r ≤ j)) (fun s t _ => (intOf t - intOf s).toNat)
  case atStart => exact ⟨0, n, rfl, rfl, Nat.le_refl _, hs, Hi.out, Nat.zero_le _, HR.out⟩
  case round =>
    obtain ⟨i, j, rfl, rfl, hj, hs, HW, HB⟩ := hrel
    by_cases hij : i < j
    · have q : decide ((i : Int) < (j : Int)) = true := decide_eq_true (by omega)
      have qn : decide (i < j) = true := decide_eq_true hij
      obtain ⟨h, hh⟩ : ∃ h, (i + j) / 2 = h := ⟨_, rfl⟩
      have e : ((i : Int) + (j : Int)) / 2 = (h : Int) := by omega
      have KK := KF.out h (by omega)
      have h2 : i ≤ h ∧ h < j := by omega
      clear hh
      cases hp : p h with
      | true =>
        have HH : Hid (r ≤ h) := by
          rcases Nat.lt_or_ge h r with hl | hl
          · have := H0.out h hl; rw [hp] at this; cases this
          · exact hl
        rw [hp] at KK
        clear hp
        go_wp2_with fail
        refine KK.step hs HW.out ?_
        intro w2 hs hb
        have HW2 := Lib.hid (HI.out _ _ HW.out hb)
        go_wp2_with fail
        go_roundw
        case rel => exact ⟨i, h, rfl, rfl, by omega, hs, HW2.out, HB.out.1, HH.out⟩
        case measure => simp [intOf]; omega
      | false =>
        have HH : Hid (h + 1 ≤ r) := by
          rcases Nat.lt_or_ge h r with hl | hl
          · exact hl
          · have := H1.out h hl (by omega); rw [hp] at this; cases this
        rw [hp] at KK
        clear hp
        go_wp2_with fail
        refine KK.step hs HW.out ?_
        intro w2 hs hb
        have HW2 := Lib.hid (HI.out _ _ HW.out hb)
        go_wp2_with fail
        go_roundw
        case rel => exact ⟨h + 1, j, by go_num, rfl, by omega, hs, HW2.out, HH.out, HB.out.2⟩
        case measure => simp [intOf]; omega
    · have q : decide ((i : Int) < (j : Int)) = false := decide_eq_false (by omega)
      have qn : decide (i < j) = false := decide_eq_false hij
      have e : Hid (i = r) := by have := HB.out; show _ = _; omega
      go_wp2_with fail
      go_ret
      exact ⟨by rw [← e.out]; rfl, hs.2⟩
end Go.Proofs.YtgagjpjlnlandaaGreatDoor
