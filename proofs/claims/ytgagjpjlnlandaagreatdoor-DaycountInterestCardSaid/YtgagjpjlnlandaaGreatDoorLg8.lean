/- Parts of years: the look at sizes of the statements. Condition: the argument lies in a block. -/
import Derived.Test.YtgagjpjlnlandaaGreatDoorFc
namespace Go.Proofs.YtgagjpjlnlandaaGreatDoor
open Go.RowKit Go.Shelf Dec QQ

set_option maxRecDepth 100000 in
set_option maxHeartbeats 4000000 in
theorem long_one {a pn pd : ByteArray} (b : Nat) (h1 : pn.size ≤ 9223372036854775807) (h2 : pd.size ≤ 9223372036854775807) (h3 : a.size ≤ 9223372036854775807) :
    RetI (fun w => Bx w b #[.string pn, .string pd]) 27 #[.string a, .slice (some ⟨b, 0, none⟩) 1 1] (.bool (decide (20 < pn.size) || (decide (20 < pd.size) || decide (20 < a.size)))) := by
  intro w hg hi
  have hs := St.refl hg
  obtain ⟨t1, q1⟩ : ∃ t, decide (20 < pn.size) = t := ⟨_, rfl⟩
  obtain ⟨t2, q2⟩ : ∃ t, decide (20 < pd.size) = t := ⟨_, rfl⟩
  obtain ⟨t3, q3⟩ : ∃ t, decide (20 < a.size) = t := ⟨_, rfl⟩
  have q1i : decide ((20 : Int) < (pn.size : Int)) = t1 := by rw [← q1, decide_eq_decide]; omega
  have q2i : decide ((20 : Int) < (pd.size : Int)) = t2 := by rw [← q2, decide_eq_decide]; omega
  have q3i : decide ((20 : Int) < (a.size : Int)) = t3 := by rw [← q3, decide_eq_decide]; omega
  rw [q1, q2, q3]
  have Hi := Lib.hid hi
  clear hi
  go_enter Tryz.func27, Tryz.ntmps27
  go_wp2_with fail
  go_loopw [9] (fun s wr => ∃ i : Nat, i ≤ 1 ∧ s = .int .i64 (i : Int) ∧ St w wr ∧ Hid (Bx wr b #[.string pn, .string pd]) ∧ Hid (i = 1 → t1 = false ∧ t2 = false)) (fun s _ => (1 - intOf s).toNat)
  case atStart => exact ⟨0, by omega, rfl, hs, Hi.out, fun h => by cases h⟩
  case round =>
    obtain ⟨i, hi1, rfl, hs, HX, HT⟩ := hrel
    by_cases h0 : i = 0
    · subst h0
      have x0 := HX.out.cell (i := 0) (v := .string pn) rfl
      have x1 := HX.out.cell (i := 1) (v := .string pd) rfl
      clear HT
      cases t1 with
      | true =>
        go_wp2_with fail
        go_ret
        exact ⟨rfl, (hs.alloc _).2⟩
      | false =>
        cases t2 with
        | true =>
          go_wp2_with fail
          go_ret
          exact ⟨rfl, (hs.alloc _).2⟩
        | false =>
          go_wp2_with fail
          go_roundw
          case rel => exact ⟨1, by omega, rfl, hs.alloc _, HX.out.alloc _, by first | exact fun _ => ⟨rfl, rfl⟩ | exact fun _ => ⟨trivial, trivial⟩ | exact fun _ => trivial⟩
          case measure => simp [intOf]
    · obtain rfl : i = 1 := by omega
      obtain ⟨e1, e2⟩ := HT.out rfl
      subst e1 e2
      clear HT
      go_wp2_with fail
      go_ret
      exact ⟨by rfl, hs.2⟩
end Go.Proofs.YtgagjpjlnlandaaGreatDoor
