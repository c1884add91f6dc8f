/- Period: AC; for every input. -/
import Derived.Test.YtopnhhgcoiomhaaAA
import Derived.Test.YtopnhhgcoiomhaaAB
import Derived.Test.YtopnhhgcoiomhaaRows
import Derived.WalkKit
import Derived.ProofKit
import Derived.OpenShut
import Derived.WalkLawsBesides
import Derived.Deep.QuietTactic
import Derived.Deep.LoopGhost
import Derived.Deep.RegionWith
import Derived.BigQuiet
import Derived.Lib.Hide
import Derived.Lib.SmallJoins
import Derived.Deep.RegionHeld3
namespace Go.Proofs.Ytopnhhgcoiomhaa
open Go.RowKit
def lst (err : Int) (l : List (Int × Int)) : List (Int × Int) := if err = 0 then l else []
theorem handed_cl {E : TypeId} {w w' : World} {err : Int} {l : List (Int × Int)} {e : Ending} (h : Handed E w err l e w') :
    ∃ A c, e = .returned (.tuple #[.slice A (lst err l).length c, .int .i64 err]) ∧ Cl w' w'.heap.size A (lst err l) ∧ Below w.heap.size w w' := by
  obtain ⟨v, rfl, h1, h2, hb⟩ := h
  by_cases h0 : err = 0
  · have e : lst err l = l := by simp [lst, h0]
    obtain ⟨A, c, rfl, hc, _, _⟩ := cl_of_own (h1 h0)
    rw [e]
    exact ⟨A, c, rfl, hc, hb⟩
  · have e : lst err l = [] := by simp [lst, h0]
    rw [h2 h0, e]
    exact ⟨none, 0, rfl, fun i x hx => by simp at hx, hb⟩

theorem equal_same (A A' : Option Addr) (c c' : Nat) (l : List (Int × Int)) (w : World) (hc : Cl w w.heap.size A l) (hc' : Cl w w.heap.size A' l) (hl : l.length ≤ 9223372036854775807) :
    Calls Try.prog 17 #[.slice A l.length c, .slice A' l.length c'] w fun e w' => e = .returned (.bool true) ∧ ∃ n, w' = w.drewN n := by
  have := equal_any A A' c c' l l w hc hc' hl
  rw [decide_eq_true rfl] at this
  exact this
theorem equal48_same (A A' : Option Addr) (c c' : Nat) (l : List (Int × Int)) (w : World) (hc : Cl w w.heap.size A l) (hc' : Cl w w.heap.size A' l) (hl : l.length ≤ 9223372036854775807) :
    Calls Try.prog 28 #[.slice A l.length c, .slice A' l.length c'] w fun e w' => e = .returned (.bool true) ∧ ∃ n, w' = w.drewN n := by
  have := equal48_any A A' c c' l l w hc hc' hl
  rw [decide_eq_true rfl] at this
  exact this
theorem lst_len (err : Int) (l : List (Int × Int)) : (lst err l).length ≤ l.length := by unfold lst; split <;> simp

set_option maxRecDepth 100000 in
set_option maxHeartbeats 4000000 in
theorem checks_any (A : Option Addr) (c : Nat) (l : List (Int × Int)) (x : Int × Int) (w : World) (hc : Cl w w.heap.size A l) (hm : l.length ≤ 9223372036854775807) :
    Calls Try.prog 9 #[.slice A l.length c, .agg #[.int .i64 x.1, .int .i64 x.2]] w fun e w' => e = .returned (.bool true) ∧ Below w.heap.size w w' := by
  have hb0 : Below w.heap.size w (w.alloc (.cells #[.int .i64 x.1, .int .i64 x.2] 30)) := (Below.refl _ _).alloc (Nat.le_refl _) _
  have hx1 : (w.alloc (.cells #[.int .i64 x.1, .int .i64 x.2] 30)).cell? ⟨w.heap.size, 0, none⟩ = some (.int .i64 x.1) := (BlkC.new w 30 #[.int .i64 x.1, .int .i64 x.2]).cell 0
  have hx2 : (w.alloc (.cells #[.int .i64 x.1, .int .i64 x.2] 30)).cell? ⟨w.heap.size, 1, none⟩ = some (.int .i64 x.2) := (BlkC.new w 30 #[.int .i64 x.1, .int .i64 x.2]).cell 1
  have hz0 : w.heap.size < (w.alloc (.cells #[.int .i64 x.1, .int .i64 x.2] 30)).heap.size := by simp
  have Hc0 := Lib.hid (hc.up hb0)
  have hG := fun W => great_any A l.length c W hm
  obtain ⟨g, hg⟩ : ∃ g, grt l.length = g := ⟨_, rfl⟩
  rw [hg] at hG
  have HG := Lib.hid hG
  clear hG hg hc
  cases g with
  | true =>
    clear hx1 hx2
    go_enter Try.func9, Try.ntmps9
    go_wp2_with fail
    refine (HG.out _).mono ?_
    rintro e w1 ⟨rfl, rfl⟩
    go_wp2_with fail
    refine (awake_any _).mono ?_
    rintro e w7 ⟨rfl, hb7⟩
    have hB7 := hb0.trans (hb7.mono hb0.size)
    go_wp2_with fail
    go_ret
    exact ⟨rfl, hB7⟩
  | false =>
    have C1 := fun W (h : Cl W W.heap.size A l) => Check_any A c l W h hm
    have C2 := fun W (h : Cl W W.heap.size A l) => rCheck_any A c l W h hm
    generalize chk l = r at C1 C2
    have D1 := Lib.hid C1
    have D2 := Lib.hid C2
    clear C1 C2
    go_enter Try.func9, Try.ntmps9
    go_wp2_with fail
    refine (HG.out _).mono ?_
    rintro e w0 ⟨rfl, rfl⟩
    generalize w.alloc (.cells #[.int .i64 x.1, .int .i64 x.2] 30) = W0 at hb0 hx1 hx2 hz0 Hc0 ⊢
    go_wp2_with fail
    refine (Add_any A c l x W0 Hc0.out hm).mono ?_
    rintro e w1 hh
    obtain ⟨A1, c1, rfl, hc1, hb1⟩ := handed_cl hh
    clear hh
    have hB1 := hb0.trans (hb1.mono hb0.size)
    have Hc1 := Lib.hid (Hc0.out.up hb1)
    have HL1 := Lib.hid hc1
    have hy1 := (hb1.cell (p := ⟨w.heap.size, 0, none⟩) hz0).trans hx1
    have hy2 := (hb1.cell (p := ⟨w.heap.size, 1, none⟩) hz0).trans hx2
    clear hx1 hx2 hc1
    go_wp2_with fail
    refine (rAdd_any A c l x w1 Hc1.out hm).mono ?_
    rintro e w2 hh
    obtain ⟨A2, c2, rfl, hc2, hb2⟩ := handed_cl hh
    clear hh hy1 hy2
    have hB2 := hB1.trans (hb2.mono hB1.size)
    have Hc2 := Lib.hid (Hc1.out.up hb2)
    have HL2 := Lib.hid hc2
    have HL1b := Lib.hid (HL1.out.up hb2)
    clear hc2
    go_wp2_with fail
    refine (Periods_any A c l w2 Hc2.out hm).mono ?_
    rintro e w3 hh
    obtain ⟨A3, c3, rfl, hc3, hb3⟩ := handed_cl hh
    clear hh
    have hB3 := hB2.trans (hb3.mono hB2.size)
    have Hc3 := Lib.hid (Hc2.out.up hb3)
    have HL3 := Lib.hid hc3
    have HL1c := Lib.hid (HL1b.out.up hb3)
    have HL2c := Lib.hid (HL2.out.up hb3)
    clear hc3
    go_wp2_with fail
    refine (rPeriods_any A c l w3 Hc3.out hm).mono ?_
    rintro e w4 hh
    obtain ⟨A4, c4, rfl, hc4, hb4⟩ := handed_cl hh
    clear hh
    have hB4 := hB3.trans (hb4.mono hB3.size)
    have Hc4 := Lib.hid (Hc3.out.up hb4)
    have HL4 := Lib.hid hc4
    have HL1d := Lib.hid (HL1c.out.up hb4)
    have HL2d := Lib.hid (HL2c.out.up hb4)
    have HL3d := Lib.hid (HL3.out.up hb4)
    clear hc4 HL1 HL1b HL1c HL2 HL2c HL3 Hc0 Hc1 Hc2 Hc3 hb1 hb2 hb3 hb4 hB1 hB2 hB3 hb0 hz0
    have hl1 : (lst (addE l x) (l ++ [x])).length ≤ 9223372036854775807 := by
      by_cases h : addE l x = 0
      · unfold addE at h
        by_cases h' : chk l = 0
        · have := chk_len h'; have := lst_len (addE l x) (l ++ [x]); simp at this; omega
        · rw [if_pos h'] at h; omega
      · simp [lst, h]
    have hl2 : (lst (perE l) (prd l l.length)).length ≤ 9223372036854775807 := by have := lst_len (perE l) (prd l l.length); rw [prd_len] at this; omega
    generalize addE l x = e1 at HL1d HL2d hl1 ⊢
    generalize lst e1 (l ++ [x]) = l1 at HL1d HL2d hl1 ⊢
    generalize perE l = e2 at HL3d HL4 hl2 ⊢
    generalize lst e2 (prd l l.length) = l2 at HL3d HL4 hl2 ⊢
    go_wp2_with fail
    refine (D1.out _ Hc4.out).mono ?_
    rintro e w5 ⟨rfl, hb5⟩
    have hB5 := hB4.trans (hb5.mono hB4.size)
    have Hc5 := Lib.hid (Hc4.out.up hb5)
    have E1 := Lib.hid (HL1d.out.up hb5)
    have E2 := Lib.hid (HL2d.out.up hb5)
    have E3 := Lib.hid (HL3d.out.up hb5)
    have E4 := Lib.hid (HL4.out.up hb5)
    go_wp2_with fail
    refine (D2.out _ Hc5.out).mono ?_
    rintro e w6 ⟨rfl, hb6⟩
    have hB6 := hB5.trans (hb6.mono hB5.size)
    have F1 := Lib.hid (E1.out.up hb6)
    have F2 := Lib.hid (E2.out.up hb6)
    have F3 := Lib.hid (E3.out.up hb6)
    have F4 := Lib.hid (E4.out.up hb6)
    clear E1 E2 E3 E4 HL1d HL2d HL3d HL4 Hc4 Hc5 hb5 hb6 hB4 hB5
    go_wp2_with fail
    refine (equal_same A1 A2 c1 c2 l1 w6 F1.out F2.out hl1).mono ?_
    rintro e w7 ⟨rfl, n7, rfl⟩
    go_wp2_with fail
    refine (equal48_same A3 A4 c3 c4 l2 _ (F3.out.up (below_drewN (Below.refl _ _) _)) (F4.out.up (below_drewN (Below.refl _ _) _)) hl2).mono ?_
    rintro e w8 ⟨rfl, n8, rfl⟩
    go_wp2_with fail
    refine (awake_any _).mono ?_
    rintro e w9 ⟨rfl, hb9⟩
    have hB8 := below_drewN hB6 (n7 + n8)
    have hB9 := hB8.trans (hb9.mono hB8.size)
    go_wp2_with fail
    go_ret
    exact ⟨rfl, hB9⟩
end Go.Proofs.Ytopnhhgcoiomhaa
