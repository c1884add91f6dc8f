/- Period: awake and fine; for every input. -/
import Derived.Test.YtopnhhgcoiomhaaF
import Derived.Test.YtopnhhgcoiomhaaG
import Derived.Test.YtopnhhgcoiomhaaRows
import Derived.WalkKit
import Derived.ProofKit
import Derived.OpenShut
import Derived.WalkLawsBesides
import Derived.Deep.QuietTactic
import Derived.Deep.LoopGhost
import Derived.Deep.RegionWith
import Derived.BigQuiet
import Derived.Lib.Hide
namespace Go.Proofs.Ytopnhhgcoiomhaa
open Go.RowKit
def exL : List (Int × Int) := [(19753, 4), (19782, 9)]
theorem chk_ex : chk exL = 0 := by decide
theorem ck_ex (kn d : Int) (h : 0 ≤ kn) (h1 : -25567 ≤ d) (h2 : d ≤ 84005) : ck exL kn d = 0 := by
  unfold ck; rw [chk_ex]; simp; omega

theorem open_ex (b : Nat) (w : World) (kn v : Int) (h : 0 ≤ kn) (hv : opW exL kn = v) (hc : Cl w w.heap.size (some ⟨b, 0, none⟩) exL) :
    Calls Try.prog 12 #[.slice (some ⟨b, 0, none⟩) 2 2, .int .i64 kn] w fun e w' => e = .returned (.tuple #[.int .i64 v, .int .i64 0]) ∧ Below w.heap.size w w' := by
  have := Open_any (some ⟨b, 0, none⟩) 2 exL kn w hc (by decide)
  rw [ck_ex kn 0 h (by omega) (by omega), if_pos rfl, hv] at this
  exact this
theorem posting_ex (b : Nat) (w : World) (kn d v : Int) (h : 0 ≤ kn) (h1 : -25567 ≤ d) (h2 : d ≤ 84005) (hv : max d (opW exL kn) = v) (hc : Cl w w.heap.size (some ⟨b, 0, none⟩) exL) :
    Calls Try.prog 13 #[.slice (some ⟨b, 0, none⟩) 2 2, .int .i64 kn, .int .i64 d] w fun e w' => e = .returned (.tuple #[.int .i64 v, .int .i64 0]) ∧ Below w.heap.size w w' := by
  have := Posting_any (some ⟨b, 0, none⟩) 2 exL kn d w hc (by decide)
  rw [ck_ex kn d h h1 h2, if_pos rfl, hv] at this
  exact this
theorem cl_ex (w : World) (b : Nat) (h : w.heap[b]? = some (.cells #[.int .i64 19753, .int .i64 4, .int .i64 19782, .int .i64 9] 30 (0, 0))) : Cl w w.heap.size (some ⟨b, 0, none⟩) exL := by
  have hlt : b < w.heap.size := (Array.getElem?_eq_some_iff.1 h).1
  intro i x hx
  refine ⟨b, 0, rfl, hlt, ?_, ?_⟩
  all_goals
    match i, hx with
    | 0, hx => simp [exL] at hx; subst hx; simp [World.cell?, h]
    | 1, hx => simp [exL] at hx; subst hx; simp [World.cell?, h]
    | (i + 2), hx => simp [exL] at hx

set_option maxRecDepth 100000 in
set_option maxHeartbeats 2000000 in
theorem awake_any (w : World) : Calls Try.prog 11 #[] w fun e w' => e = .returned (.bool true) ∧ Below w.heap.size w w' := by
  have D1 := fun w => Lib.hid (day_any 2024 1 31 w (by decide) (by decide) (by decide) (by decide) (by decide) (by decide) 19753 (by decide))
  have D2 := fun w => Lib.hid (day_any 2024 2 29 w (by decide) (by decide) (by decide) (by decide) (by decide) (by decide) 19782 (by decide))
  have D3 := fun w => Lib.hid (day_any 2024 1 15 w (by decide) (by decide) (by decide) (by decide) (by decide) (by decide) 19737 (by decide))
  have D4 := fun w => Lib.hid (day_any 2024 2 1 w (by decide) (by decide) (by decide) (by decide) (by decide) (by decide) 19754 (by decide))
  have D5 := fun w => Lib.hid (day_any 2024 3 1 w (by decide) (by decide) (by decide) (by decide) (by decide) (by decide) 19783 (by decide))
  have hmx : ∀ w : World, (Builtin.max_ #[26, 26, 26, 26] 26 #[.int .i64 0, .int .i64 0, .int .i64 0, .int .i64 0]).run Try.prog w = .ok (.int .i64 0) w := fun _ => by kernel_rfl
  go_enter Try.func11, Try.ntmps11
  go_wp2_with fail
  refine (D1 _).out.mono ?_
  rintro e w1 ⟨rfl, hb1⟩
  go_wp2_with fail
  refine (D2 _).out.mono ?_
  rintro e w2 ⟨rfl, hb2⟩
  go_wp2_with fail
  have hB3 : Below w.heap.size w (w2.alloc (.cells #[.int .i64 19753, .int .i64 4, .int .i64 19782, .int .i64 9] 30)) := (hb1.trans (hb2.mono hb1.size)).alloc (Nat.le_trans hb1.size hb2.size) _
  have hk3 : (w2.alloc (.cells #[.int .i64 19753, .int .i64 4, .int .i64 19782, .int .i64 9] 30)).heap[w2.heap.size]? = some (.cells #[.int .i64 19753, .int .i64 4, .int .i64 19782, .int .i64 9] 30 (0, 0)) := World.alloc_heap_new w2 _
  generalize w2.alloc (.cells #[.int .i64 19753, .int .i64 4, .int .i64 19782, .int .i64 9] 30) = w3 at hB3 hk3 ⊢
  generalize w2.heap.size = b at hk3 ⊢
  clear hb1 hb2
  have hlt : b < w3.heap.size := (Array.getElem?_eq_some_iff.1 hk3).1
  have HK3 := Lib.hid hk3
  clear hk3
  refine (open_ex b _ 4 (-25567) (by decide) (by kernel_rfl) (cl_ex _ _ HK3.out)).mono ?_
  rintro e w4 ⟨rfl, hb4⟩
  have HK4 := Lib.hid ((hb4.block b hlt).trans HK3.out)
  have hlt4 : b < w4.heap.size := Nat.lt_of_lt_of_le hlt hb4.size
  go_wp2_with fail
  refine (open_ex b _ 5 19754 (by decide) (by kernel_rfl) (cl_ex _ _ HK4.out)).mono ?_
  rintro e w5 ⟨rfl, hb5⟩
  have HK5 := Lib.hid ((hb5.block b hlt4).trans HK4.out)
  have hlt5 : b < w5.heap.size := Nat.lt_of_lt_of_le hlt4 hb5.size
  go_wp2_with fail
  refine (open_ex b _ 10 19783 (by decide) (by kernel_rfl) (cl_ex _ _ HK5.out)).mono ?_
  rintro e w6 ⟨rfl, hb6⟩
  have HK6 := Lib.hid ((hb6.block b hlt5).trans HK5.out)
  have hlt6 : b < w6.heap.size := Nat.lt_of_lt_of_le hlt5 hb6.size
  go_wp2_with fail
  refine (D3 _).out.mono ?_
  rintro e w7 ⟨rfl, hb7⟩
  have HK7 := Lib.hid ((hb7.block b hlt6).trans HK6.out)
  go_wp2_with fail
  refine (posting_ex b _ 7 19737 19754 (by decide) (by decide) (by decide) (by kernel_rfl) (cl_ex _ _ HK7.out)).mono ?_
  rintro e w8 ⟨rfl, hb8⟩
  have hB8 : Below w.heap.size w w8 := ((((hB3.trans (hb4.mono hB3.size)).trans (hb5.mono (Nat.le_trans hB3.size hb4.size))).trans (hb6.mono (Nat.le_trans (Nat.le_trans hB3.size hb4.size) hb5.size))).trans (hb7.mono (Nat.le_trans (Nat.le_trans (Nat.le_trans hB3.size hb4.size) hb5.size) hb6.size))).trans (hb8.mono (Nat.le_trans (Nat.le_trans (Nat.le_trans (Nat.le_trans hB3.size hb4.size) hb5.size) hb6.size) hb7.size))
  clear hB3 hb4 hb5 hb6 hb7 hb8 hlt hlt4 hlt5 hlt6 HK3 HK4 HK5 HK6 HK7 D1 D2 D3
  go_wp2_with fail
  refine (D4 _).out.mono ?_
  rintro e w9 ⟨rfl, hb9⟩
  go_wp2_with fail
  refine (D5 _).out.mono ?_
  rintro e w10 ⟨rfl, hb10⟩
  go_wp2_with fail
  refine (D4 _).out.mono ?_
  rintro e w11 ⟨rfl, hb11⟩
  go_wp2_with fail
  go_ret
  exact ⟨rfl, ((hB8.trans (hb9.mono hB8.size)).trans (hb10.mono (Nat.le_trans hB8.size hb9.size))).trans (hb11.mono (Nat.le_trans (Nat.le_trans hB8.size hb9.size) hb10.size))⟩

/-- more closings than are examined -/
def grt (n : Nat) : Bool := decide (8 < n ∧ n < 62 ∨ 67 < n)
theorem great_any (A : Option Addr) (n c : Nat) (w : World) (hn : n ≤ 9223372036854775807) :
    Calls Try.prog 18 #[.slice A n c] w fun e w' => e = .returned (.bool (grt n)) ∧ w = w' := by
  go_enter Try.func18, Try.ntmps18
  go_wp2
  all_goals
    go_ret
    refine ⟨congrArg (fun b => Ending.returned (Value.bool b)) ?_, rfl⟩
    simp only [grt]
    first
      | (symm; rw [decide_eq_true_iff]; omega)
      | (symm; rw [decide_eq_false_iff_not]; omega)
      | (rw [Bool.eq_iff_iff]; simp; omega)

def fineB (l : List (Int × Int)) : Bool := !grt l.length && decide (chk l = 0)
set_option maxHeartbeats 1000000 in
theorem fine_any (A : Option Addr) (c : Nat) (l : List (Int × Int)) (w : World) (hc : Cl w w.heap.size A l) (hm : l.length ≤ 9223372036854775807) :
    Calls Try.prog 10 #[.slice A l.length c] w fun e w' => e = .returned (.bool (fineB l)) ∧ Below w.heap.size w w' := by
  obtain ⟨g, hg⟩ : ∃ g, grt l.length = g := ⟨_, rfl⟩
  obtain ⟨r, hr⟩ : ∃ r, chk l = r := ⟨_, rfl⟩
  have hG := great_any A l.length c w hm
  have hC := Check_any A c l w hc hm
  unfold fineB
  rw [hg] at hG ⊢
  rw [hr] at hC ⊢
  have HG := Lib.hid hG
  have HC := Lib.hid hC
  clear hG hC hg hr hc
  cases g with
  | true =>
    go_enter Try.func10, Try.ntmps10
    go_wp2_with (go_at_call 18; refine HG.out.mono ?_; rintro e w1 ⟨rfl, rfl⟩)
    go_ret
    exact ⟨rfl, Below.refl _ _⟩
  | false =>
    go_enter Try.func10, Try.ntmps10
    go_wp2_with (go_at_call 18; refine HG.out.mono ?_; rintro e w1 ⟨rfl, rfl⟩)
    go_wp2_with (go_at_call 16; refine HC.out.mono ?_; rintro e w1 ⟨rfl, hb⟩)
    go_ret
    refine ⟨congrArg (fun b => Ending.returned (Value.bool b)) ?_, hb⟩
    rw [Bool.eq_iff_iff]; simp
end Go.Proofs.Ytopnhhgcoiomhaa
