/- Period: the walk of PeriodPosts; for every input. -/
import Derived.Test.YtopnhhgcoiomhaaH
import Derived.Test.YtopnhhgcoiomhaaI
import Derived.Test.YtopnhhgcoiomhaaRows
import Derived.WalkKit
import Derived.ProofKit
import Derived.OpenShut
import Derived.WalkLawsBesides
import Derived.Deep.QuietTactic
import Derived.Deep.LoopGhost
import Derived.Deep.RegionWith
import Derived.BigQuiet
import Derived.Lib.Hide
namespace Go.Proofs.Ytopnhhgcoiomhaa
open Go.RowKit
theorem fine_good {l : List (Int × Int)} (h : fineB l = true) : chk l = 0 ∧ Good l := by
  have : chk l = 0 := by
    unfold fineB at h; simp at h; exact h.2
  exact ⟨this, good_of_chk this⟩
theorem ck_good {l : List (Int × Int)} (h : chk l = 0) {kn d : Int} (hk : 0 ≤ kn) (h1 : -25567 ≤ d) (h2 : d ≤ 84005) : ck l kn d = 0 := by
  unfold ck; rw [h]; simp; omega

theorem open_good {l : List (Int × Int)} (h : chk l = 0) (A : Option Addr) (c : Nat) (kn : Int) (hk : 0 ≤ kn) (w : World) (hc : Cl w w.heap.size A l) (hm : l.length ≤ 9223372036854775807) (v : Int) (hv : opW l kn = v) :
    Calls Try.prog 12 #[.slice A l.length c, .int .i64 kn] w fun e w' => e = .returned (.tuple #[.int .i64 v, .int .i64 0]) ∧ Below w.heap.size w w' := by
  have := Open_any A c l kn w hc hm
  rw [ck_good h hk (by omega) (by omega), if_pos rfl, hv] at this
  exact this
theorem posting_good {l : List (Int × Int)} (h : chk l = 0) (A : Option Addr) (c : Nat) (kn d : Int) (hk : 0 ≤ kn) (h1 : -25567 ≤ d) (h2 : d ≤ 84005) (w : World) (hc : Cl w w.heap.size A l) (hm : l.length ≤ 9223372036854775807) (v : Int) (hv : max d (opW l kn) = v) :
    Calls Try.prog 13 #[.slice A l.length c, .int .i64 kn, .int .i64 d] w fun e w' => e = .returned (.tuple #[.int .i64 v, .int .i64 0]) ∧ Below w.heap.size w w' := by
  have := Posting_any A c l kn d w hc hm
  rw [ck_good h hk h1 h2, if_pos rfl, hv] at this
  exact this
theorem closed_good {l : List (Int × Int)} (h : chk l = 0) (A : Option Addr) (c : Nat) (kn d : Int) (hk : 0 ≤ kn) (h1 : -25567 ≤ d) (h2 : d ≤ 84005) (w : World) (hc : Cl w w.heap.size A l) (hm : l.length ≤ 9223372036854775807) (v : Bool) (hv : decide (d < opW l kn) = v) :
    Calls Try.prog 14 #[.slice A l.length c, .int .i64 kn, .int .i64 d] w fun e w' => e = .returned (.tuple #[.bool v, .int .i64 0]) ∧ Below w.heap.size w w' := by
  have := Closed_any A c l kn d w hc hm
  rw [ck_good h hk h1 h2, if_pos rfl, hv] at this
  exact this

set_option maxRecDepth 100000 in
set_option maxHeartbeats 2000000 in
theorem posts_fine (A : Option Addr) (c : Nat) (l : List (Int × Int)) (kn d : Int) (w : World) (hc : Cl w w.heap.size A l) (hm : l.length ≤ 9223372036854775807)
    (hf : fineB l = true) (hk : 0 ≤ kn) (h1 : -25567 ≤ d) (h2 : d ≤ 84005) :
    Calls Try.prog 4 #[.slice A l.length c, .int .i64 kn, .int .i64 d] w fun e w' => e = .returned (.bool true) ∧ Below w.heap.size w w' := by
  obtain ⟨h0, hg⟩ := fine_good hf
  have hop := opW_bd hg kn
  have hF := fine_any A c l w hc hm
  rw [hf] at hF
  obtain ⟨o, ho⟩ : ∃ o, opW l kn = o := ⟨_, rfl⟩
  rw [ho] at hop
  have HF := Lib.hid hF
  have Hc := Lib.hid hc
  have HO := Lib.hid ho
  have H0 := Lib.hid h0
  clear hF hc ho h0 hf hg
  have k0 : decide (kn < 0) = false := by simp; omega
  have k1 : decide (d < -25567) = false := by simp; omega
  have k2 : decide (84005 < d) = false := by simp; omega
  by_cases hlt : d < o
  · have q1 : (o == d) = false := by simp; omega
    go_enter Try.func4, Try.ntmps4
    go_wp2_with fail
    refine HF.out.mono ?_
    rintro e w1 ⟨rfl, hb1⟩
    have Hc1 := Lib.hid (Hc.out.up hb1)
    go_wp2_with fail
    refine (posting_good H0.out A c kn d hk h1 h2 w1 Hc1.out hm o (by rw [HO.out]; omega)).mono ?_
    rintro e w2 ⟨rfl, hb2⟩
    have Hc2 := Lib.hid (Hc1.out.up hb2)
    have hB2 := hb1.trans (hb2.mono hb1.size)
    go_wp2_with fail
    refine (closed_good H0.out A c kn d hk h1 h2 w2 Hc2.out hm true (by rw [HO.out]; simp; omega)).mono ?_
    rintro e w3 ⟨rfl, hb3⟩
    have Hc3 := Lib.hid (Hc2.out.up hb3)
    have hB3 := hB2.trans (hb3.mono hB2.size)
    go_wp2_with fail
    refine (closed_good H0.out A c kn o hk (by omega) (by omega) w3 Hc3.out hm false (by rw [HO.out]; simp)).mono ?_
    rintro e w4 ⟨rfl, hb4⟩
    have Hc4 := Lib.hid (Hc3.out.up hb4)
    have hB4 := hB3.trans (hb4.mono hB3.size)
    go_wp2_with fail
    refine (posting_good H0.out A c kn o hk (by omega) (by omega) w4 Hc4.out hm o (by rw [HO.out]; omega)).mono ?_
    rintro e w5 ⟨rfl, hb5⟩
    have Hc5 := Lib.hid (Hc4.out.up hb5)
    have hB5 := hB4.trans (hb5.mono hB4.size)
    go_wp2_with fail
    refine (closed_good H0.out A c kn (o - 1) hk (by omega) (by omega) w5 Hc5.out hm true (by rw [HO.out]; simp; omega)).mono ?_
    rintro e w6 ⟨rfl, hb6⟩
    have hB6 := hB5.trans (hb6.mono hB5.size)
    go_wp2_with fail
    refine (awake_any w6).mono ?_
    rintro e w7 ⟨rfl, hb7⟩
    have hB7 := hB6.trans (hb7.mono hB6.size)
    go_wp2_with fail
    go_ret
    exact ⟨rfl, hB7⟩
  · go_enter Try.func4, Try.ntmps4
    go_wp2_with fail
    refine HF.out.mono ?_
    rintro e w1 ⟨rfl, hb1⟩
    have Hc1 := Lib.hid (Hc.out.up hb1)
    go_wp2_with fail
    refine (posting_good H0.out A c kn d hk h1 h2 w1 Hc1.out hm d (by rw [HO.out]; omega)).mono ?_
    rintro e w2 ⟨rfl, hb2⟩
    have Hc2 := Lib.hid (Hc1.out.up hb2)
    have hB2 := hb1.trans (hb2.mono hb1.size)
    go_wp2_with fail
    refine (closed_good H0.out A c kn d hk h1 h2 w2 Hc2.out hm false (by rw [HO.out]; simp; omega)).mono ?_
    rintro e w3 ⟨rfl, hb3⟩
    have Hc3 := Lib.hid (Hc2.out.up hb3)
    have hB3 := hB2.trans (hb3.mono hB2.size)
    go_wp2_with fail
    refine (closed_good H0.out A c kn d hk h1 h2 w3 Hc3.out hm false (by rw [HO.out]; simp; omega)).mono ?_
    rintro e w4 ⟨rfl, hb4⟩
    have Hc4 := Lib.hid (Hc3.out.up hb4)
    have hB4 := hB3.trans (hb4.mono hB3.size)
    go_wp2_with fail
    refine (posting_good H0.out A c kn d hk h1 h2 w4 Hc4.out hm d (by rw [HO.out]; omega)).mono ?_
    rintro e w5 ⟨rfl, hb5⟩
    have hB5 := hB4.trans (hb5.mono hB4.size)
    go_wp2_with fail
    refine (awake_any w5).mono ?_
    rintro e w7 ⟨rfl, hb7⟩
    have hB7 := hB5.trans (hb7.mono hB5.size)
    go_wp2_with fail
    go_ret
    exact ⟨rfl, hB7⟩

set_option maxHeartbeats 2000000 in
theorem posts_any (A : Option Addr) (c : Nat) (l : List (Int × Int)) (kn d : Int) (w : World) (hc : Cl w w.heap.size A l) (hm : l.length ≤ 9223372036854775807) :
    Calls Try.prog 4 #[.slice A l.length c, .int .i64 kn, .int .i64 d] w fun e w' => e = .returned (.bool true) ∧ Below w.heap.size w w' := by
  by_cases hall : fineB l = true ∧ 0 ≤ kn ∧ -25567 ≤ d ∧ d ≤ 84005
  · exact posts_fine A c l kn d w hc hm hall.1 hall.2.1 hall.2.2.1 hall.2.2.2
  obtain ⟨f, hf⟩ : ∃ f, fineB l = f := ⟨_, rfl⟩
  have hF := fine_any A c l w hc hm
  rw [hf] at hF hall
  have HF := Lib.hid hF
  clear hF hc hf
  cases f with
  | false =>
    clear hall
    go_enter Try.func4, Try.ntmps4
    go_wp2_with fail
    refine HF.out.mono ?_
    rintro e w1 ⟨rfl, hb1⟩
    go_wp2_with fail
    refine (awake_any w1).mono ?_
    rintro e w7 ⟨rfl, hb7⟩
    have hB7 := hb1.trans (hb7.mono hb1.size)
    go_wp2_with fail
    go_ret
    exact ⟨rfl, hB7⟩
  | true =>
    have h3 : kn < 0 ∨ ¬ kn < 0 ∧ (d < -25567 ∨ ¬ d < -25567 ∧ 84005 < d) := by
      by_cases a : kn < 0
      · exact .inl a
      by_cases b : d < -25567
      · exact .inr ⟨a, .inl b⟩
      exact .inr ⟨a, .inr ⟨b, Int.not_le.1 fun hn => hall ⟨rfl, by omega, by omega, hn⟩⟩⟩
    clear hall
    rcases h3 with a | ⟨a, b | ⟨b, b'⟩⟩
    · have k0 : decide (kn < 0) = true := by simp; omega
      go_enter Try.func4, Try.ntmps4
      go_wp2_with fail
      refine HF.out.mono ?_
      rintro e w1 ⟨rfl, hb1⟩
      go_wp2_with fail
      refine (awake_any w1).mono ?_
      rintro e w7 ⟨rfl, hb7⟩
      have hB7 := hb1.trans (hb7.mono hb1.size)
      go_wp2_with fail
      go_ret
      exact ⟨rfl, hB7⟩
    · have k0 : decide (kn < 0) = false := by simp; omega
      have k1 : decide (d < -25567) = true := by simp; omega
      go_enter Try.func4, Try.ntmps4
      go_wp2_with fail
      refine HF.out.mono ?_
      rintro e w1 ⟨rfl, hb1⟩
      go_wp2_with fail
      refine (awake_any w1).mono ?_
      rintro e w7 ⟨rfl, hb7⟩
      have hB7 := hb1.trans (hb7.mono hb1.size)
      go_wp2_with fail
      go_ret
      exact ⟨rfl, hB7⟩
    · have k0 : decide (kn < 0) = false := by simp; omega
      have k1 : decide (d < -25567) = false := by simp; omega
      have k2 : decide (84005 < d) = true := by simp; omega
      go_enter Try.func4, Try.ntmps4
      go_wp2_with fail
      refine HF.out.mono ?_
      rintro e w1 ⟨rfl, hb1⟩
      go_wp2_with fail
      refine (awake_any w1).mono ?_
      rintro e w7 ⟨rfl, hb7⟩
      have hB7 := hb1.trans (hb7.mono hb1.size)
      go_wp2_with fail
      go_ret
      exact ⟨rfl, hB7⟩
end Go.Proofs.Ytopnhhgcoiomhaa
