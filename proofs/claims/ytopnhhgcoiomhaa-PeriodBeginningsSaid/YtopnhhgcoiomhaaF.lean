/- Period: Open, Posting, Closed and the reference's; for every input. -/
import Derived.Test.YtopnhhgcoiomhaaD
import Derived.Test.YtopnhhgcoiomhaaC
import Derived.Test.YtopnhhgcoiomhaaE
import Derived.Test.YtopnhhgcoiomhaaRows
import Derived.WalkKit
import Derived.ProofKit
import Derived.OpenShut
import Derived.WalkLawsBesides
import Derived.Deep.QuietTactic
import Derived.Deep.LoopGhost
import Derived.Deep.RegionWith
import Derived.BigQuiet
import Derived.Lib.Hide
namespace Go.Proofs.Ytopnhhgcoiomhaa
open Go.RowKit
/-- the first open day -/
def opW (l : List (Int × Int)) (kn : Int) : Int := lastW (l.takeWhile (fun x => decide (x.2 < kn)))
def foldR (l : List (Int × Int)) (kn : Int) : Int := l.foldl (fun out x => if x.2 < kn then wrap64 (x.1 + 1) else out) (-25567)

theorem foldR_take (l : List (Int × Int)) (kn : Int) (k : Nat) (x : Int × Int) (h : l[k]? = some x) : foldR (l.take (k + 1)) kn = if x.2 < kn then wrap64 (x.1 + 1) else foldR (l.take k) kn := by
  unfold foldR
  rw [List.take_add_one, h]
  simp

theorem ret_two {v v' u u' : Value} (h : v = v') (h2 : u = u') : Ending.returned (.tuple #[v, u]) = .returned (.tuple #[v', u']) := by rw [h, h2]

set_option maxHeartbeats 1000000 in
theorem Open_any (A : Option Addr) (c : Nat) (l : List (Int × Int)) (kn : Int) (w : World) (hc : Cl w w.heap.size A l) (hm : l.length ≤ 9223372036854775807) :
    Calls Try.prog 12 #[.slice A l.length c, .int .i64 kn] w fun e w' => e = .returned (.tuple #[.int .i64 (if ck l kn 0 = 0 then opW l kn else 0), .int .i64 (ck l kn 0)]) ∧ Below w.heap.size w w' := by
  obtain ⟨r, hr⟩ : ∃ r, ck l kn 0 = r := ⟨_, rfl⟩
  have hC := check_any A c l kn 0 w hc hm
  rw [hr] at hC ⊢
  have HC := Lib.hid hC
  have Hc := Lib.hid hc
  clear hC hr hc
  by_cases h0 : r = 0
  · subst h0
    rw [if_pos rfl]
    go_enter Try.func12, Try.ntmps12
    go_wp2_with (go_at_call 30; refine HC.out.mono ?_; rintro e w1 ⟨rfl, hb⟩)
    go_wp2_with (go_at_call 31; refine (opens_any _ _ _ _ _ (Hc.out.up hb) hm).mono ?_; rintro e w2 ⟨rfl, hb2⟩)
    go_ret2
    exact ⟨rfl, hb.trans (hb2.mono hb.size)⟩
  · have h0b : (r != 0) = true := by simp [h0]
    rw [if_neg h0]
    go_enter Try.func12, Try.ntmps12
    go_wp2_with (go_at_call 30; refine HC.out.mono ?_; rintro e w1 ⟨rfl, hb⟩)
    go_ret2
    exact ⟨rfl, hb⟩

set_option maxHeartbeats 1000000 in
theorem Posting_any (A : Option Addr) (c : Nat) (l : List (Int × Int)) (kn d : Int) (w : World) (hc : Cl w w.heap.size A l) (hm : l.length ≤ 9223372036854775807) :
    Calls Try.prog 13 #[.slice A l.length c, .int .i64 kn, .int .i64 d] w fun e w' => e = .returned (.tuple #[.int .i64 (if ck l kn d = 0 then max d (opW l kn) else 0), .int .i64 (ck l kn d)]) ∧ Below w.heap.size w w' := by
  obtain ⟨r, hr⟩ : ∃ r, ck l kn d = r := ⟨_, rfl⟩
  have hC := check_any A c l kn d w hc hm
  rw [hr] at hC ⊢
  have HC := Lib.hid hC
  have Hc := Lib.hid hc
  clear hC hr hc
  by_cases h0 : r = 0
  · subst h0
    rw [if_pos rfl]
    go_enter Try.func13, Try.ntmps13
    go_wp2_with (go_at_call 30; refine HC.out.mono ?_; rintro e w1 ⟨rfl, hb⟩)
    go_wp2_with (go_at_call 31; refine (opens_any _ _ _ _ _ (Hc.out.up hb) hm).mono ?_; rintro e w2 ⟨rfl, hb2⟩)
    all_goals
      go_ret2
      refine ⟨ret_two (congrArg (Value.int .i64) ?_) rfl, hb.trans (hb2.mono hb.size)⟩
      unfold opW
      omega
  · have h0b : (r != 0) = true := by simp [h0]
    rw [if_neg h0]
    go_enter Try.func13, Try.ntmps13
    go_wp2_with (go_at_call 30; refine HC.out.mono ?_; rintro e w1 ⟨rfl, hb⟩)
    go_ret2
    exact ⟨rfl, hb⟩

set_option maxHeartbeats 1000000 in
theorem Closed_any (A : Option Addr) (c : Nat) (l : List (Int × Int)) (kn d : Int) (w : World) (hc : Cl w w.heap.size A l) (hm : l.length ≤ 9223372036854775807) :
    Calls Try.prog 14 #[.slice A l.length c, .int .i64 kn, .int .i64 d] w fun e w' => e = .returned (.tuple #[.bool (if ck l kn d = 0 then decide (d < opW l kn) else false), .int .i64 (ck l kn d)]) ∧ Below w.heap.size w w' := by
  obtain ⟨r, hr⟩ : ∃ r, ck l kn d = r := ⟨_, rfl⟩
  have hC := check_any A c l kn d w hc hm
  rw [hr] at hC ⊢
  have HC := Lib.hid hC
  have Hc := Lib.hid hc
  clear hC hr hc
  by_cases h0 : r = 0
  · subst h0
    rw [if_pos rfl]
    go_enter Try.func14, Try.ntmps14
    go_wp2_with (go_at_call 30; refine HC.out.mono ?_; rintro e w1 ⟨rfl, hb⟩)
    go_wp2_with (go_at_call 31; refine (opens_any _ _ _ _ _ (Hc.out.up hb) hm).mono ?_; rintro e w2 ⟨rfl, hb2⟩)
    go_ret2
    exact ⟨rfl, hb.trans (hb2.mono hb.size)⟩
  · have h0b : (r != 0) = true := by simp [h0]
    rw [if_neg h0]
    go_enter Try.func14, Try.ntmps14
    go_wp2_with (go_at_call 30; refine HC.out.mono ?_; rintro e w1 ⟨rfl, hb⟩)
    go_ret2
    exact ⟨rfl, hb⟩

set_option maxHeartbeats 1000000 in
theorem rOpens_any (A : Option Addr) (c : Nat) (l : List (Int × Int)) (kn : Int) (w : World) (hc : Cl w w.heap.size A l) (hm : l.length ≤ 9223372036854775807) :
    Calls Try.prog 34 #[.slice A l.length c, .int .i64 kn] w fun e w' => e = .returned (.int .i64 (foldR l kn)) ∧ w = w' := by
  go_enter Try.func34, Try.ntmps34
  go_wp2
  go_loop [5, 6] (fun s i => ∃ k : Nat, k ≤ l.length ∧ i = .int .i64 k ∧ s = .int .i64 (foldR (l.take k) kn)) (fun _ i => l.length - (intOf i).toNat)
  case atStart => exact ⟨0, by omega, rfl, rfl⟩
  case round =>
    obtain ⟨k, hk, rfl, rfl⟩ := hrel
    by_cases hlt : k < l.length
    · obtain ⟨x, hx⟩ : ∃ x, l[k]? = some x := ⟨l[k], by simp [hlt]⟩
      obtain ⟨b, o, hA, hB, h1, h2⟩ := hc k _ hx
      subst hA
      have HT := Lib.hid (foldR_take l kn k x hx)
      clear hx hc
      go_wp2
      all_goals
        go_round
        case rel => exact ⟨k + 1, by omega, by go_num, by rw [HT.out]; first | rw [if_pos (by assumption)] | rw [if_neg (by omega)]⟩
        case measure => simp [intOf]; omega
    · have HE := Lib.hid (show k = l.length by omega)
      go_wp2
      go_ret
      exact ⟨ret_int (by rw [HE.out, List.take_length]), rfl⟩

theorem rDay_any (d : Int) (w : World) :
    Calls Try.prog 35 #[.int .i64 d] w fun e w' => e = .returned (.int .i64 (if d < -25567 ∨ 84005 < d then 13 else 0)) ∧ w = w' := by
  by_cases h : d < -25567 ∨ 84005 < d
  · rw [if_pos h]
    go_enter Try.func35, Try.ntmps35
    go_wp2
    all_goals
      go_ret
      exact ⟨rfl, rfl⟩
  · rw [if_neg h]
    go_enter Try.func35, Try.ntmps35
    go_wp2
    go_ret
    exact ⟨rfl, rfl⟩

/-- the reference's error -/
theorem ck_day (l : List (Int × Int)) (kn d : Int) : ck l kn d = if ck l kn 0 ≠ 0 then ck l kn 0 else if d < -25567 ∨ 84005 < d then 13 else 0 := by
  unfold ck
  by_cases h1 : chk l = 0 <;> by_cases h2 : kn < 0 <;> simp [h1, h2]

set_option maxHeartbeats 1000000 in
theorem rOpen_any (A : Option Addr) (c : Nat) (l : List (Int × Int)) (kn : Int) (w : World) (hc : Cl w w.heap.size A l) (hm : l.length ≤ 9223372036854775807) :
    Calls Try.prog 19 #[.slice A l.length c, .int .i64 kn] w fun e w' => e = .returned (.tuple #[.int .i64 (if ck l kn 0 = 0 then foldR l kn else 0), .int .i64 (ck l kn 0)]) ∧ Below w.heap.size w w' := by
  obtain ⟨r, hr⟩ : ∃ r, chk l = r := ⟨_, rfl⟩
  have hC := rCheck_any A c l w hc hm
  rw [hr] at hC
  have e : ck l kn 0 = if r ≠ 0 then 1 else if kn < 0 then 2 else 0 := by simp [ck, hr]
  have HC := Lib.hid hC
  have Hc := Lib.hid hc
  clear hC hr hc
  by_cases h0 : r = 0
  · subst h0
    by_cases h1 : kn < 0
    · rw [show ck l kn 0 = 2 by rw [e]; simp [h1], if_neg (by omega)]
      clear e
      go_enter Try.func19, Try.ntmps19
      go_wp2_with (go_at_call 27; refine HC.out.mono ?_; rintro e w1 ⟨rfl, hb⟩)
      go_ret2
      exact ⟨rfl, hb⟩
    · rw [show ck l kn 0 = 0 by rw [e]; simp [h1], if_pos rfl]
      clear e
      go_enter Try.func19, Try.ntmps19
      go_wp2_with (go_at_call 27; refine HC.out.mono ?_; rintro e w1 ⟨rfl, hb⟩)
      go_wp2_with (go_at_call 34; refine (rOpens_any _ _ _ _ _ (Hc.out.up hb) hm).mono ?_; rintro e w2 ⟨rfl, rfl⟩)
      go_ret2
      exact ⟨rfl, hb⟩
  · have h0b : (r != 0) = true := by simp [h0]
    rw [show ck l kn 0 = 1 by rw [e]; simp [h0], if_neg (by omega)]
    clear e
    go_enter Try.func19, Try.ntmps19
    go_wp2_with (go_at_call 27; refine HC.out.mono ?_; rintro e w1 ⟨rfl, hb⟩)
    go_ret2
    exact ⟨rfl, hb⟩

set_option maxHeartbeats 1000000 in
theorem rPosting_any (A : Option Addr) (c : Nat) (l : List (Int × Int)) (kn d : Int) (w : World) (hc : Cl w w.heap.size A l) (hm : l.length ≤ 9223372036854775807) :
    Calls Try.prog 20 #[.slice A l.length c, .int .i64 kn, .int .i64 d] w fun e w' => e = .returned (.tuple #[.int .i64 (if ck l kn d = 0 then max d (foldR l kn) else 0), .int .i64 (ck l kn d)]) ∧ Below w.heap.size w w' := by
  obtain ⟨r, hr⟩ : ∃ r, ck l kn 0 = r := ⟨_, rfl⟩
  have hC := rOpen_any A c l kn w hc hm
  have e := ck_day l kn d
  rw [hr] at hC e
  obtain ⟨F, hF⟩ : ∃ F, foldR l kn = F := ⟨_, rfl⟩
  rw [hF] at hC ⊢
  clear hr hF hc
  by_cases h0 : r = 0
  · subst h0
    rw [if_pos rfl] at hC
    have HC := Lib.hid hC
    clear hC
    have hD := rDay_any d
    by_cases h1 : d < -25567 ∨ 84005 < d
    · rw [if_pos h1] at hD
      rw [show ck l kn d = 13 by rw [e]; simp [h1], if_neg (by omega)]
      clear e
      have HD := Lib.hid hD
      clear hD h1
      go_enter Try.func20, Try.ntmps20
      go_wp2_with (go_at_call 19; refine HC.out.mono ?_; rintro e w1 ⟨rfl, hb⟩)
      go_wp2_with (go_at_call 35; refine (HD.out _).mono ?_; rintro e w2 ⟨rfl, rfl⟩)
      go_ret2
      exact ⟨rfl, hb⟩
    · rw [if_neg h1] at hD
      rw [show ck l kn d = 0 by rw [e]; simp [h1], if_pos rfl]
      clear e
      have HD := Lib.hid hD
      clear hD h1
      go_enter Try.func20, Try.ntmps20
      go_wp2_with (go_at_call 19; refine HC.out.mono ?_; rintro e w1 ⟨rfl, hb⟩)
      go_wp2_with (go_at_call 35; refine (HD.out _).mono ?_; rintro e w2 ⟨rfl, rfl⟩)
      all_goals
        go_ret2
        exact ⟨ret_two (congrArg (Value.int .i64) (by omega)) rfl, hb⟩
  · have h0b : (r != 0) = true := by simp [h0]
    rw [if_neg h0] at hC
    rw [show ck l kn d = r by rw [e]; simp [h0], if_neg h0]
    clear e
    have HC := Lib.hid hC
    clear hC
    go_enter Try.func20, Try.ntmps20
    go_wp2_with (go_at_call 19; refine HC.out.mono ?_; rintro e w1 ⟨rfl, hb⟩)
    go_ret2
    exact ⟨rfl, hb⟩

set_option maxHeartbeats 1000000 in
theorem rClosed_any (A : Option Addr) (c : Nat) (l : List (Int × Int)) (kn d : Int) (w : World) (hc : Cl w w.heap.size A l) (hm : l.length ≤ 9223372036854775807) :
    Calls Try.prog 21 #[.slice A l.length c, .int .i64 kn, .int .i64 d] w fun e w' => e = .returned (.tuple #[.bool (if ck l kn d = 0 then decide (d < foldR l kn) else false), .int .i64 (ck l kn d)]) ∧ Below w.heap.size w w' := by
  obtain ⟨r, hr⟩ : ∃ r, ck l kn 0 = r := ⟨_, rfl⟩
  have hC := rOpen_any A c l kn w hc hm
  have e := ck_day l kn d
  rw [hr] at hC e
  obtain ⟨F, hF⟩ : ∃ F, foldR l kn = F := ⟨_, rfl⟩
  rw [hF] at hC ⊢
  clear hr hF hc
  by_cases h0 : r = 0
  · subst h0
    rw [if_pos rfl] at hC
    have HC := Lib.hid hC
    clear hC
    have hD := rDay_any d
    by_cases h1 : d < -25567 ∨ 84005 < d
    · rw [if_pos h1] at hD
      rw [show ck l kn d = 13 by rw [e]; simp [h1], if_neg (by omega)]
      clear e
      have HD := Lib.hid hD
      clear hD h1
      go_enter Try.func21, Try.ntmps21
      go_wp2_with (go_at_call 19; refine HC.out.mono ?_; rintro e w1 ⟨rfl, hb⟩)
      go_wp2_with (go_at_call 35; refine (HD.out _).mono ?_; rintro e w2 ⟨rfl, rfl⟩)
      go_ret2
      exact ⟨rfl, hb⟩
    · rw [if_neg h1] at hD
      rw [show ck l kn d = 0 by rw [e]; simp [h1], if_pos rfl]
      clear e
      have HD := Lib.hid hD
      clear hD h1
      go_enter Try.func21, Try.ntmps21
      go_wp2_with (go_at_call 19; refine HC.out.mono ?_; rintro e w1 ⟨rfl, hb⟩)
      go_wp2_with (go_at_call 35; refine (HD.out _).mono ?_; rintro e w2 ⟨rfl, rfl⟩)
      go_ret2
      exact ⟨rfl, hb⟩
  · have h0b : (r != 0) = true := by simp [h0]
    rw [if_neg h0] at hC
    rw [show ck l kn d = r by rw [e]; simp [h0], if_neg h0]
    clear e
    have HC := Lib.hid hC
    clear hC
    go_enter Try.func21, Try.ntmps21
    go_wp2_with (go_at_call 19; refine HC.out.mono ?_; rintro e w1 ⟨rfl, hb⟩)
    go_ret2
    exact ⟨rfl, hb⟩
end Go.Proofs.Ytopnhhgcoiomhaa
