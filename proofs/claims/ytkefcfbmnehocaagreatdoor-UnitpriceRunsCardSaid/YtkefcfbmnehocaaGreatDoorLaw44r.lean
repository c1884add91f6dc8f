/- Unit prices: the walk of UnitpriceRuns: for every input it returns true. Condition: the library's table and error lie as the program's text lays them. -/
import Derived.Test.YtkefcfbmnehocaaGreatDoorEqD
namespace Go.Proofs.YtkefcfbmnehocaaGreatDoor
open Go.RowKit Go.Shelf Dec QQ

set_option maxRecDepth 100000 in
set_option maxHeartbeats 4000000 in
theorem run_nil {A : Option Addr} {c : Nat} : Ret 34 #[.slice A 0 c] (.tuple #[.slice none 0 0, .int .i64 0]) := by
  intro w hg
  have hs := (St.refl hg).alloc (.cells #[.string ⟨#[]⟩, .string ⟨#[]⟩] 120)
  go_enter Tryz.func34, Tryz.ntmps34
  go_wp2_with fail
  go_loopw [17, 4] (fun s o wr => s = .int .i64 0 ∧ o = .slice none 0 0 ∧ St w wr) (fun _ _ _ => 0)
  case atStart => exact ⟨rfl, rfl, hs⟩
  case round =>
    obtain ⟨rfl, rfl, hs⟩ := hrel
    go_wp2_with fail
    go_ret2
    exact ⟨rfl, hs.2⟩
set_option maxRecDepth 100000 in
set_option maxHeartbeats 4000000 in
theorem rrun_nil {A : Option Addr} {c : Nat} : Ret 35 #[.slice A 0 c] (.tuple #[.slice none 0 0, .int .i64 0]) := by
  intro w hg
  have hs := St.refl hg
  go_enter Tryz.func35, Tryz.ntmps35
  go_wp2_with fail
  go_loopw [6, 4] (fun s o wr => s = .int .i64 0 ∧ o = .slice none 0 0 ∧ St w wr) (fun _ _ _ => 0)
  case atStart => exact ⟨rfl, rfl, hs⟩
  case round =>
    obtain ⟨rfl, rfl, hs⟩ := hrel
    go_wp2_with fail
    go_ret2
    exact ⟨rfl, hs.2⟩
set_option maxRecDepth 100000 in
set_option maxHeartbeats 4000000 in
theorem run_far {A : Option Addr} {n c : Nat} (h : 400 < n) : Ret 34 #[.slice A n c] (.tuple #[.slice none 0 0, .int .i64 4]) := by
  intro w hg
  have hs := St.refl hg
  have q : decide ((400 : Int) < (n : Int)) = true := decide_eq_true (by omega)
  have qn : decide (400 < n) = true := decide_eq_true h
  go_enter Tryz.func34, Tryz.ntmps34
  go_wp2_with fail
  go_ret2
  exact ⟨rfl, hs.2⟩
set_option maxRecDepth 100000 in
set_option maxHeartbeats 4000000 in
theorem rrun_far {A : Option Addr} {n c : Nat} (h : 400 < n) : Ret 35 #[.slice A n c] (.tuple #[.slice none 0 0, .int .i64 4]) := by
  intro w hg
  have hs := St.refl hg
  have q : decide ((400 : Int) < (n : Int)) = true := decide_eq_true (by omega)
  have qn : decide (400 < n) = true := decide_eq_true h
  go_enter Tryz.func35, Tryz.ntmps35
  go_wp2_with fail
  go_ret2
  exact ⟨rfl, hs.2⟩
set_option maxRecDepth 100000 in
set_option maxHeartbeats 4000000 in
theorem index_nil {A : Option Addr} {c : Nat} {f : FuncId} {cap : Array Value} : Ret 160 #[.slice A 0 c, .func (.func f) #[] cap] (.int .i64 (-1)) := by
  intro w hg
  have hs := St.refl hg
  go_enter Tryz.func160, Tryz.ntmps160
  go_wp2_with fail
  go_loopw [8] (fun s wr => s = .int .i64 0 ∧ St w wr) (fun _ _ => 0)
  case atStart => exact ⟨rfl, hs⟩
  case round =>
    obtain ⟨rfl, hs⟩ := hrel
    go_wp2_with fail
    go_ret
    exact ⟨rfl, hs.2⟩
set_option maxRecDepth 100000 in
set_option maxHeartbeats 4000000 in
theorem many_nil {A : Option Addr} {c : Nat} : Ret 33 #[.slice A 0 c] (.bool false) := by
  have KC : Ret 95 #[.slice A 0 c, .func (.func 96) #[] #[]] (.bool false) := by
    intro w hg
    have hs := St.refl hg
    have K := index_nil (A := A) (c := c) (f := 96) (cap := #[])
    go_enter Tryz.func95, Tryz.ntmps95
    go_wp2_with fail
    refine K.step hs ?_
    intro w1 hs _
    go_wp2_with fail
    go_ret
    exact ⟨rfl, hs.2⟩
  intro w hg
  have hs := St.refl hg
  go_enter Tryz.func33, Tryz.ntmps33
  go_wp2_with fail
  refine KC.step hs ?_
  intro w1 hs _
  go_wp2_with fail
  go_ret
  exact ⟨rfl, hs.2⟩
set_option maxRecDepth 100000 in
set_option maxHeartbeats 4000000 in
theorem equal_nil {A A' : Option Addr} {c c' : Nat} : Ret 36 #[.slice A 0 c, .slice A' 0 c'] (.bool true) := fun w hg => equalD (xs := []) rfl (by decide) w hg ⟨fun i v h => by simp [rflat] at h, fun i v h => by simp [rflat] at h⟩
theorem RunsTo.len {l : List DealIn} {xs : List DealtR} {e : Int} (h : RunsTo l xs e) : xs.length ≤ l.length := by
  rcases h with ⟨k, u, ys, hk, hr, hs, he, rfl⟩ | ⟨u, hr, rfl⟩
  · simp
  · have key : ∀ k u xs, runTo l k = some (u, xs) → xs.length = k := by
      intro k
      induction k with
      | zero => intro u xs h; cases h; rfl
      | succ k ih =>
        intro u xs h
        change (match runTo l k, l[k]? with
          | some (u, xs), some d => if stepErr l k u = 0 then some ((DealR u d.v d.p d.b).units, xs ++ [DealR u d.v d.p d.b]) else none
          | _, _ => none) = some (u, xs) at h
        cases h1 : runTo l k with
        | none => rw [h1] at h; simp at h
        | some a =>
          obtain ⟨u1, ys⟩ := a
          cases h2 : l[k]? with
          | none => rw [h1, h2] at h; simp at h
          | some d =>
            rw [h1, h2] at h
            simp only at h
            split at h
            · injection h with h
              injection h with h3 h4
              have := ih u1 ys h1
              rw [← h4]
              simp [this]
            · cases h
    rw [key _ _ _ hr]
    exact Nat.le_refl _
set_option maxRecDepth 100000 in
set_option maxHeartbeats 4000000 in
theorem runs_nil (A : Option Addr) (c : Nat) (w : World) (hg : Gl w) :
    Calls Tryz.prog 5 #[.slice A 0 c] w fun e w' => e = .returned (.bool true) ∧ Below w.heap.size w w' := by
  have hs := St.refl hg
  have AW := awake44
  have K1 := many_nil (A := A) (c := c)
  have K2 := run_nil (A := A) (c := c)
  have K3 := rrun_nil (A := A) (c := c)
  have KE := equal_nil (A := none) (A' := none) (c := 0) (c' := 0)
  go_enter Tryz.func5, Tryz.ntmps5
  go_wp2_with fail
  refine K1.step hs ?_
  intro w1 hs _
  go_wp2_with fail
  refine K2.step hs ?_
  intro w2 hs _
  go_wp2_with fail
  refine K3.step hs ?_
  intro w3 hs _
  go_wp2_with fail
  refine KE.step hs ?_
  intro w4 hs _
  go_wp2_with fail
  refine AW.step hs ?_
  intro wa hs _
  go_wp2_with fail
  go_ret
  exact ⟨rfl, hs.2⟩
set_option maxRecDepth 100000 in
set_option maxHeartbeats 4000000 in
theorem runs_any (bb oo n c : Nat) (l : List DealIn) (w : World) (hl : l.length = n) (hm : n ≤ 9223372036854775807) (hz : ∀ d ∈ l, d.v.size ≤ 9223372036854775807 ∧ d.p.size ≤ 9223372036854775807 ∧ d.b.size ≤ 9223372036854775807) (hr : Row w (some ⟨bb, oo, none⟩) (dflat l)) (hg : Gl w) :
    Calls Tryz.prog 5 #[.slice (some ⟨bb, oo, none⟩) n c] w fun e w' => e = .returned (.bool true) ∧ Below w.heap.size w w' := by
  have hs := St.refl hg
  have AW := awake44
  have K1 := many_any (bb := bb) (oo := oo) (c := c) hl hm hz
  have HR := Lib.hid hr
  obtain ⟨t, ht⟩ : ∃ t, (if (6 < n ∧ n ≤ 400) ∨ 402 < n then true else l.any bigD) = t := ⟨_, rfl⟩
  rw [ht] at K1
  cases t with
  | true =>
    clear ht hl hm hz hr
    go_enter Tryz.func5, Tryz.ntmps5
    go_wp2_with fail
    refine K1.step hs HR.out ?_
    intro w1 hs _
    go_wp2_with fail
    refine AW.step hs ?_
    intro wa hs _
    go_wp2_with fail
    go_ret
    exact ⟨rfl, hs.2⟩
  | false =>
    have hn : ¬ ((6 < n ∧ n ≤ 400) ∨ 402 < n) := by intro h; rw [if_pos h] at ht; cases ht
    rw [if_neg hn] at ht
    by_cases h4 : 400 < n
    · have K2 := run_far (A := some ⟨bb, oo, none⟩) (c := c) h4
      have K3 := rrun_far (A := some ⟨bb, oo, none⟩) (c := c) h4
      have KE := equal_nil (A := none) (A' := none) (c := 0) (c' := 0)
      clear ht hl hm hz hr hn h4
      go_enter Tryz.func5, Tryz.ntmps5
      go_wp2_with fail
      refine K1.step hs HR.out ?_
      intro w1 hs _
      go_wp2_with fail
      refine K2.step hs ?_
      intro w2 hs _
      go_wp2_with fail
      refine K3.step hs ?_
      intro w3 hs _
      go_wp2_with fail
      refine KE.step hs ?_
      intro w4 hs _
      go_wp2_with fail
      refine AW.step hs ?_
      intro wa hs _
      go_wp2_with fail
      go_ret
      exact ⟨rfl, hs.2⟩
    · have hz6 : ∀ d ∈ l, d.v.size ≤ 20 ∧ d.p.size ≤ 20 ∧ d.b.size ≤ 20 := by
        intro d hd
        have := List.any_eq_false.1 ht d hd
        unfold bigD at this
        simpa using this
      have KR := Lib.hid (fun w hg hr => run_any bb oo n c l w hl (by omega) hz6 hg hr)
      have KF := Lib.hid (fun w hg hr => rrun_any bb oo n c l w hl (by omega) hz6 hg hr)
      have HN : Hid (l.length = n ∧ n ≤ 6) := ⟨hl, by omega⟩
      clear ht hl hm hz hr hn h4 hz6
      go_enter Tryz.func5, Tryz.ntmps5
      go_wp2_with fail
      refine K1.step hs HR.out ?_
      intro w1 hs hb1
      have R1 := Lib.hid (HR.out.on hs.2)
      go_wp2_with fail
      refine (KR.out _ hs.gl R1.out).mono ?_
      rintro e w2 ⟨v1, xs, er, rfl, r1, o1, hb2⟩
      replace hs := hs.on hb2
      have R2 := Lib.hid (HR.out.on hs.2)
      have HR1 := Lib.hid r1
      have HO1 := Lib.hid o1
      clear r1 o1 hb1
      go_wp2_with fail
      refine (KF.out _ hs.gl R2.out).mono ?_
      rintro e w3 ⟨v2, ys, er2, rfl, r2, o2, hb3⟩
      obtain ⟨e1, e2⟩ := runsTo_unique HR1.out r2
      subst e1 e2
      replace hs := hs.on hb3
      obtain ⟨A1, c1, hv1, hw1⟩ := out_row (w := w3) ⟨HO1.out.1, own_below HO1.out.2 hb3⟩
      obtain ⟨A2, c2, hv2, hw2⟩ := out_row o2
      subst hv1 hv2
      have HW := Lib.hid (And.intro hw1 hw2)
      have KE := equalD (A := A1) (A' := A2) (c := c1) (c' := c2) (xs := xs) rfl (by have h1 := HR1.out.len; have h2 := HN.out; omega)
      clear r2 o2 hw1 hw2 hb3 hb2
      have hx : xs.length ≤ 6 := by have h1 := HR1.out.len; have h2 := HN.out; omega
      generalize xs.length = m at *
      go_wp2_with fail
      refine KE.step hs HW.out ?_
      intro w4 hs _
      go_wp2_with fail
      refine AW.step hs ?_
      intro wa hs _
      go_wp2_with fail
      go_ret
      exact ⟨rfl, hs.2⟩
end Go.Proofs.YtkefcfbmnehocaaGreatDoor
