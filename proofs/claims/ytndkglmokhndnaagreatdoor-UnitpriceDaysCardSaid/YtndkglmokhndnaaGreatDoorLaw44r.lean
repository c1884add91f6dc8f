/- Unit prices: the walk of UnitpriceRuns: for every input it returns true. Condition: the library's table and error lie as the program's text lays them. -/
import Derived.Test.YtndkglmokhndnaaGreatDoorEqD
namespace Go.Proofs.YtndkglmokhndnaaGreatDoor
open Go.RowKit Go.Shelf Dec QQ

set_option maxRecDepth 100000 in
set_option maxHeartbeats 4000000 in
theorem run_nil {A : Option Addr} {c : Nat} : Ret 16 #[.slice A 0 c] (.tuple #[.slice none 0 0, .int .i64 0]) := by
  intro w hg
  have hs := (St.refl hg).alloc (.cells #[.string ⟨#[]⟩, .string ⟨#[]⟩] 94)
  go_enter Tryz.func16, Tryz.ntmps16
  go_wp2_with fail
  go_loopw [17, 4] (fun s o wr => s = .int .i64 0 ∧ o = .slice none 0 0 ∧ St w wr) (fun _ _ _ => 0)
  case atStart => exact ⟨rfl, rfl, hs⟩
  case round =>
    obtain ⟨rfl, rfl, hs⟩ := hrel
    go_wp2_with fail
    go_ret2
    exact ⟨rfl, hs.2⟩
set_option maxRecDepth 100000 in
set_option maxHeartbeats 4000000 in
theorem run_far {A : Option Addr} {n c : Nat} (h : 400 < n) : Ret 16 #[.slice A n c] (.tuple #[.slice none 0 0, .int .i64 4]) := by
  intro w hg
  have hs := St.refl hg
  have q : decide ((400 : Int) < (n : Int)) = true := decide_eq_true (by omega)
  have qn : decide (400 < n) = true := decide_eq_true h
  go_enter Tryz.func16, Tryz.ntmps16
  go_wp2_with fail
  go_ret2
  exact ⟨rfl, hs.2⟩
set_option maxRecDepth 100000 in
set_option maxHeartbeats 4000000 in
theorem index_nil {A : Option Addr} {c : Nat} {f : FuncId} {cap : Array Value} : Ret 130 #[.slice A 0 c, .func (.func f) #[] cap] (.int .i64 (-1)) := by
  intro w hg
  have hs := St.refl hg
  go_enter Tryz.func130, Tryz.ntmps130
  go_wp2_with fail
  go_loopw [8] (fun s wr => s = .int .i64 0 ∧ St w wr) (fun _ _ => 0)
  case atStart => exact ⟨rfl, hs⟩
  case round =>
    obtain ⟨rfl, hs⟩ := hrel
    go_wp2_with fail
    go_ret
    exact ⟨rfl, hs.2⟩
set_option maxRecDepth 100000 in
set_option maxHeartbeats 4000000 in
theorem many_nil {A : Option Addr} {c : Nat} : Ret 14 #[.slice A 0 c] (.bool false) := by
  have KC : Ret 61 #[.slice A 0 c, .func (.func 62) #[] #[]] (.bool false) := by
    intro w hg
    have hs := St.refl hg
    have K := index_nil (A := A) (c := c) (f := 62) (cap := #[])
    go_enter Tryz.func61, Tryz.ntmps61
    go_wp2_with fail
    refine K.step hs ?_
    intro w1 hs _
    go_wp2_with fail
    go_ret
    exact ⟨rfl, hs.2⟩
  intro w hg
  have hs := St.refl hg
  go_enter Tryz.func14, Tryz.ntmps14
  go_wp2_with fail
  refine KC.step hs ?_
  intro w1 hs _
  go_wp2_with fail
  go_ret
  exact ⟨rfl, hs.2⟩
set_option maxRecDepth 100000 in
set_option maxHeartbeats 4000000 in
theorem equal_nil {A A' : Option Addr} {c c' : Nat} : Ret 17 #[.slice A 0 c, .slice A' 0 c'] (.bool true) := fun w hg => equalD (xs := []) rfl (by decide) w hg ⟨fun i v h => by simp [rflat] at h, fun i v h => by simp [rflat] at h⟩
theorem RunsTo.len {l : List DealIn} {xs : List DealtR} {e : Int} (h : RunsTo l xs e) : xs.length ≤ l.length := by
  rcases h with ⟨k, u, ys, hk, hr, hs, he, rfl⟩ | ⟨u, hr, rfl⟩
  · simp
  · have key : ∀ k u xs, runTo l k = some (u, xs) → xs.length = k := by
      intro k
      induction k with
      | zero => intro u xs h; cases h; rfl
      | succ k ih =>
        intro u xs h
        change (match runTo l k, l[k]? with
          | some (u, xs), some d => if stepErr l k u = 0 then some ((DealR u d.v d.p d.b).units, xs ++ [DealR u d.v d.p d.b]) else none
          | _, _ => none) = some (u, xs) at h
        cases h1 : runTo l k with
        | none => rw [h1] at h; simp at h
        | some a =>
          obtain ⟨u1, ys⟩ := a
          cases h2 : l[k]? with
          | none => rw [h1, h2] at h; simp at h
          | some d =>
            rw [h1, h2] at h
            simp only at h
            split at h
            · injection h with h
              injection h with h3 h4
              have := ih u1 ys h1
              rw [← h4]
              simp [this]
            · cases h
    rw [key _ _ _ hr]
    exact Nat.le_refl _
end Go.Proofs.YtndkglmokhndnaaGreatDoor
