/- Returns over one period: the law for any points. Condition: the library's table and error lie as the program's text lays them. -/
import Derived.Test.YtahpbnmbphobgaaGreatDoorTt
import Derived.Test.YtahpbnmbphobgaaGreatDoorOpT
namespace Go.Proofs.YtahpbnmbphobgaaGreatDoor
open Go.RowKit Go.Shelf Dec QQ Go.Proofs.Q.Ev

set_option maxRecDepth 100000 in
set_option maxHeartbeats 4000000 in
theorem law_ne {A : Option Addr} {n c : Nat} {pl : Int} (hn : n ≠ 2) {W : World} (hg : Gl W) : Calls Tryz.prog 3 #[.slice A n c, .int .u8 pl] W fun e W' => e = .returned (.bool true) ∧ Below W.heap.size W W' := by
  have hs := St.refl hg
  have K1 := top48R
  have q : ((n : Int) == 2) = false := by rw [beq_eq_false_iff_ne]; omega
  have q2 : ¬ ((n : Int) = 2) := by omega
  clear hn
  go_enter Tryz.func3, Tryz.ntmps3
  go_wp2_with fail
  refine K1.step hs ?_
  intro w1 hs hb
  go_wp2_with fail
  go_ret
  exact ⟨rfl, hs.2⟩
theorem law_any {A : Option Addr} {c : Nat} {l : List PtS} {pl : Int} (hbig : ∀ x ∈ l, x.big) (p0 : 0 ≤ pl) (p1 : pl < 256) {W : World} (hg : Gl W) (hr : Row W A (flatG ptcells l)) :
    Calls Tryz.prog 3 #[.slice A l.length c, .int .u8 pl] W fun e W' => e = .returned (.bool true) ∧ Below W.heap.size W W' := by
  by_cases h2 : l.length = 2
  · match l, h2 with
    | [a, b], _ =>
      have key : ∀ (i : Nat) (v : Value), (flatG ptcells [a, b])[i]? = some v → ∃ bb oo, A = some ⟨bb, oo, none⟩ ∧ bb < W.heap.size ∧ W.cell? ⟨bb, oo + i, none⟩ = some v := hr
      obtain ⟨bb, oo, rfl, _, k0⟩ := key 0 (.int .i64 a.day) rfl
      have cell : ∀ (i : Nat) (v : Value), (flatG ptcells [a, b])[i]? = some v → W.cell? ⟨bb, oo + i, none⟩ = some v := fun i v hv => by
        obtain ⟨b', o', e, _, h⟩ := key i v hv
        cases e
        exact h
      obtain ⟨cs, T, fz, hb⟩ : ∃ cs T fz, W.heap[bb]? = some (.cells cs T fz) := by
        unfold World.cell? at k0
        split at k0
        · rename_i cs T fz hb
          exact ⟨cs, T, fz, hb⟩
        · cases k0
      have at' : ∀ (i : Nat) (v : Value), (flatG ptcells [a, b])[i]? = some v → cs[oo + i]? = some v := fun i v hv => by
        have := cell i v hv
        unfold World.cell? at this
        dsimp only at this
        rw [hb] at this
        simpa using this
      obtain ⟨b1, b2⟩ := hbig a List.mem_cons_self
      obtain ⟨b3, b4⟩ := hbig b (List.mem_cons_of_mem _ List.mem_cons_self)
      exact law_two (p := ⟨a.v, a.f, b.v, b.f, a.day, b.day, pl, oo, c, (cs, T, fz)⟩) b1 b2 b3 b4 p0 p1 hg ⟨hb, at' 0 _ rfl, at' 1 _ rfl, at' 2 _ rfl, at' 3 _ rfl, at' 4 _ rfl, at' 5 _ rfl⟩
  · exact law_ne h2 hg
end Go.Proofs.YtahpbnmbphobgaaGreatDoor
