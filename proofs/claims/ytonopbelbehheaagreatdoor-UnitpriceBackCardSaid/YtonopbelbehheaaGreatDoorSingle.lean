/- Integer: the contract of single. Conditions: lengths below 2^39. -/
import Derived.Test.YtonopbelbehheaaGreatDoorIntM
namespace Go.Proofs.YtonopbelbehheaaGreatDoor
open Go.RowKit Dec

/-- what the loop of single keeps -/
def SingleIs (w : World) (l : List Nat) (d i r : Nat) (o : List Nat) (wr : World) : Prop :=
  o.length = l.length ∧ Small o ∧ mval o * d + r * BB ^ i + mval (l.take i) = mval l ∧ (∀ t, t < i → o[t]? = some 0) ∧ Ow .u64 94 wr w.heap.size (some ⟨w.heap.size, 0, none⟩) l.length o ∧ Below w.heap.size w wr
/-- what single hands back -/
def SingleRet (a d : Nat) (w : World) (e : Ending) (w' : World) : Prop :=
  ∃ A c, e = .returned (.tuple #[.slice A (mag (a / d)).length c, .int .u64 ((a % d : Nat) : Int)]) ∧ Mg .u64 w' w'.heap.size A (mag (a / d)) ∧ (mag (a / d)).length ≤ c ∧ c ≤ 9223372036854775807 ∧ Below w.heap.size w w'

set_option maxRecDepth 100000 in
set_option maxHeartbeats 2000000 in
theorem single_any (A : Option Addr) (c : Nat) (a d : Nat) (w : World) (hc : Mg .u64 w w.heap.size A (mag a)) (hm : (mag a).length ≤ 549755813888) (hd0 : 0 < d) (hd : d ≤ 1000000000) :
    Calls Tryz.prog 134 #[.slice A (mag a).length c, .int .u64 (d : Int)] w (SingleRet a d w) := by
  obtain ⟨l, hl⟩ : ∃ l, mag a = l := ⟨_, rfl⟩
  rw [hl] at hc hm ⊢
  have Hc := Lib.hid hc
  clear hc
  have Hl := Lib.hid hl
  clear hl
  have HV : Hid (mval l = a) := by show mval l = a; rw [← Hl.out]; exact mval_mag a
  have HLS : Hid (Small l) := by show Small l; rw [← Hl.out]; exact mag_small a
  have hmk : ∀ u : World, (Instr.makeSlice 87 (.int .i64 (l.length : Int)) (.int .i64 (l.length : Int))).run Tryz.prog u = .ok (.slice (some ⟨u.heap.size, 0, none⟩) l.length l.length) (u.alloc (.cells ((List.replicate l.length 0).map (gvK .u64)).toArray 94)) := fun u => run_makeU l.length l.length (Nat.le_refl _) (by omega) u
  obtain ⟨z, hz⟩ : ∃ z, z = (List.replicate l.length 0).map (gvK .u64) := ⟨_, rfl⟩
  rw [← hz] at hmk
  have HS : Hid (SingleIs w l d l.length 0 (List.replicate l.length 0) (w.alloc (.cells z.toArray 94))) := by
    refine ⟨by simp, fun g hg => by rw [List.eq_of_mem_replicate hg]; exact BB_pos, by simp [mval_zeros], fun t ht => by rw [List.getElem?_replicate, if_pos ht], ?_, (Below.refl _ _).alloc (Nat.le_refl _) _⟩
    have := Ow.new w .u64 94 (List.replicate l.length 0) (by unfold maxLen; simp; omega)
    rw [← hz, List.length_replicate] at this
    exact this
  clear hz
  go_enter Tryz.func134, Tryz.ntmps134
  go_wp2_with fail
  clear hmk
  go_loopw [8, 7] (fun s t wr => ∃ (i r : Nat) (o : List Nat), i ≤ l.length ∧ s = .int .i64 ((i : Int) - 1) ∧ t = .int .u64 (r : Int) ∧ r < d ∧ Hid (SingleIs w l d i r o wr)) (fun s _ _ => (intOf s + 1).toNat)
  case atStart => exact ⟨l.length, 0, _, by omega, rfl, rfl, by omega, HS.out⟩
  case round =>
    obtain ⟨i, r, o, hi, rfl, rfl, hr, H⟩ := hrel
    clear HS
    by_cases hi0 : i = 0
    · subst hi0
      have HE : Hid (mval o = a / d ∧ r = a % d) := by
        have := H.out.2.2.1
        rw [HV.out] at this
        exact single_end hr (by simpa [mval] using this)
      have Hlo := Lib.hid H.out.1
      go_wp2_with fail
      rw [← Hlo.out]
      refine (cut_any _ _ o wr H.out.2.1 H.out.2.2.2.2.1.mg.1 (Nat.le_refl _) (by rw [Hlo.out]; omega)).mono ?_
      rintro e w3 ⟨rfl, rfl⟩
      go_wp2_with fail
      go_ret2
      obtain ⟨h1, h2, h3, h4⟩ := mag_of_cut H.out.2.2.2.2.1 H.out.2.1 HE.out.1
      refine ⟨_, _, ret_two (val_slice (by rw [h1])) (by rw [HE.out.2]; rfl), h2, ?_, ?_, H.out.2.2.2.2.2⟩
      · rw [Hlo.out]; exact h3
      · rw [Hlo.out]; exact h4
    · obtain ⟨i, rfl⟩ : ∃ j, i = j + 1 := ⟨i - 1, by omega⟩
      clear hi0
      obtain ⟨x, hx⟩ : ∃ x, l[i]? = some x := some_at l i (by omega)
      have hxb : x < 1000000000 := HLS.out.at hx
      obtain ⟨b1, o1, hA, hB, h1⟩ := Hc.out i x hx
      subst hA
      have HX := Lib.hid hx
      clear hx
      have hd1 : wr.cell? ⟨b1, o1 + i, none⟩ = some (.int .u64 x) := (H.out.2.2.2.2.2.cell (p := ⟨b1, o1 + i, none⟩) hB).trans h1
      clear h1
      have hz : o[i]? = some 0 := H.out.2.2.2.1 i (by omega)
      obtain ⟨g, hA3, hg, hg2, hcell, hfz⟩ := H.out.2.2.2.2.1.at hz
      obtain rfl : g = w.heap.size := by injection hA3 with e; injection e with e; exact e.symm
      have HZ := Lib.hid hz
      clear hz hA3
      go_wp2_with fail
      go_roundw
      case rel =>
        refine ⟨i, (r * BB + x) % d, o.set i ((r * BB + x) / d), by omega, rfl, rfl, Nat.mod_lt _ hd0, by rw [List.length_set]; exact H.out.1, H.out.2.1.set _ (single_bound hd hr hxb).1, single_keep HX.out HZ.out H.out.2.2.1, ?_, ?_, H.out.2.2.2.2.2.setCell (Nat.le_refl _) _⟩
        · intro t ht; rw [List.getElem?_set_ne (by omega)]; exact H.out.2.2.2.1 t (by omega)
        · have := H.out.2.2.2.2.1.set i ((r * BB + x) / d)
          exact this
      case measure => simp [intOf]
end Go.Proofs.YtonopbelbehheaaGreatDoor
