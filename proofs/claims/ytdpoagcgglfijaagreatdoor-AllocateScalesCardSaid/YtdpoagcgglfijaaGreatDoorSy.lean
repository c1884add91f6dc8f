/- Allocation: the comparison of rests that positive sorts by. Condition: rests of bounded length. -/
import Derived.Test.YtdpoagcgglfijaaGreatDoorSx
import Derived.Test.YtdpoagcgglfijaaGreatDoorWP
import Derived.Test.YtdpoagcgglfijaaGreatDoorFc
import Derived.Test.YtdpoagcgglfijaaGreatDoorFa
namespace Go.Proofs.YtdpoagcgglfijaaGreatDoor
open Go.RowKit Go.Shelf Go.Sort SP Dec

def cfO {m : Nat} (r : List Int) (x y : Fin (m + 1)) : Int := if cmpI (at0 r y.val) (at0 r x.val) = 0 then cmpI (x.val : Int) (y.val : Int) else cmpI (at0 r y.val) (at0 r x.val)
theorem ltC_beats {m : Nat} (r : List Int) (x y : Fin (m + 1)) : ltC (cfO r) x y = beats r x.val y.val := by
  unfold ltC
  rw [Bool.eq_iff_iff, decide_eq_true_eq, beats_iff]
  unfold cfO cmpI
  repeat' split
  all_goals omega
theorem cfO_swo {m : Nat} (r : List Int) : SWO (ltC (cfO (m := m) r)) where
  irrefl := fun x => by rw [ltC_beats]; exact beats_self _ _
  trans := fun x y z h1 h2 => by rw [ltC_beats] at *; exact beats_trans h1 h2
  ntrans := fun x y z h1 h2 => by
    rw [ltC_beats] at *
    rw [← Bool.not_eq_true, beats_iff] at *
    omega
set_option maxRecDepth 100000 in
set_option maxHeartbeats 4000000 in
theorem clo4_any {m B RB : Nat} {rs : List ByteArray} (hrs : rs.length = m + 1) (hz : ∀ s ∈ rs, s.size ≤ 1000000) (x y : Fin (m + 1)) (w : World) (hg : Gl w) (hbox : w.cell? ⟨B, 0, none⟩ = some (.slice (some ⟨RB, 0, none⟩) (m + 1) (m + 1))) (hrow : Row w (some ⟨RB, 0, none⟩) (rs.map sv)) :
    Calls Tryz.prog 86 #[.int .i64 (x.val : Int), .int .i64 (y.val : Int), .pointer (some ⟨B, 0, none⟩)] w fun e w' => e = .returned (.int .i64 (cfO (iv rs) x y)) ∧ Below w.heap.size w w' := by
  have hs := St.refl hg
  obtain ⟨xi, hx⟩ := x
  obtain ⟨yi, hy⟩ := y
  obtain ⟨sx, hsx⟩ : ∃ s, rs[xi]? = some s := ⟨rs[xi]'(by omega), by simp⟩
  obtain ⟨sy, hsy⟩ : ∃ s, rs[yi]? = some s := ⟨rs[yi]'(by omega), by simp⟩
  obtain ⟨b1, o1, e1, l1, c1⟩ := hrow xi (sv sx) (by rw [List.getElem?_map, hsx]; rfl)
  obtain ⟨b2, o2, e2, l2, c2⟩ := hrow yi (sv sy) (by rw [List.getElem?_map, hsy]; rfl)
  injection e1 with e1; injection e1 with e1 e1'
  injection e2 with e2; injection e2 with e2 e2'
  subst e1 e1' e2 e2'
  unfold sv at c1 c2
  rw [Nat.zero_add] at c1 c2
  have KC := CmpR (Vs.arg (s := sy) (hz _ (List.mem_of_getElem? hsy))) (Vs.arg (s := sx) (hz _ (List.mem_of_getElem? hsx)))
  have HE : Hid (cfO (iv rs) (⟨xi, hx⟩ : Fin (m + 1)) ⟨yi, hy⟩ = if cmpI (valS sy) (valS sx) = 0 then cmpI (xi : Int) (yi : Int) else cmpI (valS sy) (valS sx)) := by
    show _ = _
    unfold cfO
    rw [iv_at hsx, iv_at hsy]
  rw [HE.out]
  have KI : ∀ u : Kept w, Calls Tryz.prog 88 #[.int .i64 (xi : Int), .int .i64 (yi : Int)] u.W fun e w'' => e = .returned (.int .i64 (cmpI (xi : Int) (yi : Int))) ∧ ∃ u' : Kept w, w'' = u'.W :=
    fun u => (cmpint_any _ _ u.W).mono fun _ w'' ⟨he, hw⟩ => ⟨he, u, hw⟩
  generalize cmpI (valS sy) (valS sx) = ca at *
  generalize cmpI (xi : Int) (yi : Int) = cb at *
  have k0 := Kept.cell_of hbox
  have k1 := Kept.cell_of c1
  have k2 := Kept.cell_of c2
  have q1 : (xi : Int) < (m : Int) + 1 := by omega
  have q2 : (yi : Int) < (m : Int) + 1 := by omega
  have q3 : xi < m + 1 := hx
  have q4 : yi < m + 1 := hy
  show Calls Tryz.prog 86 #[.int .i64 (xi : Int), .int .i64 (yi : Int), .pointer (some ⟨B, 0, none⟩)] w _
  have KO := fun (v : World) => cmpor_two ca cb v.heap.size (v.alloc (.cells #[.int .i64 ca, .int .i64 cb] 3)) ((Bx.new v _ _).cell (i := 0) rfl) ((Bx.new v _ _).cell (i := 1) rfl)
  obtain ⟨r, hr⟩ : ∃ r, (if ca = 0 then cb else ca) = r := ⟨_, rfl⟩
  rw [hr] at KO ⊢
  clear hr
  clear hg hbox hrow hrs hz c1 c2 hsx hsy HE hx hy
  go_enter Tryz.func86, Tryz.ntmps86
  go_wp2_with fail
  refine wp_region_kept_tail 12 (by kernel_rfl) (by kernel_rfl) ?_
  simp only [List.take_succ_cons, List.take_zero, List.drop_succ_cons, List.drop_zero]
  repeat (go_big_quiet_step (first | (with_reducible exact KC.kept hs) | (with_reducible exact KI _)))
  refine wpQuiet_nil ?_
  rintro _ ⟨u, rfl⟩
  have hs1 := hs.kept u
  go_wp2_with fail
  refine (KO u.W).mono ?_
  rintro e w1 ⟨rfl, rfl⟩
  go_wp2_with fail
  go_ret
  exact ⟨rfl, (hs1.alloc _).2⟩
end Go.Proofs.YtdpoagcgglfijaaGreatDoor
