/- Integer: the contract of add, the sum of two values. Conditions: lengths below 2^38. -/
import Derived.Test.YtonopbelbehheaaGreatDoorText
import Derived.Test.YtonopbelbehheaaGreatDoorPlus
import Derived.Test.YtonopbelbehheaaGreatDoorMinus
import Derived.Deep.RegionHeld3
import Derived.Deep.DrawnRows
namespace Go.Proofs.YtonopbelbehheaaGreatDoor
open Go.RowKit Go.Shelf Dec
attribute [local go_sem ↓] Go.wp_at_zero Go.wp_at_succ

/-- a value by its sign and its groups -/
def num (neg : Bool) (A : Option Addr) (n c : Nat) : Value := .agg #[.bool neg, .slice A n c]
/-- what a function that makes a value hands back -/
def AggRet (z : Int) (w : World) (e : Ending) (w' : World) : Prop :=
  ∃ neg n A c, sgn neg n = z ∧ e = .returned (.agg #[.bool neg, .slice A (mag n).length c]) ∧ MagS w' A c n ∧ Below w.heap.size w w'
theorem plus' (A A' : Option Addr) (c c' n m : Nat) (a b : Nat) (w : World) (hn : (mag a).length = n) (hn' : (mag b).length = m) (hc : Mg .u64 w w.heap.size A (mag a)) (hc' : Mg .u64 w w.heap.size A' (mag b)) (hm : n ≤ 1099511627776) (hm' : m ≤ 1099511627776) :
    Calls Tryz.prog 72 #[.slice A n c, .slice A' m c'] w (OwRet (mag (a + b)) w) := by
  subst hn hn'
  exact plus_any A A' c c' a b w hc hc' hm hm'
theorem minus' (A A' : Option Addr) (c c' n m : Nat) (a b : Nat) (w : World) (hn : (mag a).length = n) (hn' : (mag b).length = m) (hc : Mg .u64 w w.heap.size A (mag a)) (hc' : Mg .u64 w w.heap.size A' (mag b)) (hm : n ≤ 1099511627776) (hle : b ≤ a) :
    Calls Tryz.prog 73 #[.slice A n c, .slice A' m c'] w (OwRet (mag (a - b)) w) := by
  subst hn hn'
  exact minus_any A A' c c' a b w hc hc' hm hle
theorem compare' (A A' : Option Addr) (c c' n m : Nat) (a b : Nat) (w : World) (hn : (mag a).length = n) (hn' : (mag b).length = m) (hc : Mg .u64 w w.heap.size A (mag a)) (hc' : Mg .u64 w w.heap.size A' (mag b)) (hm : n ≤ 4611686018427387904) (hm' : m ≤ 4611686018427387904) :
    Calls Tryz.prog 88 #[.slice A n c, .slice A' m c'] w (CmpRet a b w) := by
  subst hn hn'
  exact compare_any A A' c c' a b w hc hc' hm hm'
theorem four {w1 : World} {B : Nat} {x0 x1 y1 v0 v1 u0 u1 : Value} (h00 : w1.cell? ⟨B, 0, none⟩ = some x0) (h01 : w1.cell? ⟨B, 1, none⟩ = some x1) (h11 : w1.cell? ⟨B + 1, 1, none⟩ = some y1) :
    ∃ W2, W2 = (((w1.setCell ⟨B, 0, none⟩ v0).setCell ⟨B, 1, none⟩ v1).setCell ⟨B + 1, 0, none⟩ u0).setCell ⟨B + 1, 1, none⟩ u1 ∧ W2.cell? ⟨B, 0, none⟩ = some v0 ∧ W2.cell? ⟨B, 1, none⟩ = some v1 ∧ W2.cell? ⟨B + 1, 1, none⟩ = some u1 ∧
      (∀ o, W2.cell? ⟨B + 1 + 1, o, none⟩ = w1.cell? ⟨B + 1 + 1, o, none⟩) ∧ (∀ o, W2.frozen? ⟨B + 1 + 1, o, none⟩ = w1.frozen? ⟨B + 1 + 1, o, none⟩) ∧ W2.heap.size = w1.heap.size ∧ (∀ base w, base ≤ B → Below base w w1 → Below base w W2) := by
  have n1 : ∀ o o' : Nat, (⟨B + 1, o, none⟩ : Addr) ≠ ⟨B, o', none⟩ := fun o o' h => by injection h with h; omega
  have n2 : ∀ o o' : Nat, (⟨B + 1, o, none⟩ : Addr) ≠ ⟨B + 1 + 1, o', none⟩ := fun o o' h => by injection h with h; omega
  have n3 : ∀ o o' : Nat, (⟨B, o, none⟩ : Addr) ≠ ⟨B + 1 + 1, o', none⟩ := fun o o' h => by injection h with h; omega
  have m1 : (⟨B, 1, none⟩ : Addr) ≠ ⟨B, 0, none⟩ := by simp
  have m2 : (⟨B, 0, none⟩ : Addr) ≠ ⟨B, 1, none⟩ := by simp
  have m3 : (⟨B + 1, 0, none⟩ : Addr) ≠ ⟨B + 1, 1, none⟩ := by simp
  refine ⟨_, rfl, ?_, ?_, ?_, ?_, ?_, by simp [World.setCell], ?_⟩
  · rw [World.cell?_setCell_other _ _ _ _ (n1 _ _), World.cell?_setCell_other _ _ _ _ (n1 _ _), World.cell?_setCell_other _ _ _ _ m1]
    exact World.cell?_setCell_same _ _ _ h00
  · rw [World.cell?_setCell_other _ _ _ _ (n1 _ _), World.cell?_setCell_other _ _ _ _ (n1 _ _)]
    exact World.cell?_setCell_same _ _ _ (by rw [World.cell?_setCell_other _ _ _ _ m2]; exact h01)
  · exact World.cell?_setCell_same _ _ _ (by rw [World.cell?_setCell_other _ _ _ _ m3, World.cell?_setCell_other _ _ _ _ (n1 _ _).symm, World.cell?_setCell_other _ _ _ _ (n1 _ _).symm]; exact h11)
  · intro o
    rw [World.cell?_setCell_other _ _ _ _ (n2 _ _), World.cell?_setCell_other _ _ _ _ (n2 _ _), World.cell?_setCell_other _ _ _ _ (n3 _ _), World.cell?_setCell_other _ _ _ _ (n3 _ _)]
  · intro o
    simp [go_sem]
  · intro base w hB hb
    exact (((hb.setCell hB _).setCell hB _).setCell (by simp; omega) _).setCell (by simp; omega) _
/-- the three boxes of add -/
def boxes (w : World) (na nb : Bool) (A A' : Option Addr) (n m c c' : Nat) : World :=
  ((w.alloc (.cells #[.bool na, .slice A n c] 89)).alloc (.cells #[.bool nb, .slice A' m c'] 89)).alloc (.cells #[.bool false, .slice none 0 0] 89)

set_option maxRecDepth 100000 in
set_option maxHeartbeats 4000000 in
theorem add_same (na : Bool) (A A' : Option Addr) (c c' a b : Nat) (w : World) (hc : MagS w A c a) (hc' : MagS w A' c' b) (hm : (mag a).length ≤ 274877906944) (hm' : (mag b).length ≤ 274877906944) :
    Calls Tryz.prog 85 #[.agg #[.bool na, .slice A (mag a).length c], .agg #[.bool na, .slice A' (mag b).length c']] w (AggRet (sgn na a + sgn na b) w) := by
  have HZ : Hid (sgn na (a + b) = sgn na a + sgn na b) := by show _ = _; unfold sgn; cases na <;> simp <;> omega
  have Hc := Lib.hid hc
  have Hc' := Lib.hid hc'
  clear hc hc'
  generalize hla : (mag a).length = n at *
  generalize hlb : (mag b).length = m at *
  have HLa := Lib.hid hla
  have HLb := Lib.hid hlb
  clear hla hlb
  have q : (na == na) = true := by simp
  have HBx : Hid (Below w.heap.size w (boxes w na na A A' n m c c')) := by
    show Below _ _ _
    exact (((Below.refl _ _).alloc (Nat.le_refl _) _).alloc (by simp) _).alloc (by simp; omega) _
  obtain ⟨W, hW⟩ : ∃ W, boxes w na na A A' n m c c' = W := ⟨_, rfl⟩
  have hsz : W.heap.size = w.heap.size + 3 := by rw [← hW]; simp [boxes]
  have c00 : W.cell? ⟨w.heap.size, 0, none⟩ = some (.bool na) := by rw [← hW]; simp [boxes, go_sem]
  have c01 : W.cell? ⟨w.heap.size, 1, none⟩ = some (.slice A n c) := by rw [← hW]; simp [boxes, go_sem]
  have c11 : W.cell? ⟨w.heap.size + 1, 1, none⟩ = some (.slice A' m c') := by rw [← hW]; simp [boxes, go_sem]
  have c20 : W.cell? ⟨w.heap.size + 1 + 1, 0, none⟩ = some (.bool false) := by rw [← hW]; simp [boxes, go_sem]
  have c21 : W.cell? ⟨w.heap.size + 1 + 1, 1, none⟩ = some (.slice none 0 0) := by rw [← hW]; simp [boxes, go_sem]
  have f20 : W.frozen? ⟨w.heap.size + 1 + 1, 0, none⟩ = false := by rw [← hW]; simp [boxes, go_sem]
  have f21 : W.frozen? ⟨w.heap.size + 1 + 1, 1, none⟩ = false := by rw [← hW]; simp [boxes, go_sem]
  have HW := Lib.hid hW
  have Hsz := Lib.hid hsz
  rw [hW] at HBx
  clear hW hsz
  go_enter Tryz.func85, Tryz.ntmps85
  go_wp2_with fail
  rw [show ((w.alloc (.cells #[.bool na, .slice A n c] 89)).alloc (.cells #[.bool na, .slice A' m c'] 89)).alloc (.cells #[.bool false, .slice none 0 0] 89) = W from HW.out]
  clear HW
  go_region_held3 (fun w' => w'.cell? ⟨w.heap.size, 0, none⟩ = some (.bool na) ∧ w'.cell? ⟨w.heap.size, 1, none⟩ = some (.slice A n c) ∧ w'.cell? ⟨w.heap.size + 1, 1, none⟩ = some (.slice A' m c'))
    (first
      | (go_keep; done)
      | (go_split_ands; have hz := Hsz.out; refine ⟨(hb2.cell (p := ⟨w.heap.size, 0, none⟩) (by simp; omega)).trans ?_, (hb2.cell (p := ⟨w.heap.size, 1, none⟩) (by simp; omega)).trans ?_, (hb2.cell (p := ⟨w.heap.size + 1, 1, none⟩) (by simp; omega)).trans ?_⟩ <;> (first | assumption | (simp; assumption)))
      | (refine ⟨?_, ?_, ?_⟩ <;> (rw [World.cell?_setCell_other _ _ _ _ (by intro h; injection h with h1 h2; omega), World.cell?_setCell_other _ _ _ _ (by intro h; injection h with h1 h2; omega)]; (first | assumption | exact (hb2.cell (p := ⟨w.heap.size, 0, none⟩) (by have hz := Hsz.out; simp; omega)).trans c00 | exact (hb2.cell (p := ⟨w.heap.size, 1, none⟩) (by have hz := Hsz.out; simp; omega)).trans c01 | exact (hb2.cell (p := ⟨w.heap.size + 1, 1, none⟩) (by have hz := Hsz.out; simp; omega)).trans c11))))
    (first
      | (go_at_call 72; refine (plus' A A' c c' n m a b _ HLa.out HLb.out (by exact Hc.out.1.up HBx.out.drew) (by exact Hc'.out.1.up HBx.out.drew) (by omega) (by omega)).mono ?_; rintro e w2 ⟨A2, c2, rfl, hm2, hb2⟩; have r20 : w2.cell? ⟨w.heap.size + 1 + 1, 0, none⟩ = some (.bool false) := (hb2.cell (p := ⟨w.heap.size + 1 + 1, 0, none⟩) (by have hz := Hsz.out; simp; omega)).trans c20; have r21 : w2.cell? ⟨w.heap.size + 1 + 1, 1, none⟩ = some (.slice none 0 0) := (hb2.cell (p := ⟨w.heap.size + 1 + 1, 1, none⟩) (by have hz := Hsz.out; simp; omega)).trans c21; have s20 : w2.frozen? ⟨w.heap.size + 1 + 1, 0, none⟩ = false := (hb2.frozen (p := ⟨w.heap.size + 1 + 1, 0, none⟩) (by have hz := Hsz.out; simp; omega)).trans f20; have s21 : w2.frozen? ⟨w.heap.size + 1 + 1, 1, none⟩ = false := (hb2.frozen (p := ⟨w.heap.size + 1 + 1, 1, none⟩) (by have hz := Hsz.out; simp; omega)).trans f21; have HM2 := Lib.hid hm2; clear hm2))
  go_wp2_with fail
  refine bodyPost_ret (v := .agg #[.bool na, .slice A2 (mag (a + b)).length c2]) (by simp [results, Tryz.results85, go_sem, r20, r21]) rfl ⟨na, a + b, A2, c2, HZ.out, rfl, ?_, ?_⟩
  · have hz : w.heap.size + 1 + 1 < W.drew.heap.size := by have hz := Hsz.out; show _ < W.heap.size; omega
    exact Ow.mg (ownsRow_setCell_below (ownsRow_setCell_below HM2.out hz _) hz _)
  · have hb : Below w.heap.size w w2 := HBx.out.drew.trans (hb2.mono (by have hz := Hsz.out; show _ ≤ W.heap.size; omega))
    exact (hb.setCell (by simp; omega) _).setCell (by simp; omega) _
set_option maxRecDepth 100000 in
set_option maxHeartbeats 4000000 in
theorem add_ge (na nb : Bool) (A A' : Option Addr) (c c' a b : Nat) (w : World) (hne : (na == nb) = false) (hle : b ≤ a) (hc : MagS w A c a) (hc' : MagS w A' c' b) (hm : (mag a).length ≤ 274877906944) (hm' : (mag b).length ≤ 274877906944) :
    Calls Tryz.prog 85 #[.agg #[.bool na, .slice A (mag a).length c], .agg #[.bool nb, .slice A' (mag b).length c']] w (AggRet (sgn na a + sgn nb b) w) := by
  have HZ : Hid (sgn na (a - b) = sgn na a + sgn nb b) := by show _ = _; unfold sgn; cases na <;> cases nb <;> simp at hne ⊢ <;> omega
  have Hle := Lib.hid hle
  clear hle
  have Hc := Lib.hid hc
  have Hc' := Lib.hid hc'
  clear hc hc'
  generalize hla : (mag a).length = n at *
  generalize hlb : (mag b).length = m at *
  have HLa := Lib.hid hla
  have HLb := Lib.hid hlb
  clear hla hlb
  have HBx : Hid (Below w.heap.size w (boxes w na nb A A' n m c c')) := by
    show Below _ _ _
    exact (((Below.refl _ _).alloc (Nat.le_refl _) _).alloc (by simp) _).alloc (by simp; omega) _
  obtain ⟨W, hW⟩ : ∃ W, boxes w na nb A A' n m c c' = W := ⟨_, rfl⟩
  have hsz : W.heap.size = w.heap.size + 3 := by rw [← hW]; simp [boxes]
  have c00 : W.cell? ⟨w.heap.size, 0, none⟩ = some (.bool na) := by rw [← hW]; simp [boxes, go_sem]
  have c01 : W.cell? ⟨w.heap.size, 1, none⟩ = some (.slice A n c) := by rw [← hW]; simp [boxes, go_sem]
  have c11 : W.cell? ⟨w.heap.size + 1, 1, none⟩ = some (.slice A' m c') := by rw [← hW]; simp [boxes, go_sem]
  have c20 : W.cell? ⟨w.heap.size + 1 + 1, 0, none⟩ = some (.bool false) := by rw [← hW]; simp [boxes, go_sem]
  have c21 : W.cell? ⟨w.heap.size + 1 + 1, 1, none⟩ = some (.slice none 0 0) := by rw [← hW]; simp [boxes, go_sem]
  have f20 : W.frozen? ⟨w.heap.size + 1 + 1, 0, none⟩ = false := by rw [← hW]; simp [boxes, go_sem]
  have f21 : W.frozen? ⟨w.heap.size + 1 + 1, 1, none⟩ = false := by rw [← hW]; simp [boxes, go_sem]
  have HW := Lib.hid hW
  have Hsz := Lib.hid hsz
  rw [hW] at HBx
  clear hW hsz
  have c10 : W.cell? ⟨w.heap.size + 1, 0, none⟩ = some (.bool nb) := by rw [← HW.out]; simp [boxes, go_sem]
  go_enter Tryz.func85, Tryz.ntmps85
  go_wp2_with fail
  rw [show ((w.alloc (.cells #[.bool na, .slice A n c] 89)).alloc (.cells #[.bool nb, .slice A' m c'] 89)).alloc (.cells #[.bool false, .slice none 0 0] 89) = W from HW.out]
  clear HW
  refine (compare' A A' c c' n m a b _ HLa.out HLb.out (Hc.out.1.up HBx.out) (Hc'.out.1.up HBx.out) (by omega) (by omega)).mono ?_
  rintro e w1 ⟨r, rfl, hr, hr1, hr2, nn, hw1⟩
  have q : decide (r < 0) = false := decide_eq_false (fun h => by have := hr.1.1 h; have := Hle.out; omega)
  have HBx1 : Hid (Below w.heap.size w w1) := by show Below _ _ _; rw [hw1]; exact HBx.out.trans (below_drewN _ _ _)
  have Hs1 : Hid (w1.heap.size = w.heap.size + 3) := by show _ = _; rw [hw1]; exact Hsz.out
  have d00 : w1.cell? ⟨w.heap.size, 0, none⟩ = some (.bool na) := by rw [hw1]; exact c00
  have d01 : w1.cell? ⟨w.heap.size, 1, none⟩ = some (.slice A n c) := by rw [hw1]; exact c01
  have d10 : w1.cell? ⟨w.heap.size + 1, 0, none⟩ = some (.bool nb) := by rw [hw1]; exact c10
  have d11 : w1.cell? ⟨w.heap.size + 1, 1, none⟩ = some (.slice A' m c') := by rw [hw1]; exact c11
  have d20 : w1.cell? ⟨w.heap.size + 1 + 1, 0, none⟩ = some (.bool false) := by rw [hw1]; exact c20
  have d21 : w1.cell? ⟨w.heap.size + 1 + 1, 1, none⟩ = some (.slice none 0 0) := by rw [hw1]; exact c21
  have e20 : w1.frozen? ⟨w.heap.size + 1 + 1, 0, none⟩ = false := by rw [hw1]; exact f20
  have e21 : w1.frozen? ⟨w.heap.size + 1 + 1, 1, none⟩ = false := by rw [hw1]; exact f21
  clear hr hw1 c00 c01 c10 c11 c20 c21 f20 f21 HBx Hsz
  go_wp2_with fail
  go_region_held3 (fun w' => w'.cell? ⟨w.heap.size, 0, none⟩ = some (.bool na) ∧ w'.cell? ⟨w.heap.size, 1, none⟩ = some (.slice A n c) ∧ w'.cell? ⟨w.heap.size + 1, 1, none⟩ = some (.slice A' m c'))
    (first
      | (go_keep; done)
      | (go_split_ands; have hz := Hs1.out; refine ⟨(hb2.cell (p := ⟨w.heap.size, 0, none⟩) (by simp; omega)).trans ?_, (hb2.cell (p := ⟨w.heap.size, 1, none⟩) (by simp; omega)).trans ?_, (hb2.cell (p := ⟨w.heap.size + 1, 1, none⟩) (by simp; omega)).trans ?_⟩ <;> (first | assumption | (simp; assumption)))
      | (refine ⟨?_, ?_, ?_⟩ <;> (rw [World.cell?_setCell_other _ _ _ _ (by intro h; injection h with h1 h2; omega), World.cell?_setCell_other _ _ _ _ (by intro h; injection h with h1 h2; omega)]; (first | assumption | exact (hb2.cell (p := ⟨w.heap.size, 0, none⟩) (by have hz := Hs1.out; simp; omega)).trans d00 | exact (hb2.cell (p := ⟨w.heap.size, 1, none⟩) (by have hz := Hs1.out; simp; omega)).trans d01 | exact (hb2.cell (p := ⟨w.heap.size + 1, 1, none⟩) (by have hz := Hs1.out; simp; omega)).trans d11))))
    (first
      | (go_at_call 73; refine (minus' A A' c c' n m a b _ HLa.out HLb.out (by exact Hc.out.1.up HBx1.out.drew) (by exact Hc'.out.1.up HBx1.out.drew) (by omega) Hle.out).mono ?_; rintro e w2 ⟨A2, c2, rfl, hm2, hb2⟩; have r20 : w2.cell? ⟨w.heap.size + 1 + 1, 0, none⟩ = some (.bool false) := (hb2.cell (p := ⟨w.heap.size + 1 + 1, 0, none⟩) (by have hz := Hs1.out; simp; omega)).trans d20; have r21 : w2.cell? ⟨w.heap.size + 1 + 1, 1, none⟩ = some (.slice none 0 0) := (hb2.cell (p := ⟨w.heap.size + 1 + 1, 1, none⟩) (by have hz := Hs1.out; simp; omega)).trans d21; have s20 : w2.frozen? ⟨w.heap.size + 1 + 1, 0, none⟩ = false := (hb2.frozen (p := ⟨w.heap.size + 1 + 1, 0, none⟩) (by have hz := Hs1.out; simp; omega)).trans e20; have s21 : w2.frozen? ⟨w.heap.size + 1 + 1, 1, none⟩ = false := (hb2.frozen (p := ⟨w.heap.size + 1 + 1, 1, none⟩) (by have hz := Hs1.out; simp; omega)).trans e21; have HM2 := Lib.hid hm2; clear hm2))
  go_wp2_with fail
  refine bodyPost_ret (v := .agg #[.bool na, .slice A2 (mag (a - b)).length c2]) (by simp [results, Tryz.results85, go_sem, r20, r21]) rfl ⟨na, a - b, A2, c2, HZ.out, rfl, ?_, ?_⟩
  · have hz : w.heap.size + 1 + 1 < w1.drew.heap.size := by have hz := Hs1.out; show _ < w1.heap.size; omega
    exact Ow.mg (ownsRow_setCell_below (ownsRow_setCell_below HM2.out hz _) hz _)
  · have hb : Below w.heap.size w w2 := HBx1.out.drew.trans (hb2.mono (by have hz := Hs1.out; show _ ≤ w1.heap.size; omega))
    exact (hb.setCell (by simp; omega) _).setCell (by simp; omega) _
set_option maxRecDepth 100000 in
set_option maxHeartbeats 4000000 in
theorem add_lt (na nb : Bool) (A A' : Option Addr) (c c' a b : Nat) (w : World) (hne : (na == nb) = false) (hle : a ≤ b) (hlt : a < b) (hc : MagS w A c a) (hc' : MagS w A' c' b) (hm : (mag a).length ≤ 274877906944) (hm' : (mag b).length ≤ 274877906944) :
    Calls Tryz.prog 85 #[.agg #[.bool na, .slice A (mag a).length c], .agg #[.bool nb, .slice A' (mag b).length c']] w (AggRet (sgn na a + sgn nb b) w) := by
  have HZ : Hid (sgn nb (b - a) = sgn na a + sgn nb b) := by show _ = _; unfold sgn; cases na <;> cases nb <;> simp at hne ⊢ <;> omega
  have Hle := Lib.hid hle
  have Hlt := Lib.hid hlt
  clear hle hlt
  have Hc := Lib.hid hc
  have Hc' := Lib.hid hc'
  clear hc hc'
  generalize hla : (mag a).length = n at *
  generalize hlb : (mag b).length = m at *
  have HLa := Lib.hid hla
  have HLb := Lib.hid hlb
  clear hla hlb
  have HBx : Hid (Below w.heap.size w (boxes w na nb A A' n m c c')) := by
    show Below _ _ _
    exact (((Below.refl _ _).alloc (Nat.le_refl _) _).alloc (by simp) _).alloc (by simp; omega) _
  obtain ⟨W, hW⟩ : ∃ W, boxes w na nb A A' n m c c' = W := ⟨_, rfl⟩
  have hsz : W.heap.size = w.heap.size + 3 := by rw [← hW]; simp [boxes]
  have c00 : W.cell? ⟨w.heap.size, 0, none⟩ = some (.bool na) := by rw [← hW]; simp [boxes, go_sem]
  have c01 : W.cell? ⟨w.heap.size, 1, none⟩ = some (.slice A n c) := by rw [← hW]; simp [boxes, go_sem]
  have c11 : W.cell? ⟨w.heap.size + 1, 1, none⟩ = some (.slice A' m c') := by rw [← hW]; simp [boxes, go_sem]
  have c20 : W.cell? ⟨w.heap.size + 1 + 1, 0, none⟩ = some (.bool false) := by rw [← hW]; simp [boxes, go_sem]
  have c21 : W.cell? ⟨w.heap.size + 1 + 1, 1, none⟩ = some (.slice none 0 0) := by rw [← hW]; simp [boxes, go_sem]
  have f20 : W.frozen? ⟨w.heap.size + 1 + 1, 0, none⟩ = false := by rw [← hW]; simp [boxes, go_sem]
  have f21 : W.frozen? ⟨w.heap.size + 1 + 1, 1, none⟩ = false := by rw [← hW]; simp [boxes, go_sem]
  have HW := Lib.hid hW
  have Hsz := Lib.hid hsz
  rw [hW] at HBx
  clear hW hsz
  have y00 : W.frozen? ⟨w.heap.size, 0, none⟩ = false := by rw [← HW.out]; simp [boxes, go_sem]
  have y01 : W.frozen? ⟨w.heap.size, 1, none⟩ = false := by rw [← HW.out]; simp [boxes, go_sem]
  have y10 : W.frozen? ⟨w.heap.size + 1, 0, none⟩ = false := by rw [← HW.out]; simp [boxes, go_sem]
  have y11 : W.frozen? ⟨w.heap.size + 1, 1, none⟩ = false := by rw [← HW.out]; simp [boxes, go_sem]
  have c10 : W.cell? ⟨w.heap.size + 1, 0, none⟩ = some (.bool nb) := by rw [← HW.out]; simp [boxes, go_sem]
  go_enter Tryz.func85, Tryz.ntmps85
  go_wp2_with fail
  rw [show ((w.alloc (.cells #[.bool na, .slice A n c] 89)).alloc (.cells #[.bool nb, .slice A' m c'] 89)).alloc (.cells #[.bool false, .slice none 0 0] 89) = W from HW.out]
  clear HW
  refine (compare' A A' c c' n m a b _ HLa.out HLb.out (Hc.out.1.up HBx.out) (Hc'.out.1.up HBx.out) (by omega) (by omega)).mono ?_
  rintro e w1 ⟨r, rfl, hr, hr1, hr2, nn, hw1⟩
  have q : decide (r < 0) = true := decide_eq_true (hr.1.2 Hlt.out)
  have HBx1 : Hid (Below w.heap.size w w1) := by show Below _ _ _; rw [hw1]; exact HBx.out.trans (below_drewN _ _ _)
  have Hs1 : Hid (w1.heap.size = w.heap.size + 3) := by show _ = _; rw [hw1]; exact Hsz.out
  have d00 : w1.cell? ⟨w.heap.size, 0, none⟩ = some (.bool na) := by rw [hw1]; exact c00
  have d01 : w1.cell? ⟨w.heap.size, 1, none⟩ = some (.slice A n c) := by rw [hw1]; exact c01
  have d10 : w1.cell? ⟨w.heap.size + 1, 0, none⟩ = some (.bool nb) := by rw [hw1]; exact c10
  have d11 : w1.cell? ⟨w.heap.size + 1, 1, none⟩ = some (.slice A' m c') := by rw [hw1]; exact c11
  have d20 : w1.cell? ⟨w.heap.size + 1 + 1, 0, none⟩ = some (.bool false) := by rw [hw1]; exact c20
  have d21 : w1.cell? ⟨w.heap.size + 1 + 1, 1, none⟩ = some (.slice none 0 0) := by rw [hw1]; exact c21
  have e20 : w1.frozen? ⟨w.heap.size + 1 + 1, 0, none⟩ = false := by rw [hw1]; exact f20
  have e21 : w1.frozen? ⟨w.heap.size + 1 + 1, 1, none⟩ = false := by rw [hw1]; exact f21
  have z00 : w1.frozen? ⟨w.heap.size, 0, none⟩ = false := by rw [hw1]; exact y00
  have z01 : w1.frozen? ⟨w.heap.size, 1, none⟩ = false := by rw [hw1]; exact y01
  have z10 : w1.frozen? ⟨w.heap.size + 1, 0, none⟩ = false := by rw [hw1]; exact y10
  have z11 : w1.frozen? ⟨w.heap.size + 1, 1, none⟩ = false := by rw [hw1]; exact y11
  clear y00 y01 y10 y11
  clear hr hw1 c00 c01 c10 c11 c20 c21 f20 f21 HBx Hsz
  go_wp2_with fail
  obtain ⟨W2, hW2, g00, g01, g11, g2, k2, hs2, hbw⟩ := four (v0 := .bool nb) (v1 := .slice A' m c') (u0 := .bool na) (u1 := .slice A n c) d00 d01 d11
  rw [← hW2]
  have HBx2 : Hid (Below w.heap.size w W2) := hbw _ _ (Nat.le_refl _) HBx1.out
  have Hs2 : Hid (W2.heap.size = w.heap.size + 3) := hs2.trans Hs1.out
  have g20 : W2.cell? ⟨w.heap.size + 1 + 1, 0, none⟩ = some (.bool false) := (g2 0).trans d20
  have g21 : W2.cell? ⟨w.heap.size + 1 + 1, 1, none⟩ = some (.slice none 0 0) := (g2 1).trans d21
  have k20 : W2.frozen? ⟨w.heap.size + 1 + 1, 0, none⟩ = false := (k2 0).trans e20
  have k21 : W2.frozen? ⟨w.heap.size + 1 + 1, 1, none⟩ = false := (k2 1).trans e21
  clear hW2 g2 k2 hs2 hbw d00 d01 d10 d11 d20 d21 e20 e21 HBx1 Hs1 z00 z01 z10 z11
  go_region_held3 (fun w' => w'.cell? ⟨w.heap.size, 0, none⟩ = some (.bool nb) ∧ w'.cell? ⟨w.heap.size, 1, none⟩ = some (.slice A' m c') ∧ w'.cell? ⟨w.heap.size + 1, 1, none⟩ = some (.slice A n c))
    (first
      | (go_keep; done)
      | (go_split_ands; have hz := Hs2.out; refine ⟨(hb2.cell (p := ⟨w.heap.size, 0, none⟩) (by simp; omega)).trans ?_, (hb2.cell (p := ⟨w.heap.size, 1, none⟩) (by simp; omega)).trans ?_, (hb2.cell (p := ⟨w.heap.size + 1, 1, none⟩) (by simp; omega)).trans ?_⟩ <;> (first | assumption | (simp; assumption)))
      | (refine ⟨?_, ?_, ?_⟩ <;> (rw [World.cell?_setCell_other _ _ _ _ (by intro h; injection h with h1 h2; omega), World.cell?_setCell_other _ _ _ _ (by intro h; injection h with h1 h2; omega)]; (first | assumption | exact (hb2.cell (p := ⟨w.heap.size, 0, none⟩) (by have hz := Hs2.out; simp; omega)).trans g00 | exact (hb2.cell (p := ⟨w.heap.size, 1, none⟩) (by have hz := Hs2.out; simp; omega)).trans g01 | exact (hb2.cell (p := ⟨w.heap.size + 1, 1, none⟩) (by have hz := Hs2.out; simp; omega)).trans g11))))
    (first
      | (go_at_call 73; refine (minus' A' A c' c m n b a _ HLb.out HLa.out (by exact Hc'.out.1.up HBx2.out.drew) (by exact Hc.out.1.up HBx2.out.drew) (by omega) Hle.out).mono ?_; rintro e w2 ⟨A2, c2, rfl, hm2, hb2⟩; have r20 : w2.cell? ⟨w.heap.size + 1 + 1, 0, none⟩ = some (.bool false) := (hb2.cell (p := ⟨w.heap.size + 1 + 1, 0, none⟩) (by have hz := Hs2.out; simp; omega)).trans g20; have r21 : w2.cell? ⟨w.heap.size + 1 + 1, 1, none⟩ = some (.slice none 0 0) := (hb2.cell (p := ⟨w.heap.size + 1 + 1, 1, none⟩) (by have hz := Hs2.out; simp; omega)).trans g21; have s20 : w2.frozen? ⟨w.heap.size + 1 + 1, 0, none⟩ = false := (hb2.frozen (p := ⟨w.heap.size + 1 + 1, 0, none⟩) (by have hz := Hs2.out; simp; omega)).trans k20; have s21 : w2.frozen? ⟨w.heap.size + 1 + 1, 1, none⟩ = false := (hb2.frozen (p := ⟨w.heap.size + 1 + 1, 1, none⟩) (by have hz := Hs2.out; simp; omega)).trans k21; have HM2 := Lib.hid hm2; clear hm2))
  go_wp2_with fail
  refine bodyPost_ret (v := .agg #[.bool nb, .slice A2 (mag (b - a)).length c2]) (by simp [results, Tryz.results85, go_sem, r20, r21]) rfl ⟨nb, b - a, A2, c2, HZ.out, rfl, ?_, ?_⟩
  · have hz : w.heap.size + 1 + 1 < W2.drew.heap.size := by have hz := Hs2.out; show _ < W2.heap.size; omega
    exact Ow.mg (ownsRow_setCell_below (ownsRow_setCell_below HM2.out hz _) hz _)
  · have hb : Below w.heap.size w w2 := HBx2.out.drew.trans (hb2.mono (by have hz := Hs2.out; show _ ≤ W2.heap.size; omega))
    exact (hb.setCell (by simp; omega) _).setCell (by simp; omega) _
theorem add_any (na nb : Bool) (A A' : Option Addr) (c c' a b : Nat) (w : World) (hc : MagS w A c a) (hc' : MagS w A' c' b) (hm : (mag a).length ≤ 274877906944) (hm' : (mag b).length ≤ 274877906944) :
    Calls Tryz.prog 85 #[.agg #[.bool na, .slice A (mag a).length c], .agg #[.bool nb, .slice A' (mag b).length c']] w (AggRet (sgn na a + sgn nb b) w) := by
  by_cases h : na = nb
  · subst h; exact add_same na A A' c c' a b w hc hc' hm hm'
  · have hne : (na == nb) = false := by simp [h]
    rcases Nat.lt_or_ge a b with hl | hl
    · exact add_lt na nb A A' c c' a b w hne (by omega) hl hc hc' hm hm'
    · exact add_ge na nb A A' c c' a b w hne hl hc hc' hm hm'
end Go.Proofs.YtonopbelbehheaaGreatDoor
