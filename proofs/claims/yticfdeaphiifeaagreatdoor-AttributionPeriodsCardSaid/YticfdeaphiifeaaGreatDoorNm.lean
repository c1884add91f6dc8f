/- Names: the contracts of instrument.Name and of the reference's. Condition: the string's length fits a machine integer. -/
import Derived.Test.YticfdeaphiifeaaGreatDoorProg
import Derived.WalkKit
import Derived.WalkLawsBesides
import Derived.Deep.QuietTactic
import Derived.Deep.LoopGhost
import Derived.BigQuiet
import Derived.Below
import Derived.Lib.Hide
import Derived.Lib.ConvBytes
set_option maxHeartbeats 4000000
set_option maxRecDepth 100000
namespace Go.Proofs.YticfdeaphiifeaaGreatDoor
open Go.RowKit
def nameB (c : UInt8) : Bool := (decide (97 ≤ c.toNat) && decide (c.toNat ≤ 122)) || (decide (48 ≤ c.toNat) && decide (c.toNat ≤ 57)) || c.toNat == 95
def nameOk (s : ByteArray) : Bool := decide (0 < s.size) && decide (s.size ≤ 16) && s.data.toList.all nameB
def charN (s : ByteArray) (i : Nat) : Nat := (s.data.toList.getD i 0).toNat
def nameN (x : Nat) : Bool := (decide (97 ≤ x) && decide (x ≤ 122)) || (decide (48 ≤ x) && decide (x ≤ 57)) || x == 95
theorem nameN_iff (x : Nat) : nameN x = true ↔ (97 ≤ x ∧ x ≤ 122) ∨ (48 ≤ x ∧ x ≤ 57) ∨ x = 95 := by
 unfold nameN
 simp only [Bool.or_eq_true, Bool.and_eq_true, decide_eq_true_eq, beq_iff_eq]
 omega
theorem name_cases (x : Nat) : (97 ≤ x ∧ x ≤ 122) ∨ (48 ≤ x ∧ x ≤ 57) ∨ x = 95 ∨ x < 48 ∨ (57 < x ∧ x < 97 ∧ x ≠ 95) ∨ 122 < x := by omega
theorem name_all {s : ByteArray} (h : ∀ i, i < s.size → nameN (charN s i) = true) : s.data.toList.all nameB = true := by
 rw [List.all_eq_true]
 intro c hc
 obtain ⟨i, hi, rfl⟩ := List.mem_iff_getElem.1 hc
 have := h i (by simpa using hi)
 unfold charN at this
 rw [List.getD_eq_getElem?_getD, List.getElem?_eq_getElem hi] at this
 exact this
theorem name_not {s : ByteArray} {i : Nat} (hi : i < s.size) (h : nameN (charN s i) = false) : s.data.toList.all nameB = false := by
 rw [List.all_eq_false]
 have hi2 : i < s.data.toList.length := by simpa using hi
 refine ⟨s.data.toList[i], List.getElem_mem hi2, ?_⟩
 unfold charN at h
 rw [List.getD_eq_getElem?_getD, List.getElem?_eq_getElem hi2] at h
 rw [Bool.not_eq_true]
 exact h
theorem name_yes {s : ByteArray} (h0 : 0 < s.size) (h1 : s.size ≤ 16) (h : ∀ i, i < s.size → nameN (charN s i) = true) : nameOk s = true := by
 unfold nameOk
 rw [decide_eq_true h0, decide_eq_true h1, name_all h]
 rfl
theorem name_no {s : ByteArray} {i : Nat} (hi : i < s.size) (h : nameN (charN s i) = false) : nameOk s = false := by
 unfold nameOk
 rw [name_not hi h, Bool.and_false]
theorem below_bytes (w : World) (e : TypeId) (s : ByteArray) : Below w.heap.size w (Lib.bytesWorld w e s) :=
 ⟨by simp [Lib.bytesWorld, World.freeze, World.alloc, World.drew, -World.alloc_eq, -World.drew_eq], by simp [Lib.bytesWorld, World.freeze, World.alloc, World.drew, -World.alloc_eq, -World.drew_eq], by simp [Lib.bytesWorld, World.freeze, World.alloc, World.drew, -World.alloc_eq, -World.drew_eq], by rw [Lib.bytesWorld_size]; omega, fun j hj => Lib.bytesWorld_at_old w e s j hj⟩
theorem name_any (s : ByteArray) (hs : s.size ≤ 4611686018427387904) (w : World) : Calls Tryz.prog 87 #[.string s] w fun e w' => e = .returned (.bool (nameOk s)) ∧ Below w.heap.size w w' := by
 by_cases h0 : s.size = 0
 ·have hn : nameOk s = false := by unfold nameOk; rw [decide_eq_false (by omega)]; rfl
  have q : ((s.size : Int) == 0) = true := by rw [h0]; rfl
  rw [hn]
  clear hn h0
  go_enter Tryz.func87, Tryz.ntmps87
  go_wp2_with fail
  go_ret
  exact ⟨rfl, Below.refl _ _⟩
 have q0 : ((s.size : Int) == 0) = false := by rw [beq_eq_false_iff_ne]; omega
 by_cases h16 : 16 < s.size
 ·have hn : nameOk s = false := by unfold nameOk; rw [decide_eq_false (by omega : ¬ s.size ≤ 16), Bool.and_false]; rfl
  have q : decide ((16 : Int) < (s.size : Int)) = true := decide_eq_true (by omega)
  have qn : decide (16 < s.size) = true := decide_eq_true h16
  rw [hn]
  clear hn h0 h16
  go_enter Tryz.func87, Tryz.ntmps87
  go_wp2_with fail
  go_ret
  exact ⟨rfl, Below.refl _ _⟩
 have q16 : decide ((16 : Int) < (s.size : Int)) = false := decide_eq_false (by omega)
 have q16n : decide (16 < s.size) = false := decide_eq_false h16
 have hcv := Lib.run_convert_string_bytes (P := Tryz.prog) w 9 159 5 s Tryz.underlying9 Tryz.underlying159 Tryz.underlying5
 have HY := Lib.hid (fun h => name_yes (s := s) (by omega) (by omega) h)
 have HNO := Lib.hid (fun i hi => name_no (s := s) (i := i) hi)
 have HBL := Lib.hid (below_bytes w 5 s)
 have HCELL := Lib.hid (fun j hj => Lib.bytesWorld_cell w 5 s j hj)
 generalize Lib.bytesWorld w 5 s = W at *
 generalize grownCap w s.size 0 5 = cap at *
 generalize w.heap.size = B at *
 clear h0 h16
 go_enter Tryz.func87, Tryz.ntmps87
 go_wp2_with fail
 go_loopw [16] (fun t wr => ∃ k : Nat, k ≤ s.size ∧ t = .int .i64 (k : Int) ∧ wr = W ∧ Hid (∀ i, i < k → nameN (charN s i) = true)) (fun t _ => (s.size - intOf t).toNat)
 case atStart => exact ⟨0, by omega, rfl, rfl, fun i h => by omega⟩
 case round =>
  obtain ⟨k, hk, rfl, rfl, HP⟩ := hrel
  by_cases hkn : k = s.size
  ·subst hkn
   have q : decide ((s.size : Int) < (s.size : Int)) = false := decide_eq_false (by omega)
   go_wp2_with fail
   go_ret
   exact ⟨by rw [HY.out HP.out]; rfl, HBL.out⟩
  have q : decide ((k : Int) < (s.size : Int)) = true := decide_eq_true (by omega)
  have qn : decide (k < s.size) = true := decide_eq_true (by omega)
  have hks : k < s.size := by omega
  have x0 := HCELL.out k hks
  have hpB : B < wr.heap.size := block_lt_of_cell x0
  have HB := Lib.hid (HNO.out k hks)
  obtain ⟨x, hx⟩ : ∃ x, charN s k = x := ⟨_, rfl⟩
  change wr.cell? _ = some (.int .u8 ((charN s k : Nat) : Int)) at x0
  rw [hx] at x0 HB
  have HX := Lib.hid hx
  have HBF : Hid (¬ ((97 ≤ x ∧ x ≤ 122) ∨ (48 ≤ x ∧ x ≤ 57) ∨ x = 95) → nameOk s = false) := fun h => HB.out (by rw [← Bool.not_eq_true, nameN_iff]; exact h)
  clear hx hkn HB
  rcases name_cases x with hx0 | hx1 | hx2 | hx3 | hx4 | hx5
  ·have hc : 97 ≤ x ∧ x ≤ 122 := hx0
   have lt97 : decide ((x : Int) < 97) = false := by simp; omega
   have lt97n : decide (x < 97) = false := by simp; omega
   have gt122 : decide ((122 : Int) < (x : Int)) = false := by simp; omega
   have gt122n : decide (122 < x) = false := by simp; omega
   have HC := Lib.hid hc
   clear hc hx0
   go_wp2_with fail
   go_roundw
   case rel => exact ⟨k + 1, by omega, by go_num, trivial, fun i hi => by
    by_cases e : i = k
    ·subst e; rw [HX.out]; exact (nameN_iff x).2 (by have := HC.out; omega)
    ·exact HP.out i (by omega)⟩
   case measure => simp [intOf]; omega
  ·have hc : 48 ≤ x ∧ x ≤ 57 := hx1
   have lt97 : decide ((x : Int) < 97) = true := by simp; omega
   have lt97n : decide (x < 97) = true := by simp; omega
   have lt48 : decide ((x : Int) < 48) = false := by simp; omega
   have lt48n : decide (x < 48) = false := by simp; omega
   have gt57 : decide ((57 : Int) < (x : Int)) = false := by simp; omega
   have gt57n : decide (57 < x) = false := by simp; omega
   have HC := Lib.hid hc
   clear hc hx1
   go_wp2_with fail
   go_roundw
   case rel => exact ⟨k + 1, by omega, by go_num, trivial, fun i hi => by
    by_cases e : i = k
    ·subst e; rw [HX.out]; exact (nameN_iff x).2 (by have := HC.out; omega)
    ·exact HP.out i (by omega)⟩
   case measure => simp [intOf]; omega
  ·have hc : x = 95 := hx2
   have lt97 : decide ((x : Int) < 97) = true := by simp; omega
   have lt97n : decide (x < 97) = true := by simp; omega
   have lt48 : decide ((x : Int) < 48) = false := by simp; omega
   have lt48n : decide (x < 48) = false := by simp; omega
   have gt57 : decide ((57 : Int) < (x : Int)) = true := by simp; omega
   have gt57n : decide (57 < x) = true := by simp; omega
   have ne95 : ((x : Int) != 95) = false := by simp; omega
   have ne95n : (x != 95) = false := by simp; omega
   have HC := Lib.hid hc
   clear hc hx2
   go_wp2_with fail
   go_roundw
   case rel => exact ⟨k + 1, by omega, by go_num, trivial, fun i hi => by
    by_cases e : i = k
    ·subst e; rw [HX.out]; exact (nameN_iff x).2 (by have := HC.out; omega)
    ·exact HP.out i (by omega)⟩
   case measure => simp [intOf]; omega
  ·have hc : x < 48 := hx3
   have lt97 : decide ((x : Int) < 97) = true := by simp; omega
   have lt97n : decide (x < 97) = true := by simp; omega
   have lt48 : decide ((x : Int) < 48) = true := by simp; omega
   have lt48n : decide (x < 48) = true := by simp; omega
   have ne95 : ((x : Int) != 95) = true := by simp; omega
   have ne95n : (x != 95) = true := by simp; omega
   have HC := Lib.hid hc
   clear hc hx3
   go_wp2_with fail
   go_ret
   exact ⟨by rw [HBF.out (by have := HC.out; omega)]; rfl, HBL.out⟩
  ·have hc : 57 < x ∧ x < 97 ∧ x ≠ 95 := hx4
   have lt97 : decide ((x : Int) < 97) = true := by simp; omega
   have lt97n : decide (x < 97) = true := by simp; omega
   have lt48 : decide ((x : Int) < 48) = false := by simp; omega
   have lt48n : decide (x < 48) = false := by simp; omega
   have gt57 : decide ((57 : Int) < (x : Int)) = true := by simp; omega
   have gt57n : decide (57 < x) = true := by simp; omega
   have ne95 : ((x : Int) != 95) = true := by simp; omega
   have ne95n : (x != 95) = true := by simp; omega
   have HC := Lib.hid hc
   clear hc hx4
   go_wp2_with fail
   go_ret
   exact ⟨by rw [HBF.out (by have := HC.out; omega)]; rfl, HBL.out⟩
  ·have hc : 122 < x := hx5
   have lt97 : decide ((x : Int) < 97) = false := by simp; omega
   have lt97n : decide (x < 97) = false := by simp; omega
   have gt122 : decide ((122 : Int) < (x : Int)) = true := by simp; omega
   have gt122n : decide (122 < x) = true := by simp; omega
   have lt48 : decide ((x : Int) < 48) = false := by simp; omega
   have lt48n : decide (x < 48) = false := by simp; omega
   have gt57 : decide ((57 : Int) < (x : Int)) = true := by simp; omega
   have gt57n : decide (57 < x) = true := by simp; omega
   have ne95 : ((x : Int) != 95) = true := by simp; omega
   have ne95n : (x != 95) = true := by simp; omega
   have HC := Lib.hid hc
   clear hc hx5
   go_wp2_with fail
   go_ret
   exact ⟨by rw [HBF.out (by have := HC.out; omega)]; rfl, HBL.out⟩
theorem rname_any (s : ByteArray) (hs : s.size ≤ 4611686018427387904) (w : World) : Calls Tryz.prog 97 #[.string s] w fun e w' => e = .returned (.bool (nameOk s)) ∧ Below w.heap.size w w' := by
 have HNO := Lib.hid (fun i hi => name_no (s := s) (i := i) hi)
 go_enter Tryz.func97, Tryz.ntmps97
 go_wp2_with fail
 go_loopw [3] (fun t wr => ∃ k : Nat, k ≤ s.size ∧ t = .int .i64 (k : Int) ∧ Below w.heap.size w wr ∧ Hid (∀ i, i < k → nameN (charN s i) = true)) (fun t _ => (s.size - intOf t).toNat)
 case atStart => exact ⟨0, by omega, rfl, Below.refl _ _, fun i h => by omega⟩
 case round =>
  obtain ⟨k, hk, rfl, hb, HP⟩ := hrel
  by_cases hkn : k = s.size
  ·subst hkn
   have q : decide ((s.size : Int) < (s.size : Int)) = false := decide_eq_false (by omega)
   have HY : Hid (nameOk s = (decide (1 ≤ s.size) && decide (s.size ≤ 16))) := by
    show _ = _
    unfold nameOk
    rw [name_all HP.out, Bool.and_true]
    rfl
   by_cases h1 : 1 ≤ s.size
   ·have q1 : decide ((1 : Int) ≤ (s.size : Int)) = true := decide_eq_true (by omega)
    have q1n : decide (1 ≤ s.size) = true := decide_eq_true h1
    have e1 := HY.out
    rw [q1n, Bool.true_and] at e1
    have HE := Lib.hid e1
    clear e1 h1
    go_wp2_with fail
    go_ret
    exact ⟨by rw [HE.out]; simp; omega, hb⟩
   ·have q1 : decide ((1 : Int) ≤ (s.size : Int)) = false := decide_eq_false (by omega)
    have q1n : decide (1 ≤ s.size) = false := decide_eq_false h1
    have e1 := HY.out
    rw [q1n, Bool.false_and] at e1
    have HE := Lib.hid e1
    clear e1 h1
    go_wp2_with fail
    go_ret
    exact ⟨by rw [HE.out]; rfl, hb⟩
  have q : decide ((k : Int) < (s.size : Int)) = true := decide_eq_true (by omega)
  have qn : decide (k < s.size) = true := decide_eq_true (by omega)
  have hks : k < s.size := by omega
  have HB := Lib.hid (HNO.out k hks)
  obtain ⟨x, hx⟩ : ∃ x, s[k].toNat = x := ⟨_, rfl⟩
  have hx' : charN s k = x := by
   rw [← hx]
   unfold charN
   rw [List.getD_eq_getElem?_getD, List.getElem?_eq_getElem (by simpa using hks)]
   rfl
  rw [hx'] at HB
  have HX := Lib.hid hx'
  have HBF : Hid (¬ ((97 ≤ x ∧ x ≤ 122) ∨ (48 ≤ x ∧ x ≤ 57) ∨ x = 95) → nameOk s = false) := fun h => HB.out (by rw [← Bool.not_eq_true, nameN_iff]; exact h)
  clear hx' hkn HB
  rcases name_cases x with hx0 | hx1 | hx2 | hx3 | hx4 | hx5
  ·have hc : 97 ≤ x ∧ x ≤ 122 := hx0
   have lt97 : decide ((x : Int) < 97) = false := by simp; omega
   have lt97n : decide (x < 97) = false := by simp; omega
   have gt122 : decide ((122 : Int) < (x : Int)) = false := by simp; omega
   have gt122n : decide (122 < x) = false := by simp; omega
   have HC := Lib.hid hc
   clear hc hx0
   go_wp2_with fail
   go_roundw
   case rel => exact ⟨k + 1, by omega, by go_num, hb, fun i hi => by
    by_cases e : i = k
    ·subst e; rw [HX.out]; exact (nameN_iff x).2 (by have := HC.out; omega)
    ·exact HP.out i (by omega)⟩
   case measure => simp [intOf]; omega
  ·have hc : 48 ≤ x ∧ x ≤ 57 := hx1
   have lt97 : decide ((x : Int) < 97) = true := by simp; omega
   have lt97n : decide (x < 97) = true := by simp; omega
   have lt48 : decide ((x : Int) < 48) = false := by simp; omega
   have lt48n : decide (x < 48) = false := by simp; omega
   have gt57 : decide ((57 : Int) < (x : Int)) = false := by simp; omega
   have gt57n : decide (57 < x) = false := by simp; omega
   have HC := Lib.hid hc
   clear hc hx1
   go_wp2_with fail
   go_roundw
   case rel => exact ⟨k + 1, by omega, by go_num, hb, fun i hi => by
    by_cases e : i = k
    ·subst e; rw [HX.out]; exact (nameN_iff x).2 (by have := HC.out; omega)
    ·exact HP.out i (by omega)⟩
   case measure => simp [intOf]; omega
  ·have hc : x = 95 := hx2
   have lt97 : decide ((x : Int) < 97) = true := by simp; omega
   have lt97n : decide (x < 97) = true := by simp; omega
   have lt48 : decide ((x : Int) < 48) = false := by simp; omega
   have lt48n : decide (x < 48) = false := by simp; omega
   have gt57 : decide ((57 : Int) < (x : Int)) = true := by simp; omega
   have gt57n : decide (57 < x) = true := by simp; omega
   have ne95 : ((x : Int) != 95) = false := by simp; omega
   have ne95n : (x != 95) = false := by simp; omega
   have HC := Lib.hid hc
   clear hc hx2
   go_wp2_with fail
   go_roundw
   case rel => exact ⟨k + 1, by omega, by go_num, hb, fun i hi => by
    by_cases e : i = k
    ·subst e; rw [HX.out]; exact (nameN_iff x).2 (by have := HC.out; omega)
    ·exact HP.out i (by omega)⟩
   case measure => simp [intOf]; omega
  ·have hc : x < 48 := hx3
   have lt97 : decide ((x : Int) < 97) = true := by simp; omega
   have lt97n : decide (x < 97) = true := by simp; omega
   have lt48 : decide ((x : Int) < 48) = true := by simp; omega
   have lt48n : decide (x < 48) = true := by simp; omega
   have ne95 : ((x : Int) != 95) = true := by simp; omega
   have ne95n : (x != 95) = true := by simp; omega
   have HC := Lib.hid hc
   clear hc hx3
   go_wp2_with fail
   go_ret
   exact ⟨by rw [HBF.out (by have := HC.out; omega)]; rfl, hb⟩
  ·have hc : 57 < x ∧ x < 97 ∧ x ≠ 95 := hx4
   have lt97 : decide ((x : Int) < 97) = true := by simp; omega
   have lt97n : decide (x < 97) = true := by simp; omega
   have lt48 : decide ((x : Int) < 48) = false := by simp; omega
   have lt48n : decide (x < 48) = false := by simp; omega
   have gt57 : decide ((57 : Int) < (x : Int)) = true := by simp; omega
   have gt57n : decide (57 < x) = true := by simp; omega
   have ne95 : ((x : Int) != 95) = true := by simp; omega
   have ne95n : (x != 95) = true := by simp; omega
   have HC := Lib.hid hc
   clear hc hx4
   go_wp2_with fail
   go_ret
   exact ⟨by rw [HBF.out (by have := HC.out; omega)]; rfl, hb⟩
  ·have hc : 122 < x := hx5
   have lt97 : decide ((x : Int) < 97) = false := by simp; omega
   have lt97n : decide (x < 97) = false := by simp; omega
   have gt122 : decide ((122 : Int) < (x : Int)) = true := by simp; omega
   have gt122n : decide (122 < x) = true := by simp; omega
   have lt48 : decide ((x : Int) < 48) = false := by simp; omega
   have lt48n : decide (x < 48) = false := by simp; omega
   have gt57 : decide ((57 : Int) < (x : Int)) = true := by simp; omega
   have gt57n : decide (57 < x) = true := by simp; omega
   have ne95 : ((x : Int) != 95) = true := by simp; omega
   have ne95n : (x != 95) = true := by simp; omega
   have HC := Lib.hid hc
   clear hc hx5
   go_wp2_with fail
   go_ret
   exact ⟨by rw [HBF.out (by have := HC.out; omega)]; rfl, hb⟩
end Go.Proofs.YticfdeaphiifeaaGreatDoor
