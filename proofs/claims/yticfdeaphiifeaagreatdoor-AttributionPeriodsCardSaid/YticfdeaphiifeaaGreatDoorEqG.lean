/- Attribution: slices.Equal of two rows of the same parts, sectors, numbers. Condition: lengths that a slice can have. -/
import Derived.Test.YticfdeaphiifeaaGreatDoorAt1
set_option maxHeartbeats 4000000
set_option maxRecDepth 100000
namespace Go.Proofs.YticfdeaphiifeaaGreatDoor
open Go.RowKit Go.Shelf Dec QQ
def icells (z : Int) : List Value := [.string (canS z)]
theorem icells_len (z : Int) : (icells z).length = 1 := rfl
theorem neqP (a0 a1 a2 a3 a4 a5 a6 b0 b1 b2 b3 b4 b5 b6 : ByteArray) (u : World) : (binOp .neq 36 (.agg #[.string a0, .string a1, .string a2, .string a3, .string a4, .string a5, .string a6]) (.agg #[.string b0, .string b1, .string b2, .string b3, .string b4, .string b5, .string b6])).run Tryz.prog u = .ok (.bool (!((a0.toList == b0.toList) && (a1.toList == b1.toList) && (a2.toList == b2.toList) && (a3.toList == b3.toList) && (a4.toList == b4.toList) && (a5.toList == b5.toList) && (a6.toList == b6.toList)))) u := by
 simp [go_sem]
 repeat' split
 all_goals simp_all
theorem neqS (a0 a1 a2 a3 a4 a5 a6 a7 a8 b0 b1 b2 b3 b4 b5 b6 b7 b8 : ByteArray) (u : World) : (binOp .neq 73 (.agg #[.string a0, .string a1, .string a2, .string a3, .string a4, .string a5, .string a6, .string a7, .string a8]) (.agg #[.string b0, .string b1, .string b2, .string b3, .string b4, .string b5, .string b6, .string b7, .string b8])).run Tryz.prog u = .ok (.bool (!((a0.toList == b0.toList) && (a1.toList == b1.toList) && (a2.toList == b2.toList) && (a3.toList == b3.toList) && (a4.toList == b4.toList) && (a5.toList == b5.toList) && (a6.toList == b6.toList) && (a7.toList == b7.toList) && (a8.toList == b8.toList)))) u := by
 simp [go_sem]
 repeat' split
 all_goals simp_all
theorem equalP {A A' : Option Addr} {n c c' : Nat} {xs : List PrtS} (hx : xs.length = n) (hn : n ≤ 4611686018427387904) : RetI (fun w => Row w A (flatG pcells xs) ∧ Row w A' (flatG pcells xs)) 12 #[.slice A n c, .slice A' n c'] (.bool true) := by
 intro w hg hi
 have hs := St.refl hg
 have HX := Lib.hid hx
 have HI := Lib.hid hi
 have q0 : ((n : Int) != (n : Int)) = false := by simp
 clear hx hi
 go_enter Tryz.func12, Tryz.ntmps12
 go_wp2_with fail
 go_loopw [13] (fun s wr => ∃ k : Nat, k ≤ n ∧ s = .int .i64 (k : Int) ∧ St w wr) (fun s _ => (n - intOf s).toNat)
 case atStart => exact ⟨0, by omega, rfl, hs⟩
 case round =>
  obtain ⟨k, hk, rfl, hs⟩ := hrel
  by_cases hkn : k = n
  ·subst hkn
   have q : decide ((k : Int) < (k : Int)) = false := decide_eq_false (by omega)
   go_wp2_with fail
   go_ret
   exact ⟨rfl, hs.2⟩
  ·have hkl : k < n := by omega
   have q : decide ((k : Int) < (n : Int)) = true := decide_eq_true (by omega)
   have qn : decide (k < n) = true := decide_eq_true hkl
   obtain ⟨r, hr⟩ : ∃ r, xs[k]? = some r := ⟨xs[k]'(by rw [HX.out]; exact hkl), by simp⟩
   obtain ⟨b, o, hA, hb, hcells⟩ := row_at (cs := pcells) (m := 7) pcells_len (by decide) (HI.out.1.on hs.2) hr
   obtain ⟨b', o', hA', hb', hcells'⟩ := row_at (cs := pcells) (m := 7) pcells_len (by decide) (HI.out.2.on hs.2) hr
   subst hA hA'
   obtain ⟨f0, f1, f2, f3, f4, f5, f6⟩ := r
   have x0 : wr.cell? ⟨b, o + k * 7, none⟩ = some (.string f0) := hcells 0 _ rfl
   have y0 : wr.cell? ⟨b', o' + k * 7, none⟩ = some (.string f0) := hcells' 0 _ rfl
   have x1 : wr.cell? ⟨b, o + k * 7 + 1, none⟩ = some (.string f1) := hcells 1 _ rfl
   have y1 : wr.cell? ⟨b', o' + k * 7 + 1, none⟩ = some (.string f1) := hcells' 1 _ rfl
   have x2 : wr.cell? ⟨b, o + k * 7 + 2, none⟩ = some (.string f2) := hcells 2 _ rfl
   have y2 : wr.cell? ⟨b', o' + k * 7 + 2, none⟩ = some (.string f2) := hcells' 2 _ rfl
   have x3 : wr.cell? ⟨b, o + k * 7 + 3, none⟩ = some (.string f3) := hcells 3 _ rfl
   have y3 : wr.cell? ⟨b', o' + k * 7 + 3, none⟩ = some (.string f3) := hcells' 3 _ rfl
   have x4 : wr.cell? ⟨b, o + k * 7 + 4, none⟩ = some (.string f4) := hcells 4 _ rfl
   have y4 : wr.cell? ⟨b', o' + k * 7 + 4, none⟩ = some (.string f4) := hcells' 4 _ rfl
   have x5 : wr.cell? ⟨b, o + k * 7 + 5, none⟩ = some (.string f5) := hcells 5 _ rfl
   have y5 : wr.cell? ⟨b', o' + k * 7 + 5, none⟩ = some (.string f5) := hcells' 5 _ rfl
   have x6 : wr.cell? ⟨b, o + k * 7 + 6, none⟩ = some (.string f6) := hcells 6 _ rfl
   have y6 : wr.cell? ⟨b', o' + k * 7 + 6, none⟩ = some (.string f6) := hcells' 6 _ rfl
   have eqD := fun x => neqP f0 f1 f2 f3 f4 f5 f6 f0 f1 f2 f3 f4 f5 f6 x
   simp only [beq_self_eq_true, Bool.and_true, Bool.not_true] at eqD
   clear hcells hcells' hr hkn
   go_wp2_with fail
   go_quiet (fail)
   go_wp2_with fail
   go_roundw
   case rel => exact ⟨k + 1, by omega, by go_num, hs.drewN _⟩
   case measure => simp [intOf]; omega
end Go.Proofs.YticfdeaphiifeaaGreatDoor
