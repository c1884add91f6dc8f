/- Integer: the contract of strconv.FormatUint in base 10. Condition: the number is below 10^9; the table of powers lies as the program's text lays it. -/
import Derived.Test.YtonopbelbehheaaGreatDoorIntF
import Derived.Lib.Walk
import Derived.Lib.ItoaWalk
import Derived.Lib.ItoaMem
import Derived.Lib.AppendIntMem
import Derived.Lib.SmallJoins
namespace Go.Proofs.YtonopbelbehheaaGreatDoor
open Go.RowKit Go.Shelf Go.Sort Dec

/-- the table of powers of ten lies as it was laid; the error of the library's own is one -/
def Gl (w : World) : Prop := Lib.TabIs Tryz.prog w "internal/strconv.uint64pow10" .u64 Lib.pow10Tab ∧ ∃ tp p, w.var? Tryz.prog "strconv.ErrRange" = some #[.iface tp p]
theorem var_below {P : Program} {w w' : World} {n : String} {cs : Array Value} (h : w.var? P n = some cs) (hb : Below w.heap.size w w') : w'.var? P n = some cs := by
  unfold World.var? at *
  cases hg : P.globalNamed n with
  | none => simp [hg] at h
  | some g =>
    simp only [hg, Option.bind_some] at h ⊢
    have hlt : g < w.heap.size := by
      rcases Nat.lt_or_ge g w.heap.size with h' | h'
      · exact h'
      · rw [Array.getElem?_eq_none h'] at h; simp at h
    rw [hb.block g hlt]
    exact h
theorem Gl.below {w w' : World} (h : Gl w) (hb : Below w.heap.size w w') : Gl w' := by
  obtain ⟨h1, tp, p, h2⟩ := h
  exact ⟨Lib.tabBelow_of_tabIs h1 w' hb, tp, p, var_below h2 hb⟩
theorem Gl.alloc {w : World} (h : Gl w) (o : Obj) : Gl (w.alloc o) := h.below ((Below.refl _ _).alloc (Nat.le_refl _) o)

theorem decDigits_fmt (u : Nat) : Lib.decDigits u = fmt u := by
  induction u using Nat.strongRecOn with
  | _ u ih =>
    by_cases h : u < 10
    · rw [Lib.decDigits, dif_pos h]
      unfold fmt
      by_cases h0 : u = 0
      · subst h0; rfl
      · rw [if_neg h0, dec_pos h0, show u / 10 = 0 by omega, dec_zero, List.nil_append]
        unfold digB
        rw [Nat.mod_eq_of_lt h]
    · rw [Lib.decDigits, dif_neg h, ih (u / 10) (by omega)]
      unfold fmt
      rw [if_neg (show u / 10 ≠ 0 by omega), if_neg (show u ≠ 0 by omega), dec_pos (show u ≠ 0 by omega)]
      rfl

set_option maxHeartbeats 4000000 in
set_option maxRecDepth 100000 in
theorem fmt_in (u : Nat) (hu64 : u < 1000000000) (w : World) (htab : Gl w) :
    Calls Tryz.prog 182 #[.int .u64 (u : Int), .int .i64 10] w fun e w' => e = .returned (.string (str (fmt u))) ∧ Below w.heap.size w w' := by
  rw [← decDigits_fmt]
  by_cases hs : u < 100
  · go_enter Tryz.func182, Tryz.ntmps182
    go_wp2_with fail
    refine (Any.internal_strconv_small Tryz.lays283 u hs _).mono ?_
    rintro e w' ⟨rfl, rfl⟩
    go_wp2_with fail
    go_ret
    exact ⟨rfl, Below.refl _ _⟩
  · have hu1 : 1 ≤ u := by omega
    have hnd20 : Lib.nDigits u ≤ 20 := by have := Lib.numDigits_eq u hu1 (by omega); split at this <;> omega
    have hal : Tryz.prog.arrayLen 204 = 24 := by kernel_rfl
    have hsl : ∀ W, (Instr.sliceAt 204 (.pointer (some ⟨w.heap.size, 0, none⟩)) none (some (.int .i64 (Lib.nDigits u : Int))) none).run Tryz.prog W = .ok (.slice (some ⟨w.heap.size, 0, none⟩) (Lib.nDigits u) 24) W := fun W => by
      rw [run_sliceAt_array_h W 204 ⟨w.heap.size, 0, none⟩ (by kernel_rfl) .i64 (Lib.nDigits u : Int) (by omega) (by rw [hal]; omega)]
      rw [hal]; rfl
    have hH0 := Lib.holds_zero0 w 204 (Lib.nDigits u) (by omega)
    have hfmt := Any.internal_strconv_formatBase10 Tryz.lays285 w.heap.size 0 24 u (Array.replicate (Lib.nDigits u) 0) (w.alloc (.cells Lib.zeros24 204)) hH0 (by rw [Array.size_replicate]; exact Lib.lt_pow_nDigits u) (by omega) (by rw [Array.size_replicate]; omega)
    rw [Array.size_replicate] at hfmt
    have HH0 := Lib.hid hH0
    have Hfmt := Lib.hid hfmt
    have Htab := Lib.hid htab.1
    clear hH0 hal hfmt htab
    go_enter Tryz.func182, Tryz.ntmps182
    go_wp2_with fail
    refine (Any.internal_strconv_numDigits Tryz.laysM284 u hu1 (by omega) _ (Lib.tabIs_alloc Htab.out _)).mono ?_
    rintro e w' ⟨rfl, rfl⟩
    go_wp2_with fail
    refine Hfmt.out.mono ?_
    rintro e w' ⟨rfl, k, v', dk, rfl, hF⟩
    obtain ⟨os, eo⟩ := Lib.fin_at w (.cells Lib.zeros24 204) dk k 0
    have hcv := run_convert_bytes_back (P := Tryz.prog) ((putRow (fun (b : UInt8) => Value.int .u8 (b.toNat : Int)) (w.alloc (.cells Lib.zeros24 204)) w.heap.size 0 dk).drewN k) 154 9 5 ⟨w.heap.size, 0, none⟩ 24 (Lib.decDigits u) (by kernel_rfl) (by kernel_rfl) (by kernel_rfl) (fun j hj => by
      rw [Lib.row_is_numeral hF j hj, Lib.add_plain, World.cell?_drewN]
      exact cell?_putRow (fun (b : UInt8) => Value.int .u8 (b.toNat : Int)) _ w.heap.size 0 _ dk HH0.out (by rw [hF.size, Array.size_replicate]) j (by rw [hF.size]; rw [Lib.decDigits_length] at hj; exact hj))
    rw [Lib.decDigits_length] at hcv
    have HB : Hid (Below w.heap.size w ((putRow (fun (b : UInt8) => Value.int .u8 (b.toNat : Int)) (w.alloc (.cells Lib.zeros24 204)) w.heap.size 0 dk).drewN k)) := by
      show Below _ _ _
      rw [eo]; exact Lib.below_grow _ w (Nat.le_refl _) k os
    clear eo hF
    generalize (putRow (fun (b : UInt8) => Value.int .u8 (b.toNat : Int)) (w.alloc (.cells Lib.zeros24 204)) w.heap.size 0 dk).drewN k = W2 at *
    go_wp2_with fail
    go_ret
    exact ⟨rfl, HB.out⟩

theorem fmt_any (u : Nat) (hu : u < 1000000000) (w : World) (htab : Gl w) :
    Calls Tryz.prog 139 #[.int .u64 (u : Int), .int .i64 10] w fun e w' => e = .returned (.string (str (fmt u))) ∧ Below w.heap.size w w' := by
  have Htab := Lib.hid htab
  clear htab
  go_enter Tryz.func139, Tryz.ntmps139
  go_wp2_with fail
  refine (fmt_in u hu w Htab.out).mono ?_
  rintro e w1 ⟨rfl, hb⟩
  go_wp2_with fail
  go_ret
  exact ⟨rfl, hb⟩
end Go.Proofs.YtonopbelbehheaaGreatDoor
