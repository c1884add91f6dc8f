/- Fees: slices.Grow of nil and slices.Concat of charges. Condition: short rows. -/
import Derived.Lib.AppendZerosOnto
import Derived.Test.YticfdeaphiifeaaGreatDoorFeU
import Derived.Test.YticfdeaphiifeaaGreatDoorFe5
import Derived.Test.YticfdeaphiifeaaGreatDoorClo
set_option maxHeartbeats 4000000
set_option maxRecDepth 100000
namespace Go.Proofs.YticfdeaphiifeaaGreatDoor
open Go.RowKit Go.Shelf Dec QQ
theorem growC {n : Nat} (hn : n ≤ 1000) (w : World) :
  Calls Tryz.prog 76 #[.slice none 0 0, .int .i64 n] w fun e w' => ∃ v, e = .returned v ∧ w'.ownsRow w.heap.size 57 5 v 0 [] ∧ Below w.heap.size w w' := by
 by_cases h0 : n = 0
 ·subst h0
  go_enter Tryz.func76, Tryz.ntmps76
  go_wp2_with fail
  go_ret
  exact ⟨_, rfl, World.ownsRow_nil _ _ _ _, Below.refl _ _⟩
 ·obtain ⟨i0, hi, hz0, hz1, hz2⟩ := info_parts infoC
  have h1 : decide ((n : Int) < 0) = false := decide_eq_false (by omega)
  have h2 : decide ((0 : Int) < (n : Int)) = true := decide_eq_true (by omega)
  have hrz : ∀ ty, (Builtin.append_ #[49, 3] ty #[.slice none 0 0, .int .i64 (n : Int)]).run Tryz.prog w = .ok (.slice (some ⟨w.heap.size, 0, none⟩) n (grownCap w n 0 57)) (w.drew.alloc (.cells (#[] ++ Builtin.zeroCells (Value.agg #[.int .i64 0, .string ⟨#[]⟩, .string ⟨#[]⟩, .string ⟨#[]⟩, .string ⟨#[]⟩]).cells n ++ Builtin.zeroCells (Value.agg #[.int .i64 0, .string ⟨#[]⟩, .string ⟨#[]⟩, .string ⟨#[]⟩, .string ⟨#[]⟩]).cells (grownCap w n 0 57 - n)) 57)) := fun ty => by
   have h := Lib.run_append_grow_zeros w 49 3 ty 57 i0 (Value.agg #[.int .i64 0, .string ⟨#[]⟩, .string ⟨#[]⟩, .string ⟨#[]⟩, .string ⟨#[]⟩]) .i64 .i64 Tryz.underlying49 Tryz.underlying3 hi hz0 none 0 0 [] (run_firstCells_none _ _ _ _ _) n (by omega) (by omega) (by omega) (by omega) (by rw [hz2]; omega) (growslice_fits (by omega) (by rw [hz2]; omega))
   rw [Nat.zero_add] at h
   exact h
  have hge := grownCap_ge w n 0 57
  have hle := grownCap_le_maxLen w n 0 57 (by unfold maxLen; omega)
  have hle2 : grownCap w n 0 57 ≤ 9223372036854775807 := by unfold maxLen at hle; omega
  have hsz : (#[] ++ Builtin.zeroCells (Value.agg #[.int .i64 0, .string ⟨#[]⟩, .string ⟨#[]⟩, .string ⟨#[]⟩, .string ⟨#[]⟩]).cells n ++ Builtin.zeroCells (Value.agg #[.int .i64 0, .string ⟨#[]⟩, .string ⟨#[]⟩, .string ⟨#[]⟩, .string ⟨#[]⟩]).cells (grownCap w n 0 57 - n) : Array Value).size = grownCap w n 0 57 * 5 := by
   rw [Array.size_append, Array.size_append, size_zeroCells, size_zeroCells]
   show 0 + n * 5 + (grownCap w n 0 57 - n) * 5 = _
   omega
  have HD : Hid (World.ownsRow (w.drew.alloc (.cells (#[] ++ Builtin.zeroCells (Value.agg #[.int .i64 0, .string ⟨#[]⟩, .string ⟨#[]⟩, .string ⟨#[]⟩, .string ⟨#[]⟩]).cells n ++ Builtin.zeroCells (Value.agg #[.int .i64 0, .string ⟨#[]⟩, .string ⟨#[]⟩, .string ⟨#[]⟩, .string ⟨#[]⟩]).cells (grownCap w n 0 57 - n)) 57)) w.heap.size 57 5 (.slice (some ⟨w.heap.size, 0, none⟩) 0 (grownCap w n 0 57)) 0 [] ∧ Below w.heap.size w (w.drew.alloc (.cells (#[] ++ Builtin.zeroCells (Value.agg #[.int .i64 0, .string ⟨#[]⟩, .string ⟨#[]⟩, .string ⟨#[]⟩, .string ⟨#[]⟩]).cells n ++ Builtin.zeroCells (Value.agg #[.int .i64 0, .string ⟨#[]⟩, .string ⟨#[]⟩, .string ⟨#[]⟩, .string ⟨#[]⟩]).cells (grownCap w n 0 57 - n)) 57))) :=
   ⟨World.ownsRow_made w.drew _ _ (Nat.le_refl _) hle hsz, (Below.refl _ _).drew.alloc (Nat.le_refl _) _⟩
  have hcz : ¬ grownCap w n 0 57 = 0 := by omega
  generalize w.drew.alloc (.cells (#[] ++ Builtin.zeroCells (Value.agg #[.int .i64 0, .string ⟨#[]⟩, .string ⟨#[]⟩, .string ⟨#[]⟩, .string ⟨#[]⟩]).cells n ++ Builtin.zeroCells (Value.agg #[.int .i64 0, .string ⟨#[]⟩, .string ⟨#[]⟩, .string ⟨#[]⟩, .string ⟨#[]⟩]).cells (grownCap w n 0 57 - n)) 57) = W at *
  generalize grownCap w n 0 57 = G at *
  clear hsz hle
  go_enter Tryz.func76, Tryz.ntmps76
  go_wp2_with (at_builtin; refine Lib.wpList_append_run _ rfl _ _ _ _ rfl _ _ rfl rfl _ _ (hrz _) ?_)
  all_goals (go_ret; exact ⟨_, rfl, HD.out.1, HD.out.2⟩)
theorem concatC {xs ys : List ChS} {A A' : Option Addr} {p q c c' bb : Nat} (hx : xs.length = p) (hy : ys.length = q) (hp : p ≤ 400) (hq : q ≤ 400) (w : World) (hg : Gl w)
  (hb : Bx w bb #[.slice A p c, .slice A' q c']) (h1 : Row w A (flatG chcells xs)) (h2 : Row w A' (flatG chcells ys)) :
  Calls Tryz.prog 28 #[.slice (some ⟨bb, 0, none⟩) 2 2] w fun e w' => ∃ v, e = .returned v ∧ OutG chcells 57 5 w.heap.size w' v (p + q) (xs ++ ys) ∧ Below w.heap.size w w' := by
 have hs := St.refl hg
 have HX := Lib.hid hx
 have HY := Lib.hid hy
 have H1 := Lib.hid h1
 have H2 := Lib.hid h2
 have HB := Lib.hid hb
 have lx : (flatG chcells xs).length = p * 5 := by rw [flatG_len chcells_len, hx, Nat.mul_comm]
 have ly : (flatG chcells ys).length = q * 5 := by rw [flatG_len chcells_len, hy, Nat.mul_comm]
 have HLX := Lib.hid lx
 have HLY := Lib.hid ly
 have KG := Lib.hid (fun w => growC (n := p + q) (by omega) w)
 have ec : ((p + q : Nat) : Int) = (p : Int) + (q : Int) := by omega
 rw [ec] at KG
 clear hx hy h1 h2 hb hg lx ly ec
 go_enter Tryz.func28, Tryz.ntmps28
 go_wp2_with fail
 go_loopw [11, 3] (fun s t wr => St w wr ∧ ((s = .int .i64 0 ∧ t = .int .i64 0) ∨ (s = .int .i64 1 ∧ t = .int .i64 (p : Int)) ∨ (s = .int .i64 2 ∧ t = .int .i64 ((p : Int) + (q : Int))))) (fun s _ _ => (2 - intOf s).toNat)
 case atStart => exact ⟨hs, .inl ⟨rfl, rfl⟩⟩
 case round =>
  clear hs
  obtain ⟨hs, ⟨rfl, rfl⟩ | ⟨rfl, rfl⟩ | ⟨rfl, rfl⟩⟩ := hrel
  ·have x0 := (HB.out.on hs.2).cell (i := 0) (v := .slice A p c) rfl
   have qq : decide ((p : Int) < 0) = false := decide_eq_false (by omega)
   go_wp2_with fail
   go_roundw
   case rel => exact ⟨hs, .inr (.inl ⟨rfl, by go_num⟩)⟩
   case measure => simp [intOf]
  ·have x1 := (HB.out.on hs.2).cell (i := 1) (v := .slice A' q c') rfl
   have qq : decide ((p : Int) + (q : Int) < 0) = false := decide_eq_false (by omega)
   go_wp2_with fail
   go_roundw
   case rel => exact ⟨hs, .inr (.inr ⟨rfl, by go_num⟩)⟩
   case measure => simp [intOf]
  ·go_wp2_with fail
   refine (KG.out _).mono ?_
   rintro e w1 ⟨v1, rfl, ho1, hb1⟩
   have HSZ : Hid (w.heap.size ≤ wr.heap.size) := hs.2.size
   replace hs := hs.on hb1
   have HO1 := Lib.hid ho1
   clear ho1 hb1
   generalize wr.heap.size = B1 at *
   obtain ⟨i0, hi, hz0, hz1, hz2⟩ := info_parts infoC
   have Hi := Lib.hid hi
   have Hz0 := Lib.hid hz0
   have Hz1 := Lib.hid hz1
   have Hz2 := Lib.hid hz2
   clear hi hz0 hz1 hz2
   go_wp2_with fail
   go_loopw [27, 6] (fun s v wr => St w wr ∧ ((s = .int .i64 0 ∧ Hid (World.ownsRow wr w.heap.size 57 5 v 0 [])) ∨ (s = .int .i64 1 ∧ Hid (World.ownsRow wr w.heap.size 57 5 v p (flatG chcells xs))) ∨ (s = .int .i64 2 ∧ Hid (World.ownsRow wr w.heap.size 57 5 v (p + q) (flatG chcells (xs ++ ys)))))) (fun s _ _ => (2 - intOf s).toNat)
   case atStart => exact ⟨hs, .inl ⟨rfl, own_low HO1.out HSZ.out⟩⟩
   case round =>
    clear hs HO1 HSZ
    obtain ⟨hs, ⟨rfl, HO⟩ | ⟨rfl, HO⟩ | ⟨rfl, HO⟩⟩ := hrel
    ·have x0 := (HB.out.on hs.2).cell (i := 0) (v := .slice A p c) rfl
     have hr := H1.out.on hs.2
     have HR := Lib.hid (row_reads hr HLX.out (by decide))
     have hsz := hs.2.size
     clear hr
     go_wp2_with (at_builtin; refine wpList_append_any _ rfl (.tmp 31) (.tmp 32) 49 rfl w.heap.size 57 i0 (Value.agg #[.int .i64 0, .string ⟨#[]⟩, .string ⟨#[]⟩, .string ⟨#[]⟩, .string ⟨#[]⟩]) 5 72 (by kernel_rfl) Hi.out Hz0.out Hz1.out Hz2.out rfl (by omega) _ 0 [] rfl HO.out _ A p c (flatG chcells xs) rfl HR.out (flat_one chcells_one xs) (by unfold maxLen; omega) (by omega) hsz ?_; intro v7 w7 hown7 hg7 _; have HO7 := Lib.hid hown7; have HG7 := Lib.hid hg7; clear hown7 hg7)
     go_roundw
     case rel =>
      refine ⟨⟨hs.1, hs.2.grown HG7.out hsz (own_bound HO.out)⟩, .inr (.inl ⟨rfl, ?_⟩)⟩
      have := HO7.out
      rwa [Nat.zero_add, List.nil_append] at this
     case measure => simp [intOf]
    ·have x1 := (HB.out.on hs.2).cell (i := 1) (v := .slice A' q c') rfl
     have hr := H2.out.on hs.2
     have HR := Lib.hid (row_reads hr HLY.out (by decide))
     have hsz := hs.2.size
     clear hr
     go_wp2_with (at_builtin; refine wpList_append_any _ rfl (.tmp 31) (.tmp 32) 49 rfl w.heap.size 57 i0 (Value.agg #[.int .i64 0, .string ⟨#[]⟩, .string ⟨#[]⟩, .string ⟨#[]⟩, .string ⟨#[]⟩]) 5 72 (by kernel_rfl) Hi.out Hz0.out Hz1.out Hz2.out rfl (by omega) _ p (flatG chcells xs) rfl HO.out _ A' q c' (flatG chcells ys) rfl HR.out (flat_one chcells_one ys) (by unfold maxLen; omega) (by omega) hsz ?_; intro v7 w7 hown7 hg7 _; have HO7 := Lib.hid hown7; have HG7 := Lib.hid hg7; clear hown7 hg7)
     go_roundw
     case rel =>
      refine ⟨⟨hs.1, hs.2.grown HG7.out hsz (own_bound HO.out)⟩, .inr (.inr ⟨rfl, ?_⟩)⟩
      have := HO7.out
      have e : flatG chcells (xs ++ ys) = flatG chcells xs ++ flatG chcells ys := by unfold flatG; rw [List.flatMap_append]
      show World.ownsRow _ _ _ _ _ _ _
      rw [e]
      exact this
     case measure => simp [intOf]
    ·go_wp2_with fail
     go_ret
     exact ⟨_, rfl, ⟨by rw [List.length_append, HX.out, HY.out], HO.out⟩, hs.2⟩
end Go.Proofs.YticfdeaphiifeaaGreatDoor
