/- Allocation: the examples of the chapter. No condition. -/
import Derived.Test.YtpipkeplhkccoaaGreatDoorDv
import Derived.Test.YtpipkeplhkccoaaGreatDoorWb
import Derived.Test.YtpipkeplhkccoaaGreatDoorWc
namespace Go.Proofs.YtpipkeplhkccoaaGreatDoor
open Go.RowKit Go.Shelf Go.Sort SP Dec QQ
@[local go_sem high] theorem run_max_four {P : Program} (w : World) (ts : Array TypeId) (t : TypeId) : (Builtin.max_ ts t #[.int .i64 0, .int .i64 0, .int .i64 0, .int .i64 0]).run P w = .ok (.int .i64 0) w := by
  rfl
theorem aw4_a : alE ⟨#[49, 48, 48]⟩ [⟨#[49]⟩, ⟨#[49]⟩, ⟨#[49]⟩] = 0 ∧ alS ⟨#[49, 48, 48]⟩ [⟨#[49]⟩, ⟨#[49]⟩, ⟨#[49]⟩] = [34, 33, 33] ∧ alR ⟨#[49, 48, 48]⟩ [⟨#[49]⟩, ⟨#[49]⟩, ⟨#[49]⟩] = [33, 33, 34] := by decide +kernel
theorem aw4_b : alE ⟨#[45, 55]⟩ [⟨#[49]⟩, ⟨#[]⟩, ⟨#[50]⟩] = 0 ∧ alS ⟨#[45, 55]⟩ [⟨#[49]⟩, ⟨#[]⟩, ⟨#[50]⟩] = [-2, 0, -5] := by decide +kernel
theorem aw4_h : shS ⟨#[53]⟩ ⟨#[49]⟩ ⟨#[50]⟩ = ⟨#[50]⟩ ∧ shR ⟨#[53]⟩ ⟨#[49]⟩ ⟨#[50]⟩ = ⟨#[51]⟩ ∧ shE ⟨#[53]⟩ ⟨#[49]⟩ ⟨#[50]⟩ = 0 := by decide +kernel
theorem aw4_c : canS 34 = ⟨#[51, 52]⟩ ∧ canS 33 = ⟨#[51, 51]⟩ ∧ canS (-2) = ⟨#[45, 50]⟩ ∧ canS 0 = ⟨#[]⟩ ∧ canS (-5) = ⟨#[45, 53]⟩ := by decide +kernel
theorem row_lit {w : World} {xs : List Int} {cs : Array Value} {T : TypeId} (e : cs.toList = flatG icells xs) : Row (w.alloc (.cells cs T)) (some ⟨w.heap.size, 0, none⟩) (flatG icells xs) := by
  rw [← e]
  exact Row.of (Bx.new w cs T)
theorem lit_a : (#[.string ⟨#[51, 52]⟩, .string ⟨#[51, 51]⟩, .string ⟨#[51, 51]⟩] : Array Value).toList = flatG icells [34, 33, 33] := by
  show _ = [Value.string (canS 34), .string (canS 33), .string (canS 33)]
  rw [aw4_c.1, aw4_c.2.1]
theorem lit_b : (#[.string ⟨#[45, 50]⟩, .string ⟨#[]⟩, .string ⟨#[45, 53]⟩] : Array Value).toList = flatG icells [-2, 0, -5] := by
  show _ = [Value.string (canS (-2)), .string (canS 0), .string (canS (-5))]
  rw [aw4_c.2.2.1, aw4_c.2.2.2.1, aw4_c.2.2.2.2]
theorem lit_c : (#[.string ⟨#[51, 51]⟩, .string ⟨#[51, 51]⟩, .string ⟨#[51, 52]⟩] : Array Value).toList = flatG icells [33, 33, 34] := by
  show _ = [Value.string (canS 33), .string (canS 33), .string (canS 34)]
  rw [aw4_c.1, aw4_c.2.1]
set_option maxRecDepth 100000 in
set_option maxHeartbeats 4000000 in
theorem awake04 : Ret 17 #[] (.bool true) := by
  intro w hg
  have hs := St.refl hg
  have KA := fun (B : Nat) (w : World) (hg : Gl w) (hr : Row w (some ⟨B, 0, none⟩) ([⟨#[49]⟩, ⟨#[49]⟩, ⟨#[49]⟩].map sv)) => split4_any (A := some ⟨B, 0, none⟩) (n := 3) (c := 3) (k0 := 30) (t := ⟨#[49, 48, 48]⟩) (ws := [⟨#[49]⟩, ⟨#[49]⟩, ⟨#[49]⟩]) rfl (.inl (by decide)) (by decide) (by decide) (by decide) (by decide) w hg hr
  rw [aw4_a.1, aw4_a.2.1] at KA
  have KB := fun (B : Nat) (w : World) (hg : Gl w) (hr : Row w (some ⟨B, 0, none⟩) ([⟨#[49]⟩, ⟨#[]⟩, ⟨#[50]⟩].map sv)) => split4_any (A := some ⟨B, 0, none⟩) (n := 3) (c := 3) (k0 := 30) (t := ⟨#[45, 55]⟩) (ws := [⟨#[49]⟩, ⟨#[]⟩, ⟨#[50]⟩]) rfl (.inl (by decide)) (by decide) (by decide) (by decide) (by decide) w hg hr
  rw [aw4_b.1, aw4_b.2] at KB
  have KC := fun (B : Nat) (w : World) (hg : Gl w) (hr : Row w (some ⟨B, 0, none⟩) ([⟨#[49]⟩, ⟨#[49]⟩, ⟨#[49]⟩].map sv)) => run4_any (A := some ⟨B, 0, none⟩) (n := 3) (c := 3) (k0 := 30) (t := ⟨#[49, 48, 48]⟩) (ws := [⟨#[49]⟩, ⟨#[49]⟩, ⟨#[49]⟩]) rfl (.inl (by decide)) (by decide) (by decide) (by decide) (by decide) w hg hr
  rw [aw4_a.1, aw4_a.2.2] at KC
  have KH := shr_any (t := ⟨#[53]⟩) (p := ⟨#[49]⟩) (a := ⟨#[50]⟩) (k0 := 30) (by decide) (by decide) (by decide) (by decide)
  rw [aw4_h.1, aw4_h.2.1, aw4_h.2.2] at KH
  have HKA := Lib.hid KA
  have HKB := Lib.hid KB
  have HKC := Lib.hid KC
  clear KA KB KC
  go_enter Tryz.func17, Tryz.ntmps17
  go_wp2_with fail
  have hr1 : Hid (Row (w.alloc (.cells #[.string ⟨#[49]⟩, .string ⟨#[49]⟩, .string ⟨#[49]⟩] 22)) (some ⟨w.heap.size, 0, none⟩) ([⟨#[49]⟩, ⟨#[49]⟩, ⟨#[49]⟩].map sv)) := Row.of (Bx.new w #[.string ⟨#[49]⟩, .string ⟨#[49]⟩, .string ⟨#[49]⟩] 22)
  replace hs := hs.alloc (.cells #[.string ⟨#[49]⟩, .string ⟨#[49]⟩, .string ⟨#[49]⟩] 22)
  refine (HKA.out w.heap.size _ hs.gl hr1.out).mono ?_
  rintro e w1 ⟨v1, rfl, ho1, hb⟩
  obtain ⟨A1, c1, rfl, row1⟩ := ho1.row
  have R1 := Lib.hid row1
  replace hs := hs.on hb
  clear ho1 row1 hb hr1 HKA
  go_wp2_with fail
  have hr2 : Hid (Row (w1.alloc (.cells #[.string ⟨#[49]⟩, .string ⟨#[]⟩, .string ⟨#[50]⟩] 22)) (some ⟨w1.heap.size, 0, none⟩) ([⟨#[49]⟩, ⟨#[]⟩, ⟨#[50]⟩].map sv)) := Row.of (Bx.new w1 #[.string ⟨#[49]⟩, .string ⟨#[]⟩, .string ⟨#[50]⟩] 22)
  have hb0 : Below w1.heap.size w1 (w1.alloc (.cells #[.string ⟨#[49]⟩, .string ⟨#[]⟩, .string ⟨#[50]⟩] 22)) := (Below.refl _ _).alloc (Nat.le_refl _) _
  replace R1 := Lib.hid (R1.out.on hb0)
  replace hs := hs.on hb0
  refine (HKB.out w1.heap.size _ hs.gl hr2.out).mono ?_
  rintro e w2 ⟨v2, rfl, ho2, hb⟩
  obtain ⟨A2, c2, rfl, row2⟩ := ho2.row
  have R2 := Lib.hid row2
  replace hs := hs.on hb
  replace R1 := Lib.hid (R1.out.on hb)
  clear ho2 row2 hb hr2 HKB hb0
  go_wp2_with fail
  have hr3 : Hid (Row (w2.alloc (.cells #[.string ⟨#[49]⟩, .string ⟨#[49]⟩, .string ⟨#[49]⟩] 22)) (some ⟨w2.heap.size, 0, none⟩) ([⟨#[49]⟩, ⟨#[49]⟩, ⟨#[49]⟩].map sv)) := Row.of (Bx.new w2 #[.string ⟨#[49]⟩, .string ⟨#[49]⟩, .string ⟨#[49]⟩] 22)
  have hb0 : Below w2.heap.size w2 (w2.alloc (.cells #[.string ⟨#[49]⟩, .string ⟨#[49]⟩, .string ⟨#[49]⟩] 22)) := (Below.refl _ _).alloc (Nat.le_refl _) _
  replace R1 := Lib.hid (R1.out.on hb0)
  replace R2 := Lib.hid (R2.out.on hb0)
  replace hs := hs.on hb0
  refine (HKC.out w2.heap.size _ hs.gl hr3.out).mono ?_
  rintro e w3 ⟨v3, rfl, ho3, hb⟩
  obtain ⟨A3, c3, rfl, row3⟩ := ho3.row
  have R3 := Lib.hid row3
  replace hs := hs.on hb
  replace R1 := Lib.hid (R1.out.on hb)
  replace R2 := Lib.hid (R2.out.on hb)
  clear ho3 row3 hb hr3 HKC hb0
  go_wp2_with fail
  refine KH.step hs ?_
  intro w4 hs hb
  replace R1 := Lib.hid (R1.out.on hb)
  replace R2 := Lib.hid (R2.out.on hb)
  replace R3 := Lib.hid (R3.out.on hb)
  clear KH hb
  have KE1 := equalI (A := A1) (A' := some ⟨w4.heap.size, 0, none⟩) (n := 3) (c := c1) (c' := 3) (xs := [34, 33, 33]) rfl (by decide)
  go_wp2_with fail
  have hb0 : Below w4.heap.size w4 (w4.alloc (.cells #[.string ⟨#[51, 52]⟩, .string ⟨#[51, 51]⟩, .string ⟨#[51, 51]⟩] 22)) := (Below.refl _ _).alloc (Nat.le_refl _) _
  replace R2 := Lib.hid (R2.out.on hb0)
  replace R3 := Lib.hid (R3.out.on hb0)
  replace hs := hs.on hb0
  refine KE1.step hs ⟨R1.out.on hb0, row_lit lit_a⟩ ?_
  intro w5 hs hb
  replace R2 := Lib.hid (R2.out.on hb)
  replace R3 := Lib.hid (R3.out.on hb)
  clear KE1 hb R1 hb0
  have KE2 := equalI (A := A2) (A' := some ⟨w5.heap.size, 0, none⟩) (n := 3) (c := c2) (c' := 3) (xs := [-2, 0, -5]) rfl (by decide)
  go_wp2_with fail
  have hb0 : Below w5.heap.size w5 (w5.alloc (.cells #[.string ⟨#[45, 50]⟩, .string ⟨#[]⟩, .string ⟨#[45, 53]⟩] 22)) := (Below.refl _ _).alloc (Nat.le_refl _) _
  replace R3 := Lib.hid (R3.out.on hb0)
  replace hs := hs.on hb0
  refine KE2.step hs ⟨R2.out.on hb0, row_lit lit_b⟩ ?_
  intro w6 hs hb
  replace R3 := Lib.hid (R3.out.on hb)
  clear KE2 hb R2 hb0
  have KE3 := equalI (A := A3) (A' := some ⟨w6.heap.size, 0, none⟩) (n := 3) (c := c3) (c' := 3) (xs := [33, 33, 34]) rfl (by decide)
  go_wp2_with fail
  have hb0 : Below w6.heap.size w6 (w6.alloc (.cells #[.string ⟨#[51, 51]⟩, .string ⟨#[51, 51]⟩, .string ⟨#[51, 52]⟩] 22)) := (Below.refl _ _).alloc (Nat.le_refl _) _
  replace hs := hs.on hb0
  refine KE3.step hs ⟨R3.out.on hb0, row_lit lit_c⟩ ?_
  intro w7 hs hb
  clear KE3 hb R3 hb0
  go_wp2_with fail
  go_ret
  exact ⟨rfl, hs.2⟩
end Go.Proofs.YtpipkeplhkccoaaGreatDoor
