/- Unit prices: the walk of UnitpricePrices: for every input it returns true. Condition: the library's table and error lie as the program's text lays them. -/
import Derived.Test.YtkefcfbmnehocaaGreatDoorUa
import Derived.Test.YtkefcfbmnehocaaGreatDoorRg5
namespace Go.Proofs.YtkefcfbmnehocaaGreatDoor
open Go.RowKit Go.Shelf Dec QQ

set_option maxRecDepth 100000 in
set_option maxHeartbeats 4000000 in
theorem prices_any (v u p b : ByteArray) (day : Int) (w : World) (hv : v.size ≤ 9223372036854775807) (hu : u.size ≤ 9223372036854775807) (hp : p.size ≤ 9223372036854775807) (hb : b.size ≤ 9223372036854775807) (hg : Gl w) :
    Calls Tryz.prog 4 #[.string v, .string u, .string p, .string b, .int .i64 day] w fun e w' => e = .returned (.bool true) ∧ Below w.heap.size w w' := by
  have hs := St.refl hg
  have AW := awake44
  have KG := great44_any (A := some ⟨w.heap.size, 0, none⟩) (c := 4) (n := 4) (l := [v, u, p, b]) rfl (by omega) (by intro s hs; simp at hs; rcases hs with rfl | rfl | rfl | rfl <;> assumption)
  have R1 := Row.of (Bx.new w #[.string v, .string u, .string p, .string b] 22)
  have HR := Lib.hid R1
  clear R1
  obtain ⟨t, ht⟩ : ∃ t, (([v, u, p, b] : List ByteArray).any fun s => decide (20 < s.size)) = t := ⟨_, rfl⟩
  rw [ht] at KG
  cases t with
  | true =>
    clear ht
    go_enter Tryz.func4, Tryz.ntmps4
    go_wp2_with fail
    refine KG.step (hs.alloc _) HR.out ?_
    intro w1 hs _
    go_wp2_with fail
    refine AW.step hs ?_
    intro wa hs _
    go_wp2_with fail
    go_ret
    exact ⟨rfl, hs.2⟩
  | false =>
    have hz : v.size ≤ 20 ∧ u.size ≤ 20 ∧ p.size ≤ 20 ∧ b.size ≤ 20 := by simpa using ht
    clear ht
    obtain ⟨zv, zu, zp, zb⟩ := hz
    have K1 := Price_any (v := v) (u := u) (by omega) (by omega)
    have K2 := rprice (v := v) (u := u) (by omega) (by omega)
    have K3 := Issue_any (v := v) (u := u) (p := p) (by omega) (by omega) (by omega)
    have K4 := rissue (v := v) (u := u) (p := p) (by omega) (by omega) (by omega)
    have K5 := Cancel_any (v := v) (u := u) (p := b) (by omega) (by omega) (by omega)
    have K6 := rcancel (v := v) (u := u) (b := b) (by omega) (by omega) (by omega)
    have K7 := Deal_any (u := u) (v := v) (p := p) (b := b) day (by omega) (by omega) (by omega) (by omega)
    have K8 := rdeal (u := u) (v := v) (p := p) (b := b) day (by omega) (by omega) (by omega) (by omega)
    unfold dealV DealtR.val at K7 K8
    unfold FR at K1 K2
    generalize frN (PriceR v u).1 = an at *
    generalize frD (PriceR v u).1 = ad at *
    generalize (PriceR v u).2 = ae at *
    generalize (IssueR v u p).1 = ic at *
    generalize (IssueR v u p).2 = ie at *
    generalize (CancelR v u b).1 = cc at *
    generalize (CancelR v u b).2 = ce at *
    generalize DealR u v p b = dr at *
    obtain ⟨d1, d2, d3, d4, d5⟩ := dr
    simp only at K7 K8
    have eqF := fun x => eqlF an ad an ad x
    have eqD := fun x => eqlD d1 d2 d3 d4 d1 d2 d3 d4 x
    simp only [beq_self_eq_true, Bool.and_true] at eqF eqD
    have q1 : (ae == ae) = true := by simp
    have q2 : (ic.toList == ic.toList) = true := by simp
    have q3 : (ie == ie) = true := by simp
    have q4 : (cc.toList == cc.toList) = true := by simp
    have q5 : (ce == ce) = true := by simp
    have q6 : (d5 == d5) = true := by simp
    go_enter Tryz.func4, Tryz.ntmps4
    go_wp2_with fail
    refine KG.step (hs.alloc _) HR.out ?_
    intro w1 hs _
    go_wp2_with fail
    refine K1.step hs ?_
    intro w2 hs hb
    have X1 := Bx.new w2 #[.string an, .string ad] 34
    replace hs := hs.alloc (.cells #[.string an, .string ad] 34)
    go_wp2_with fail
    refine K2.step hs ?_
    intro w3 hs hb
    replace X1 := (X1.on hb).alloc (.cells #[.string an, .string ad] 34)
    have X2 := Bx.new w3 #[.string an, .string ad] 34
    replace hs := hs.alloc (.cells #[.string an, .string ad] 34)
    go_wp2_with fail
    refine K3.step hs ?_
    intro w4 hs hb
    replace X1 := X1.on hb
    replace X2 := X2.on hb
    go_wp2_with fail
    refine K4.step hs ?_
    intro w5 hs hb
    replace X1 := X1.on hb
    replace X2 := X2.on hb
    go_wp2_with fail
    refine K5.step hs ?_
    intro w6 hs hb
    replace X1 := X1.on hb
    replace X2 := X2.on hb
    go_wp2_with fail
    refine K6.step hs ?_
    intro w7 hs hb
    replace X1 := X1.on hb
    replace X2 := X2.on hb
    go_wp2_with fail
    refine K7.step hs ?_
    intro w8 hs hb
    replace X1 := (X1.on hb).alloc (.cells #[.string d1, .string d2, .string d3, .string d4] 39)
    replace X2 := (X2.on hb).alloc (.cells #[.string d1, .string d2, .string d3, .string d4] 39)
    have X3 := Bx.new w8 #[.string d1, .string d2, .string d3, .string d4] 39
    replace hs := hs.alloc (.cells #[.string d1, .string d2, .string d3, .string d4] 39)
    go_wp2_with fail
    refine K8.step hs ?_
    intro w9 hs hb
    replace X1 := (X1.on hb).alloc (.cells #[.string d1, .string d2, .string d3, .string d4] 39)
    replace X2 := (X2.on hb).alloc (.cells #[.string d1, .string d2, .string d3, .string d4] 39)
    replace X3 := (X3.on hb).alloc (.cells #[.string d1, .string d2, .string d3, .string d4] 39)
    have X4 := Bx.new w9 #[.string d1, .string d2, .string d3, .string d4] 39
    replace hs := hs.alloc (.cells #[.string d1, .string d2, .string d3, .string d4] 39)
    have x10 := X1.cell (i := 0) (v := .string an) rfl
    have x11 := X1.cell (i := 1) (v := .string ad) rfl
    have x20 := X2.cell (i := 0) (v := .string an) rfl
    have x21 := X2.cell (i := 1) (v := .string ad) rfl
    have x30 := X3.cell (i := 0) (v := .string d1) rfl
    have x31 := X3.cell (i := 1) (v := .string d2) rfl
    have x32 := X3.cell (i := 2) (v := .string d3) rfl
    have x33 := X3.cell (i := 3) (v := .string d4) rfl
    have x40 := X4.cell (i := 0) (v := .string d1) rfl
    have x41 := X4.cell (i := 1) (v := .string d2) rfl
    have x42 := X4.cell (i := 2) (v := .string d3) rfl
    have x43 := X4.cell (i := 3) (v := .string d4) rfl
    go_wp2_with fail
    refine AW.step hs ?_
    intro wa hs _
    go_wp2_with fail
    go_ret
    exact ⟨rfl, hs.2⟩
end Go.Proofs.YtkefcfbmnehocaaGreatDoor
