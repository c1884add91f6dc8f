/- Fees: the walk of FeeSteps: for every input it returns true. Condition: the library's table and error lie as the program's text lays them. -/
import Derived.Deep.RegionHeld3
import Derived.Test.YticfdeaphiifeaaGreatDoorLw45
import Derived.Test.YticfdeaphiifeaaGreatDoorFhe
import Derived.Test.YticfdeaphiifeaaGreatDoorFeW
import Derived.Test.YticfdeaphiifeaaGreatDoorCcC
set_option maxHeartbeats 4000000
set_option maxRecDepth 100000
namespace Go.Proofs.YticfdeaphiifeaaGreatDoor
open Go.RowKit Go.Shelf Dec QQ
theorem below_undrew {w w' : World} (h : Below w.drew.heap.size w.drew w') : Below w.heap.size w w' := (Below.refl w.heap.size w).drew.trans h
theorem grt_falseS {l : List PtS} (h : grtP l = false) : (∀ p ∈ l, p.v.size ≤ 13 ∧ p.f.size ≤ 13) := by
 unfold grtP at h
 simp only [Bool.or_eq_false_iff] at h
 exact fun p hp => lngP_false (by simpa using List.any_eq_false.1 h.1 p hp)
theorem ptrow_drop {w : World} {b o : Nat} {l : List PtS} (h : Row w (some ⟨b, o, none⟩) (flatG ptcells l)) (k : Nat) (hk : k ≤ l.length) : Row w (some ⟨b, o + k * 3, none⟩) (flatG ptcells (l.drop k)) := by
 intro i v hv
 have e : flatG ptcells l = flatG ptcells (l.take k) ++ flatG ptcells (l.drop k) := by
  unfold flatG
  rw [← List.flatMap_append, List.take_append_drop]
 have hl : (flatG ptcells (l.take k)).length = k * 3 := by rw [flatG_len ptcells_lenS, List.length_take, Nat.min_eq_left hk, Nat.mul_comm]
 have h2 : (flatG ptcells l)[k * 3 + i]? = some v := by
  rw [e, List.getElem?_append_right (by omega), hl, Nat.add_sub_cancel_left]
  exact hv
 obtain ⟨b', o', e1, e2, e3⟩ := h _ _ h2
 injection e1 with e1
 injection e1 with e4 e5 e6
 subst e4 e5
 exact ⟨b, o + k * 3, rfl, e2, by rw [Nat.add_assoc]; exact e3⟩
theorem steps_long1 {mn md pn pd u kn kd : ByteArray} {ct : Int} {A : Option Addr} {n c x : Nat} (hT : TermS.big ⟨mn, md, pn, pd, ct⟩) (g1 : u.size ≤ 9223372036854775807) (g3 : kn.size ≤ 9223372036854775807) (g4 : kd.size ≤ 9223372036854775807) (ht1 : (lngT ⟨mn, md, pn, pd, ct⟩ || List.any ([⟨kn, kd⟩] : List FnS) lngF) = true)  (w : World) (hg : Gl w) : Calls Tryz.prog 6 #[.agg #[.string mn, .string md, .string pn, .string pd, .int .i64 ct], .string u, .agg #[.string kn, .string kd], .slice A n c, .int .u8 (x : Int)] w fun e w' => e = .returned (.bool true) ∧ Below w.heap.size w w' := by
 have KL1 := longT_any (A := some ⟨w.heap.size + 2, 0, none⟩) (n := 1) (c := 1) (l := [⟨kn, kd⟩]) hT rfl (by decide) (fun s hs => by simp at hs; subst hs; exact ⟨g3, g4⟩)
 have KL2 := fun b : Nat => long45_any (A := some ⟨b, 0, none⟩) (n := 1) (c := 1) (l := [u]) rfl (by decide) (fun s hs => by simp at hs; subst hs; exact g1)
 have hs := (((St.refl hg).alloc (.cells #[.string mn, .string md, .string pn, .string pd, .int .i64 ct] 44)).alloc (.cells #[.string kn, .string kd] 34)).alloc (.cells #[.string kn, .string kd] 34)
 have XT0 := (Bx.new w #[.string mn, .string md, .string pn, .string pd, .int .i64 ct] 44).alloc (.cells #[.string kn, .string kd] 34)
 have XT := XT0.alloc (.cells #[.string kn, .string kd] 34)
 have XM0 := Bx.new1 w (.cells #[.string mn, .string md, .string pn, .string pd, .int .i64 ct] 44) #[.string kn, .string kd] 34
 have XM := XM0.alloc (.cells #[.string kn, .string kd] 34)
 have XS := Bx.new2 w (.cells #[.string mn, .string md, .string pn, .string pd, .int .i64 ct] 44) (.cells #[.string kn, .string kd] 34) #[.string kn, .string kd] 34
 have a0 := XT0.cell (i := 0) (v := .string mn) rfl
 have a1 := XT0.cell (i := 1) (v := .string md) rfl
 have a2 := XT0.cell (i := 2) (v := .string pn) rfl
 have a3 := XT0.cell (i := 3) (v := .string pd) rfl
 have a4 := XT0.cell (i := 4) (v := .int .i64 ct) rfl
 have am0 := XM0.cell (i := 0) (v := .string kn) rfl
 have am1 := XM0.cell (i := 1) (v := .string kd) rfl
 have HR1 : Hid (Row (((w.alloc (.cells #[.string mn, .string md, .string pn, .string pd, .int .i64 ct] 44)).alloc (.cells #[.string kn, .string kd] 34)).alloc (.cells #[.string kn, .string kd] 34)) (some ⟨w.heap.size + 2, 0, none⟩) (flatG fncells [⟨kn, kd⟩])) := Row.of XS
 have AW := awake45
 clear XT0 XM0
 rw [ht1] at KL1
 unfold tval at KL1
 dsimp only at KL1
 clear ht1  hT g1 g3 g4 XS
 go_enter Tryz.func6, Tryz.ntmps6
 go_wp2_with fail
 clear a0 a1 a2 a3 a4 am0 am1
 refine KL1.step hs HR1.out ?_
 intro w1 hs hb
 replace XT := XT.on hb
 replace XM := XM.on hb
 go_wp2_with fail
 refine AW.step hs ?_
 intro w2 hs hb
 go_wp2_with fail
 go_ret
 exact ⟨rfl, hs.2⟩
theorem steps_long2 {mn md pn pd u kn kd : ByteArray} {ct : Int} {A : Option Addr} {n c x : Nat} (hT : TermS.big ⟨mn, md, pn, pd, ct⟩) (g1 : u.size ≤ 9223372036854775807) (g3 : kn.size ≤ 9223372036854775807) (g4 : kd.size ≤ 9223372036854775807) (ht1 : (lngT ⟨mn, md, pn, pd, ct⟩ || List.any ([⟨kn, kd⟩] : List FnS) lngF) = false) (ht2 : List.any ([u] : List ByteArray) (fun s => decide (13 < s.size)) = true) (w : World) (hg : Gl w) : Calls Tryz.prog 6 #[.agg #[.string mn, .string md, .string pn, .string pd, .int .i64 ct], .string u, .agg #[.string kn, .string kd], .slice A n c, .int .u8 (x : Int)] w fun e w' => e = .returned (.bool true) ∧ Below w.heap.size w w' := by
 have KL1 := longT_any (A := some ⟨w.heap.size + 2, 0, none⟩) (n := 1) (c := 1) (l := [⟨kn, kd⟩]) hT rfl (by decide) (fun s hs => by simp at hs; subst hs; exact ⟨g3, g4⟩)
 have KL2 := fun b : Nat => long45_any (A := some ⟨b, 0, none⟩) (n := 1) (c := 1) (l := [u]) rfl (by decide) (fun s hs => by simp at hs; subst hs; exact g1)
 have hs := (((St.refl hg).alloc (.cells #[.string mn, .string md, .string pn, .string pd, .int .i64 ct] 44)).alloc (.cells #[.string kn, .string kd] 34)).alloc (.cells #[.string kn, .string kd] 34)
 have XT0 := (Bx.new w #[.string mn, .string md, .string pn, .string pd, .int .i64 ct] 44).alloc (.cells #[.string kn, .string kd] 34)
 have XT := XT0.alloc (.cells #[.string kn, .string kd] 34)
 have XM0 := Bx.new1 w (.cells #[.string mn, .string md, .string pn, .string pd, .int .i64 ct] 44) #[.string kn, .string kd] 34
 have XM := XM0.alloc (.cells #[.string kn, .string kd] 34)
 have XS := Bx.new2 w (.cells #[.string mn, .string md, .string pn, .string pd, .int .i64 ct] 44) (.cells #[.string kn, .string kd] 34) #[.string kn, .string kd] 34
 have a0 := XT0.cell (i := 0) (v := .string mn) rfl
 have a1 := XT0.cell (i := 1) (v := .string md) rfl
 have a2 := XT0.cell (i := 2) (v := .string pn) rfl
 have a3 := XT0.cell (i := 3) (v := .string pd) rfl
 have a4 := XT0.cell (i := 4) (v := .int .i64 ct) rfl
 have am0 := XM0.cell (i := 0) (v := .string kn) rfl
 have am1 := XM0.cell (i := 1) (v := .string kd) rfl
 have HR1 : Hid (Row (((w.alloc (.cells #[.string mn, .string md, .string pn, .string pd, .int .i64 ct] 44)).alloc (.cells #[.string kn, .string kd] 34)).alloc (.cells #[.string kn, .string kd] 34)) (some ⟨w.heap.size + 2, 0, none⟩) (flatG fncells [⟨kn, kd⟩])) := Row.of XS
 have AW := awake45
 clear XT0 XM0
 rw [ht1] at KL1
 rw [ht2] at KL2
 unfold tval at KL1
 dsimp only at KL1
 clear ht1 ht2 hT g1 g3 g4 XS
 go_enter Tryz.func6, Tryz.ntmps6
 go_wp2_with fail
 clear a0 a1 a2 a3 a4 am0 am1
 refine KL1.step hs HR1.out ?_
 intro w1 hs hb
 replace XT := XT.on hb
 replace XM := XM.on hb
 go_wp2_with fail
 have HR2 : Hid (Row (w1.alloc (.cells #[.string u] 32)) (some ⟨w1.heap.size, 0, none⟩) ([u].map sv)) := Row.of (Bx.new w1 #[.string u] 32)
 replace XT := XT.alloc (.cells #[.string u] 32)
 replace XM := XM.alloc (.cells #[.string u] 32)
 replace hs := hs.alloc (.cells #[.string u] 32)
 refine (KL2 _).step hs HR2.out ?_
 intro w2 hs hb
 replace XT := XT.on hb
 replace XM := XM.on hb
 go_wp2_with fail
 refine AW.step hs ?_
 intro w3 hs hb
 go_wp2_with fail
 go_ret
 exact ⟨rfl, hs.2⟩
theorem steps_grt {mn md pn pd u kn kd : ByteArray} {ct : Int} {A : Option Addr} {n c x : Nat} {L : List PtS} (hT : TermS.big ⟨mn, md, pn, pd, ct⟩) (g1 : u.size ≤ 9223372036854775807) (g3 : kn.size ≤ 9223372036854775807) (g4 : kd.size ≤ 9223372036854775807) (hn : L.length = n) (hm : n ≤ 9223372036854775807) (hbig : ∀ p ∈ L, p.v.size ≤ 9223372036854775807 ∧ p.f.size ≤ 9223372036854775807) (ht1 : (lngT ⟨mn, md, pn, pd, ct⟩ || List.any ([⟨kn, kd⟩] : List FnS) lngF) = false) (ht2 : List.any ([u] : List ByteArray) (fun s => decide (13 < s.size)) = false) (hG : grtP L = true)  (w : World) (hg : Gl w) (hr : Row w A (flatG ptcells L)) : Calls Tryz.prog 6 #[.agg #[.string mn, .string md, .string pn, .string pd, .int .i64 ct], .string u, .agg #[.string kn, .string kd], .slice A n c, .int .u8 (x : Int)] w fun e w' => e = .returned (.bool true) ∧ Below w.heap.size w w' := by
 have KL1 := longT_any (A := some ⟨w.heap.size + 2, 0, none⟩) (n := 1) (c := 1) (l := [⟨kn, kd⟩]) hT rfl (by decide) (fun s hs => by simp at hs; subst hs; exact ⟨g3, g4⟩)
 have KL2 := fun b : Nat => long45_any (A := some ⟨b, 0, none⟩) (n := 1) (c := 1) (l := [u]) rfl (by decide) (fun s hs => by simp at hs; subst hs; exact g1)
 have KG := rgrt_any (A := A) (c := c) hn hm hbig
 rw [ht1] at KL1
 rw [ht2] at KL2
 rw [hG] at KG
 have HR := Lib.hid hr
 unfold tval at *
 dsimp only at *
 have hs := (((St.refl hg).alloc (.cells #[.string mn, .string md, .string pn, .string pd, .int .i64 ct] 44)).alloc (.cells #[.string kn, .string kd] 34)).alloc (.cells #[.string kn, .string kd] 34)
 have XT0 := (Bx.new w #[.string mn, .string md, .string pn, .string pd, .int .i64 ct] 44).alloc (.cells #[.string kn, .string kd] 34)
 have XT := XT0.alloc (.cells #[.string kn, .string kd] 34)
 have XM0 := Bx.new1 w (.cells #[.string mn, .string md, .string pn, .string pd, .int .i64 ct] 44) #[.string kn, .string kd] 34
 have XM := XM0.alloc (.cells #[.string kn, .string kd] 34)
 have XS := Bx.new2 w (.cells #[.string mn, .string md, .string pn, .string pd, .int .i64 ct] 44) (.cells #[.string kn, .string kd] 34) #[.string kn, .string kd] 34
 have a0 := XT0.cell (i := 0) (v := .string mn) rfl
 have a1 := XT0.cell (i := 1) (v := .string md) rfl
 have a2 := XT0.cell (i := 2) (v := .string pn) rfl
 have a3 := XT0.cell (i := 3) (v := .string pd) rfl
 have a4 := XT0.cell (i := 4) (v := .int .i64 ct) rfl
 have am0 := XM0.cell (i := 0) (v := .string kn) rfl
 have am1 := XM0.cell (i := 1) (v := .string kd) rfl
 have HR1 : Hid (Row (((w.alloc (.cells #[.string mn, .string md, .string pn, .string pd, .int .i64 ct] 44)).alloc (.cells #[.string kn, .string kd] 34)).alloc (.cells #[.string kn, .string kd] 34)) (some ⟨w.heap.size + 2, 0, none⟩) (flatG fncells [⟨kn, kd⟩])) := Row.of XS
 have AW := awake45
 clear XT0 XM0
 clear ht1 ht2 hT g1 g3 g4 hG hr hbig XS hn hm
 go_enter Tryz.func6, Tryz.ntmps6
 go_wp2_with fail
 clear a0 a1 a2 a3 a4 am0 am1
 refine KL1.step hs HR1.out ?_
 intro w1 hs hb
 replace XT := XT.on hb
 replace XM := XM.on hb
 go_wp2_with fail
 have HR2 : Hid (Row (w1.alloc (.cells #[.string u] 32)) (some ⟨w1.heap.size, 0, none⟩) ([u].map sv)) := Row.of (Bx.new w1 #[.string u] 32)
 replace XT := XT.alloc (.cells #[.string u] 32)
 replace XM := XM.alloc (.cells #[.string u] 32)
 replace hs := hs.alloc (.cells #[.string u] 32)
 refine (KL2 _).step hs HR2.out ?_
 intro w2 hs hb
 replace XT := XT.on hb
 replace XM := XM.on hb
 have t0 := XT.cell (i := 0) (v := .string mn) rfl
 have t1 := XT.cell (i := 1) (v := .string md) rfl
 have t2 := XT.cell (i := 2) (v := .string pn) rfl
 have t3 := XT.cell (i := 3) (v := .string pd) rfl
 have t4 := XT.cell (i := 4) (v := .int .i64 ct) rfl
 have m0 := XM.cell (i := 0) (v := .string kn) rfl
 have m1 := XM.cell (i := 1) (v := .string kd) rfl
 go_wp2_with fail
 refine KG.step hs (HR.out.on hs.2) ?_
 intro w3 hs hb
 clear t0 t1 t2 t3 t4 m0 m1
 replace XT := XT.on hb
 replace XM := XM.on hb
 have t0 := XT.cell (i := 0) (v := .string mn) rfl
 have t1 := XT.cell (i := 1) (v := .string md) rfl
 have t2 := XT.cell (i := 2) (v := .string pn) rfl
 have t3 := XT.cell (i := 3) (v := .string pd) rfl
 have t4 := XT.cell (i := 4) (v := .int .i64 ct) rfl
 have m0 := XM.cell (i := 0) (v := .string kn) rfl
 have m1 := XM.cell (i := 1) (v := .string kd) rfl
 go_wp2_with fail
 refine AW.step hs ?_
 intro w9 hs hb
 go_wp2_with fail
 go_ret
 exact ⟨rfl, hs.2⟩
theorem steps_many {mn md pn pd u kn kd : ByteArray} {ct : Int} {A : Option Addr} {n c x : Nat} {L : List PtS} (hT : TermS.big ⟨mn, md, pn, pd, ct⟩) (g1 : u.size ≤ 9223372036854775807) (g3 : kn.size ≤ 9223372036854775807) (g4 : kd.size ≤ 9223372036854775807) (hn : L.length = n) (hm : n ≤ 9223372036854775807) (hbig : ∀ p ∈ L, p.v.size ≤ 9223372036854775807 ∧ p.f.size ≤ 9223372036854775807) (ht1 : (lngT ⟨mn, md, pn, pd, ct⟩ || List.any ([⟨kn, kd⟩] : List FnS) lngF) = false) (ht2 : List.any ([u] : List ByteArray) (fun s => decide (13 < s.size)) = false) (hG : grtP L = false) (h9 : 8 < n) (w : World) (hg : Gl w) (hr : Row w A (flatG ptcells L)) : Calls Tryz.prog 6 #[.agg #[.string mn, .string md, .string pn, .string pd, .int .i64 ct], .string u, .agg #[.string kn, .string kd], .slice A n c, .int .u8 (x : Int)] w fun e w' => e = .returned (.bool true) ∧ Below w.heap.size w w' := by
 have KL1 := longT_any (A := some ⟨w.heap.size + 2, 0, none⟩) (n := 1) (c := 1) (l := [⟨kn, kd⟩]) hT rfl (by decide) (fun s hs => by simp at hs; subst hs; exact ⟨g3, g4⟩)
 have KL2 := fun b : Nat => long45_any (A := some ⟨b, 0, none⟩) (n := 1) (c := 1) (l := [u]) rfl (by decide) (fun s hs => by simp at hs; subst hs; exact g1)
 have KG := rgrt_any (A := A) (c := c) hn hm hbig
 rw [ht1] at KL1
 rw [ht2] at KL2
 rw [hG] at KG
 have HR := Lib.hid hr
 have q9 : decide ((8 : Int) < (n : Int)) = true := decide_eq_true (by omega)
 unfold tval at *
 dsimp only at *
 have hs := (((St.refl hg).alloc (.cells #[.string mn, .string md, .string pn, .string pd, .int .i64 ct] 44)).alloc (.cells #[.string kn, .string kd] 34)).alloc (.cells #[.string kn, .string kd] 34)
 have XT0 := (Bx.new w #[.string mn, .string md, .string pn, .string pd, .int .i64 ct] 44).alloc (.cells #[.string kn, .string kd] 34)
 have XT := XT0.alloc (.cells #[.string kn, .string kd] 34)
 have XM0 := Bx.new1 w (.cells #[.string mn, .string md, .string pn, .string pd, .int .i64 ct] 44) #[.string kn, .string kd] 34
 have XM := XM0.alloc (.cells #[.string kn, .string kd] 34)
 have XS := Bx.new2 w (.cells #[.string mn, .string md, .string pn, .string pd, .int .i64 ct] 44) (.cells #[.string kn, .string kd] 34) #[.string kn, .string kd] 34
 have a0 := XT0.cell (i := 0) (v := .string mn) rfl
 have a1 := XT0.cell (i := 1) (v := .string md) rfl
 have a2 := XT0.cell (i := 2) (v := .string pn) rfl
 have a3 := XT0.cell (i := 3) (v := .string pd) rfl
 have a4 := XT0.cell (i := 4) (v := .int .i64 ct) rfl
 have am0 := XM0.cell (i := 0) (v := .string kn) rfl
 have am1 := XM0.cell (i := 1) (v := .string kd) rfl
 have HR1 : Hid (Row (((w.alloc (.cells #[.string mn, .string md, .string pn, .string pd, .int .i64 ct] 44)).alloc (.cells #[.string kn, .string kd] 34)).alloc (.cells #[.string kn, .string kd] 34)) (some ⟨w.heap.size + 2, 0, none⟩) (flatG fncells [⟨kn, kd⟩])) := Row.of XS
 have AW := awake45
 clear XT0 XM0
 clear ht1 ht2 hT g1 g3 g4 hG hr hbig XS h9 hn hm
 go_enter Tryz.func6, Tryz.ntmps6
 go_wp2_with fail
 clear a0 a1 a2 a3 a4 am0 am1
 refine KL1.step hs HR1.out ?_
 intro w1 hs hb
 replace XT := XT.on hb
 replace XM := XM.on hb
 go_wp2_with fail
 have HR2 : Hid (Row (w1.alloc (.cells #[.string u] 32)) (some ⟨w1.heap.size, 0, none⟩) ([u].map sv)) := Row.of (Bx.new w1 #[.string u] 32)
 replace XT := XT.alloc (.cells #[.string u] 32)
 replace XM := XM.alloc (.cells #[.string u] 32)
 replace hs := hs.alloc (.cells #[.string u] 32)
 refine (KL2 _).step hs HR2.out ?_
 intro w2 hs hb
 replace XT := XT.on hb
 replace XM := XM.on hb
 have t0 := XT.cell (i := 0) (v := .string mn) rfl
 have t1 := XT.cell (i := 1) (v := .string md) rfl
 have t2 := XT.cell (i := 2) (v := .string pn) rfl
 have t3 := XT.cell (i := 3) (v := .string pd) rfl
 have t4 := XT.cell (i := 4) (v := .int .i64 ct) rfl
 have m0 := XM.cell (i := 0) (v := .string kn) rfl
 have m1 := XM.cell (i := 1) (v := .string kd) rfl
 go_wp2_with fail
 refine KG.step hs (HR.out.on hs.2) ?_
 intro w3 hs hb
 clear t0 t1 t2 t3 t4 m0 m1
 replace XT := XT.on hb
 replace XM := XM.on hb
 have t0 := XT.cell (i := 0) (v := .string mn) rfl
 have t1 := XT.cell (i := 1) (v := .string md) rfl
 have t2 := XT.cell (i := 2) (v := .string pn) rfl
 have t3 := XT.cell (i := 3) (v := .string pd) rfl
 have t4 := XT.cell (i := 4) (v := .int .i64 ct) rfl
 have m0 := XM.cell (i := 0) (v := .string kn) rfl
 have m1 := XM.cell (i := 1) (v := .string kd) rfl
 go_wp2_with fail
 refine AW.step hs ?_
 intro w9 hs hb
 go_wp2_with fail
 go_ret
 exact ⟨rfl, hs.2⟩
theorem steps_none {mn md pn pd u kn kd : ByteArray} {ct : Int} {A : Option Addr} {c x : Nat} {L : List PtS} (hT : TermS.big ⟨mn, md, pn, pd, ct⟩) (g1 : u.size ≤ 9223372036854775807) (g3 : kn.size ≤ 9223372036854775807) (g4 : kd.size ≤ 9223372036854775807) (hn : L.length = 0) (hm : 0 ≤ 9223372036854775807) (hbig : ∀ p ∈ L, p.v.size ≤ 9223372036854775807 ∧ p.f.size ≤ 9223372036854775807) (ht1 : (lngT ⟨mn, md, pn, pd, ct⟩ || List.any ([⟨kn, kd⟩] : List FnS) lngF) = false) (ht2 : List.any ([u] : List ByteArray) (fun s => decide (13 < s.size)) = false) (hG : grtP L = false)  (w : World) (hg : Gl w) (hr : Row w A (flatG ptcells L)) : Calls Tryz.prog 6 #[.agg #[.string mn, .string md, .string pn, .string pd, .int .i64 ct], .string u, .agg #[.string kn, .string kd], .slice A 0 c, .int .u8 (x : Int)] w fun e w' => e = .returned (.bool true) ∧ Below w.heap.size w w' := by
 have KL1 := longT_any (A := some ⟨w.heap.size + 2, 0, none⟩) (n := 1) (c := 1) (l := [⟨kn, kd⟩]) hT rfl (by decide) (fun s hs => by simp at hs; subst hs; exact ⟨g3, g4⟩)
 have KL2 := fun b : Nat => long45_any (A := some ⟨b, 0, none⟩) (n := 1) (c := 1) (l := [u]) rfl (by decide) (fun s hs => by simp at hs; subst hs; exact g1)
 have KG := rgrt_any (A := A) (c := c) hn hm hbig
 rw [ht1] at KL1
 rw [ht2] at KL2
 rw [hG] at KG
 have HR := Lib.hid hr
 unfold tval at *
 dsimp only at *
 have hs := (((St.refl hg).alloc (.cells #[.string mn, .string md, .string pn, .string pd, .int .i64 ct] 44)).alloc (.cells #[.string kn, .string kd] 34)).alloc (.cells #[.string kn, .string kd] 34)
 have XT0 := (Bx.new w #[.string mn, .string md, .string pn, .string pd, .int .i64 ct] 44).alloc (.cells #[.string kn, .string kd] 34)
 have XT := XT0.alloc (.cells #[.string kn, .string kd] 34)
 have XM0 := Bx.new1 w (.cells #[.string mn, .string md, .string pn, .string pd, .int .i64 ct] 44) #[.string kn, .string kd] 34
 have XM := XM0.alloc (.cells #[.string kn, .string kd] 34)
 have XS := Bx.new2 w (.cells #[.string mn, .string md, .string pn, .string pd, .int .i64 ct] 44) (.cells #[.string kn, .string kd] 34) #[.string kn, .string kd] 34
 have a0 := XT0.cell (i := 0) (v := .string mn) rfl
 have a1 := XT0.cell (i := 1) (v := .string md) rfl
 have a2 := XT0.cell (i := 2) (v := .string pn) rfl
 have a3 := XT0.cell (i := 3) (v := .string pd) rfl
 have a4 := XT0.cell (i := 4) (v := .int .i64 ct) rfl
 have am0 := XM0.cell (i := 0) (v := .string kn) rfl
 have am1 := XM0.cell (i := 1) (v := .string kd) rfl
 have HR1 : Hid (Row (((w.alloc (.cells #[.string mn, .string md, .string pn, .string pd, .int .i64 ct] 44)).alloc (.cells #[.string kn, .string kd] 34)).alloc (.cells #[.string kn, .string kd] 34)) (some ⟨w.heap.size + 2, 0, none⟩) (flatG fncells [⟨kn, kd⟩])) := Row.of XS
 have AW := awake45
 clear XT0 XM0
 clear ht1 ht2 hT g1 g3 g4 hG hr hbig XS hn hm
 go_enter Tryz.func6, Tryz.ntmps6
 go_wp2_with fail
 clear a0 a1 a2 a3 a4 am0 am1
 refine KL1.step hs HR1.out ?_
 intro w1 hs hb
 replace XT := XT.on hb
 replace XM := XM.on hb
 go_wp2_with fail
 have HR2 : Hid (Row (w1.alloc (.cells #[.string u] 32)) (some ⟨w1.heap.size, 0, none⟩) ([u].map sv)) := Row.of (Bx.new w1 #[.string u] 32)
 replace XT := XT.alloc (.cells #[.string u] 32)
 replace XM := XM.alloc (.cells #[.string u] 32)
 replace hs := hs.alloc (.cells #[.string u] 32)
 refine (KL2 _).step hs HR2.out ?_
 intro w2 hs hb
 replace XT := XT.on hb
 replace XM := XM.on hb
 have t0 := XT.cell (i := 0) (v := .string mn) rfl
 have t1 := XT.cell (i := 1) (v := .string md) rfl
 have t2 := XT.cell (i := 2) (v := .string pn) rfl
 have t3 := XT.cell (i := 3) (v := .string pd) rfl
 have t4 := XT.cell (i := 4) (v := .int .i64 ct) rfl
 have m0 := XM.cell (i := 0) (v := .string kn) rfl
 have m1 := XM.cell (i := 1) (v := .string kd) rfl
 go_wp2_with fail
 refine KG.step hs (HR.out.on hs.2) ?_
 intro w3 hs hb
 clear t0 t1 t2 t3 t4 m0 m1
 replace XT := XT.on hb
 replace XM := XM.on hb
 have t0 := XT.cell (i := 0) (v := .string mn) rfl
 have t1 := XT.cell (i := 1) (v := .string md) rfl
 have t2 := XT.cell (i := 2) (v := .string pn) rfl
 have t3 := XT.cell (i := 3) (v := .string pd) rfl
 have t4 := XT.cell (i := 4) (v := .int .i64 ct) rfl
 have m0 := XM.cell (i := 0) (v := .string kn) rfl
 have m1 := XM.cell (i := 1) (v := .string kd) rfl
 go_wp2_with fail
 refine AW.step hs ?_
 intro w9 hs hb
 go_wp2_with fail
 go_ret
 exact ⟨rfl, hs.2⟩
theorem steps_err {mn md pn pd u kn kd : ByteArray} {ct : Int} {A : Option Addr} {N c x : Nat} {L : List PtS} (hT : TermS.big ⟨mn, md, pn, pd, ct⟩) (g1 : u.size ≤ 9223372036854775807) (g3 : kn.size ≤ 9223372036854775807) (g4 : kd.size ≤ 9223372036854775807) (hn : L.length = N + 1) (hm : N + 1 ≤ 9223372036854775807) (hbig : ∀ p ∈ L, p.v.size ≤ 9223372036854775807 ∧ p.f.size ≤ 9223372036854775807) (ht1 : (lngT ⟨mn, md, pn, pd, ct⟩ || List.any ([⟨kn, kd⟩] : List FnS) lngF) = false) (ht2 : List.any ([u] : List ByteArray) (fun s => decide (13 < s.size)) = false) (hG : grtP L = false) (hc : N + 1 ≤ c) (h8 : N ≤ 7) (hz : TermS.le 13 ⟨mn, md, pn, pd, ct⟩) (s1 : u.size ≤ 13) (s3 : kn.size ≤ 13) (s4 : kd.size ≤ 13) (he : runE (⟨mn, md, pn, pd, ct⟩ : TermS) u kn kd L ≠ 0) (w : World) (hg : Gl w) (hr : Row w A (flatG ptcells L)) : Calls Tryz.prog 6 #[.agg #[.string mn, .string md, .string pn, .string pd, .int .i64 ct], .string u, .agg #[.string kn, .string kd], .slice A (N + 1) c, .int .u8 (x : Int)] w fun e w' => e = .returned (.bool true) ∧ Below w.heap.size w w' := by
 have KL1 := longT_any (A := some ⟨w.heap.size + 2, 0, none⟩) (n := 1) (c := 1) (l := [⟨kn, kd⟩]) hT rfl (by decide) (fun s hs => by simp at hs; subst hs; exact ⟨g3, g4⟩)
 have KL2 := fun b : Nat => long45_any (A := some ⟨b, 0, none⟩) (n := 1) (c := 1) (l := [u]) rfl (by decide) (fun s hs => by simp at hs; subst hs; exact g1)
 have KG := rgrt_any (A := A) (c := c) hn hm hbig
 rw [ht1] at KL1
 rw [ht2] at KL2
 rw [hG] at KG
 have HR := Lib.hid hr
 have hl := grt_falseS hG
 have KA := Run_any (T := (⟨mn, md, pn, pd, ct⟩ : TermS)) (u := u) (kn := kn) (kd := kd) (A := A) hn hc (by omega) hz s1 (by omega) (by omega) hl (.inl (by omega))
 have q9 : decide ((8 : Int) < ((N : Int) + 1)) = false := decide_eq_false (by omega)
 have qz : (((N : Int) + 1) == 0) = false := beq_eq_false_iff_ne.2 (by omega)
 have r1 : runL (⟨mn, md, pn, pd, ct⟩ : TermS) u kn kd L = [] := if_neg he
 rw [r1] at KA
 have q : (runE (⟨mn, md, pn, pd, ct⟩ : TermS) u kn kd L != 0) = true := by simpa using he
 generalize runE (⟨mn, md, pn, pd, ct⟩ : TermS) u kn kd L = re at *
 have KA := Lib.hid KA
 unfold tval at *
 dsimp only at *
 have hs := (((St.refl hg).alloc (.cells #[.string mn, .string md, .string pn, .string pd, .int .i64 ct] 44)).alloc (.cells #[.string kn, .string kd] 34)).alloc (.cells #[.string kn, .string kd] 34)
 have XT0 := (Bx.new w #[.string mn, .string md, .string pn, .string pd, .int .i64 ct] 44).alloc (.cells #[.string kn, .string kd] 34)
 have XT := XT0.alloc (.cells #[.string kn, .string kd] 34)
 have XM0 := Bx.new1 w (.cells #[.string mn, .string md, .string pn, .string pd, .int .i64 ct] 44) #[.string kn, .string kd] 34
 have XM := XM0.alloc (.cells #[.string kn, .string kd] 34)
 have XS := Bx.new2 w (.cells #[.string mn, .string md, .string pn, .string pd, .int .i64 ct] 44) (.cells #[.string kn, .string kd] 34) #[.string kn, .string kd] 34
 have a0 := XT0.cell (i := 0) (v := .string mn) rfl
 have a1 := XT0.cell (i := 1) (v := .string md) rfl
 have a2 := XT0.cell (i := 2) (v := .string pn) rfl
 have a3 := XT0.cell (i := 3) (v := .string pd) rfl
 have a4 := XT0.cell (i := 4) (v := .int .i64 ct) rfl
 have am0 := XM0.cell (i := 0) (v := .string kn) rfl
 have am1 := XM0.cell (i := 1) (v := .string kd) rfl
 have HR1 : Hid (Row (((w.alloc (.cells #[.string mn, .string md, .string pn, .string pd, .int .i64 ct] 44)).alloc (.cells #[.string kn, .string kd] 34)).alloc (.cells #[.string kn, .string kd] 34)) (some ⟨w.heap.size + 2, 0, none⟩) (flatG fncells [⟨kn, kd⟩])) := Row.of XS
 have AW := awake45
 clear XT0 XM0
 clear ht1 ht2 hT g1 g3 g4 hG hr hbig XS hn hm hl h8 hz s1 s3 s4 hc r1 he
 go_enter Tryz.func6, Tryz.ntmps6
 go_wp2_with fail
 clear a0 a1 a2 a3 a4 am0 am1
 refine KL1.step hs HR1.out ?_
 intro w1 hs hb
 replace XT := XT.on hb
 replace XM := XM.on hb
 go_wp2_with fail
 have HR2 : Hid (Row (w1.alloc (.cells #[.string u] 32)) (some ⟨w1.heap.size, 0, none⟩) ([u].map sv)) := Row.of (Bx.new w1 #[.string u] 32)
 replace XT := XT.alloc (.cells #[.string u] 32)
 replace XM := XM.alloc (.cells #[.string u] 32)
 replace hs := hs.alloc (.cells #[.string u] 32)
 refine (KL2 _).step hs HR2.out ?_
 intro w2 hs hb
 replace XT := XT.on hb
 replace XM := XM.on hb
 have t0 := XT.cell (i := 0) (v := .string mn) rfl
 have t1 := XT.cell (i := 1) (v := .string md) rfl
 have t2 := XT.cell (i := 2) (v := .string pn) rfl
 have t3 := XT.cell (i := 3) (v := .string pd) rfl
 have t4 := XT.cell (i := 4) (v := .int .i64 ct) rfl
 have m0 := XM.cell (i := 0) (v := .string kn) rfl
 have m1 := XM.cell (i := 1) (v := .string kd) rfl
 go_wp2_with fail
 refine KG.step hs (HR.out.on hs.2) ?_
 intro w3 hs hb
 clear t0 t1 t2 t3 t4 m0 m1
 replace XT := XT.on hb
 replace XM := XM.on hb
 have t0 := XT.cell (i := 0) (v := .string mn) rfl
 have t1 := XT.cell (i := 1) (v := .string md) rfl
 have t2 := XT.cell (i := 2) (v := .string pn) rfl
 have t3 := XT.cell (i := 3) (v := .string pd) rfl
 have t4 := XT.cell (i := 4) (v := .int .i64 ct) rfl
 have m0 := XM.cell (i := 0) (v := .string kn) rfl
 have m1 := XM.cell (i := 1) (v := .string kd) rfl
 go_wp2_with fail
 refine (KA.out _ hs.gl (HR.out.on hs.2)).mono ?_
 rintro e w4 ⟨va, rfl, ho, hb⟩
 replace hs := hs.on hb
 clear t0 t1 t2 t3 t4 m0 m1
 obtain ⟨Aa, ca, rfl, ra⟩ := ho.row
 clear ra ho hb
 go_wp2_with fail
 refine AW.step hs ?_
 intro w9 hs hb
 go_wp2_with fail
 go_ret
 exact ⟨rfl, hs.2⟩
theorem steps_ok {mn md pn pd u kn kd : ByteArray} {ct : Int} {b o N c x : Nat} {L : List PtS} (hT : TermS.big ⟨mn, md, pn, pd, ct⟩) (g1 : u.size ≤ 9223372036854775807) (g3 : kn.size ≤ 9223372036854775807) (g4 : kd.size ≤ 9223372036854775807) (hn : L.length = N + 1) (hm : N + 1 ≤ 9223372036854775807) (hbig : ∀ p ∈ L, p.v.size ≤ 9223372036854775807 ∧ p.f.size ≤ 9223372036854775807) (ht1 : (lngT ⟨mn, md, pn, pd, ct⟩ || List.any ([⟨kn, kd⟩] : List FnS) lngF) = false) (ht2 : List.any ([u] : List ByteArray) (fun s => decide (13 < s.size)) = false) (hG : grtP L = false) (hc : N + 1 ≤ c) (h8 : N ≤ 7) (hz : TermS.le 13 ⟨mn, md, pn, pd, ct⟩) (s1 : u.size ≤ 13) (s3 : kn.size ≤ 13) (s4 : kd.size ≤ 13) (he : runE (⟨mn, md, pn, pd, ct⟩ : TermS) u kn kd L = 0) {k : Nat} (hkd : x % (N + 1) = k) (hkN : k ≤ N) (hx8 : x ≤ 255) (w : World) (hg : Gl w) (hr : Row w (some ⟨b, o, none⟩) (flatG ptcells L)) : Calls Tryz.prog 6 #[.agg #[.string mn, .string md, .string pn, .string pd, .int .i64 ct], .string u, .agg #[.string kn, .string kd], .slice (some ⟨b, o, none⟩) (N + 1) c, .int .u8 (x : Int)] w fun e w' => e = .returned (.bool true) ∧ Below w.heap.size w w' := by
  have KL1 := longT_any (A := some ⟨w.heap.size + 2, 0, none⟩) (n := 1) (c := 1) (l := [⟨kn, kd⟩]) hT rfl (by decide) (fun s hs => by simp at hs; subst hs; exact ⟨g3, g4⟩)
  have KL2 := fun b : Nat => long45_any (A := some ⟨b, 0, none⟩) (n := 1) (c := 1) (l := [u]) rfl (by decide) (fun s hs => by simp at hs; subst hs; exact g1)
  have KG := rgrt_any (A := some ⟨b, o, none⟩) (c := c) hn hm hbig
  rw [ht1] at KL1
  rw [ht2] at KL2
  rw [hG] at KG
  have HR := Lib.hid hr
  have hl := grt_falseS hG
  have KA := Run_any (T := (⟨mn, md, pn, pd, ct⟩ : TermS)) (u := u) (kn := kn) (kd := kd) (A := some ⟨b, o, none⟩) hn hc (by omega) hz s1 (by omega) (by omega) hl (.inl (by omega))
  have q9 : decide ((8 : Int) < ((N : Int) + 1)) = false := decide_eq_false (by omega)
  have qz : (((N : Int) + 1) == 0) = false := beq_eq_false_iff_ne.2 (by omega)
  obtain ⟨z1, z2, z3⟩ := run_zero he
  obtain ⟨d1, d2, d3, d4⟩ := cnt_zero z2
  obtain ⟨e1, e2⟩ := FR_can d2
  have hk : k < L.length := by omega
  have f13 : FitQ 13 (ratV kn kd) := FitQ.arg s3 s4 (by omega)
  have hR : RunOk (⟨mn, md, pn, pd, ct⟩ : TermS) u (ratV kn kd) L := ⟨hz, s1, d3, ⟨by omega, hl⟩, f13.mono (by omega)⟩
  have HMF : Hid (∀ j, j ≤ N → (frN (markK (⟨mn, md, pn, pd, ct⟩ : TermS) (valS u) (ratV kn kd) L j)).size ≤ 900 ∧ (frD (markK (⟨mn, md, pn, pd, ct⟩ : TermS) (valS u) (ratV kn kd) L j)).size ≤ 900) := fun j hj => by
    have := FitQ.sizes (hR.marks' f13 j)
    omega
  have HKM : Hid (kn = frN (ratV kn kd) ∧ kd = frD (ratV kn kd)) := ⟨e1, e2⟩
  have el : runL (⟨mn, md, pn, pd, ct⟩ : TermS) u kn kd L = chsL (⟨mn, md, pn, pd, ct⟩ : TermS) (valS u) (ratV kn kd) L N := by
    refine (if_pos he).trans ?_
    rw [hn, Nat.add_sub_cancel]
  rw [el, he, chsL_len] at KA
  obtain ⟨f1, f2⟩ := steps_first he hk
  have KB := Run_any (T := (⟨mn, md, pn, pd, ct⟩ : TermS)) (u := u) (kn := kn) (kd := kd) (L := L.take (k + 1)) (A := some ⟨b, o, none⟩) (n := k + 1) (c := c) (by rw [List.length_take]; omega) (by omega) (by omega) hz s1 (by omega) (by omega) (fun p hp => hl p (List.mem_of_mem_take hp)) (.inl (by omega))
  rw [f1, f2, chsL_len] at KB
  obtain ⟨g1', g2, g3'⟩ := steps_second he hk
  have zk := HMF.out k (by omega)
  have KC := Run_any (T := (⟨mn, md, pn, pd, ct⟩ : TermS)) (u := u) (kn := frN (markK (⟨mn, md, pn, pd, ct⟩ : TermS) (valS u) (ratV kn kd) L k)) (kd := frD (markK (⟨mn, md, pn, pd, ct⟩ : TermS) (valS u) (ratV kn kd) L k)) (L := L.drop k) (A := some ⟨b, o + k * 3, none⟩) (n := N + 1 - k) (c := c - k) (by rw [List.length_drop]; omega) (by omega) (by omega) hz s1 zk.1 zk.2 (fun p hp => hl p (List.mem_of_mem_drop hp)) (.inl (by omega))
  rw [g1', g3'] at KC
  rw [hn, Nat.add_sub_cancel] at KC g2 g3'
  have HFE : Hid (∀ i oo pp, L[i]? = some oo → L[i + 1]? = some pp → _) := fun i oo pp h1 h2 => steps_fees he (i := i) h1 h2 rfl
  have HCK : Hid (∀ i, i < N → (chsL (⟨mn, md, pn, pd, ct⟩ : TermS) (valS u) (ratV kn kd) L N)[i]? = some (chK (⟨mn, md, pn, pd, ct⟩ : TermS) (valS u) (ratV kn kd) L i)) := fun i hi => chsL_at hi
  have HLR : Hid ((chsL (⟨mn, md, pn, pd, ct⟩ : TermS) (valS u) (ratV kn kd) L N).length = N) := chsL_len _ _ _ _ _
  have HLF : Hid ((chsL (⟨mn, md, pn, pd, ct⟩ : TermS) (valS u) (ratV kn kd) L k).length = k) := chsL_len _ _ _ _ _
  have HLS := Lib.hid g3'
  have HG2 := Lib.hid g2
  have HRA := Lib.hid (RowG.cut ptcells_lenS hr (k + 1))
  have HRB := Lib.hid (ptrow_drop hr k (by omega))
  have HM0 : Hid (markK (⟨mn, md, pn, pd, ct⟩ : TermS) (valS u) (ratV kn kd) L 0 = ratV kn kd) := rfl
  have HMK : Hid (∀ i, i + 1 < L.length → (chK (⟨mn, md, pn, pd, ct⟩ : TermS) (valS u) (ratV kn kd) L i).mn = frN (markK (⟨mn, md, pn, pd, ct⟩ : TermS) (valS u) (ratV kn kd) L (i + 1)) ∧ (chK (⟨mn, md, pn, pd, ct⟩ : TermS) (valS u) (ratV kn kd) L i).md = frD (markK (⟨mn, md, pn, pd, ct⟩ : TermS) (valS u) (ratV kn kd) L (i + 1))) := fun i hi => chK_mark hi
  have HFK : Hid (∀ i, i < k → (chsL (⟨mn, md, pn, pd, ct⟩ : TermS) (valS u) (ratV kn kd) L k)[i]? = some (chK (⟨mn, md, pn, pd, ct⟩ : TermS) (valS u) (ratV kn kd) L i)) := fun i hi => chsL_at hi
  have KA := Lib.hid KA
  have KB := Lib.hid KB
  have KC := Lib.hid KC
  have HN := Lib.hid hn
  have HL := Lib.hid hl
  have HZ := Lib.hid hz
  have HS1 := Lib.hid s1
  generalize runL (⟨mn, md, pn, pd, ct⟩ : TermS) u (frN (markK (⟨mn, md, pn, pd, ct⟩ : TermS) (valS u) (ratV kn kd) L k)) (frD (markK (⟨mn, md, pn, pd, ct⟩ : TermS) (valS u) (ratV kn kd) L k)) (L.drop k) = S2 at *
  have hmod : ((x : Int)).tmod ((N : Int) + 1) = (k : Int) := by
    show Int.tmod (Int.ofNat x) (Int.ofNat (N + 1)) = Int.ofNat k
    rw [← hkd]
    rfl
  have hck : ¬ c = k := by omega
  have hck1 : k + 1 ≤ c := by omega
  have qk1 : decide ((k : Int) + 1 ≤ (c : Int)) = true := decide_eq_true (by omega)
  have qk2 : decide ((k : Int) ≤ ((N : Int) + 1)) = true := decide_eq_true (by omega)
  have qk3 : decide ((0 : Int) ≤ (k : Int)) = true := decide_eq_true (by omega)
  have pkN : (k : Int) ≤ (N : Int) + 1 := by omega
  have qk4 : decide ((0 : Int) ≤ (k : Int) + 1) = true := decide_eq_true (by omega)
  have hadd : (⟨b, o, none⟩ : Addr).add (k * 3) = ⟨b, o + k * 3, none⟩ := by unfold Addr.add; by_cases h : k * 3 = 0 <;> simp [h]
  have eN : ((N : Int) + 1 - 1) = (N : Int) := by omega
  have bN : ((N : Int) != (N : Int)) = false := by simp
  have bk : ((k : Int) != (k : Int)) = false := by simp
  have wk : IntKind.i64.wrap (k : Int) = (k : Int) := IntWalk.i64_in _ (by omega)
  have wk1 : IntKind.i64.wrap ((k : Int) + 1) = (k : Int) + 1 := IntWalk.i64_in _ (by omega)
  have pk0 : (0 : Int) ≤ (k : Int) + 1 := by omega
  have pk1 : (k : Int) + 1 ≤ (c : Int) := by omega
  have tk1 : ((k : Int) + 1).toNat = k + 1 := by omega
  have HF0 : Hid (k = 0 → kn = frN (markK (⟨mn, md, pn, pd, ct⟩ : TermS) (valS u) (ratV kn kd) L k) ∧ kd = frD (markK (⟨mn, md, pn, pd, ct⟩ : TermS) (valS u) (ratV kn kd) L k)) := fun h => by
    subst h
    exact HKM.out
  have HFM : Hid (∀ j, j + 1 = k → ∃ c : ChS, (chsL (⟨mn, md, pn, pd, ct⟩ : TermS) (valS u) (ratV kn kd) L k)[j]? = some c ∧ c.mn = frN (markK (⟨mn, md, pn, pd, ct⟩ : TermS) (valS u) (ratV kn kd) L k) ∧ c.md = frD (markK (⟨mn, md, pn, pd, ct⟩ : TermS) (valS u) (ratV kn kd) L k)) := fun j hj => by
    have h1 := HFK.out j (by omega)
    have h2 := HMK.out j (by omega)
    rw [hj] at h2
    exact ⟨_, h1, h2⟩
  clear HFK HMK
  obtain ⟨fn, hfn⟩ : ∃ y, frN (markK (⟨mn, md, pn, pd, ct⟩ : TermS) (valS u) (ratV kn kd) L k) = y := ⟨_, rfl⟩
  obtain ⟨fd, hfd⟩ : ∃ y, frD (markK (⟨mn, md, pn, pd, ct⟩ : TermS) (valS u) (ratV kn kd) L k) = y := ⟨_, rfl⟩
  rw [hfn, hfd] at HF0 HFM KC
  clear hfn hfd
  unfold tval at *
  dsimp only at *
  have hs := (((St.refl hg).alloc (.cells #[.string mn, .string md, .string pn, .string pd, .int .i64 ct] 44)).alloc (.cells #[.string kn, .string kd] 34)).alloc (.cells #[.string kn, .string kd] 34)
  have XT0 := (Bx.new w #[.string mn, .string md, .string pn, .string pd, .int .i64 ct] 44).alloc (.cells #[.string kn, .string kd] 34)
  have XT := XT0.alloc (.cells #[.string kn, .string kd] 34)
  have XM0 := Bx.new1 w (.cells #[.string mn, .string md, .string pn, .string pd, .int .i64 ct] 44) #[.string kn, .string kd] 34
  have XM := XM0.alloc (.cells #[.string kn, .string kd] 34)
  have XS := Bx.new2 w (.cells #[.string mn, .string md, .string pn, .string pd, .int .i64 ct] 44) (.cells #[.string kn, .string kd] 34) #[.string kn, .string kd] 34
  have a0 := XT0.cell (i := 0) (v := .string mn) rfl
  have a1 := XT0.cell (i := 1) (v := .string md) rfl
  have a2 := XT0.cell (i := 2) (v := .string pn) rfl
  have a3 := XT0.cell (i := 3) (v := .string pd) rfl
  have a4 := XT0.cell (i := 4) (v := .int .i64 ct) rfl
  have am0 := XM0.cell (i := 0) (v := .string kn) rfl
  have am1 := XM0.cell (i := 1) (v := .string kd) rfl
  have HR1 : Hid (Row (((w.alloc (.cells #[.string mn, .string md, .string pn, .string pd, .int .i64 ct] 44)).alloc (.cells #[.string kn, .string kd] 34)).alloc (.cells #[.string kn, .string kd] 34)) (some ⟨w.heap.size + 2, 0, none⟩) (flatG fncells [⟨kn, kd⟩])) := Row.of XS
  have AW := awake45
  clear XT0 XM0
  clear ht1 ht2 hT g1 g3 g4 hG hr hbig XS hm hl hz s1 s3 s4 he z1 z2 z3 d1 d2 d3 d4 e1 e2 hk f13 hR el f1 f2 g1' g2 g3' zk hkd
  go_enter Tryz.func6, Tryz.ntmps6
  go_wp2_with fail
  clear a0 a1 a2 a3 a4 am0 am1
  refine KL1.step hs HR1.out ?_
  intro w1 hs hb
  replace XT := XT.on hb
  replace XM := XM.on hb
  go_wp2_with fail
  have HR2 : Hid (Row (w1.alloc (.cells #[.string u] 32)) (some ⟨w1.heap.size, 0, none⟩) ([u].map sv)) := Row.of (Bx.new w1 #[.string u] 32)
  replace XT := XT.alloc (.cells #[.string u] 32)
  replace XM := XM.alloc (.cells #[.string u] 32)
  replace hs := hs.alloc (.cells #[.string u] 32)
  refine (KL2 _).step hs HR2.out ?_
  intro w2 hs hb
  replace XT := XT.on hb
  replace XM := XM.on hb
  have t0 := XT.cell (i := 0) (v := .string mn) rfl
  have t1 := XT.cell (i := 1) (v := .string md) rfl
  have t2 := XT.cell (i := 2) (v := .string pn) rfl
  have t3 := XT.cell (i := 3) (v := .string pd) rfl
  have t4 := XT.cell (i := 4) (v := .int .i64 ct) rfl
  have m0 := XM.cell (i := 0) (v := .string kn) rfl
  have m1 := XM.cell (i := 1) (v := .string kd) rfl
  go_wp2_with fail
  refine KG.step hs (HR.out.on hs.2) ?_
  intro w3 hs hb
  clear t0 t1 t2 t3 t4 m0 m1
  replace XT := XT.on hb
  replace XM := XM.on hb
  have t0 := XT.cell (i := 0) (v := .string mn) rfl
  have t1 := XT.cell (i := 1) (v := .string md) rfl
  have t2 := XT.cell (i := 2) (v := .string pn) rfl
  have t3 := XT.cell (i := 3) (v := .string pd) rfl
  have t4 := XT.cell (i := 4) (v := .int .i64 ct) rfl
  have m0 := XM.cell (i := 0) (v := .string kn) rfl
  have m1 := XM.cell (i := 1) (v := .string kd) rfl
  go_wp2_with fail
  refine (KA.out _ hs.gl (HR.out.on hs.2)).mono ?_
  rintro e w4 ⟨va, rfl, ho, hb⟩
  replace hs := hs.on hb
  clear t0 t1 t2 t3 t4 m0 m1
  replace XT := XT.on hb
  replace XM := XM.on hb
  obtain ⟨Aa, ca, rfl, ra⟩ := ho.row
  have HRR0 := Lib.hid ra
  clear ra ho hb
  go_wp2_with fail
  refine wp_region_noPanic ?_
  refine wp_region_held_drew (S := fun w' => w'.cell? ⟨w.heap.size, 0, none⟩ = some (.string mn) ∧ w'.cell? ⟨w.heap.size, 1, none⟩ = some (.string md) ∧ w'.cell? ⟨w.heap.size, 2, none⟩ = some (.string pn) ∧ w'.cell? ⟨w.heap.size, 3, none⟩ = some (.string pd) ∧ w'.cell? ⟨w.heap.size, 4, none⟩ = some (.int .i64 ct) ∧ w'.cell? ⟨w.heap.size + 1, 0, none⟩ = some (.string kn) ∧ w'.cell? ⟨w.heap.size + 1, 1, none⟩ = some (.string kd)) (by kernel_rfl) ?_ (fun hHeld => ?_)
  · try dsimp only
    first | exact ⟨XT.cell (i := 0) rfl, XT.cell (i := 1) rfl, XT.cell (i := 2) rfl, XT.cell (i := 3) rfl, XT.cell (i := 4) rfl, XM.cell (i := 0) rfl, XM.cell (i := 1) rfl⟩ | exact ⟨XT.drew.cell (i := 0) rfl, XT.drew.cell (i := 1) rfl, XT.drew.cell (i := 2) rfl, XT.drew.cell (i := 3) rfl, XT.drew.cell (i := 4) rfl, XM.drew.cell (i := 0) rfl, XM.drew.cell (i := 1) rfl⟩
  refine wpAnyH_take (i := 0) (v := ?vv1) rfl (by kernel_rfl) (by kernel_rfl) (by kernel_rfl) (fun _ _ _ h => h) (Or.inl ⟨by rfl, ?hy1⟩) (by assumption) ?rest1
  case hy1 =>
    intro w hSw
    try dsimp only at hSw
    go_simp
    try with_reducible rfl
  try simp only [Act.put]
  try simp only [List.setIfInBounds_toArray]
  try simp only [List.set_cons_succ]
  try simp only [List.set_cons_zero]
  refine wpAnyH_take (i := 1) (v := ?vv2) rfl (by kernel_rfl) (by kernel_rfl) (by kernel_rfl) (fun _ _ _ h => h) (Or.inl ⟨by rfl, ?hy2⟩) (by assumption) ?rest2
  case hy2 =>
    intro w hSw
    try dsimp only at hSw
    go_simp
    try with_reducible rfl
  try simp only [Act.put]
  try simp only [List.setIfInBounds_toArray]
  try simp only [List.set_cons_succ]
  try simp only [List.set_cons_zero]
  refine wpAnyH_take (i := 2) (v := ?vv3) rfl (by kernel_rfl) (by kernel_rfl) (by kernel_rfl) (fun _ _ _ h => h) (Or.inl ⟨by rfl, ?hy3⟩) (by assumption) ?rest3
  case hy3 =>
    intro w hSw
    try dsimp only at hSw
    go_simp
    try with_reducible rfl
  try simp only [Act.put]
  try simp only [List.setIfInBounds_toArray]
  try simp only [List.set_cons_succ]
  try simp only [List.set_cons_zero]
  refine wpAnyH_take (i := 3) (v := ?vv4) rfl (by kernel_rfl) (by kernel_rfl) (by kernel_rfl) (fun _ _ _ h => h) (Or.inl ⟨by rfl, ?hy4⟩) (by assumption) ?rest4
  case hy4 =>
    intro w hSw
    try dsimp only at hSw
    go_simp
    try with_reducible rfl
  try simp only [Act.put]
  try simp only [List.setIfInBounds_toArray]
  try simp only [List.set_cons_succ]
  try simp only [List.set_cons_zero]
  refine wpAnyH_take (i := 4) (v := ?vv5) rfl (by kernel_rfl) (by kernel_rfl) (by kernel_rfl) (fun _ _ _ h => h) (Or.inl ⟨by rfl, ?hy5⟩) (by assumption) ?rest5
  case hy5 =>
    intro w hSw
    try dsimp only at hSw
    go_simp
    try with_reducible rfl
  try simp only [Act.put]
  try simp only [List.setIfInBounds_toArray]
  try simp only [List.set_cons_succ]
  try simp only [List.set_cons_zero]
  refine wpAnyH_take (i := 5) (v := ?vv6) rfl (by kernel_rfl) (by kernel_rfl) (by kernel_rfl) (fun _ _ _ h => h) (Or.inl ⟨by rfl, ?hy6⟩) (by assumption) ?rest6
  case hy6 =>
    intro w hSw
    try dsimp only at hSw
    go_simp
    try with_reducible rfl
  try simp only [Act.put]
  try simp only [List.setIfInBounds_toArray]
  try simp only [List.set_cons_succ]
  try simp only [List.set_cons_zero]
  refine wpAnyH_take (i := 6) (v := ?vv7) rfl (by kernel_rfl) (by kernel_rfl) (by kernel_rfl) (fun _ _ _ h => h) (Or.inl ⟨by rfl, ?hy7⟩) (by assumption) ?rest7
  case hy7 =>
    intro w hSw
    try dsimp only at hSw
    go_simp
    try with_reducible rfl
  try simp only [Act.put]
  try simp only [List.setIfInBounds_toArray]
  try simp only [List.set_cons_succ]
  try simp only [List.set_cons_zero]
  refine wpAnyH_ready (rs := [7]) (by kernel_rfl) (by simp) ?_
  refine AllReadyH.cons rfl (fun K hK => ?_) AllReadyH.nil
  go_simp
  refine (KB.out _ (by first | exact hs.drew.gl | exact hs.gl) (by first | exact HRA.out.on hs.drew.2 | exact HRA.out.on hs.2)).mono ?_
  rintro e w5 ⟨vb, rfl, how5, hbw5⟩
  first | have low5 := below_undrew hbw5 | have low5 := hbw5
  replace hs := (by first | exact hs.drew.on hbw5 | exact hs.on hbw5 : St w w5)
  have XT := (by first | exact XT.drew.on hbw5 | exact XT.on hbw5 : Bx w5 w.heap.size #[.string mn, .string md, .string pn, .string pd, .int .i64 ct])
  have XM := (by first | exact XM.drew.on hbw5 | exact XM.on hbw5 : Bx w5 (w.heap.size + 1) #[.string kn, .string kd])
  refine hK.out _ _ ?_ (fun hHeld => ?_)
  · try dsimp only
    first | exact ⟨XT.cell (i := 0) rfl, XT.cell (i := 1) rfl, XT.cell (i := 2) rfl, XT.cell (i := 3) rfl, XT.cell (i := 4) rfl, XM.cell (i := 0) rfl, XM.cell (i := 1) rfl⟩ | exact ⟨XT.drew.cell (i := 0) rfl, XT.drew.cell (i := 1) rfl, XT.drew.cell (i := 2) rfl, XT.drew.cell (i := 3) rfl, XT.drew.cell (i := 4) rfl, XM.drew.cell (i := 0) rfl, XM.drew.cell (i := 1) rfl⟩
  clear hK K
  try simp only [Act.put]
  try simp only [List.setIfInBounds_toArray]
  try simp only [List.set_cons_succ]
  try simp only [List.set_cons_zero]
  refine wpAnyH_take (i := 8) (v := ?vv8) rfl (by kernel_rfl) (by kernel_rfl) (by kernel_rfl) (fun _ _ _ h => h) (Or.inl ⟨by rfl, ?hy8⟩) (by assumption) ?rest8
  case hy8 =>
    intro w hSw
    try dsimp only at hSw
    go_simp
    try with_reducible rfl
  try simp only [Act.put]
  try simp only [List.setIfInBounds_toArray]
  try simp only [List.set_cons_succ]
  try simp only [List.set_cons_zero]
  refine wpAnyH_take (i := 9) (v := ?vv9) rfl (by kernel_rfl) (by kernel_rfl) (by kernel_rfl) (fun _ _ _ h => h) (Or.inl ⟨by rfl, ?hy9⟩) (by assumption) ?rest9
  case hy9 =>
    intro w hSw
    try dsimp only at hSw
    go_simp
    try with_reducible rfl
  try simp only [Act.put]
  try simp only [List.setIfInBounds_toArray]
  try simp only [List.set_cons_succ]
  try simp only [List.set_cons_zero]
  refine wpAnyH_take (i := 10) (v := ?vv10) rfl (by kernel_rfl) (by kernel_rfl) (by kernel_rfl) (fun _ _ _ h => h) (Or.inl ⟨by rfl, ?hy10⟩) (by assumption) ?rest10
  case hy10 =>
    intro w hSw
    try dsimp only at hSw
    go_simp
    try with_reducible rfl
  try simp only [Act.put]
  try simp only [List.setIfInBounds_toArray]
  try simp only [List.set_cons_succ]
  try simp only [List.set_cons_zero]
  refine wpAnyH_take (i := 11) (v := ?vv11) rfl (by kernel_rfl) (by kernel_rfl) (by kernel_rfl) (fun _ _ _ h => h) (Or.inl ⟨by rfl, ?hy11⟩) (by assumption) ?rest11
  case hy11 =>
    intro w hSw
    try dsimp only at hSw
    go_simp
    try with_reducible rfl
  try simp only [Act.put]
  try simp only [List.setIfInBounds_toArray]
  try simp only [List.set_cons_succ]
  try simp only [List.set_cons_zero]
  refine wpAnyH_take (i := 12) (v := ?vv12) rfl (by kernel_rfl) (by kernel_rfl) (by kernel_rfl) (fun _ _ _ h => h) (Or.inl ⟨by rfl, ?hy12⟩) (by assumption) ?rest12
  case hy12 =>
    intro w hSw
    try dsimp only at hSw
    go_simp
    try with_reducible rfl
  try simp only [Act.put]
  try simp only [List.setIfInBounds_toArray]
  try simp only [List.set_cons_succ]
  try simp only [List.set_cons_zero]
  refine wpAnyH_done (by kernel_rfl) ?_ _
  refine NoPanic.normal ?_
  obtain ⟨Af, cf, rfl, rf⟩ := how5.row
  have HRF := Lib.hid rf
  have HRR := Lib.hid (HRR0.out.on low5)
  clear how5 hbw5 low5 rf HRR0
  have m0 := XM.cell (i := 0) (v := .string kn) rfl
  have m1 := XM.cell (i := 1) (v := .string kd) rfl
  have XN := Bx.new w5 #[.string kn, .string kd] 34
  have hba : Below w5.heap.size w5 (w5.alloc (.cells #[.string kn, .string kd] 34)) := (Below.refl _ _).alloc (Nat.le_refl _) _
  have HRF1 := Lib.hid (HRF.out.on hba)
  have HRR1 := Lib.hid (HRR.out.on hba)
  have hs1 := hs.on hba
  have XT1 := XT.on hba
  have XM1 := XM.on hba
  by_cases hk0 : k = 0
  · have HK0 := Lib.hid hk0
    have qk0 : decide ((0 : Int) < (k : Int)) = false := decide_eq_false (by omega)
    have qk0n : decide (0 < k) = false := decide_eq_false (by omega)
    clear hk0
    go_wp2_with fail
    clear m0 m1 hs XT XM hba HRF HRR
    have HRF := HRF1
    have HRR := HRR1
    clear HRF1 HRR1
    generalize w5.alloc (.cells #[.string kn, .string kd] 34) = W5 at *
    generalize w5.heap.size = bn at *
    have hs := hs1
    have XT := XT1
    have XM := XM1
    have XN : Bx W5 bn #[.string fn, .string fd] := by
      have h := HF0.out HK0.out
      have := XN
      rwa [h.1, h.2] at this
    clear hs1 XT1 XM1
    refine wp_region_noPanic ?_
    refine wp_region_held_drew (S := fun w' => w'.cell? ⟨w.heap.size, 0, none⟩ = some (.string mn) ∧ w'.cell? ⟨w.heap.size, 1, none⟩ = some (.string md) ∧ w'.cell? ⟨w.heap.size, 2, none⟩ = some (.string pn) ∧ w'.cell? ⟨w.heap.size, 3, none⟩ = some (.string pd) ∧ w'.cell? ⟨w.heap.size, 4, none⟩ = some (.int .i64 ct) ∧ w'.cell? ⟨bn, 0, none⟩ = some (.string fn) ∧ w'.cell? ⟨bn, 1, none⟩ = some (.string fd)) (by kernel_rfl) ?_ (fun hHeld => ?_)
    · try dsimp only
      first | exact ⟨XT.cell (i := 0) rfl, XT.cell (i := 1) rfl, XT.cell (i := 2) rfl, XT.cell (i := 3) rfl, XT.cell (i := 4) rfl, XN.cell (i := 0) rfl, XN.cell (i := 1) rfl⟩ | exact ⟨XT.drew.cell (i := 0) rfl, XT.drew.cell (i := 1) rfl, XT.drew.cell (i := 2) rfl, XT.drew.cell (i := 3) rfl, XT.drew.cell (i := 4) rfl, XN.drew.cell (i := 0) rfl, XN.drew.cell (i := 1) rfl⟩
    refine wpAnyH_take (i := 0) (v := ?vv13) rfl (by kernel_rfl) (by kernel_rfl) (by kernel_rfl) (fun _ _ _ h => h) (Or.inl ⟨by rfl, ?hy13⟩) (by assumption) ?rest13
    case hy13 =>
      intro w hSw
      try dsimp only at hSw
      go_simp
      try with_reducible rfl
    try simp only [Act.put]
    try simp only [List.setIfInBounds_toArray]
    try simp only [List.set_cons_succ]
    try simp only [List.set_cons_zero]
    refine wpAnyH_take (i := 1) (v := ?vv14) rfl (by kernel_rfl) (by kernel_rfl) (by kernel_rfl) (fun _ _ _ h => h) (Or.inl ⟨by rfl, ?hy14⟩) (by assumption) ?rest14
    case hy14 =>
      intro w hSw
      try dsimp only at hSw
      go_simp
      try with_reducible rfl
    try simp only [Act.put]
    try simp only [List.setIfInBounds_toArray]
    try simp only [List.set_cons_succ]
    try simp only [List.set_cons_zero]
    refine wpAnyH_take (i := 2) (v := ?vv15) rfl (by kernel_rfl) (by kernel_rfl) (by kernel_rfl) (fun _ _ _ h => h) (Or.inl ⟨by rfl, ?hy15⟩) (by assumption) ?rest15
    case hy15 =>
      intro w hSw
      try dsimp only at hSw
      go_simp
      try with_reducible rfl
    try simp only [Act.put]
    try simp only [List.setIfInBounds_toArray]
    try simp only [List.set_cons_succ]
    try simp only [List.set_cons_zero]
    refine wpAnyH_take (i := 3) (v := ?vv16) rfl (by kernel_rfl) (by kernel_rfl) (by kernel_rfl) (fun _ _ _ h => h) (Or.inl ⟨by rfl, ?hy16⟩) (by assumption) ?rest16
    case hy16 =>
      intro w hSw
      try dsimp only at hSw
      go_simp
      try with_reducible rfl
    try simp only [Act.put]
    try simp only [List.setIfInBounds_toArray]
    try simp only [List.set_cons_succ]
    try simp only [List.set_cons_zero]
    refine wpAnyH_take (i := 4) (v := ?vv17) rfl (by kernel_rfl) (by kernel_rfl) (by kernel_rfl) (fun _ _ _ h => h) (Or.inl ⟨by rfl, ?hy17⟩) (by assumption) ?rest17
    case hy17 =>
      intro w hSw
      try dsimp only at hSw
      go_simp
      try with_reducible rfl
    try simp only [Act.put]
    try simp only [List.setIfInBounds_toArray]
    try simp only [List.set_cons_succ]
    try simp only [List.set_cons_zero]
    refine wpAnyH_take (i := 5) (v := ?vv18) rfl (by kernel_rfl) (by kernel_rfl) (by kernel_rfl) (fun _ _ _ h => h) (Or.inl ⟨by rfl, ?hy18⟩) (by assumption) ?rest18
    case hy18 =>
      intro w hSw
      try dsimp only at hSw
      go_simp
      try with_reducible rfl
    try simp only [Act.put]
    try simp only [List.setIfInBounds_toArray]
    try simp only [List.set_cons_succ]
    try simp only [List.set_cons_zero]
    refine wpAnyH_ready (rs := [6]) (by kernel_rfl) (by simp) ?_
    refine AllReadyH.cons rfl (fun K hK => ?_) AllReadyH.nil
    go_simp
    refine (KC.out _ (by first | exact hs.drew.gl | exact hs.gl) (by first | exact HRB.out.on hs.drew.2 | exact HRB.out.on hs.2)).mono ?_
    rintro e w6 ⟨vc, rfl, how6, hbw6⟩
    first | have low6 := below_undrew hbw6 | have low6 := hbw6
    replace hs := (by first | exact hs.drew.on hbw6 | exact hs.on hbw6 : St w w6)
    have XT := (by first | exact XT.drew.on hbw6 | exact XT.on hbw6 : Bx w6 w.heap.size #[.string mn, .string md, .string pn, .string pd, .int .i64 ct])
    have XN := (by first | exact XN.drew.on hbw6 | exact XN.on hbw6 : Bx w6 (bn) #[.string fn, .string fd])
    refine hK.out _ _ ?_ (fun hHeld => ?_)
    · try dsimp only
      first | exact ⟨XT.cell (i := 0) rfl, XT.cell (i := 1) rfl, XT.cell (i := 2) rfl, XT.cell (i := 3) rfl, XT.cell (i := 4) rfl, XN.cell (i := 0) rfl, XN.cell (i := 1) rfl⟩ | exact ⟨XT.drew.cell (i := 0) rfl, XT.drew.cell (i := 1) rfl, XT.drew.cell (i := 2) rfl, XT.drew.cell (i := 3) rfl, XT.drew.cell (i := 4) rfl, XN.drew.cell (i := 0) rfl, XN.drew.cell (i := 1) rfl⟩
    clear hK K
    try simp only [Act.put]
    try simp only [List.setIfInBounds_toArray]
    try simp only [List.set_cons_succ]
    try simp only [List.set_cons_zero]
    refine wpAnyH_take (i := 7) (v := ?vv19) rfl (by kernel_rfl) (by kernel_rfl) (by kernel_rfl) (fun _ _ _ h => h) (Or.inl ⟨by rfl, ?hy19⟩) (by assumption) ?rest19
    case hy19 =>
      intro w hSw
      try dsimp only at hSw
      go_simp
      try with_reducible rfl
    try simp only [Act.put]
    try simp only [List.setIfInBounds_toArray]
    try simp only [List.set_cons_succ]
    try simp only [List.set_cons_zero]
    refine wpAnyH_take (i := 8) (v := ?vv20) rfl (by kernel_rfl) (by kernel_rfl) (by kernel_rfl) (fun _ _ _ h => h) (Or.inl ⟨by rfl, ?hy20⟩) (by assumption) ?rest20
    case hy20 =>
      intro w hSw
      try dsimp only at hSw
      go_simp
      try with_reducible rfl
    try simp only [Act.put]
    try simp only [List.setIfInBounds_toArray]
    try simp only [List.set_cons_succ]
    try simp only [List.set_cons_zero]
    refine wpAnyH_take (i := 9) (v := ?vv21) rfl (by kernel_rfl) (by kernel_rfl) (by kernel_rfl) (fun _ _ _ h => h) (Or.inl ⟨by rfl, ?hy21⟩) (by assumption) ?rest21
    case hy21 =>
      intro w hSw
      try dsimp only at hSw
      go_simp
      try with_reducible rfl
    try simp only [Act.put]
    try simp only [List.setIfInBounds_toArray]
    try simp only [List.set_cons_succ]
    try simp only [List.set_cons_zero]
    refine wpAnyH_take (i := 10) (v := ?vv22) rfl (by kernel_rfl) (by kernel_rfl) (by kernel_rfl) (fun _ _ _ h => h) (Or.inl ⟨by rfl, ?hy22⟩) (by assumption) ?rest22
    case hy22 =>
      intro w hSw
      try dsimp only at hSw
      go_simp
      try with_reducible rfl
    try simp only [Act.put]
    try simp only [List.setIfInBounds_toArray]
    try simp only [List.set_cons_succ]
    try simp only [List.set_cons_zero]
    refine wpAnyH_take (i := 11) (v := ?vv23) rfl (by kernel_rfl) (by kernel_rfl) (by kernel_rfl) (fun _ _ _ h => h) (Or.inl ⟨by rfl, ?hy23⟩) (by assumption) ?rest23
    case hy23 =>
      intro w hSw
      try dsimp only at hSw
      go_simp
      try with_reducible rfl
    try simp only [Act.put]
    try simp only [List.setIfInBounds_toArray]
    try simp only [List.set_cons_succ]
    try simp only [List.set_cons_zero]
    refine wpAnyH_done (by kernel_rfl) ?_ _
    refine NoPanic.normal ?_
    obtain ⟨Ac, cc, rfl, rc⟩ := how6.row
    have HFS := Lib.hid (And.intro (HRF.out.on low6) rc)
    have HRA6 := Lib.hid (HRR.out.on low6)
    have XM := XM.on low6
    clear how6 hbw6 low6 rc HRF HRR
    go_wp2_with fail
    have KCC := concatC (A := Af) (A' := Ac) (p := k) (q := N - k) (c := cf) (c' := cc) (bb := w6.heap.size) HLF.out HLS.out (by omega) (by omega) (w6.alloc (.cells #[.slice Af k cf, .slice Ac (N - k) cc] 49)) (hs.alloc _).gl (Bx.new w6 _ 49) (HFS.out.1.on ((Below.refl _ _).alloc (Nat.le_refl _) _)) (HFS.out.2.on ((Below.refl _ _).alloc (Nat.le_refl _) _))
    rw [HG2.out, show k + (N - k) = N by omega] at KCC
    refine KCC.mono ?_
    rintro e w7 ⟨vd, rfl, ho, hb⟩
    have HRA7 := Lib.hid ((HRA6.out.on ((Below.refl _ _).alloc (Nat.le_refl _) (.cells #[.slice Af k cf, .slice Ac (N - k) cc] 49))).on hb)
    replace hs := (hs.alloc (.cells #[.slice Af k cf, .slice Ac (N - k) cc] 49)).on hb
    replace XT := (XT.alloc (.cells #[.slice Af k cf, .slice Ac (N - k) cc] 49)).on hb
    replace XM := (XM.alloc (.cells #[.slice Af k cf, .slice Ac (N - k) cc] 49)).on hb
    obtain ⟨Ad, cd', rfl, rd⟩ := ho.row
    have KE := equalC (A := Ad) (A' := Aa) (c := cd') (c' := ca) HLR.out (by omega)
    have HEI := Lib.hid (And.intro rd HRA7.out)
    clear rd ho hb HFS HRA6 HRA7 KCC XN
    go_wp2_with fail
    refine KE.step hs HEI.out ?_
    intro w8 hs hb
    have HR8 := Lib.hid (HEI.out.2.on hb)
    replace XT := XT.on hb
    replace XM := XM.on hb
    have m0 := XM.cell (i := 0) (v := .string kn) rfl
    have m1 := XM.cell (i := 1) (v := .string kd) rfl
    go_wp2_with fail
    clear m0 m1 KE HEI
    have HEND : Hid (Below w8.heap.size w8 (w8.alloc (.cells #[.string kn, .string kd] 34)) ∧ Bx (w8.alloc (.cells #[.string kn, .string kd] 34)) w8.heap.size #[.string (frN (markK (⟨mn, md, pn, pd, ct⟩ : TermS) (valS u) (ratV kn kd) L 0)), .string (frD (markK (⟨mn, md, pn, pd, ct⟩ : TermS) (valS u) (ratV kn kd) L 0))]) := by
      refine ⟨(Below.refl _ _).alloc (Nat.le_refl _) _, ?_⟩
      have e1 : frN (markK (⟨mn, md, pn, pd, ct⟩ : TermS) (valS u) (ratV kn kd) L 0) = kn := by rw [HM0.out]; exact HKM.out.1.symm
      have e2 : frD (markK (⟨mn, md, pn, pd, ct⟩ : TermS) (valS u) (ratV kn kd) L 0) = kd := by rw [HM0.out]; exact HKM.out.2.symm
      rw [e1, e2]
      exact Bx.new w8 #[.string kn, .string kd] 34
    have hsX := hs
    have XTX := XT
    have HRX := HR8
    clear hs XT XM hb HR8
    generalize w8 = W19 at *
    go_loopw [130] (fun s wr => ∃ i : Nat, i ≤ N ∧ s = .int .i64 (i : Int) ∧ Below W19.heap.size W19 wr ∧ Bx wr W19.heap.size #[.string (frN (markK (⟨mn, md, pn, pd, ct⟩ : TermS) (valS u) (ratV kn kd) L i)), .string (frD (markK (⟨mn, md, pn, pd, ct⟩ : TermS) (valS u) (ratV kn kd) L i))]) (fun s _ => (N - intOf s).toNat)
    case atStart => exact ⟨0, by omega, rfl, HEND.out.1, HEND.out.2⟩
    case round =>
      clear HEND
      obtain ⟨i, hi, rfl, low, XB⟩ := hrel
      have hs := hsX.on low
      have XT := XTX.on low
      by_cases hin : i = N
      · subst hin
        have q : decide ((i : Int) < (i : Int)) = false := decide_eq_false (by omega)
        go_wp2_with fail
        refine AW.step hs ?_
        intro w9 hs hb
        go_wp2_with fail
        go_ret
        exact ⟨rfl, hs.2⟩
      · have hil : i < N := by omega
        have q : decide ((i : Int) < (N : Int)) = true := decide_eq_true (by omega)
        have qn : decide (i < N) = true := decide_eq_true (by omega)
        obtain ⟨od, hod⟩ : ∃ d, L[i]? = some d := ⟨L[i]'(by rw [HN.out]; omega), by simp⟩
        obtain ⟨pt, hpt⟩ : ∃ d, L[i + 1]? = some d := ⟨L[i + 1]'(by rw [HN.out]; omega), by simp⟩
        obtain ⟨b', o', hA, hbl, hcO⟩ := row_at (cs := ptcells) (m := 3) ptcells_lenS (by decide) (HR.out.on hs.2) hod
        obtain ⟨rfl, rfl⟩ : b = b' ∧ o = o' := by injection hA with hA; injection hA with h1 h2; exact ⟨h1, h2⟩
        obtain ⟨b', o', hA2, _, hcP⟩ := row_at (cs := ptcells) (m := 3) ptcells_lenS (by decide) (HR.out.on hs.2) hpt
        obtain ⟨rfl, rfl⟩ : b = b' ∧ o = o' := by injection hA2 with hA2; injection hA2 with h1 h2; exact ⟨h1, h2⟩
        obtain ⟨bR, oR, hAa, hbR, hcR⟩ := row_at (cs := chcells) (m := 5) chcells_len (by decide) (HRX.out.on low) (HCK.out i hil)
        subst hAa
        have zo := HL.out od (List.mem_of_getElem? hod)
        have zp := HL.out pt (List.mem_of_getElem? hpt)
        have fe := HFE.out i od pt hod hpt
        obtain ⟨x1, x2, x3, x4, x5, x6⟩ := fe
        rw [x6] at hcR
        have fM := mgI_fit HZ.out zo.1 od.day pt.day
        have KM := man_any HZ.out (v := od.v) (by omega) od.day pt.day
        rw [x1, x2] at KM
        have KS := SubR (Vs.arg (s := pt.v) (by omega)) (Vs.can fM (by omega))
        have fS := (Fit.subI (k := 13) (m := 40) (Fit.val zp.1) fM (by omega)).size
        have zi := HMF.out i (by omega)
        have KP := pft_any HZ.out (v := canS (valS pt.v - mgI (valS od.v) (TermS.m (⟨mn, md, pn, pd, ct⟩ : TermS)) ct od.day pt.day)) (u := u) (kn := frN (markK (⟨mn, md, pn, pd, ct⟩ : TermS) (valS u) (ratV kn kd) L i)) (kd := frD (markK (⟨mn, md, pn, pd, ct⟩ : TermS) (valS u) (ratV kn kd) L i)) (Nat.le_trans fS (by omega)) (by have := HS1.out; omega) (by omega) (by omega)
        rw [x3, x4, x5] at KP
        unfold FV FR tval at *
        dsimp only at KM KS KP hcR
        clear fM fS zo zp zi hod hpt hA hA2 x1 x2 x3 x4 x5 x6 hin
        generalize canS (pfI (valS pt.v - mgI (valS od.v) (TermS.m (⟨mn, md, pn, pd, ct⟩ : TermS)) ct od.day pt.day) (TermS.p (⟨mn, md, pn, pd, ct⟩ : TermS)) (valS u) (markK (⟨mn, md, pn, pd, ct⟩ : TermS) (valS u) (ratV kn kd) L i)) = pf at *
        generalize canS (valS pt.v - mgI (valS od.v) (TermS.m (⟨mn, md, pn, pd, ct⟩ : TermS)) ct od.day pt.day) = rs at *
        generalize canS (mgI (valS od.v) (TermS.m (⟨mn, md, pn, pd, ct⟩ : TermS)) ct od.day pt.day) = mg at *
        obtain ⟨an, han⟩ : ∃ y, frN (markK (⟨mn, md, pn, pd, ct⟩ : TermS) (valS u) (ratV kn kd) L i) = y := ⟨_, rfl⟩
        obtain ⟨ad, had⟩ : ∃ y, frD (markK (⟨mn, md, pn, pd, ct⟩ : TermS) (valS u) (ratV kn kd) L i) = y := ⟨_, rfl⟩
        obtain ⟨qn', hqn⟩ : ∃ y, frN (markK (⟨mn, md, pn, pd, ct⟩ : TermS) (valS u) (ratV kn kd) L (i + 1)) = y := ⟨_, rfl⟩
        obtain ⟨qd', hqd⟩ : ∃ y, frD (markK (⟨mn, md, pn, pd, ct⟩ : TermS) (valS u) (ratV kn kd) L (i + 1)) = y := ⟨_, rfl⟩
        rw [han, had] at KP XB
        rw [hqn, hqd] at KP hcR
        have HQN : Hid (frN (markK (⟨mn, md, pn, pd, ct⟩ : TermS) (valS u) (ratV kn kd) L (i + 1)) = qn' ∧ frD (markK (⟨mn, md, pn, pd, ct⟩ : TermS) (valS u) (ratV kn kd) L (i + 1)) = qd') := ⟨hqn, hqd⟩
        clear han had hqn hqd
        obtain ⟨o0, o1, o2⟩ := od
        obtain ⟨e0, e1, e2⟩ := pt
        dsimp only at KM KS KP hcR
        have HCO : Hid (∀ W, Below wr.heap.size wr W → W.cell? ⟨b, o + i * 3, none⟩ = some (.int .i64 o0) ∧ W.cell? ⟨b, o + i * 3 + 1, none⟩ = some (.string o1) ∧ W.cell? ⟨b, o + (i + 1) * 3, none⟩ = some (.int .i64 e0) ∧ W.cell? ⟨b, o + (i + 1) * 3 + 1, none⟩ = some (.string e1)) := fun W hW =>
          ⟨(hW.cell (p := ⟨b, o + i * 3, none⟩) hbl).trans (hcO 0 _ rfl), (hW.cell (p := ⟨b, o + i * 3 + 1, none⟩) hbl).trans (hcO 1 _ rfl), (hW.cell (p := ⟨b, o + (i + 1) * 3, none⟩) hbl).trans (hcP 0 _ rfl), (hW.cell (p := ⟨b, o + (i + 1) * 3 + 1, none⟩) hbl).trans (hcP 1 _ rfl)⟩
        have c0 : wr.cell? ⟨bR, oR + i * 5, none⟩ = some (.int .i64 e0) := hcR 0 _ rfl
        have c1 : wr.cell? ⟨bR, oR + i * 5 + 1, none⟩ = some (.string mg) := hcR 1 _ rfl
        have c2 : wr.cell? ⟨bR, oR + i * 5 + 2, none⟩ = some (.string pf) := hcR 2 _ rfl
        have c3 : wr.cell? ⟨bR, oR + i * 5 + 3, none⟩ = some (.string qn') := hcR 3 _ rfl
        have c4 : wr.cell? ⟨bR, oR + i * 5 + 4, none⟩ = some (.string qd') := hcR 4 _ rfl
        clear hcO hcP hcR
        have q2 : decide ((i : Int) + 1 < ((N : Int) + 1)) = true := decide_eq_true (by omega)
        have q3 : decide ((i : Int) < ((N : Int) + 1)) = true := decide_eq_true (by omega)
        have q4 : decide (i + 1 < N + 1) = true := decide_eq_true (by omega)
        have q5 : decide (i < N + 1) = true := decide_eq_true (by omega)
        have hsz : W19.heap.size ≤ wr.heap.size := low.size
        have iw : IntKind.i64.wrap ((i : Int) + 1) = (i : Int) + 1 := IntWalk.i64_in _ (by omega)
        have ip : (0 : Int) ≤ (i : Int) + 1 := by omega
        have il : (i : Int) + 1 < (N : Int) + 1 := by omega
        have itn : ((i : Int) + 1).toNat = i + 1 := by omega
        have ltB := XB.lt
        go_wp2_with fail
        clear c0 c1 c2 c3 c4
        have XC := Bx.new wr #[.int .i64 e0, .string mg, .string pf, .string qn', .string qd'] 57
        have hba : Below wr.heap.size wr (wr.alloc (.cells #[.int .i64 e0, .string mg, .string pf, .string qn', .string qd'] 57)) := (Below.refl _ _).alloc (Nat.le_refl _) _
        have low2 := low.trans (hba.mono low.size)
        have HCO2 := Lib.hid (fun W (hW : Below (wr.alloc (.cells #[.int .i64 e0, .string mg, .string pf, .string qn', .string qd'] 57)).heap.size (wr.alloc (.cells #[.int .i64 e0, .string mg, .string pf, .string qn', .string qd'] 57)) W) => HCO.out W (hba.trans (hW.mono hba.size)))
        have hs2 := hs.on hba
        have XT2 := XT.on hba
        have XB2 := XB.on hba
        clear low hs XT XB hba HCO
        generalize wr.alloc (.cells #[.int .i64 e0, .string mg, .string pf, .string qn', .string qd'] 57) = W3 at *
        generalize wr.heap.size = bC at *
        have hk1 := fun u : Kept W3 => (HCO2.out _ u.low).1
        have hk2 := fun u : Kept W3 => (HCO2.out _ u.low).2.1
        have hk3 := fun u : Kept W3 => (HCO2.out _ u.low).2.2.1
        have kt0 := XT2.keeps (i := 0) (v := .string mn) rfl
        have kt1 := XT2.keeps (i := 1) (v := .string md) rfl
        have kt2 := XT2.keeps (i := 2) (v := .string pn) rfl
        have kt3 := XT2.keeps (i := 3) (v := .string pd) rfl
        have kt4 := XT2.keeps (i := 4) (v := .int .i64 ct) rfl
        refine wp_region_kept (by kernel_rfl) (by kernel_rfl) ?_
        repeat (go_big_quiet_step (first | (with_reducible exact KM.kept hs2)))
        refine wpQuiet_nil ?_
        rintro _ ⟨u4, rfl⟩
        have hs4 := hs2.kept u4
        have XT4 := XT2.kept u4
        have XB4 := XB2.kept u4
        have XC4 := XC.kept u4
        have low4 := low2.trans (u4.low.mono low2.size)
        have HCO4 := Lib.hid (fun W (hW : Below u4.W.heap.size u4.W W) => HCO2.out W (u4.low.trans (hW.mono u4.low.size)))
        clear hk1 hk2 hk3 kt0 kt1 kt2 kt3 kt4 hs2 XT2 XB2 XC low2 HCO2
        generalize u4.W = W4 at *
        clear u4
        go_upto_region 23 with (fail)
        go_cut [24, 25, 26] (fun s p e wx => ∃ bz, s = .string pf ∧ p = .pointer (some ⟨bz, 0, none⟩) ∧ e = .int .i64 0 ∧ Hid (Pk W4 wx bz #[.string qn', .string qd']))
        case first =>
          have HSOK : Hid (∀ W, Below W4.heap.size W4 W → W.cell? ⟨w.heap.size, 0, none⟩ = some (.string mn) ∧ W.cell? ⟨w.heap.size, 1, none⟩ = some (.string md) ∧ W.cell? ⟨w.heap.size, 2, none⟩ = some (.string pn) ∧ W.cell? ⟨w.heap.size, 3, none⟩ = some (.string pd) ∧ W.cell? ⟨w.heap.size, 4, none⟩ = some (.int .i64 ct) ∧ W.cell? ⟨W19.heap.size, 0, none⟩ = some (.string an) ∧ W.cell? ⟨W19.heap.size, 1, none⟩ = some (.string ad) ∧ W.cell? ⟨b, o + (i + 1) * 3 + 1, none⟩ = some (.string e1)) := fun W hb => ⟨(XT4.on hb).cell (i := 0) (v := .string mn) rfl, (XT4.on hb).cell (i := 1) (v := .string md) rfl, (XT4.on hb).cell (i := 2) (v := .string pn) rfl, (XT4.on hb).cell (i := 3) (v := .string pd) rfl, (XT4.on hb).cell (i := 4) (v := .int .i64 ct) rfl, (XB4.on hb).cell (i := 0) (v := .string an) rfl, (XB4.on hb).cell (i := 1) (v := .string ad) rfl, (HCO4.out _ hb).2.2.2⟩
          have e3 : W4.drew.heap.size = W4.heap.size := rfl
          have low0 : Below W4.heap.size W4 W4 := Below.refl _ _
          have sX := HSOK.out _ low0
          go_region_held3 (fun w' => w'.cell? ⟨w.heap.size, 0, none⟩ = some (.string mn) ∧ w'.cell? ⟨w.heap.size, 1, none⟩ = some (.string md) ∧ w'.cell? ⟨w.heap.size, 2, none⟩ = some (.string pn) ∧ w'.cell? ⟨w.heap.size, 3, none⟩ = some (.string pd) ∧ w'.cell? ⟨w.heap.size, 4, none⟩ = some (.int .i64 ct) ∧ w'.cell? ⟨W19.heap.size, 0, none⟩ = some (.string an) ∧ w'.cell? ⟨W19.heap.size, 1, none⟩ = some (.string ad) ∧ w'.cell? ⟨b, o + (i + 1) * 3 + 1, none⟩ = some (.string e1))
            (first
              | (with_reducible exact sB)
              | (with_reducible exact sA)
              | (with_reducible exact sX)
              | exact HSOK.out _ (lowB.alloc lowB.size _)
              | exact HSOK.out _ (lowA.alloc lowA.size _)
              | exact HSOK.out _ (low0.alloc low0.size _)
              | exact HSOK.out _ low0.drew
              | exact HSOK.out _ (low0.alloc low0.size _).drew
              | exact HSOK.out _ (low0.drew.alloc low0.drew.size _)
              | exact HSOK.out _ (pk_set ZZ qn' qd').low
              | exact HSOK.out _ (pk_set (pk_new lowB) qn' qd').low
              | exact HSOK.out _ (pk_alloc (n := qn') (d := qd') lowB).low
              | (go_keep; done))
            (first
              | (go_at_call 31
                 with_reducible refine KS.step (by first | with_reducible exact hs4.drew | with_reducible exact hs4 | with_reducible exact (hs4.alloc _).drew | with_reducible exact hs4.alloc _) ?_
                 intro wA hsA hbA
                 have lowA : Below W4.heap.size W4 wA := (by first | with_reducible exact low0.trans (hbA.mono low0.size) | exact low0.drew.trans (hbA.mono low0.drew.size) | exact (low0.alloc low0.size _).trans (hbA.mono (by rw [World.size_alloc]; have := low0.size; omega)) | exact (low0.alloc low0.size _).drew.trans (hbA.mono (by show _ ≤ (World.alloc _ _).heap.size; rw [World.size_alloc]; have := low0.size; omega)))
                 have sA := HSOK.out _ lowA
                 (first | have ZZ := pk_on ZZ hbA | have ZZ := pk_on (pk_new low0) hbA | have ZZ := pk_on (pk_drew (pk_new low0)) hbA | skip)
                 (try have zz0 := ZZ.z.cell (i := 0) (v := .string ⟨#[]⟩) rfl)
                 (try have zz1 := ZZ.z.cell (i := 1) (v := .string ⟨#[]⟩) rfl)
                 (try have zf0 := ZZ.z.frozen 0)
                 (try have zf1 := ZZ.z.frozen 1))
              | (go_at_call 30
                 with_reducible refine KP.step (by first | with_reducible exact hsA.drew | with_reducible exact hsA | with_reducible exact (hsA.alloc _).drew | with_reducible exact hsA.alloc _) ?_
                 intro wB hsB hbB
                 have lowB : Below W4.heap.size W4 wB := (by first | with_reducible exact lowA.trans (hbB.mono lowA.size) | exact lowA.drew.trans (hbB.mono lowA.drew.size) | exact (lowA.alloc lowA.size _).trans (hbB.mono (by rw [World.size_alloc]; have := lowA.size; omega)) | exact (lowA.alloc lowA.size _).drew.trans (hbB.mono (by show _ ≤ (World.alloc _ _).heap.size; rw [World.size_alloc]; have := lowA.size; omega)))
                 have sB := HSOK.out _ lowB
                 (first | have ZZ := pk_on ZZ hbB | have ZZ := pk_on (pk_new lowA) hbB | have ZZ := pk_on (pk_drew (pk_new lowA)) hbB | skip)
                 (try have zz0 := ZZ.z.cell (i := 0) (v := .string ⟨#[]⟩) rfl)
                 (try have zz1 := ZZ.z.cell (i := 1) (v := .string ⟨#[]⟩) rfl)
                 (try have zf0 := ZZ.z.frozen 0)
                 (try have zf1 := ZZ.z.frozen 1)))
          all_goals
            first
              | (have P := pk_set (bz := wA.heap.size) ZZ qn' qd'; generalize (wB.setCell ⟨wA.heap.size, 0, none⟩ (.string qn')).setCell ⟨wA.heap.size, 1, none⟩ (.string qd') = W6 at P ⊢; generalize wA.heap.size = bz at P ⊢)
              | (have P := pk_set (bz := W4.heap.size) ZZ qn' qd'; generalize (wB.setCell ⟨W4.heap.size, 0, none⟩ (.string qn')).setCell ⟨W4.heap.size, 1, none⟩ (.string qd') = W6 at P ⊢; generalize W4.heap.size = bz at P ⊢)
              | (have P := pk_alloc (n := qn') (d := qd') lowB; generalize wB.alloc (.cells #[.string qn', .string qd'] 34) = W6 at P ⊢; generalize wB.heap.size = bz at P ⊢)
          all_goals
            go_wp2_with fail
            go_meet
            exact ⟨_, rfl, rfl, rfl, P⟩
        case rest =>
        obtain ⟨b25, rfl, rfl, rfl, P⟩ := hcut
        have X6 := P.out.z
        have lowv := P.out.low
        have XC6 := XC4.on lowv
        have XB6 := XB4.on lowv
        have x6 := (HCO4.out _ lowv).2.2.1
        have low6 := low4.trans (lowv.mono low4.size)
        have ltB6 := XB4.lt
        clear P lowv low4 hs4 XT4 XB4 XC4 HCO4 KS KP KM
        generalize wc = W6 at *
        have p0 := X6.cell (i := 0) (v := .string qn') rfl
        have p1 := X6.cell (i := 1) (v := .string qd') rfl
        have y0 := XC6.cell (i := 0) (v := .int .i64 e0) rfl
        have y1 := XC6.cell (i := 1) (v := .string mg) rfl
        have y2 := XC6.cell (i := 2) (v := .string pf) rfl
        have y3 := XC6.cell (i := 3) (v := .string qn') rfl
        have y4 := XC6.cell (i := 4) (v := .string qd') rfl
        have n0 := XB6.cell (i := 0) (v := .string an) rfl
        have n1 := XB6.cell (i := 1) (v := .string ad) rfl
        have g0 := XB6.frozen 0
        have g1 := XB6.frozen 1
        go_wp2_with fail
        go_quiet (fail)
        go_wp2_with fail
        go_roundw
        case rel =>
          refine ⟨i + 1, by omega, by go_num, ((low6.trans ((below_drewN _ _ _).mono low6.size)).setCell (p := ⟨W19.heap.size, 0, none⟩) (Nat.le_refl _) _).setCell (p := ⟨W19.heap.size, 1, none⟩) (Nat.le_refl _) _, ?_⟩
          rw [HQN.out.1, HQN.out.2]
          exact ((XB6.on (below_drewN _ _ _)).set 0 (.string qn')).set 1 (.string qd')
        case measure => simp [intOf]; omega
  · obtain ⟨j, hj⟩ : ∃ j, j + 1 = k := ⟨k - 1, by omega⟩
    have qk0 : decide ((0 : Int) < (k : Int)) = true := decide_eq_true (by omega)
    have qk0n : decide (0 < k) = true := decide_eq_true (by omega)
    obtain ⟨ck, hck', hm1, hm2⟩ := HFM.out j hj
    obtain ⟨bF, oF, hAf, hbF, hcF⟩ := row_at (cs := chcells) (m := 5) chcells_len (by decide) HRF1.out hck'
    subst hAf
    obtain ⟨y0, y1, y2, y3, y4⟩ := ck
    dsimp only at hm1 hm2
    have x3 : (w5.alloc (.cells #[.string kn, .string kd] 34)).cell? ⟨bF, oF + j * 5 + 3, none⟩ = some (.string fn) := by rw [← hm1]; exact hcF 3 _ rfl
    have x4 : (w5.alloc (.cells #[.string kn, .string kd] 34)).cell? ⟨bF, oF + j * 5 + 4, none⟩ = some (.string fd) := by rw [← hm2]; exact hcF 4 _ rfl
    have ej : (k : Int) - 1 = (j : Int) := by omega
    have qj1 : decide ((j : Int) < (k : Int)) = true := decide_eq_true (by omega)
    have qj2 : decide (j < k) = true := decide_eq_true (by omega)
    have f0 := XN.frozen 0
    have f1 := XN.frozen 1
    have n0 := XN.cell (i := 0) (v := .string kn) rfl
    have n1 := XN.cell (i := 1) (v := .string kd) rfl
    have hbn : Below w5.heap.size w5 (w5.alloc (.cells #[.string fn, .string fd] 34)) := (Below.refl _ _).alloc (Nat.le_refl _) _
    clear hcF hck' hk0 hs1 XT1 XM1 hba HRF1 HRR1 hm1 hm2
    go_wp2_with fail
    clear x3 x4 f0 f1 n0 n1 m0 m1
    replace hs := hs.on hbn
    replace XT := XT.on hbn
    replace XM := XM.on hbn
    have HRF := Lib.hid (HRF.out.on hbn)
    have HRR := Lib.hid (HRR.out.on hbn)
    have XN := Bx.new w5 #[.string fn, .string fd] 34
    clear hbn
    generalize w5.alloc (.cells #[.string fn, .string fd] 34) = W5 at *
    generalize w5.heap.size = bn at *
    obtain ⟨Af, hAf⟩ : ∃ A, A = some (⟨bF, oF, none⟩ : Addr) := ⟨_, rfl⟩
    rw [← hAf] at HRF ⊢
    clear hAf
    refine wp_region_noPanic ?_
    refine wp_region_held_drew (S := fun w' => w'.cell? ⟨w.heap.size, 0, none⟩ = some (.string mn) ∧ w'.cell? ⟨w.heap.size, 1, none⟩ = some (.string md) ∧ w'.cell? ⟨w.heap.size, 2, none⟩ = some (.string pn) ∧ w'.cell? ⟨w.heap.size, 3, none⟩ = some (.string pd) ∧ w'.cell? ⟨w.heap.size, 4, none⟩ = some (.int .i64 ct) ∧ w'.cell? ⟨bn, 0, none⟩ = some (.string fn) ∧ w'.cell? ⟨bn, 1, none⟩ = some (.string fd)) (by kernel_rfl) ?_ (fun hHeld => ?_)
    · try dsimp only
      first | exact ⟨XT.cell (i := 0) rfl, XT.cell (i := 1) rfl, XT.cell (i := 2) rfl, XT.cell (i := 3) rfl, XT.cell (i := 4) rfl, XN.cell (i := 0) rfl, XN.cell (i := 1) rfl⟩ | exact ⟨XT.drew.cell (i := 0) rfl, XT.drew.cell (i := 1) rfl, XT.drew.cell (i := 2) rfl, XT.drew.cell (i := 3) rfl, XT.drew.cell (i := 4) rfl, XN.drew.cell (i := 0) rfl, XN.drew.cell (i := 1) rfl⟩
    refine wpAnyH_take (i := 0) (v := ?vv24) rfl (by kernel_rfl) (by kernel_rfl) (by kernel_rfl) (fun _ _ _ h => h) (Or.inl ⟨by rfl, ?hy24⟩) (by assumption) ?rest24
    case hy24 =>
      intro w hSw
      try dsimp only at hSw
      go_simp
      try with_reducible rfl
    try simp only [Act.put]
    try simp only [List.setIfInBounds_toArray]
    try simp only [List.set_cons_succ]
    try simp only [List.set_cons_zero]
    refine wpAnyH_take (i := 1) (v := ?vv25) rfl (by kernel_rfl) (by kernel_rfl) (by kernel_rfl) (fun _ _ _ h => h) (Or.inl ⟨by rfl, ?hy25⟩) (by assumption) ?rest25
    case hy25 =>
      intro w hSw
      try dsimp only at hSw
      go_simp
      try with_reducible rfl
    try simp only [Act.put]
    try simp only [List.setIfInBounds_toArray]
    try simp only [List.set_cons_succ]
    try simp only [List.set_cons_zero]
    refine wpAnyH_take (i := 2) (v := ?vv26) rfl (by kernel_rfl) (by kernel_rfl) (by kernel_rfl) (fun _ _ _ h => h) (Or.inl ⟨by rfl, ?hy26⟩) (by assumption) ?rest26
    case hy26 =>
      intro w hSw
      try dsimp only at hSw
      go_simp
      try with_reducible rfl
    try simp only [Act.put]
    try simp only [List.setIfInBounds_toArray]
    try simp only [List.set_cons_succ]
    try simp only [List.set_cons_zero]
    refine wpAnyH_take (i := 3) (v := ?vv27) rfl (by kernel_rfl) (by kernel_rfl) (by kernel_rfl) (fun _ _ _ h => h) (Or.inl ⟨by rfl, ?hy27⟩) (by assumption) ?rest27
    case hy27 =>
      intro w hSw
      try dsimp only at hSw
      go_simp
      try with_reducible rfl
    try simp only [Act.put]
    try simp only [List.setIfInBounds_toArray]
    try simp only [List.set_cons_succ]
    try simp only [List.set_cons_zero]
    refine wpAnyH_take (i := 4) (v := ?vv28) rfl (by kernel_rfl) (by kernel_rfl) (by kernel_rfl) (fun _ _ _ h => h) (Or.inl ⟨by rfl, ?hy28⟩) (by assumption) ?rest28
    case hy28 =>
      intro w hSw
      try dsimp only at hSw
      go_simp
      try with_reducible rfl
    try simp only [Act.put]
    try simp only [List.setIfInBounds_toArray]
    try simp only [List.set_cons_succ]
    try simp only [List.set_cons_zero]
    refine wpAnyH_take (i := 5) (v := ?vv29) rfl (by kernel_rfl) (by kernel_rfl) (by kernel_rfl) (fun _ _ _ h => h) (Or.inl ⟨by rfl, ?hy29⟩) (by assumption) ?rest29
    case hy29 =>
      intro w hSw
      try dsimp only at hSw
      go_simp
      try with_reducible rfl
    try simp only [Act.put]
    try simp only [List.setIfInBounds_toArray]
    try simp only [List.set_cons_succ]
    try simp only [List.set_cons_zero]
    refine wpAnyH_ready (rs := [6]) (by kernel_rfl) (by simp) ?_
    refine AllReadyH.cons rfl (fun K hK => ?_) AllReadyH.nil
    go_simp
    refine (KC.out _ (by first | exact hs.drew.gl | exact hs.gl) (by first | exact HRB.out.on hs.drew.2 | exact HRB.out.on hs.2)).mono ?_
    rintro e w6 ⟨vc, rfl, how6, hbw6⟩
    first | have low6 := below_undrew hbw6 | have low6 := hbw6
    replace hs := (by first | exact hs.drew.on hbw6 | exact hs.on hbw6 : St w w6)
    have XT := (by first | exact XT.drew.on hbw6 | exact XT.on hbw6 : Bx w6 w.heap.size #[.string mn, .string md, .string pn, .string pd, .int .i64 ct])
    have XN := (by first | exact XN.drew.on hbw6 | exact XN.on hbw6 : Bx w6 (bn) #[.string fn, .string fd])
    refine hK.out _ _ ?_ (fun hHeld => ?_)
    · try dsimp only
      first | exact ⟨XT.cell (i := 0) rfl, XT.cell (i := 1) rfl, XT.cell (i := 2) rfl, XT.cell (i := 3) rfl, XT.cell (i := 4) rfl, XN.cell (i := 0) rfl, XN.cell (i := 1) rfl⟩ | exact ⟨XT.drew.cell (i := 0) rfl, XT.drew.cell (i := 1) rfl, XT.drew.cell (i := 2) rfl, XT.drew.cell (i := 3) rfl, XT.drew.cell (i := 4) rfl, XN.drew.cell (i := 0) rfl, XN.drew.cell (i := 1) rfl⟩
    clear hK K
    try simp only [Act.put]
    try simp only [List.setIfInBounds_toArray]
    try simp only [List.set_cons_succ]
    try simp only [List.set_cons_zero]
    refine wpAnyH_take (i := 7) (v := ?vv30) rfl (by kernel_rfl) (by kernel_rfl) (by kernel_rfl) (fun _ _ _ h => h) (Or.inl ⟨by rfl, ?hy30⟩) (by assumption) ?rest30
    case hy30 =>
      intro w hSw
      try dsimp only at hSw
      go_simp
      try with_reducible rfl
    try simp only [Act.put]
    try simp only [List.setIfInBounds_toArray]
    try simp only [List.set_cons_succ]
    try simp only [List.set_cons_zero]
    refine wpAnyH_take (i := 8) (v := ?vv31) rfl (by kernel_rfl) (by kernel_rfl) (by kernel_rfl) (fun _ _ _ h => h) (Or.inl ⟨by rfl, ?hy31⟩) (by assumption) ?rest31
    case hy31 =>
      intro w hSw
      try dsimp only at hSw
      go_simp
      try with_reducible rfl
    try simp only [Act.put]
    try simp only [List.setIfInBounds_toArray]
    try simp only [List.set_cons_succ]
    try simp only [List.set_cons_zero]
    refine wpAnyH_take (i := 9) (v := ?vv32) rfl (by kernel_rfl) (by kernel_rfl) (by kernel_rfl) (fun _ _ _ h => h) (Or.inl ⟨by rfl, ?hy32⟩) (by assumption) ?rest32
    case hy32 =>
      intro w hSw
      try dsimp only at hSw
      go_simp
      try with_reducible rfl
    try simp only [Act.put]
    try simp only [List.setIfInBounds_toArray]
    try simp only [List.set_cons_succ]
    try simp only [List.set_cons_zero]
    refine wpAnyH_take (i := 10) (v := ?vv33) rfl (by kernel_rfl) (by kernel_rfl) (by kernel_rfl) (fun _ _ _ h => h) (Or.inl ⟨by rfl, ?hy33⟩) (by assumption) ?rest33
    case hy33 =>
      intro w hSw
      try dsimp only at hSw
      go_simp
      try with_reducible rfl
    try simp only [Act.put]
    try simp only [List.setIfInBounds_toArray]
    try simp only [List.set_cons_succ]
    try simp only [List.set_cons_zero]
    refine wpAnyH_take (i := 11) (v := ?vv34) rfl (by kernel_rfl) (by kernel_rfl) (by kernel_rfl) (fun _ _ _ h => h) (Or.inl ⟨by rfl, ?hy34⟩) (by assumption) ?rest34
    case hy34 =>
      intro w hSw
      try dsimp only at hSw
      go_simp
      try with_reducible rfl
    try simp only [Act.put]
    try simp only [List.setIfInBounds_toArray]
    try simp only [List.set_cons_succ]
    try simp only [List.set_cons_zero]
    refine wpAnyH_done (by kernel_rfl) ?_ _
    refine NoPanic.normal ?_
    obtain ⟨Ac, cc, rfl, rc⟩ := how6.row
    have HFS := Lib.hid (And.intro (HRF.out.on low6) rc)
    have HRA6 := Lib.hid (HRR.out.on low6)
    have XM := XM.on low6
    clear how6 hbw6 low6 rc HRF HRR
    go_wp2_with fail
    have KCC := concatC (A := Af) (A' := Ac) (p := k) (q := N - k) (c := cf) (c' := cc) (bb := w6.heap.size) HLF.out HLS.out (by omega) (by omega) (w6.alloc (.cells #[.slice Af k cf, .slice Ac (N - k) cc] 49)) (hs.alloc _).gl (Bx.new w6 _ 49) (HFS.out.1.on ((Below.refl _ _).alloc (Nat.le_refl _) _)) (HFS.out.2.on ((Below.refl _ _).alloc (Nat.le_refl _) _))
    rw [HG2.out, show k + (N - k) = N by omega] at KCC
    refine KCC.mono ?_
    rintro e w7 ⟨vd, rfl, ho, hb⟩
    have HRA7 := Lib.hid ((HRA6.out.on ((Below.refl _ _).alloc (Nat.le_refl _) (.cells #[.slice Af k cf, .slice Ac (N - k) cc] 49))).on hb)
    replace hs := (hs.alloc (.cells #[.slice Af k cf, .slice Ac (N - k) cc] 49)).on hb
    replace XT := (XT.alloc (.cells #[.slice Af k cf, .slice Ac (N - k) cc] 49)).on hb
    replace XM := (XM.alloc (.cells #[.slice Af k cf, .slice Ac (N - k) cc] 49)).on hb
    obtain ⟨Ad, cd', rfl, rd⟩ := ho.row
    have KE := equalC (A := Ad) (A' := Aa) (c := cd') (c' := ca) HLR.out (by omega)
    have HEI := Lib.hid (And.intro rd HRA7.out)
    clear rd ho hb HFS HRA6 HRA7 KCC XN
    go_wp2_with fail
    refine KE.step hs HEI.out ?_
    intro w8 hs hb
    have HR8 := Lib.hid (HEI.out.2.on hb)
    replace XT := XT.on hb
    replace XM := XM.on hb
    have m0 := XM.cell (i := 0) (v := .string kn) rfl
    have m1 := XM.cell (i := 1) (v := .string kd) rfl
    go_wp2_with fail
    clear m0 m1 KE HEI
    have HEND : Hid (Below w8.heap.size w8 (w8.alloc (.cells #[.string kn, .string kd] 34)) ∧ Bx (w8.alloc (.cells #[.string kn, .string kd] 34)) w8.heap.size #[.string (frN (markK (⟨mn, md, pn, pd, ct⟩ : TermS) (valS u) (ratV kn kd) L 0)), .string (frD (markK (⟨mn, md, pn, pd, ct⟩ : TermS) (valS u) (ratV kn kd) L 0))]) := by
      refine ⟨(Below.refl _ _).alloc (Nat.le_refl _) _, ?_⟩
      have e1 : frN (markK (⟨mn, md, pn, pd, ct⟩ : TermS) (valS u) (ratV kn kd) L 0) = kn := by rw [HM0.out]; exact HKM.out.1.symm
      have e2 : frD (markK (⟨mn, md, pn, pd, ct⟩ : TermS) (valS u) (ratV kn kd) L 0) = kd := by rw [HM0.out]; exact HKM.out.2.symm
      rw [e1, e2]
      exact Bx.new w8 #[.string kn, .string kd] 34
    have hsX := hs
    have XTX := XT
    have HRX := HR8
    clear hs XT XM hb HR8
    generalize w8 = W19 at *
    go_loopw [130] (fun s wr => ∃ i : Nat, i ≤ N ∧ s = .int .i64 (i : Int) ∧ Below W19.heap.size W19 wr ∧ Bx wr W19.heap.size #[.string (frN (markK (⟨mn, md, pn, pd, ct⟩ : TermS) (valS u) (ratV kn kd) L i)), .string (frD (markK (⟨mn, md, pn, pd, ct⟩ : TermS) (valS u) (ratV kn kd) L i))]) (fun s _ => (N - intOf s).toNat)
    case atStart => exact ⟨0, by omega, rfl, HEND.out.1, HEND.out.2⟩
    case round =>
      clear HEND
      obtain ⟨i, hi, rfl, low, XB⟩ := hrel
      have hs := hsX.on low
      have XT := XTX.on low
      by_cases hin : i = N
      · subst hin
        have q : decide ((i : Int) < (i : Int)) = false := decide_eq_false (by omega)
        go_wp2_with fail
        refine AW.step hs ?_
        intro w9 hs hb
        go_wp2_with fail
        go_ret
        exact ⟨rfl, hs.2⟩
      · have hil : i < N := by omega
        have q : decide ((i : Int) < (N : Int)) = true := decide_eq_true (by omega)
        have qn : decide (i < N) = true := decide_eq_true (by omega)
        obtain ⟨od, hod⟩ : ∃ d, L[i]? = some d := ⟨L[i]'(by rw [HN.out]; omega), by simp⟩
        obtain ⟨pt, hpt⟩ : ∃ d, L[i + 1]? = some d := ⟨L[i + 1]'(by rw [HN.out]; omega), by simp⟩
        obtain ⟨b', o', hA, hbl, hcO⟩ := row_at (cs := ptcells) (m := 3) ptcells_lenS (by decide) (HR.out.on hs.2) hod
        obtain ⟨rfl, rfl⟩ : b = b' ∧ o = o' := by injection hA with hA; injection hA with h1 h2; exact ⟨h1, h2⟩
        obtain ⟨b', o', hA2, _, hcP⟩ := row_at (cs := ptcells) (m := 3) ptcells_lenS (by decide) (HR.out.on hs.2) hpt
        obtain ⟨rfl, rfl⟩ : b = b' ∧ o = o' := by injection hA2 with hA2; injection hA2 with h1 h2; exact ⟨h1, h2⟩
        obtain ⟨bR, oR, hAa, hbR, hcR⟩ := row_at (cs := chcells) (m := 5) chcells_len (by decide) (HRX.out.on low) (HCK.out i hil)
        subst hAa
        have zo := HL.out od (List.mem_of_getElem? hod)
        have zp := HL.out pt (List.mem_of_getElem? hpt)
        have fe := HFE.out i od pt hod hpt
        obtain ⟨x1, x2, x3, x4, x5, x6⟩ := fe
        rw [x6] at hcR
        have fM := mgI_fit HZ.out zo.1 od.day pt.day
        have KM := man_any HZ.out (v := od.v) (by omega) od.day pt.day
        rw [x1, x2] at KM
        have KS := SubR (Vs.arg (s := pt.v) (by omega)) (Vs.can fM (by omega))
        have fS := (Fit.subI (k := 13) (m := 40) (Fit.val zp.1) fM (by omega)).size
        have zi := HMF.out i (by omega)
        have KP := pft_any HZ.out (v := canS (valS pt.v - mgI (valS od.v) (TermS.m (⟨mn, md, pn, pd, ct⟩ : TermS)) ct od.day pt.day)) (u := u) (kn := frN (markK (⟨mn, md, pn, pd, ct⟩ : TermS) (valS u) (ratV kn kd) L i)) (kd := frD (markK (⟨mn, md, pn, pd, ct⟩ : TermS) (valS u) (ratV kn kd) L i)) (Nat.le_trans fS (by omega)) (by have := HS1.out; omega) (by omega) (by omega)
        rw [x3, x4, x5] at KP
        unfold FV FR tval at *
        dsimp only at KM KS KP hcR
        clear fM fS zo zp zi hod hpt hA hA2 x1 x2 x3 x4 x5 x6 hin
        generalize canS (pfI (valS pt.v - mgI (valS od.v) (TermS.m (⟨mn, md, pn, pd, ct⟩ : TermS)) ct od.day pt.day) (TermS.p (⟨mn, md, pn, pd, ct⟩ : TermS)) (valS u) (markK (⟨mn, md, pn, pd, ct⟩ : TermS) (valS u) (ratV kn kd) L i)) = pf at *
        generalize canS (valS pt.v - mgI (valS od.v) (TermS.m (⟨mn, md, pn, pd, ct⟩ : TermS)) ct od.day pt.day) = rs at *
        generalize canS (mgI (valS od.v) (TermS.m (⟨mn, md, pn, pd, ct⟩ : TermS)) ct od.day pt.day) = mg at *
        obtain ⟨an, han⟩ : ∃ y, frN (markK (⟨mn, md, pn, pd, ct⟩ : TermS) (valS u) (ratV kn kd) L i) = y := ⟨_, rfl⟩
        obtain ⟨ad, had⟩ : ∃ y, frD (markK (⟨mn, md, pn, pd, ct⟩ : TermS) (valS u) (ratV kn kd) L i) = y := ⟨_, rfl⟩
        obtain ⟨qn', hqn⟩ : ∃ y, frN (markK (⟨mn, md, pn, pd, ct⟩ : TermS) (valS u) (ratV kn kd) L (i + 1)) = y := ⟨_, rfl⟩
        obtain ⟨qd', hqd⟩ : ∃ y, frD (markK (⟨mn, md, pn, pd, ct⟩ : TermS) (valS u) (ratV kn kd) L (i + 1)) = y := ⟨_, rfl⟩
        rw [han, had] at KP XB
        rw [hqn, hqd] at KP hcR
        have HQN : Hid (frN (markK (⟨mn, md, pn, pd, ct⟩ : TermS) (valS u) (ratV kn kd) L (i + 1)) = qn' ∧ frD (markK (⟨mn, md, pn, pd, ct⟩ : TermS) (valS u) (ratV kn kd) L (i + 1)) = qd') := ⟨hqn, hqd⟩
        clear han had hqn hqd
        obtain ⟨o0, o1, o2⟩ := od
        obtain ⟨e0, e1, e2⟩ := pt
        dsimp only at KM KS KP hcR
        have HCO : Hid (∀ W, Below wr.heap.size wr W → W.cell? ⟨b, o + i * 3, none⟩ = some (.int .i64 o0) ∧ W.cell? ⟨b, o + i * 3 + 1, none⟩ = some (.string o1) ∧ W.cell? ⟨b, o + (i + 1) * 3, none⟩ = some (.int .i64 e0) ∧ W.cell? ⟨b, o + (i + 1) * 3 + 1, none⟩ = some (.string e1)) := fun W hW =>
          ⟨(hW.cell (p := ⟨b, o + i * 3, none⟩) hbl).trans (hcO 0 _ rfl), (hW.cell (p := ⟨b, o + i * 3 + 1, none⟩) hbl).trans (hcO 1 _ rfl), (hW.cell (p := ⟨b, o + (i + 1) * 3, none⟩) hbl).trans (hcP 0 _ rfl), (hW.cell (p := ⟨b, o + (i + 1) * 3 + 1, none⟩) hbl).trans (hcP 1 _ rfl)⟩
        have c0 : wr.cell? ⟨bR, oR + i * 5, none⟩ = some (.int .i64 e0) := hcR 0 _ rfl
        have c1 : wr.cell? ⟨bR, oR + i * 5 + 1, none⟩ = some (.string mg) := hcR 1 _ rfl
        have c2 : wr.cell? ⟨bR, oR + i * 5 + 2, none⟩ = some (.string pf) := hcR 2 _ rfl
        have c3 : wr.cell? ⟨bR, oR + i * 5 + 3, none⟩ = some (.string qn') := hcR 3 _ rfl
        have c4 : wr.cell? ⟨bR, oR + i * 5 + 4, none⟩ = some (.string qd') := hcR 4 _ rfl
        clear hcO hcP hcR
        have q2 : decide ((i : Int) + 1 < ((N : Int) + 1)) = true := decide_eq_true (by omega)
        have q3 : decide ((i : Int) < ((N : Int) + 1)) = true := decide_eq_true (by omega)
        have q4 : decide (i + 1 < N + 1) = true := decide_eq_true (by omega)
        have q5 : decide (i < N + 1) = true := decide_eq_true (by omega)
        have hsz : W19.heap.size ≤ wr.heap.size := low.size
        have iw : IntKind.i64.wrap ((i : Int) + 1) = (i : Int) + 1 := IntWalk.i64_in _ (by omega)
        have ip : (0 : Int) ≤ (i : Int) + 1 := by omega
        have il : (i : Int) + 1 < (N : Int) + 1 := by omega
        have itn : ((i : Int) + 1).toNat = i + 1 := by omega
        have ltB := XB.lt
        go_wp2_with fail
        clear c0 c1 c2 c3 c4
        have XC := Bx.new wr #[.int .i64 e0, .string mg, .string pf, .string qn', .string qd'] 57
        have hba : Below wr.heap.size wr (wr.alloc (.cells #[.int .i64 e0, .string mg, .string pf, .string qn', .string qd'] 57)) := (Below.refl _ _).alloc (Nat.le_refl _) _
        have low2 := low.trans (hba.mono low.size)
        have HCO2 := Lib.hid (fun W (hW : Below (wr.alloc (.cells #[.int .i64 e0, .string mg, .string pf, .string qn', .string qd'] 57)).heap.size (wr.alloc (.cells #[.int .i64 e0, .string mg, .string pf, .string qn', .string qd'] 57)) W) => HCO.out W (hba.trans (hW.mono hba.size)))
        have hs2 := hs.on hba
        have XT2 := XT.on hba
        have XB2 := XB.on hba
        clear low hs XT XB hba HCO
        generalize wr.alloc (.cells #[.int .i64 e0, .string mg, .string pf, .string qn', .string qd'] 57) = W3 at *
        generalize wr.heap.size = bC at *
        have hk1 := fun u : Kept W3 => (HCO2.out _ u.low).1
        have hk2 := fun u : Kept W3 => (HCO2.out _ u.low).2.1
        have hk3 := fun u : Kept W3 => (HCO2.out _ u.low).2.2.1
        have kt0 := XT2.keeps (i := 0) (v := .string mn) rfl
        have kt1 := XT2.keeps (i := 1) (v := .string md) rfl
        have kt2 := XT2.keeps (i := 2) (v := .string pn) rfl
        have kt3 := XT2.keeps (i := 3) (v := .string pd) rfl
        have kt4 := XT2.keeps (i := 4) (v := .int .i64 ct) rfl
        refine wp_region_kept (by kernel_rfl) (by kernel_rfl) ?_
        repeat (go_big_quiet_step (first | (with_reducible exact KM.kept hs2)))
        refine wpQuiet_nil ?_
        rintro _ ⟨u4, rfl⟩
        have hs4 := hs2.kept u4
        have XT4 := XT2.kept u4
        have XB4 := XB2.kept u4
        have XC4 := XC.kept u4
        have low4 := low2.trans (u4.low.mono low2.size)
        have HCO4 := Lib.hid (fun W (hW : Below u4.W.heap.size u4.W W) => HCO2.out W (u4.low.trans (hW.mono u4.low.size)))
        clear hk1 hk2 hk3 kt0 kt1 kt2 kt3 kt4 hs2 XT2 XB2 XC low2 HCO2
        generalize u4.W = W4 at *
        clear u4
        go_upto_region 23 with (fail)
        go_cut [24, 25, 26] (fun s p e wx => ∃ bz, s = .string pf ∧ p = .pointer (some ⟨bz, 0, none⟩) ∧ e = .int .i64 0 ∧ Hid (Pk W4 wx bz #[.string qn', .string qd']))
        case first =>
          have HSOK : Hid (∀ W, Below W4.heap.size W4 W → W.cell? ⟨w.heap.size, 0, none⟩ = some (.string mn) ∧ W.cell? ⟨w.heap.size, 1, none⟩ = some (.string md) ∧ W.cell? ⟨w.heap.size, 2, none⟩ = some (.string pn) ∧ W.cell? ⟨w.heap.size, 3, none⟩ = some (.string pd) ∧ W.cell? ⟨w.heap.size, 4, none⟩ = some (.int .i64 ct) ∧ W.cell? ⟨W19.heap.size, 0, none⟩ = some (.string an) ∧ W.cell? ⟨W19.heap.size, 1, none⟩ = some (.string ad) ∧ W.cell? ⟨b, o + (i + 1) * 3 + 1, none⟩ = some (.string e1)) := fun W hb => ⟨(XT4.on hb).cell (i := 0) (v := .string mn) rfl, (XT4.on hb).cell (i := 1) (v := .string md) rfl, (XT4.on hb).cell (i := 2) (v := .string pn) rfl, (XT4.on hb).cell (i := 3) (v := .string pd) rfl, (XT4.on hb).cell (i := 4) (v := .int .i64 ct) rfl, (XB4.on hb).cell (i := 0) (v := .string an) rfl, (XB4.on hb).cell (i := 1) (v := .string ad) rfl, (HCO4.out _ hb).2.2.2⟩
          have e3 : W4.drew.heap.size = W4.heap.size := rfl
          have low0 : Below W4.heap.size W4 W4 := Below.refl _ _
          have sX := HSOK.out _ low0
          go_region_held3 (fun w' => w'.cell? ⟨w.heap.size, 0, none⟩ = some (.string mn) ∧ w'.cell? ⟨w.heap.size, 1, none⟩ = some (.string md) ∧ w'.cell? ⟨w.heap.size, 2, none⟩ = some (.string pn) ∧ w'.cell? ⟨w.heap.size, 3, none⟩ = some (.string pd) ∧ w'.cell? ⟨w.heap.size, 4, none⟩ = some (.int .i64 ct) ∧ w'.cell? ⟨W19.heap.size, 0, none⟩ = some (.string an) ∧ w'.cell? ⟨W19.heap.size, 1, none⟩ = some (.string ad) ∧ w'.cell? ⟨b, o + (i + 1) * 3 + 1, none⟩ = some (.string e1))
            (first
              | (with_reducible exact sB)
              | (with_reducible exact sA)
              | (with_reducible exact sX)
              | exact HSOK.out _ (lowB.alloc lowB.size _)
              | exact HSOK.out _ (lowA.alloc lowA.size _)
              | exact HSOK.out _ (low0.alloc low0.size _)
              | exact HSOK.out _ low0.drew
              | exact HSOK.out _ (low0.alloc low0.size _).drew
              | exact HSOK.out _ (low0.drew.alloc low0.drew.size _)
              | exact HSOK.out _ (pk_set ZZ qn' qd').low
              | exact HSOK.out _ (pk_set (pk_new lowB) qn' qd').low
              | exact HSOK.out _ (pk_alloc (n := qn') (d := qd') lowB).low
              | (go_keep; done))
            (first
              | (go_at_call 31
                 with_reducible refine KS.step (by first | with_reducible exact hs4.drew | with_reducible exact hs4 | with_reducible exact (hs4.alloc _).drew | with_reducible exact hs4.alloc _) ?_
                 intro wA hsA hbA
                 have lowA : Below W4.heap.size W4 wA := (by first | with_reducible exact low0.trans (hbA.mono low0.size) | exact low0.drew.trans (hbA.mono low0.drew.size) | exact (low0.alloc low0.size _).trans (hbA.mono (by rw [World.size_alloc]; have := low0.size; omega)) | exact (low0.alloc low0.size _).drew.trans (hbA.mono (by show _ ≤ (World.alloc _ _).heap.size; rw [World.size_alloc]; have := low0.size; omega)))
                 have sA := HSOK.out _ lowA
                 (first | have ZZ := pk_on ZZ hbA | have ZZ := pk_on (pk_new low0) hbA | have ZZ := pk_on (pk_drew (pk_new low0)) hbA | skip)
                 (try have zz0 := ZZ.z.cell (i := 0) (v := .string ⟨#[]⟩) rfl)
                 (try have zz1 := ZZ.z.cell (i := 1) (v := .string ⟨#[]⟩) rfl)
                 (try have zf0 := ZZ.z.frozen 0)
                 (try have zf1 := ZZ.z.frozen 1))
              | (go_at_call 30
                 with_reducible refine KP.step (by first | with_reducible exact hsA.drew | with_reducible exact hsA | with_reducible exact (hsA.alloc _).drew | with_reducible exact hsA.alloc _) ?_
                 intro wB hsB hbB
                 have lowB : Below W4.heap.size W4 wB := (by first | with_reducible exact lowA.trans (hbB.mono lowA.size) | exact lowA.drew.trans (hbB.mono lowA.drew.size) | exact (lowA.alloc lowA.size _).trans (hbB.mono (by rw [World.size_alloc]; have := lowA.size; omega)) | exact (lowA.alloc lowA.size _).drew.trans (hbB.mono (by show _ ≤ (World.alloc _ _).heap.size; rw [World.size_alloc]; have := lowA.size; omega)))
                 have sB := HSOK.out _ lowB
                 (first | have ZZ := pk_on ZZ hbB | have ZZ := pk_on (pk_new lowA) hbB | have ZZ := pk_on (pk_drew (pk_new lowA)) hbB | skip)
                 (try have zz0 := ZZ.z.cell (i := 0) (v := .string ⟨#[]⟩) rfl)
                 (try have zz1 := ZZ.z.cell (i := 1) (v := .string ⟨#[]⟩) rfl)
                 (try have zf0 := ZZ.z.frozen 0)
                 (try have zf1 := ZZ.z.frozen 1)))
          all_goals
            first
              | (have P := pk_set (bz := wA.heap.size) ZZ qn' qd'; generalize (wB.setCell ⟨wA.heap.size, 0, none⟩ (.string qn')).setCell ⟨wA.heap.size, 1, none⟩ (.string qd') = W6 at P ⊢; generalize wA.heap.size = bz at P ⊢)
              | (have P := pk_set (bz := W4.heap.size) ZZ qn' qd'; generalize (wB.setCell ⟨W4.heap.size, 0, none⟩ (.string qn')).setCell ⟨W4.heap.size, 1, none⟩ (.string qd') = W6 at P ⊢; generalize W4.heap.size = bz at P ⊢)
              | (have P := pk_alloc (n := qn') (d := qd') lowB; generalize wB.alloc (.cells #[.string qn', .string qd'] 34) = W6 at P ⊢; generalize wB.heap.size = bz at P ⊢)
          all_goals
            go_wp2_with fail
            go_meet
            exact ⟨_, rfl, rfl, rfl, P⟩
        case rest =>
        obtain ⟨b25, rfl, rfl, rfl, P⟩ := hcut
        have X6 := P.out.z
        have lowv := P.out.low
        have XC6 := XC4.on lowv
        have XB6 := XB4.on lowv
        have x6 := (HCO4.out _ lowv).2.2.1
        have low6 := low4.trans (lowv.mono low4.size)
        have ltB6 := XB4.lt
        clear P lowv low4 hs4 XT4 XB4 XC4 HCO4 KS KP KM
        generalize wc = W6 at *
        have p0 := X6.cell (i := 0) (v := .string qn') rfl
        have p1 := X6.cell (i := 1) (v := .string qd') rfl
        have y0 := XC6.cell (i := 0) (v := .int .i64 e0) rfl
        have y1 := XC6.cell (i := 1) (v := .string mg) rfl
        have y2 := XC6.cell (i := 2) (v := .string pf) rfl
        have y3 := XC6.cell (i := 3) (v := .string qn') rfl
        have y4 := XC6.cell (i := 4) (v := .string qd') rfl
        have n0 := XB6.cell (i := 0) (v := .string an) rfl
        have n1 := XB6.cell (i := 1) (v := .string ad) rfl
        have g0 := XB6.frozen 0
        have g1 := XB6.frozen 1
        go_wp2_with fail
        go_quiet (fail)
        go_wp2_with fail
        go_roundw
        case rel =>
          refine ⟨i + 1, by omega, by go_num, ((low6.trans ((below_drewN _ _ _).mono low6.size)).setCell (p := ⟨W19.heap.size, 0, none⟩) (Nat.le_refl _) _).setCell (p := ⟨W19.heap.size, 1, none⟩) (Nat.le_refl _) _, ?_⟩
          rw [HQN.out.1, HQN.out.2]
          exact ((XB6.on (below_drewN _ _ _)).set 0 (.string qn')).set 1 (.string qd')
        case measure => simp [intOf]; omega
theorem steps45_any {mn md pn pd u kn kd : ByteArray} {ct : Int} {A : Option Addr} {n c x : Nat} {L : List PtS} (hT : TermS.big ⟨mn, md, pn, pd, ct⟩) (g1 : u.size ≤ 9223372036854775807) (g3 : kn.size ≤ 9223372036854775807) (g4 : kd.size ≤ 9223372036854775807) (hn : L.length = n) (hc : n ≤ c) (hm : n ≤ 9223372036854775807) (hbig : ∀ p ∈ L, p.v.size ≤ 9223372036854775807 ∧ p.f.size ≤ 9223372036854775807) (hx8 : x ≤ 255) (w : World) (hg : Gl w) (hr : Row w A (flatG ptcells L)) : Calls Tryz.prog 6 #[.agg #[.string mn, .string md, .string pn, .string pd, .int .i64 ct], .string u, .agg #[.string kn, .string kd], .slice A n c, .int .u8 (x : Int)] w fun e w' => e = .returned (.bool true) ∧ Below w.heap.size w w' := by
 cases ht1 : (lngT ⟨mn, md, pn, pd, ct⟩ || List.any ([⟨kn, kd⟩] : List FnS) lngF) with
 | true => exact steps_long1 hT g1 g3 g4 ht1 w hg
 | false =>
  cases ht2 : List.any ([u] : List ByteArray) (fun s => decide (13 < s.size)) with
  | true => exact steps_long2 hT g1 g3 g4 ht1 ht2 w hg
  | false =>
   cases hG : grtP L with
   | true => exact steps_grt hT g1 g3 g4 hn hm hbig ht1 ht2 hG w hg hr
   | false =>
    by_cases h9 : 8 < n
    ·exact steps_many hT g1 g3 g4 hn hm hbig ht1 ht2 hG h9 w hg hr
    ·by_cases h0 : n = 0
     ·subst h0
      exact steps_none hT g1 g3 g4 hn hm hbig ht1 ht2 hG w hg hr
     ·obtain ⟨N, rfl⟩ : ∃ N, n = N + 1 := ⟨n - 1, by omega⟩
      have h1 := ht1
      rw [Bool.or_eq_false_iff] at h1
      have hz := lngT_false h1.1
      have hk := lngF_false (s := ⟨kn, kd⟩) (by have := h1.2; simpa using this)
      have s1 : u.size ≤ 13 := by simpa using ht2
      by_cases he : runE (⟨mn, md, pn, pd, ct⟩ : TermS) u kn kd L = 0
      ·obtain ⟨b, o, hA, _, _⟩ := row_at (cs := ptcells) (m := 3) ptcells_lenS (by decide) hr (List.getElem?_eq_getElem (l := L) (i := 0) (by omega))
       subst hA
       exact steps_ok hT g1 g3 g4 hn hm hbig ht1 ht2 hG hc (by omega) hz s1 hk.1 hk.2 he rfl (by have := Nat.mod_lt x (show 0 < N + 1 by omega); omega) hx8 w hg hr
      ·exact steps_err hT g1 g3 g4 hn hm hbig ht1 ht2 hG hc (by omega) hz s1 hk.1 hk.2 he w hg hr
end Go.Proofs.YticfdeaphiifeaaGreatDoor
