/- Fees: the walk of FeeGreatest: for every input it returns true. Condition: the library's table and error lie as the program's text lays them. -/
import Derived.Test.YtpjgcdgdgljioaaGreatDoorLw45
import Derived.Test.YtpjgcdgdgljioaaGreatDoorFeK
import Derived.Test.YtpjgcdgdgljioaaGreatDoorFeU
import Derived.Test.YtpjgcdgdgljioaaGreatDoorFeH
import Derived.Test.YtpjgcdgdgljioaaGreatDoorFe5
set_option maxHeartbeats 4000000
set_option maxRecDepth 100000
namespace Go.Proofs.YtpjgcdgdgljioaaGreatDoor
open Go.RowKit Go.Shelf Dec QQ
theorem chkF_frB (q : Rat) : chkF (frN q) (frD q) = 0 := by
 have := canB_fr q
 unfold canB at this
 exact eq_of_beq this
def PtS.big45 (p : PtS) : Prop := p.v.size ≤ 9223372036854775807 ∧ p.f.size ≤ 9223372036854775807
theorem grt_false {l : List PtS} (h : grtP l = false) : (∀ p ∈ l, p.v.size ≤ 13 ∧ p.f.size ≤ 13) ∧ (l.length ≤ 8 ∨ 400 < l.length) ∧ l.length ≤ 403 := by
 unfold grtP at h
 simp only [Bool.or_eq_false_iff, Bool.and_eq_false_iff, decide_eq_false_iff_not] at h
 obtain ⟨h1, h2, h3⟩ := h
 refine ⟨fun p hp => lngP_false (by simpa using List.any_eq_false.1 h1 p hp), ?_, by omega⟩
 rcases h2 with h2 | h2
 ·exact .inl (by omega)
 ·exact .inr (by omega)
theorem sumI_snoc {α : Type} (f : α → Int) (l : List α) (a : α) : sumI f (l ++ [a]) = sumI f l + f a := by simp [sumI]
theorem best_sum {T : TermS} {u : Int} {l : List PtS} (hu : 0 < u) (hm : 0 ≤ T.m) : ∀ n, n < l.length → sumI chPf (chsL T u (bestK u l (l.length - 1)) l n) = 0 := by
 intro n hn
 induction n with
 | zero => rfl
 | succ k ih =>
  rw [chsL_succ, sumI_snoc, ih (by omega)]
  unfold chPf
  rw [best_none hu hm hn, valS_canS]
  rfl
theorem chsL_sizes {T : TermS} {u : ByteArray} {mk : Rat} {l : List PtS} (hR : RunOk T u mk l) {n : Nat} (hn : n < l.length) : ∀ c ∈ chsL T (valS u) mk l n, c.mg.size ≤ 5000 ∧ c.pf.size ≤ 5000 := by
 intro c hc
 unfold chsL at hc
 obtain ⟨k, hk, rfl⟩ := List.mem_map.1 hc
 rw [List.mem_range] at hk
 have ho : l[k]? = some l[k] := List.getElem?_eq_getElem (by omega)
 have hp : l[k + 1]? = some l[k + 1] := List.getElem?_eq_getElem (by omega)
 have z1 := hR.few.2 _ (List.mem_of_getElem? ho)
 have z2 := hR.few.2 _ (List.mem_of_getElem? hp)
 have h8 := hR.few.1
 rw [chK_at ho hp]
 have fM := mgI_fit hR.t z1.1 l[k].day l[k + 1].day
 have hv : Fit 41 (valS l[k + 1].v - mgI (valS l[k].v) T.m T.cnt l[k].day l[k + 1].day) := Fit.subI (k := 13) (m := 40) (Fit.val z2.1) fM (by omega)
 have fv : FitQ 41 ((valS l[k + 1].v - mgI (valS l[k].v) T.m T.cnt l[k].day l[k + 1].day : Int) : Rat) := FitQ.int hv (by omega)
 have fu : FitQ 13 ((valS u : Int) : Rat) := FitQ.int (Fit.val hR.us) (by omega)
 have fp : FitQ 13 T.p := FitQ.arg hR.t.2.2.1 hR.t.2.2.2 (by omega)
 have fo := fv.sub ((hR.marks k).mul fu)
 have fX : Fit (13 + (41 + (900 + 100 * k + 13) + 1) + 1) (pfI (valS l[k + 1].v - mgI (valS l[k].v) T.m T.cnt l[k].day l[k + 1].day) T.p (valS u) (markK T (valS u) mk l k)) := by
  unfold pfI
  split
  ·exact rnd_fit 1 (fp.mul fo)
  ·exact Nat.pow_pos (show 0 < 10 by decide)
 have e1 := fM.size
 have e2 := fX.size
 exact ⟨by show (canS _).size ≤ _; omega, by show (canS _).size ≤ _; omega⟩
theorem grt_long1 {mn md pn pd v : ByteArray} {ct : Int} {A : Option Addr} {n c : Nat} (hT : TermS.big ⟨mn, md, pn, pd, ct⟩) (g1 : v.size ≤ 9223372036854775807) (ht1 : (lngT ⟨mn, md, pn, pd, ct⟩ || List.any ([] : List FnS) lngF) = true)  (w : World) (hg : Gl w) : Calls Tryz.prog 5 #[.agg #[.string mn, .string md, .string pn, .string pd, .int .i64 ct], .string v, .slice A n c] w fun e w' => e = .returned (.bool true) ∧ Below w.heap.size w w' := by
 have KL1 := longT_any (A := none) (n := 0) (c := 0) (l := []) hT rfl (by decide) (fun s hs => by simp at hs)
 have KL2 := fun b : Nat => long45_any (A := some ⟨b, 0, none⟩) (n := 1) (c := 1) (l := [v]) rfl (by decide) (fun s hs => by simp at hs; subst hs; exact g1)
 have hs := (St.refl hg).alloc (.cells #[.string mn, .string md, .string pn, .string pd, .int .i64 ct] 44)
 have XT := Bx.new w #[.string mn, .string md, .string pn, .string pd, .int .i64 ct] 44
 have a0 := XT.cell (i := 0) (v := .string mn) rfl
 have a1 := XT.cell (i := 1) (v := .string md) rfl
 have a2 := XT.cell (i := 2) (v := .string pn) rfl
 have a3 := XT.cell (i := 3) (v := .string pd) rfl
 have a4 := XT.cell (i := 4) (v := .int .i64 ct) rfl
 have HR1 : Hid (∀ W : World, Row W none (flatG fncells ([] : List FnS))) := fun W i v hv => by simp [flatG] at hv
 have AW := awake45
 rw [ht1] at KL1
 unfold tval at KL1
 dsimp only at KL1
 clear ht1  hT g1
 go_enter Tryz.func5, Tryz.ntmps5
 go_wp2_with fail
 clear a0 a1 a2 a3 a4
 refine KL1.step hs (HR1.out _) ?_
 intro w1 hs hb
 replace XT := XT.on hb
 go_wp2_with fail
 refine AW.step hs ?_
 intro w2 hs hb
 go_wp2_with fail
 go_ret
 exact ⟨rfl, hs.2⟩
theorem grt_long2 {mn md pn pd v : ByteArray} {ct : Int} {A : Option Addr} {n c : Nat} (hT : TermS.big ⟨mn, md, pn, pd, ct⟩) (g1 : v.size ≤ 9223372036854775807) (ht1 : (lngT ⟨mn, md, pn, pd, ct⟩ || List.any ([] : List FnS) lngF) = false) (ht2 : List.any ([v] : List ByteArray) (fun s => decide (13 < s.size)) = true) (w : World) (hg : Gl w) : Calls Tryz.prog 5 #[.agg #[.string mn, .string md, .string pn, .string pd, .int .i64 ct], .string v, .slice A n c] w fun e w' => e = .returned (.bool true) ∧ Below w.heap.size w w' := by
 have KL1 := longT_any (A := none) (n := 0) (c := 0) (l := []) hT rfl (by decide) (fun s hs => by simp at hs)
 have KL2 := fun b : Nat => long45_any (A := some ⟨b, 0, none⟩) (n := 1) (c := 1) (l := [v]) rfl (by decide) (fun s hs => by simp at hs; subst hs; exact g1)
 have hs := (St.refl hg).alloc (.cells #[.string mn, .string md, .string pn, .string pd, .int .i64 ct] 44)
 have XT := Bx.new w #[.string mn, .string md, .string pn, .string pd, .int .i64 ct] 44
 have a0 := XT.cell (i := 0) (v := .string mn) rfl
 have a1 := XT.cell (i := 1) (v := .string md) rfl
 have a2 := XT.cell (i := 2) (v := .string pn) rfl
 have a3 := XT.cell (i := 3) (v := .string pd) rfl
 have a4 := XT.cell (i := 4) (v := .int .i64 ct) rfl
 have HR1 : Hid (∀ W : World, Row W none (flatG fncells ([] : List FnS))) := fun W i v hv => by simp [flatG] at hv
 have AW := awake45
 rw [ht1] at KL1
 rw [ht2] at KL2
 unfold tval at KL1
 dsimp only at KL1
 clear ht1 ht2 hT g1
 go_enter Tryz.func5, Tryz.ntmps5
 go_wp2_with fail
 clear a0 a1 a2 a3 a4
 refine KL1.step hs (HR1.out _) ?_
 intro w1 hs hb
 replace XT := XT.on hb
 go_wp2_with fail
 have HR2 : Hid (Row (w1.alloc (.cells #[.string v] 32)) (some ⟨w1.heap.size, 0, none⟩) ([v].map sv)) := Row.of (Bx.new w1 #[.string v] 32)
 replace XT := XT.alloc (.cells #[.string v] 32)
 replace hs := hs.alloc (.cells #[.string v] 32)
 refine (KL2 _).step hs HR2.out ?_
 intro w2 hs hb
 replace XT := XT.on hb
 go_wp2_with fail
 refine AW.step hs ?_
 intro w3 hs hb
 go_wp2_with fail
 go_ret
 exact ⟨rfl, hs.2⟩
theorem grt_grt {mn md pn pd v : ByteArray} {ct : Int} {A : Option Addr} {n c : Nat} {L : List PtS} (hT : TermS.big ⟨mn, md, pn, pd, ct⟩) (g1 : v.size ≤ 9223372036854775807) (hn : L.length = n) (hm : n ≤ 9223372036854775807) (hbig : ∀ p ∈ L, p.v.size ≤ 9223372036854775807 ∧ p.f.size ≤ 9223372036854775807) (ht1 : (lngT ⟨mn, md, pn, pd, ct⟩ || List.any ([] : List FnS) lngF) = false) (ht2 : List.any ([v] : List ByteArray) (fun s => decide (13 < s.size)) = false) (hG : grtP L = true)  (w : World) (hg : Gl w) (hr : Row w A (flatG ptcells L)) : Calls Tryz.prog 5 #[.agg #[.string mn, .string md, .string pn, .string pd, .int .i64 ct], .string v, .slice A n c] w fun e w' => e = .returned (.bool true) ∧ Below w.heap.size w w' := by
 have KL1 := longT_any (A := none) (n := 0) (c := 0) (l := []) hT rfl (by decide) (fun s hs => by simp at hs)
 have KL2 := fun b : Nat => long45_any (A := some ⟨b, 0, none⟩) (n := 1) (c := 1) (l := [v]) rfl (by decide) (fun s hs => by simp at hs; subst hs; exact g1)
 have KG := rgrt_any (A := A) (c := c) hn hm hbig
 rw [ht1] at KL1
 rw [ht2] at KL2
 rw [hG] at KG
 unfold tval at *
 dsimp only at *
 have hs := (St.refl hg).alloc (.cells #[.string mn, .string md, .string pn, .string pd, .int .i64 ct] 44)
 have XT := Bx.new w #[.string mn, .string md, .string pn, .string pd, .int .i64 ct] 44
 have HR := Lib.hid hr
 have a0 := XT.cell (i := 0) (v := .string mn) rfl
 have a1 := XT.cell (i := 1) (v := .string md) rfl
 have a2 := XT.cell (i := 2) (v := .string pn) rfl
 have a3 := XT.cell (i := 3) (v := .string pd) rfl
 have a4 := XT.cell (i := 4) (v := .int .i64 ct) rfl
 have HR1 : Hid (∀ W : World, Row W none (flatG fncells ([] : List FnS))) := fun W i v hv => by simp [flatG] at hv
 have AW := awake45
 clear ht1 ht2 hT g1 hG hr hbig hn
 go_enter Tryz.func5, Tryz.ntmps5
 go_wp2_with fail
 clear a0 a1 a2 a3 a4
 refine KL1.step hs (HR1.out _) ?_
 intro w1 hs hb
 replace XT := XT.on hb
 go_wp2_with fail
 have HR2 : Hid (Row (w1.alloc (.cells #[.string v] 32)) (some ⟨w1.heap.size, 0, none⟩) ([v].map sv)) := Row.of (Bx.new w1 #[.string v] 32)
 replace XT := XT.alloc (.cells #[.string v] 32)
 replace hs := hs.alloc (.cells #[.string v] 32)
 refine (KL2 _).step hs HR2.out ?_
 intro w2 hs hb
 replace XT := XT.on hb
 have t0 := XT.cell (i := 0) (v := .string mn) rfl
 have t1 := XT.cell (i := 1) (v := .string md) rfl
 have t2 := XT.cell (i := 2) (v := .string pn) rfl
 have t3 := XT.cell (i := 3) (v := .string pd) rfl
 have t4 := XT.cell (i := 4) (v := .int .i64 ct) rfl
 go_wp2_with fail
 refine KG.step hs (HR.out.on hs.2) ?_
 intro w3 hs hb
 clear t0 t1 t2 t3 t4
 replace XT := XT.on hb
 have t0 := XT.cell (i := 0) (v := .string mn) rfl
 have t1 := XT.cell (i := 1) (v := .string md) rfl
 have t2 := XT.cell (i := 2) (v := .string pn) rfl
 have t3 := XT.cell (i := 3) (v := .string pd) rfl
 have t4 := XT.cell (i := 4) (v := .int .i64 ct) rfl
 go_wp2_with fail
 refine AW.step hs ?_
 intro w9 hs hb
 go_wp2_with fail
 go_ret
 exact ⟨rfl, hs.2⟩
theorem grt_many {mn md pn pd v : ByteArray} {ct : Int} {A : Option Addr} {n c : Nat} {L : List PtS} (hT : TermS.big ⟨mn, md, pn, pd, ct⟩) (g1 : v.size ≤ 9223372036854775807) (hn : L.length = n) (hm : n ≤ 9223372036854775807) (hbig : ∀ p ∈ L, p.v.size ≤ 9223372036854775807 ∧ p.f.size ≤ 9223372036854775807) (ht1 : (lngT ⟨mn, md, pn, pd, ct⟩ || List.any ([] : List FnS) lngF) = false) (ht2 : List.any ([v] : List ByteArray) (fun s => decide (13 < s.size)) = false) (hG : grtP L = false) (h9 : 8 < n) (w : World) (hg : Gl w) (hr : Row w A (flatG ptcells L)) : Calls Tryz.prog 5 #[.agg #[.string mn, .string md, .string pn, .string pd, .int .i64 ct], .string v, .slice A n c] w fun e w' => e = .returned (.bool true) ∧ Below w.heap.size w w' := by
 have KL1 := longT_any (A := none) (n := 0) (c := 0) (l := []) hT rfl (by decide) (fun s hs => by simp at hs)
 have KL2 := fun b : Nat => long45_any (A := some ⟨b, 0, none⟩) (n := 1) (c := 1) (l := [v]) rfl (by decide) (fun s hs => by simp at hs; subst hs; exact g1)
 have KG := rgrt_any (A := A) (c := c) hn hm hbig
 rw [ht1] at KL1
 rw [ht2] at KL2
 rw [hG] at KG
 have q9 : decide ((8 : Int) < (n : Int)) = true := decide_eq_true (by omega)
 unfold tval at *
 dsimp only at *
 have hs := (St.refl hg).alloc (.cells #[.string mn, .string md, .string pn, .string pd, .int .i64 ct] 44)
 have XT := Bx.new w #[.string mn, .string md, .string pn, .string pd, .int .i64 ct] 44
 have HR := Lib.hid hr
 have a0 := XT.cell (i := 0) (v := .string mn) rfl
 have a1 := XT.cell (i := 1) (v := .string md) rfl
 have a2 := XT.cell (i := 2) (v := .string pn) rfl
 have a3 := XT.cell (i := 3) (v := .string pd) rfl
 have a4 := XT.cell (i := 4) (v := .int .i64 ct) rfl
 have HR1 : Hid (∀ W : World, Row W none (flatG fncells ([] : List FnS))) := fun W i v hv => by simp [flatG] at hv
 have AW := awake45
 clear ht1 ht2 hT g1 hG hr hbig h9 hn
 go_enter Tryz.func5, Tryz.ntmps5
 go_wp2_with fail
 clear a0 a1 a2 a3 a4
 refine KL1.step hs (HR1.out _) ?_
 intro w1 hs hb
 replace XT := XT.on hb
 go_wp2_with fail
 have HR2 : Hid (Row (w1.alloc (.cells #[.string v] 32)) (some ⟨w1.heap.size, 0, none⟩) ([v].map sv)) := Row.of (Bx.new w1 #[.string v] 32)
 replace XT := XT.alloc (.cells #[.string v] 32)
 replace hs := hs.alloc (.cells #[.string v] 32)
 refine (KL2 _).step hs HR2.out ?_
 intro w2 hs hb
 replace XT := XT.on hb
 have t0 := XT.cell (i := 0) (v := .string mn) rfl
 have t1 := XT.cell (i := 1) (v := .string md) rfl
 have t2 := XT.cell (i := 2) (v := .string pn) rfl
 have t3 := XT.cell (i := 3) (v := .string pd) rfl
 have t4 := XT.cell (i := 4) (v := .int .i64 ct) rfl
 go_wp2_with fail
 refine KG.step hs (HR.out.on hs.2) ?_
 intro w3 hs hb
 clear t0 t1 t2 t3 t4
 replace XT := XT.on hb
 have t0 := XT.cell (i := 0) (v := .string mn) rfl
 have t1 := XT.cell (i := 1) (v := .string md) rfl
 have t2 := XT.cell (i := 2) (v := .string pn) rfl
 have t3 := XT.cell (i := 3) (v := .string pd) rfl
 have t4 := XT.cell (i := 4) (v := .int .i64 ct) rfl
 go_wp2_with fail
 refine AW.step hs ?_
 intro w9 hs hb
 go_wp2_with fail
 go_ret
 exact ⟨rfl, hs.2⟩
theorem grt_err {mn md pn pd v : ByteArray} {ct : Int} {A : Option Addr} {n c : Nat} {L : List PtS} (hT : TermS.big ⟨mn, md, pn, pd, ct⟩) (g1 : v.size ≤ 9223372036854775807) (hn : L.length = n) (hm : n ≤ 9223372036854775807) (hbig : ∀ p ∈ L, p.v.size ≤ 9223372036854775807 ∧ p.f.size ≤ 9223372036854775807) (ht1 : (lngT ⟨mn, md, pn, pd, ct⟩ || List.any ([] : List FnS) lngF) = false) (ht2 : List.any ([v] : List ByteArray) (fun s => decide (13 < s.size)) = false) (hG : grtP L = false) (hc : n ≤ c) (h8 : n ≤ 8) (s1 : v.size ≤ 13) (he : mrkE v L ≠ 0) (w : World) (hg : Gl w) (hr : Row w A (flatG ptcells L)) : Calls Tryz.prog 5 #[.agg #[.string mn, .string md, .string pn, .string pd, .int .i64 ct], .string v, .slice A n c] w fun e w' => e = .returned (.bool true) ∧ Below w.heap.size w w' := by
 have KL1 := longT_any (A := none) (n := 0) (c := 0) (l := []) hT rfl (by decide) (fun s hs => by simp at hs)
 have KL2 := fun b : Nat => long45_any (A := some ⟨b, 0, none⟩) (n := 1) (c := 1) (l := [v]) rfl (by decide) (fun s hs => by simp at hs; subst hs; exact g1)
 have KG := rgrt_any (A := A) (c := c) hn hm hbig
 rw [ht1] at KL1
 rw [ht2] at KL2
 rw [hG] at KG
 have q9 : decide ((8 : Int) < (n : Int)) = false := decide_eq_false (by omega)
 have hl := (grt_false hG).1
 have KM := Mark_any (A := A) hn hc (by omega) s1 hl (.inl h8)
 have r1 : mrkQ v L = 0 := if_neg he
 rw [r1, FR_zero] at KM
 have q : (mrkE v L != 0) = true := by simpa using he
 generalize mrkE v L = pe at *
 unfold tval at *
 dsimp only at *
 have hs := (St.refl hg).alloc (.cells #[.string mn, .string md, .string pn, .string pd, .int .i64 ct] 44)
 have XT := Bx.new w #[.string mn, .string md, .string pn, .string pd, .int .i64 ct] 44
 have HR := Lib.hid hr
 have a0 := XT.cell (i := 0) (v := .string mn) rfl
 have a1 := XT.cell (i := 1) (v := .string md) rfl
 have a2 := XT.cell (i := 2) (v := .string pn) rfl
 have a3 := XT.cell (i := 3) (v := .string pd) rfl
 have a4 := XT.cell (i := 4) (v := .int .i64 ct) rfl
 have HR1 : Hid (∀ W : World, Row W none (flatG fncells ([] : List FnS))) := fun W i v hv => by simp [flatG] at hv
 have AW := awake45
 clear ht1 ht2 hT g1 hG hr hbig r1 hl h8 hc s1 he hn
 go_enter Tryz.func5, Tryz.ntmps5
 go_wp2_with fail
 clear a0 a1 a2 a3 a4
 refine KL1.step hs (HR1.out _) ?_
 intro w1 hs hb
 replace XT := XT.on hb
 go_wp2_with fail
 have HR2 : Hid (Row (w1.alloc (.cells #[.string v] 32)) (some ⟨w1.heap.size, 0, none⟩) ([v].map sv)) := Row.of (Bx.new w1 #[.string v] 32)
 replace XT := XT.alloc (.cells #[.string v] 32)
 replace hs := hs.alloc (.cells #[.string v] 32)
 refine (KL2 _).step hs HR2.out ?_
 intro w2 hs hb
 replace XT := XT.on hb
 have t0 := XT.cell (i := 0) (v := .string mn) rfl
 have t1 := XT.cell (i := 1) (v := .string md) rfl
 have t2 := XT.cell (i := 2) (v := .string pn) rfl
 have t3 := XT.cell (i := 3) (v := .string pd) rfl
 have t4 := XT.cell (i := 4) (v := .int .i64 ct) rfl
 go_wp2_with fail
 refine KG.step hs (HR.out.on hs.2) ?_
 intro w3 hs hb
 clear t0 t1 t2 t3 t4
 replace XT := XT.on hb
 have t0 := XT.cell (i := 0) (v := .string mn) rfl
 have t1 := XT.cell (i := 1) (v := .string md) rfl
 have t2 := XT.cell (i := 2) (v := .string pn) rfl
 have t3 := XT.cell (i := 3) (v := .string pd) rfl
 have t4 := XT.cell (i := 4) (v := .int .i64 ct) rfl
 go_wp2_with fail
 refine KM.step hs (HR.out.on hs.2) ?_
 intro w4 hs hb
 clear t0 t1 t2 t3 t4
 have XM := Bx.new w4 #[.string ⟨#[]⟩, .string ⟨#[]⟩] 34
 have hs := hs.alloc (.cells #[.string ⟨#[]⟩, .string ⟨#[]⟩] 34)
 have m0 := XM.cell (i := 0) (v := .string ⟨#[]⟩) rfl
 have m1 := XM.cell (i := 1) (v := .string ⟨#[]⟩) rfl
 go_wp2_with fail
 refine AW.step hs ?_
 intro w9 hs hb
 go_wp2_with fail
 go_ret
 exact ⟨rfl, hs.2⟩
theorem mrk_zero {u : ByteArray} {l : List PtS} (h : mrkE u l = 0) : cntE u ⟨#[]⟩ ⟨#[]⟩ = 0 ∧ serE l = 0 := by
 unfold mrkE at h
 by_cases h1 : cntE u ⟨#[]⟩ ⟨#[]⟩ = 0
 ·rw [if_neg (by simpa using h1)] at h
  exact ⟨h1, h⟩
 ·rw [if_pos h1] at h
  exact absurd h h1
theorem grt_ok {mn md pn pd v : ByteArray} {ct : Int} {A : Option Addr} {N c : Nat} {L : List PtS} (hT : TermS.big ⟨mn, md, pn, pd, ct⟩) (g1 : v.size ≤ 9223372036854775807) (hn : L.length = N + 1) (hm : N + 1 ≤ 9223372036854775807) (hbig : ∀ p ∈ L, p.v.size ≤ 9223372036854775807 ∧ p.f.size ≤ 9223372036854775807) (ht1 : (lngT ⟨mn, md, pn, pd, ct⟩ || List.any ([] : List FnS) lngF) = false) (ht2 : List.any ([v] : List ByteArray) (fun s => decide (13 < s.size)) = false) (hG : grtP L = false) (hc : N + 1 ≤ c) (h8 : N + 1 ≤ 8) (hz : TermS.le 13 ⟨mn, md, pn, pd, ct⟩) (s1 : v.size ≤ 13) (he : mrkE v L = 0) (w : World) (hg : Gl w) (hr : Row w A (flatG ptcells L)) : Calls Tryz.prog 5 #[.agg #[.string mn, .string md, .string pn, .string pd, .int .i64 ct], .string v, .slice A (N + 1) c] w fun e w' => e = .returned (.bool true) ∧ Below w.heap.size w w' := by
 have KL1 := longT_any (A := none) (n := 0) (c := 0) (l := []) hT rfl (by decide) (fun s hs => by simp at hs)
 have KL2 := fun b : Nat => long45_any (A := some ⟨b, 0, none⟩) (n := 1) (c := 1) (l := [v]) rfl (by decide) (fun s hs => by simp at hs; subst hs; exact g1)
 have KG := rgrt_any (A := A) (c := c) hn hm hbig
 rw [ht1] at KL1
 rw [ht2] at KL2
 rw [hG] at KG
 have q9 : decide ((8 : Int) < ((N : Int) + 1)) = false := decide_eq_false (by omega)
 have hl := (grt_false hG).1
 have KM := Mark_any (A := A) hn hc (by omega) s1 hl (.inl h8)
 obtain ⟨d1, _, d3, _⟩ := cnt_zero (mrk_zero he).1
 have h2 := (mrk_zero he).2
 have r1 : mrkQ v L = bestK (valS v) L N := by
  refine (if_pos he).trans ?_
  rw [hn, Nat.add_sub_cancel]
 rw [r1, he] at KM
 have hlv := fun p hp => (hl p hp).1
 have fu : Fit 13 (valS v) := Fit.val s1
 have vu := Vs.arg (s := v) (by omega)
 have fm := best_fit hlv fu (by omega) N
 have vm := Vq.fr fm (by omega)
 have zm := FitQ.sizes fm
 have HP : Hid (∀ p ∈ L, Ret 25 #[.string p.v, .string v] (.tuple #[FR (rat (valS p.v) (valS v)), .int .i64 0])) := fun p hp => NewF (Vs.arg (by have := hlv p hp; omega)) vu (by have := hlv p hp; omega) (by omega) (by omega)
 have HC : Hid (∀ j, j ≤ N → Ret 26 #[FR (rat (valS (ptAt L j).v) (valS v)), FR (bestK (valS v) L N)] (.int .i64 (cmpQ (rat (valS (ptAt L j).v) (valS v)) (bestK (valS v) L N))) ∧ decide (0 < cmpQ (rat (valS (ptAt L j).v) (valS v)) (bestK (valS v) L N)) = false) := fun j hj =>
  ⟨CmpF (Vq.fr (rat_fit hlv fu (by omega) j) (by omega)) vm ((rat_fit hlv fu (by omega) j).sub fm) (by omega), by rw [cmpQ_pos]; exact decide_eq_false (Rat.not_lt.2 (best_ge _ _ hj))⟩
 obtain ⟨j0, hj0, ej0⟩ := best_is (valS v) L N
 have HJ : Hid (j0 ≤ N ∧ bestK (valS v) L N = rat (valS (ptAt L j0).v) (valS v)) := ⟨hj0, ej0⟩
 have KC0 := CmpF vm vq0 (fm.sub fit0) (by omega)
 have KT := fchk_any hz
 have hmm : L.length - 1 = N := by omega
 have HRUN : Hid (0 ≤ bestK (valS v) L N → termE (⟨mn, md, pn, pd, ct⟩ : TermS) = 0 → runE (⟨mn, md, pn, pd, ct⟩ : TermS) v (frN (bestK (valS v) L N)) (frD (bestK (valS v) L N)) L = 0 ∧ (runL (⟨mn, md, pn, pd, ct⟩ : TermS) v (frN (bestK (valS v) L N)) (frD (bestK (valS v) L N)) L).length = N ∧ (∀ x ∈ runL (⟨mn, md, pn, pd, ct⟩ : TermS) v (frN (bestK (valS v) L N)) (frD (bestK (valS v) L N)) L, x.mg.size ≤ 5000 ∧ x.pf.size ≤ 5000) ∧ sumI chPf (runL (⟨mn, md, pn, pd, ct⟩ : TermS) v (frN (bestK (valS v) L N)) (frD (bestK (valS v) L N)) L) = 0) := fun k0 k1 => by
  have hcM : cntE v (frN (bestK (valS v) L N)) (frD (bestK (valS v) L N)) = 0 := by
   unfold cntE
   rw [if_neg (by rw [d1, chkF_frB]; simp), ratV_fr, if_neg (by rw [not_or]; exact ⟨by omega, Rat.not_lt.2 k0⟩)]
  have e : runE (⟨mn, md, pn, pd, ct⟩ : TermS) v (frN (bestK (valS v) L N)) (frD (bestK (valS v) L N)) L = 0 := by
   unfold runE
   rw [if_neg (by simpa using k1), if_neg (by simpa using hcM), h2]
  have el : runL (⟨mn, md, pn, pd, ct⟩ : TermS) v (frN (bestK (valS v) L N)) (frD (bestK (valS v) L N)) L = chsL (⟨mn, md, pn, pd, ct⟩ : TermS) (valS v) (bestK (valS v) L N) L N := by
   refine (if_pos e).trans ?_
   rw [ratV_fr, hn, Nat.add_sub_cancel]
  rw [el]
  refine ⟨e, chsL_len _ _ _ _ _, chsL_sizes ⟨hz, s1, d3, ⟨by omega, hl⟩, fm.mono (by omega)⟩ (by omega), ?_⟩
  have := best_sum (T := (⟨mn, md, pn, pd, ct⟩ : TermS)) (l := L) d3 (rate_zero (term_zero k1).1).2.1 N (by omega)
  rwa [hmm] at this
 have HKR := Lib.hid (Run_any (T := (⟨mn, md, pn, pd, ct⟩ : TermS)) (u := v) (kn := frN (bestK (valS v) L N)) (kd := frD (bestK (valS v) L N)) (A := A) hn hc (by omega) hz s1 (by omega) (by omega) hl (.inl h8))
 have HN := Lib.hid hn
 have HD : Hid (decide (cmpQ (bestK (valS v) L N) 0 < 0) = decide (bestK (valS v) L N < 0)) := decide_eq_decide.2 cmpQ_neg
 unfold FV at KC0
 unfold FR at KM
 have HC2 : Hid (∀ j, j ≤ N → ∀ p, L[j]? = some p → Ret 26 #[.agg #[.string (frN (rat (valS p.v) (valS v))), .string (frD (rat (valS p.v) (valS v)))], .agg #[.string (frN (bestK (valS v) L N)), .string (frD (bestK (valS v) L N))]] (.int .i64 (cmpQ (rat (valS p.v) (valS v)) (bestK (valS v) L N))) ∧ decide (0 < cmpQ (rat (valS p.v) (valS v)) (bestK (valS v) L N)) = false) := fun j hj p hp => by
  have := HC.out j hj
  rw [ptAt_some hp] at this
  exact this
 have HE2 : Hid (∀ p, L[j0]? = some p → frN (rat (valS p.v) (valS v)) = frN (bestK (valS v) L N) ∧ frD (rat (valS p.v) (valS v)) = frD (bestK (valS v) L N)) := fun p hp => by
  have := HJ.out.2
  rw [ptAt_some hp] at this
  rw [this]
  exact ⟨rfl, rfl⟩
 clear HC HJ ej0 r1 d1 d3 h2 hlv fu vu vm zm fm hmm
 obtain ⟨tm, htm⟩ : ∃ t, decide (cmpQ (bestK (valS v) L N) 0 < 0) = t := ⟨_, rfl⟩
 have HTM : Hid (tm = false → 0 ≤ bestK (valS v) L N) := fun h => Rat.not_lt.1 (of_decide_eq_false (by rw [← HD.out, htm, h]))
 clear HD
 generalize frN (bestK (valS v) L N) = rn at *
 generalize frD (bestK (valS v) L N) = rd at *
 generalize hcz : cmpQ (bestK (valS v) L N) 0 = cz at *
 clear hcz
 unfold tval at *
 dsimp only at *
 have hs := (St.refl hg).alloc (.cells #[.string mn, .string md, .string pn, .string pd, .int .i64 ct] 44)
 have XT := Bx.new w #[.string mn, .string md, .string pn, .string pd, .int .i64 ct] 44
 have HR := Lib.hid hr
 have a0 := XT.cell (i := 0) (v := .string mn) rfl
 have a1 := XT.cell (i := 1) (v := .string md) rfl
 have a2 := XT.cell (i := 2) (v := .string pn) rfl
 have a3 := XT.cell (i := 3) (v := .string pd) rfl
 have a4 := XT.cell (i := 4) (v := .int .i64 ct) rfl
 have HR1 : Hid (∀ W : World, Row W none (flatG fncells ([] : List FnS))) := fun W i v hv => by simp [flatG] at hv
 have AW := awake45
 clear ht1 ht2 hT g1 hG hr hbig hl he hz s1 hc hn
 go_enter Tryz.func5, Tryz.ntmps5
 go_wp2_with fail
 clear a0 a1 a2 a3 a4
 refine KL1.step hs (HR1.out _) ?_
 intro w1 hs hb
 replace XT := XT.on hb
 go_wp2_with fail
 have HR2 : Hid (Row (w1.alloc (.cells #[.string v] 32)) (some ⟨w1.heap.size, 0, none⟩) ([v].map sv)) := Row.of (Bx.new w1 #[.string v] 32)
 replace XT := XT.alloc (.cells #[.string v] 32)
 replace hs := hs.alloc (.cells #[.string v] 32)
 refine (KL2 _).step hs HR2.out ?_
 intro w2 hs hb
 replace XT := XT.on hb
 have t0 := XT.cell (i := 0) (v := .string mn) rfl
 have t1 := XT.cell (i := 1) (v := .string md) rfl
 have t2 := XT.cell (i := 2) (v := .string pn) rfl
 have t3 := XT.cell (i := 3) (v := .string pd) rfl
 have t4 := XT.cell (i := 4) (v := .int .i64 ct) rfl
 go_wp2_with fail
 refine KG.step hs (HR.out.on hs.2) ?_
 intro w3 hs hb
 clear t0 t1 t2 t3 t4
 replace XT := XT.on hb
 have t0 := XT.cell (i := 0) (v := .string mn) rfl
 have t1 := XT.cell (i := 1) (v := .string md) rfl
 have t2 := XT.cell (i := 2) (v := .string pn) rfl
 have t3 := XT.cell (i := 3) (v := .string pd) rfl
 have t4 := XT.cell (i := 4) (v := .int .i64 ct) rfl
 go_wp2_with fail
 refine KM.step hs (HR.out.on hs.2) ?_
 intro w4 hs hb
 clear t0 t1 t2 t3 t4
 replace XT := XT.on hb
 replace XT := XT.alloc (.cells #[.string rn, .string rd] 34)
 replace hs := hs.alloc (.cells #[.string rn, .string rd] 34)
 have XM := Bx.new w4 #[.string rn, .string rd] 34
 have hm0 := XM.cell (i := 0) (v := .string rn) rfl
 go_wp2_with fail
 clear hm0
 go_loopw [9, 51] (fun f s wr => ∃ (k : Nat) (t : Bool), k ≤ N + 1 ∧ f = .bool t ∧ s = .int .i64 (k : Int) ∧ St w wr ∧ Bx wr w.heap.size #[.string mn, .string md, .string pn, .string pd, .int .i64 ct] ∧ Bx wr w4.heap.size #[.string rn, .string rd] ∧ Hid (j0 < k → t = true)) (fun _ s _ => (N + 1 - intOf s).toNat)
 case atStart => exact ⟨0, false, by omega, rfl, rfl, hs, XT, XM, fun h => by omega⟩
 case round =>
  clear XT XM hs
  obtain ⟨k, t, hk, rfl, rfl, hs, XT, XM, HT⟩ := hrel
  by_cases hkn : k = N + 1
  ·subst hkn
   obtain rfl : t = true := HT.out (by omega)
   have q : decide (((N + 1 : Nat) : Int) < ((N : Int) + 1)) = false := decide_eq_false (by omega)
   have t0 := XT.cell (i := 0) (v := .string mn) rfl
   have t1 := XT.cell (i := 1) (v := .string md) rfl
   have t2 := XT.cell (i := 2) (v := .string pn) rfl
   have t3 := XT.cell (i := 3) (v := .string pd) rfl
   have t4 := XT.cell (i := 4) (v := .int .i64 ct) rfl
   have m0 := XM.cell (i := 0) (v := .string rn) rfl
   have m1 := XM.cell (i := 1) (v := .string rd) rfl
   go_wp2_with fail
   refine KC0.step hs ?_
   intro w5 hs hb
   clear t0 t1 t2 t3 t4 m0 m1
   replace XT := XT.on hb
   replace XM := XM.on hb
   have t0 := XT.cell (i := 0) (v := .string mn) rfl
   have t1 := XT.cell (i := 1) (v := .string md) rfl
   have t2 := XT.cell (i := 2) (v := .string pn) rfl
   have t3 := XT.cell (i := 3) (v := .string pd) rfl
   have t4 := XT.cell (i := 4) (v := .int .i64 ct) rfl
   have m0 := XM.cell (i := 0) (v := .string rn) rfl
   have m1 := XM.cell (i := 1) (v := .string rd) rfl
   cases tm with
   | true =>
    go_wp2_with fail
    refine AW.step hs ?_
    intro w9 hs hb
    go_wp2_with fail
    go_ret
    exact ⟨rfl, hs.2⟩
   | false =>
    have k0 := HTM.out rfl
    by_cases k1 : termE (⟨mn, md, pn, pd, ct⟩ : TermS) = 0
    ·obtain ⟨x1, x2, x3, x4⟩ := HRUN.out k0 k1
     rw [k1] at KT
     rw [x1, x2] at HKR
     have HX := Lib.hid (And.intro x3 x4)
     have HX2 := Lib.hid x2
     clear x1 x2 x3 x4 k1 k0 HRUN
     generalize runL (⟨mn, md, pn, pd, ct⟩ : TermS) v rn rd L = RL at *
     go_wp2_with fail
     refine KT.step hs ?_
     intro w6 hs hb
     clear t0 t1 t2 t3 t4 m0 m1
     replace XT := XT.on hb
     replace XM := XM.on hb
     have t0 := XT.cell (i := 0) (v := .string mn) rfl
     have t1 := XT.cell (i := 1) (v := .string md) rfl
     have t2 := XT.cell (i := 2) (v := .string pn) rfl
     have t3 := XT.cell (i := 3) (v := .string pd) rfl
     have t4 := XT.cell (i := 4) (v := .int .i64 ct) rfl
     have m0 := XM.cell (i := 0) (v := .string rn) rfl
     have m1 := XM.cell (i := 1) (v := .string rd) rfl
     go_wp2_with fail
     refine (HKR.out _ hs.gl (HR.out.on hs.2)).mono ?_
     rintro e w7 ⟨vr, rfl, ho, hb⟩
     replace hs := hs.on hb
     clear t0 t1 t2 t3 t4 m0 m1
     obtain ⟨Aq, cq, rfl, rq⟩ := ho.row
     have KTT := tot_any (A := Aq) (c := cq) (K := 5000) HX2.out (by omega) (by omega) HX.out.1
     rw [HX.out.2, canS_zero] at KTT
     generalize canS (sumI chMg RL) = sg at *
     have HQ := Lib.hid rq
     clear rq ho
     go_wp2_with fail
     refine KTT.step hs HQ.out ?_
     intro w8 hs hb
     go_wp2_with fail
     refine AW.step hs ?_
     intro w9 hs hb
     go_wp2_with fail
     go_ret
     exact ⟨rfl, hs.2⟩
    ·have q1 : (termE (⟨mn, md, pn, pd, ct⟩ : TermS) != 0) = true := by simpa using k1
     generalize termE (⟨mn, md, pn, pd, ct⟩ : TermS) = te at *
     clear k1 k0 HRUN HKR
     go_wp2_with fail
     refine KT.step hs ?_
     intro w6 hs hb
     clear t0 t1 t2 t3 t4 m0 m1
     replace XT := XT.on hb
     replace XM := XM.on hb
     have t0 := XT.cell (i := 0) (v := .string mn) rfl
     have t1 := XT.cell (i := 1) (v := .string md) rfl
     have t2 := XT.cell (i := 2) (v := .string pn) rfl
     have t3 := XT.cell (i := 3) (v := .string pd) rfl
     have t4 := XT.cell (i := 4) (v := .int .i64 ct) rfl
     have m0 := XM.cell (i := 0) (v := .string rn) rfl
     have m1 := XM.cell (i := 1) (v := .string rd) rfl
     go_wp2_with fail
     refine AW.step hs ?_
     intro w9 hs hb
     go_wp2_with fail
     go_ret
     exact ⟨rfl, hs.2⟩
  ·have hkl : k < N + 1 := by omega
   have q : decide ((k : Int) < ((N : Int) + 1)) = true := decide_eq_true (by omega)
   have qn : decide (k < N + 1) = true := decide_eq_true hkl
   obtain ⟨pt, hpt⟩ : ∃ d, L[k]? = some d := ⟨L[k]'(by rw [HN.out]; omega), by simp⟩
   obtain ⟨b, o, hA, hb, hcP⟩ := row_at (cs := ptcells) (m := 3) ptcells_lenS (by decide) (HR.out.on hs.2) hpt
   subst hA
   have KP := HP.out pt (List.mem_of_getElem? hpt)
   have KC := HC2.out k (by omega) pt hpt
   have HEQ : Hid (k = j0 → frN (rat (valS pt.v) (valS v)) = rn ∧ frD (rat (valS pt.v) (valS v)) = rd) := fun e => by subst e; exact HE2.out pt hpt
   obtain ⟨e0, e1, e2⟩ := pt
   dsimp only at KP KC HEQ
   unfold FR at KP
   generalize frN (rat (valS e1) (valS v)) = pn' at *
   generalize frD (rat (valS e1) (valS v)) = pd' at *
   generalize cmpQ (rat (valS e1) (valS v)) (bestK (valS v) L N) = cc at *
   obtain ⟨KC, qc⟩ := KC
   obtain ⟨te, hte⟩ : ∃ t, ((pn'.toList == rn.toList) && (pd'.toList == rd.toList)) = t := ⟨_, rfl⟩
   have HTE : Hid (k = j0 → te = true) := fun e => by
    obtain ⟨h1, h2⟩ := HEQ.out e
    rw [← hte, h1, h2]
    simp
   have ef := eqlF pn' pd' rn rd
   simp only [hte] at ef
   have x0 : wr.cell? ⟨b, o + k * 3, none⟩ = some (.int .i64 e0) := hcP 0 _ rfl
   have x1 : wr.cell? ⟨b, o + k * 3 + 1, none⟩ = some (.string e1) := hcP 1 _ rfl
   have x2 : wr.cell? ⟨b, o + k * 3 + 2, none⟩ = some (.string e2) := hcP 2 _ rfl
   clear hte hcP hpt hkn
   have XD := Bx.new wr #[.int .i64 e0, .string e1, .string e2] 53
   replace XT := XT.alloc (.cells #[.int .i64 e0, .string e1, .string e2] 53)
   replace XM := XM.alloc (.cells #[.int .i64 e0, .string e1, .string e2] 53)
   replace hs := hs.alloc (.cells #[.int .i64 e0, .string e1, .string e2] 53)
   have d1 := XD.cell (i := 1) (v := .string e1) rfl
   go_wp2_with fail
   refine KP.step hs ?_
   intro w5 hs hb5
   clear d1 x0 x1 x2 q qn
   have XP := Bx.new w5 #[.string pn', .string pd'] 34
   replace XT := XT.on hb5
   replace XM := XM.on hb5
   replace XT := XT.alloc (.cells #[.string pn', .string pd'] 34)
   replace XM := XM.alloc (.cells #[.string pn', .string pd'] 34)
   replace hs := hs.alloc (.cells #[.string pn', .string pd'] 34)
   have p0 := XP.cell (i := 0) (v := .string pn') rfl
   have p1 := XP.cell (i := 1) (v := .string pd') rfl
   have m0 := XM.cell (i := 0) (v := .string rn) rfl
   have m1 := XM.cell (i := 1) (v := .string rd) rfl
   go_wp2_with fail
   refine KC.step hs ?_
   intro w6 hs hb6
   clear p0 p1 m0 m1
   replace XT := XT.on hb6
   replace XM := XM.on hb6
   replace XP := XP.on hb6
   have p0 := XP.cell (i := 0) (v := .string pn') rfl
   have p1 := XP.cell (i := 1) (v := .string pd') rfl
   have m0 := XM.cell (i := 0) (v := .string rn) rfl
   have m1 := XM.cell (i := 1) (v := .string rd) rfl
   cases t with
   | true =>
    go_wp2_with fail
    go_roundw
    case rel => exact ⟨k + 1, true, by omega, rfl, by go_num, hs, XT, XM, fun _ => rfl⟩
    case measure => simp [intOf]; omega
   | false =>
    go_wp2_with fail
    go_roundw
    case rel => exact ⟨k + 1, te, by omega, rfl, by go_num, hs, XT, XM, fun h => by
     by_cases e : k = j0
     ·exact HTE.out e
     ·exact absurd (HT.out (by omega)) (by decide)⟩
    case measure => simp [intOf]; omega
theorem great45_any {mn md pn pd v : ByteArray} {ct : Int} {A : Option Addr} {n c : Nat} {L : List PtS} (hT : TermS.big ⟨mn, md, pn, pd, ct⟩) (g1 : v.size ≤ 9223372036854775807) (hn : L.length = n) (hc : n ≤ c) (hm : n ≤ 9223372036854775807) (hbig : ∀ p ∈ L, p.big45) (w : World) (hg : Gl w) (hr : Row w A (flatG ptcells L)) : Calls Tryz.prog 5 #[.agg #[.string mn, .string md, .string pn, .string pd, .int .i64 ct], .string v, .slice A n c] w fun e w' => e = .returned (.bool true) ∧ Below w.heap.size w w' := by
 cases ht1 : (lngT ⟨mn, md, pn, pd, ct⟩ || List.any ([] : List FnS) lngF) with
 | true => exact grt_long1 hT g1 ht1 w hg
 | false =>
  cases ht2 : List.any ([v] : List ByteArray) (fun s => decide (13 < s.size)) with
  | true => exact grt_long2 hT g1 ht1 ht2 w hg
  | false =>
   cases hG : grtP L with
   | true => exact grt_grt hT g1 hn hm hbig ht1 ht2 hG w hg hr
   | false =>
    by_cases h8 : n ≤ 8
    ·have hz : TermS.le 13 ⟨mn, md, pn, pd, ct⟩ := lngT_false (by simpa using ht1)
     have s1 : v.size ≤ 13 := by simpa using ht2
     by_cases he : mrkE v L = 0
     ·obtain ⟨g1', _⟩ := ser_zero (mrk_zero he).2
      obtain ⟨N, hN⟩ : ∃ N, n = N + 1 := ⟨n - 1, by omega⟩
      subst hN
      exact grt_ok hT g1 hn hm hbig ht1 ht2 hG hc h8 hz s1 he w hg hr
     ·exact grt_err hT g1 hn hm hbig ht1 ht2 hG hc h8 s1 he w hg hr
    ·exact grt_many hT g1 hn hm hbig ht1 ht2 hG (by omega) w hg hr
end Go.Proofs.YtpjgcdgdgljioaaGreatDoor
