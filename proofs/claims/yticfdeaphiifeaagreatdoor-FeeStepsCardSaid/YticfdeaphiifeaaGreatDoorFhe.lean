/- Fees, the reference: series that are too great for the statements. Condition: lengths that a slice can have. Fees: slices.Equal of two rows of the same charges. Condition: lengths that a slice can have. -/
import Derived.Test.YticfdeaphiifeaaGreatDoorFeE
import Derived.Test.YticfdeaphiifeaaGreatDoorFe4
import Derived.Test.YticfdeaphiifeaaGreatDoorFe5
set_option maxHeartbeats 4000000
set_option maxRecDepth 100000
namespace Go.Proofs.YticfdeaphiifeaaGreatDoor
open Go.RowKit Go.Shelf Dec QQ
def lngP (p : PtS) : Bool := decide (13 < p.v.size) || decide (13 < p.f.size)
def grtP (l : List PtS) : Bool := l.any lngP || ((decide (8 < l.length) && decide (l.length ≤ 400)) || decide (403 < l.length))
theorem lngP_false {p : PtS} (h : lngP p = false) : p.v.size ≤ 13 ∧ p.f.size ≤ 13 := by
 unfold lngP at h
 simp at h
 exact h
theorem rgrt_any {A : Option Addr} {n c : Nat} {l : List PtS} (hn : l.length = n) (hm : n ≤ 9223372036854775807) (hz : ∀ p ∈ l, p.v.size ≤ 9223372036854775807 ∧ p.f.size ≤ 9223372036854775807) : RetI (fun w => Row w A (flatG ptcells l)) 21 #[.slice A n c] (.bool (grtP l)) := by
 intro w hg hi
 have hs := St.refl hg
 have HN := Lib.hid hn
 have HI := Lib.hid hi
 have HZ := Lib.hid hz
 obtain ⟨v, hv⟩ : ∃ v, grtP l = v := ⟨_, rfl⟩
 rw [hv]
 have HNo : Hid ((∀ i, i < n → ∀ t, l[i]? = some t → lngP t = false) → v = ((decide (8 < n) && decide (n ≤ 400)) || decide (403 < n))) := fun h => by
  rw [← hv]
  unfold grtP
  have e : l.any lngP = false := by
   rw [List.any_eq_false]
   intro s hs
   obtain ⟨i, hi, rfl⟩ := List.mem_iff_getElem.1 hs
   rw [h i (by omega) _ (List.getElem?_eq_getElem hi)]
   decide
  rw [e, hn, Bool.false_or]
 have HYes : Hid (∀ t, t ∈ l → lngP t = true → v = true) := fun t ht h => by
  rw [← hv]
  unfold grtP
  rw [List.any_eq_true.2 ⟨t, ht, h⟩, Bool.true_or]
 clear hn hi hz hv
 go_enter Tryz.func21, Tryz.ntmps21
 go_wp2_with fail
 go_loopw [3] (fun s wr => ∃ k : Nat, k ≤ n ∧ s = .int .i64 (k : Int) ∧ St w wr ∧ Hid (∀ i, i < k → ∀ t, l[i]? = some t → lngP t = false)) (fun s _ => (n - intOf s).toNat)
 case atStart => exact ⟨0, by omega, rfl, hs, fun i h => by omega⟩
 case round =>
  obtain ⟨k, hk, rfl, hs, HP⟩ := hrel
  by_cases hkn : k = n
  ·subst hkn
   have q : decide ((k : Int) < (k : Int)) = false := decide_eq_false (by omega)
   have hv := HNo.out HP.out
   obtain ⟨t1, h1⟩ : ∃ t, decide (8 < k) = t := ⟨_, rfl⟩
   obtain ⟨t2, h2⟩ : ∃ t, decide (k ≤ 400) = t := ⟨_, rfl⟩
   obtain ⟨t3, h3⟩ : ∃ t, decide (403 < k) = t := ⟨_, rfl⟩
   rw [h1, h2, h3] at hv
   have q1 : decide ((8 : Int) < (k : Int)) = t1 := by rw [← h1, decide_eq_decide]; omega
   have q2 : decide ((k : Int) ≤ 400) = t2 := by rw [← h2, decide_eq_decide]; omega
   have q3 : decide ((403 : Int) < (k : Int)) = t3 := by rw [← h3, decide_eq_decide]; omega
   subst hv
   clear h1 h2 h3 HNo HYes
   cases t1 <;> cases t2 <;> cases t3
   all_goals
    go_wp2_with fail
    go_ret
    exact ⟨by rfl, hs.2⟩
  ·have hkl : k < n := by omega
   have q : decide ((k : Int) < (n : Int)) = true := decide_eq_true (by omega)
   have qn : decide (k < n) = true := decide_eq_true hkl
   obtain ⟨d, hd⟩ : ∃ d, l[k]? = some d := ⟨l[k]'(by rw [HN.out]; exact hkl), by simp⟩
   obtain ⟨b, o, hA, hb, hcells⟩ := row_at (cs := ptcells) (m := 3) ptcells_lenS (by decide) (HI.out.on hs.2) hd
   subst hA
   have hdz := HZ.out d (List.mem_of_getElem? hd)
   have K1 := rlongR (a := d.v) hdz.1
   have K2 := rlongR (a := d.f) hdz.2
   have hlp : lngP d = (decide (13 < d.v.size) || decide (13 < d.f.size)) := rfl
   obtain ⟨t1, h1⟩ : ∃ t, decide (13 < d.v.size) = t := ⟨_, rfl⟩
   obtain ⟨t2, h2⟩ : ∃ t, decide (13 < d.f.size) = t := ⟨_, rfl⟩
   rw [h1] at K1
   rw [h2] at K2
   rw [h1, h2] at hlp
   have HLP := Lib.hid hlp
   have HD := Lib.hid hd
   clear hd hkn hdz hlp h1 h2
   obtain ⟨f0, f1, f2⟩ := d
   dsimp only at K1 K2
   have x1 : wr.cell? ⟨b, o + k * 3 + 1, none⟩ = some (.string f1) := hcells 1 _ rfl
   have x2 : wr.cell? ⟨b, o + k * 3 + 2, none⟩ = some (.string f2) := hcells 2 _ rfl
   have HX2 := Lib.hid x2
   clear hcells
   cases t1 with
   | true =>
    obtain rfl : v = true := HYes.out _ (List.mem_of_getElem? HD.out) (by rw [HLP.out]; rfl)
    go_wp2_with fail
    refine K1.step hs ?_
    intro w2 hs hb2
    go_wp2_with fail
    go_ret
    exact ⟨rfl, hs.2⟩
   | false =>
    cases t2 with
    | true =>
     obtain rfl : v = true := HYes.out _ (List.mem_of_getElem? HD.out) (by rw [HLP.out]; rfl)
     go_wp2_with fail
     refine K1.step hs ?_
     intro w2 hs hb2
     clear x1 x2
     have x2 : w2.cell? ⟨b, o + k * 3 + 2, none⟩ = some (.string f2) := (hb2.cell (p := ⟨b, o + k * 3 + 2, none⟩) hb).trans HX2.out
     go_wp2_with fail
     refine K2.step hs ?_
     intro w3 hs hb3
     go_wp2_with fail
     go_ret
     exact ⟨rfl, hs.2⟩
    | false =>
     go_wp2_with fail
     refine K1.step hs ?_
     intro w2 hs hb2
     clear x1 x2
     have x2 : w2.cell? ⟨b, o + k * 3 + 2, none⟩ = some (.string f2) := (hb2.cell (p := ⟨b, o + k * 3 + 2, none⟩) hb).trans HX2.out
     go_wp2_with fail
     refine K2.step hs ?_
     intro w3 hs hb3
     go_wp2_with fail
     go_roundw
     case rel =>
      refine ⟨k + 1, by omega, by go_num, hs, fun i hi t ht => ?_⟩
      by_cases e : i = k
      ·subst e
       rw [HD.out] at ht
       cases ht
       exact HLP.out
      ·exact HP.out i (by omega) t ht
     case measure => simp [intOf]; omega
end Go.Proofs.YticfdeaphiifeaaGreatDoor
namespace Go.Proofs.YticfdeaphiifeaaGreatDoor
open Go.RowKit Go.Shelf Dec QQ
theorem neqC (a0 b0 : Int) (a1 a2 a3 a4 b1 b2 b3 b4 : ByteArray) (u : World) : (binOp .neq 57 (.agg #[.int .i64 a0, .string a1, .string a2, .string a3, .string a4]) (.agg #[.int .i64 b0, .string b1, .string b2, .string b3, .string b4])).run Tryz.prog u = .ok (.bool (!((a0 == b0) && (a1.toList == b1.toList) && (a2.toList == b2.toList) && (a3.toList == b3.toList) && (a4.toList == b4.toList)))) u := by
 simp [go_sem]
 repeat' split
 all_goals simp_all
theorem equalC {A A' : Option Addr} {n c c' : Nat} {xs : List ChS} (hx : xs.length = n) (hn : n ≤ 4611686018427387904) : RetI (fun w => Row w A (flatG chcells xs) ∧ Row w A' (flatG chcells xs)) 27 #[.slice A n c, .slice A' n c'] (.bool true) := by
 intro w hg hi
 have hs := St.refl hg
 have HX := Lib.hid hx
 have HI := Lib.hid hi
 have q0 : ((n : Int) != (n : Int)) = false := by simp
 clear hx hi
 go_enter Tryz.func27, Tryz.ntmps27
 go_wp2_with fail
 go_loopw [13] (fun s wr => ∃ k : Nat, k ≤ n ∧ s = .int .i64 (k : Int) ∧ St w wr) (fun s _ => (n - intOf s).toNat)
 case atStart => exact ⟨0, by omega, rfl, hs⟩
 case round =>
  obtain ⟨k, hk, rfl, hs⟩ := hrel
  by_cases hkn : k = n
  ·subst hkn
   have q : decide ((k : Int) < (k : Int)) = false := decide_eq_false (by omega)
   go_wp2_with fail
   go_ret
   exact ⟨rfl, hs.2⟩
  ·have hkl : k < n := by omega
   have q : decide ((k : Int) < (n : Int)) = true := decide_eq_true (by omega)
   have qn : decide (k < n) = true := decide_eq_true hkl
   obtain ⟨r, hr⟩ : ∃ r, xs[k]? = some r := ⟨xs[k]'(by rw [HX.out]; exact hkl), by simp⟩
   obtain ⟨b, o, hA, hb, hcells⟩ := row_at (cs := chcells) (m := 5) chcells_len (by decide) (HI.out.1.on hs.2) hr
   obtain ⟨b', o', hA', hb', hcells'⟩ := row_at (cs := chcells) (m := 5) chcells_len (by decide) (HI.out.2.on hs.2) hr
   subst hA hA'
   obtain ⟨f0, f1, f2, f3, f4⟩ := r
   have x0 : wr.cell? ⟨b, o + k * 5, none⟩ = some (.int .i64 f0) := hcells 0 _ rfl
   have y0 : wr.cell? ⟨b', o' + k * 5, none⟩ = some (.int .i64 f0) := hcells' 0 _ rfl
   have x1 : wr.cell? ⟨b, o + k * 5 + 1, none⟩ = some (.string f1) := hcells 1 _ rfl
   have y1 : wr.cell? ⟨b', o' + k * 5 + 1, none⟩ = some (.string f1) := hcells' 1 _ rfl
   have x2 : wr.cell? ⟨b, o + k * 5 + 2, none⟩ = some (.string f2) := hcells 2 _ rfl
   have y2 : wr.cell? ⟨b', o' + k * 5 + 2, none⟩ = some (.string f2) := hcells' 2 _ rfl
   have x3 : wr.cell? ⟨b, o + k * 5 + 3, none⟩ = some (.string f3) := hcells 3 _ rfl
   have y3 : wr.cell? ⟨b', o' + k * 5 + 3, none⟩ = some (.string f3) := hcells' 3 _ rfl
   have x4 : wr.cell? ⟨b, o + k * 5 + 4, none⟩ = some (.string f4) := hcells 4 _ rfl
   have y4 : wr.cell? ⟨b', o' + k * 5 + 4, none⟩ = some (.string f4) := hcells' 4 _ rfl
   have eqD := fun x => neqC f0 f0 f1 f2 f3 f4 f1 f2 f3 f4 x
   simp only [beq_self_eq_true, Bool.and_true, Bool.not_true] at eqD
   clear hcells hcells' hr hkn
   go_wp2_with fail
   go_quiet (fail)
   go_wp2_with fail
   go_roundw
   case rel => exact ⟨k + 1, by omega, by go_num, hs.drewN _⟩
   case measure => simp [intOf]; omega
end Go.Proofs.YticfdeaphiifeaaGreatDoor
