/- Fees, the reference: series that are too great for the statements. Condition: lengths that a slice can have. -/
import Derived.Test.YtpjgcdgdgljioaaGreatDoorFeE
import Derived.Test.YtpjgcdgdgljioaaGreatDoorFe4
namespace Go.Proofs.YtpjgcdgdgljioaaGreatDoor
open Go.RowKit Go.Shelf Dec QQ
def lngP (p : PtS) : Bool := decide (13 < p.v.size) || decide (13 < p.f.size)
def grtP (l : List PtS) : Bool := l.any lngP || ((decide (8 < l.length) && decide (l.length ≤ 400)) || decide (403 < l.length))
theorem lngP_false {p : PtS} (h : lngP p = false) : p.v.size ≤ 13 ∧ p.f.size ≤ 13 := by
 unfold lngP at h
 simp at h
 exact h
set_option maxRecDepth 100000 in
set_option maxHeartbeats 4000000 in
theorem rgrt_any {A : Option Addr} {n c : Nat} {l : List PtS} (hn : l.length = n) (hm : n ≤ 9223372036854775807) (hz : ∀ p ∈ l, p.v.size ≤ 9223372036854775807 ∧ p.f.size ≤ 9223372036854775807) : RetI (fun w => Row w A (flatG ptcells l)) 22 #[.slice A n c] (.bool (grtP l)) := by
 intro w hg hi
 have hs := St.refl hg
 have HN := Lib.hid hn
 have HI := Lib.hid hi
 have HZ := Lib.hid hz
 obtain ⟨v, hv⟩ : ∃ v, grtP l = v := ⟨_, rfl⟩
 rw [hv]
 have HNo : Hid ((∀ i, i < n → ∀ t, l[i]? = some t → lngP t = false) → v = ((decide (8 < n) && decide (n ≤ 400)) || decide (403 < n))) := fun h => by
  rw [← hv]
  unfold grtP
  have e : l.any lngP = false := by
   rw [List.any_eq_false]
   intro s hs
   obtain ⟨i, hi, rfl⟩ := List.mem_iff_getElem.1 hs
   rw [h i (by omega) _ (List.getElem?_eq_getElem hi)]
   decide
  rw [e, hn, Bool.false_or]
 have HYes : Hid (∀ t, t ∈ l → lngP t = true → v = true) := fun t ht h => by
  rw [← hv]
  unfold grtP
  rw [List.any_eq_true.2 ⟨t, ht, h⟩, Bool.true_or]
 clear hn hi hz hv
 go_enter Tryz.func22, Tryz.ntmps22
 go_wp2_with fail
 go_loopw [3] (fun s wr => ∃ k : Nat, k ≤ n ∧ s = .int .i64 (k : Int) ∧ St w wr ∧ Hid (∀ i, i < k → ∀ t, l[i]? = some t → lngP t = false)) (fun s _ => (n - intOf s).toNat)
 case atStart => exact ⟨0, by omega, rfl, hs, fun i h => by omega⟩
 case round =>
  obtain ⟨k, hk, rfl, hs, HP⟩ := hrel
  by_cases hkn : k = n
  ·subst hkn
   have q : decide ((k : Int) < (k : Int)) = false := decide_eq_false (by omega)
   have hv := HNo.out HP.out
   obtain ⟨t1, h1⟩ : ∃ t, decide (8 < k) = t := ⟨_, rfl⟩
   obtain ⟨t2, h2⟩ : ∃ t, decide (k ≤ 400) = t := ⟨_, rfl⟩
   obtain ⟨t3, h3⟩ : ∃ t, decide (403 < k) = t := ⟨_, rfl⟩
   rw [h1, h2, h3] at hv
   have q1 : decide ((8 : Int) < (k : Int)) = t1 := by rw [← h1, decide_eq_decide]; omega
   have q2 : decide ((k : Int) ≤ 400) = t2 := by rw [← h2, decide_eq_decide]; omega
   have q3 : decide ((403 : Int) < (k : Int)) = t3 := by rw [← h3, decide_eq_decide]; omega
   subst hv
   clear h1 h2 h3 HNo HYes
   cases t1 <;> cases t2 <;> cases t3
   all_goals
    go_wp2_with fail
    go_ret
    exact ⟨by rfl, hs.2⟩
  ·have hkl : k < n := by omega
   have q : decide ((k : Int) < (n : Int)) = true := decide_eq_true (by omega)
   have qn : decide (k < n) = true := decide_eq_true hkl
   obtain ⟨d, hd⟩ : ∃ d, l[k]? = some d := ⟨l[k]'(by rw [HN.out]; exact hkl), by simp⟩
   obtain ⟨b, o, hA, hb, hcells⟩ := row_at (cs := ptcells) (m := 3) ptcells_lenS (by decide) (HI.out.on hs.2) hd
   subst hA
   have hdz := HZ.out d (List.mem_of_getElem? hd)
   have K1 := rlongR (a := d.v) hdz.1
   have K2 := rlongR (a := d.f) hdz.2
   have hlp : lngP d = (decide (13 < d.v.size) || decide (13 < d.f.size)) := rfl
   obtain ⟨t1, h1⟩ : ∃ t, decide (13 < d.v.size) = t := ⟨_, rfl⟩
   obtain ⟨t2, h2⟩ : ∃ t, decide (13 < d.f.size) = t := ⟨_, rfl⟩
   rw [h1] at K1
   rw [h2] at K2
   rw [h1, h2] at hlp
   have HLP := Lib.hid hlp
   have HD := Lib.hid hd
   clear hd hkn hdz hlp h1 h2
   obtain ⟨f0, f1, f2⟩ := d
   dsimp only at K1 K2
   have x1 : wr.cell? ⟨b, o + k * 3 + 1, none⟩ = some (.string f1) := hcells 1 _ rfl
   have x2 : wr.cell? ⟨b, o + k * 3 + 2, none⟩ = some (.string f2) := hcells 2 _ rfl
   have HX2 := Lib.hid x2
   clear hcells
   cases t1 with
   | true =>
    obtain rfl : v = true := HYes.out _ (List.mem_of_getElem? HD.out) (by rw [HLP.out]; rfl)
    go_wp2_with fail
    refine K1.step hs ?_
    intro w2 hs hb2
    go_wp2_with fail
    go_ret
    exact ⟨rfl, hs.2⟩
   | false =>
    cases t2 with
    | true =>
     obtain rfl : v = true := HYes.out _ (List.mem_of_getElem? HD.out) (by rw [HLP.out]; rfl)
     go_wp2_with fail
     refine K1.step hs ?_
     intro w2 hs hb2
     clear x1 x2
     have x2 : w2.cell? ⟨b, o + k * 3 + 2, none⟩ = some (.string f2) := (hb2.cell (p := ⟨b, o + k * 3 + 2, none⟩) hb).trans HX2.out
     go_wp2_with fail
     refine K2.step hs ?_
     intro w3 hs hb3
     go_wp2_with fail
     go_ret
     exact ⟨rfl, hs.2⟩
    | false =>
     go_wp2_with fail
     refine K1.step hs ?_
     intro w2 hs hb2
     clear x1 x2
     have x2 : w2.cell? ⟨b, o + k * 3 + 2, none⟩ = some (.string f2) := (hb2.cell (p := ⟨b, o + k * 3 + 2, none⟩) hb).trans HX2.out
     go_wp2_with fail
     refine K2.step hs ?_
     intro w3 hs hb3
     go_wp2_with fail
     go_roundw
     case rel =>
      refine ⟨k + 1, by omega, by go_num, hs, fun i hi t ht => ?_⟩
      by_cases e : i = k
      ·subst e
       rw [HD.out] at ht
       cases ht
       exact HLP.out
      ·exact HP.out i (by omega) t ht
     case measure => simp [intOf]; omega
end Go.Proofs.YtpjgcdgdgljioaaGreatDoor
