/- Fees: why points are no series. Conditions: short numbers. -/
import Derived.Test.YticfdeaphiifeaaGreatDoorFe13
import Derived.Test.YticfdeaphiifeaaGreatDoorGr
namespace Go.Proofs.YticfdeaphiifeaaGreatDoor
open Go.RowKit Go.Shelf Dec QQ
theorem ptcells_lenS (c : PtS) : (ptcells c).length = 3 := rfl
def ptLate (l : List PtS) (p : PtS) : Nat → Int
 | 0 => 0
 | j + 1 => match l[j]? with
  | none => 0
  | some o => if p.day ≤ o.day then 8 else 0
theorem ptErr_at {l : List PtS} {k : Nat} {p : PtS} (hp : l[k]? = some p) : ptErr l k = if notDay p.day = true then 13 else if chk p.v ≠ 0 ∨ chk p.f ≠ 0 then 1 else ptLate l p k := by
 conv => lhs; unfold ptErr
 rw [hp]
 cases k <;> rfl
set_option maxRecDepth 100000 in
set_option maxHeartbeats 4000000 in
theorem ser_any {A : Option Addr} {n c : Nat} {l : List PtS} (hn : l.length = n) (hm : n ≤ 4611686018427387904) (hz : ∀ p ∈ l, p.v.size ≤ 1000 ∧ p.f.size ≤ 1000) : RetI (fun w => Row w A (flatG ptcells l)) 61 #[.slice A n c] (.int .i64 (serE l)) := by
 intro w hg hi
 have hs := St.refl hg
 by_cases h0 : n = 0
 ·have e : serE l = 11 := if_pos (by omega)
  rw [e]
  subst h0
  clear e hn hz hi
  go_enter Tryz.func61, Tryz.ntmps61
  go_wp2_with fail
  go_ret
  exact ⟨rfl, hs.2⟩
 ·have q0 : ((n : Int) == 0) = false := beq_eq_false_iff_ne.2 (by omega)
  by_cases h4 : 400 < n
  ·have e : serE l = 4 := by unfold serE; rw [if_neg (by omega), if_pos (by omega)]
   rw [e]
   have q4 : decide ((400 : Int) < (n : Int)) = true := decide_eq_true (by omega)
   clear e hn hz hi
   go_enter Tryz.func61, Tryz.ntmps61
   go_wp2_with fail
   go_ret
   exact ⟨rfl, hs.2⟩
  ·have q4 : decide ((400 : Int) < (n : Int)) = false := decide_eq_false (by omega)
   have HN := Lib.hid hn
   have HI := Lib.hid hi
   have HZ := Lib.hid hz
   obtain ⟨v, hv⟩ : ∃ v, serE l = v := ⟨_, rfl⟩
   rw [hv]
   have HNo : Hid ((∀ i, i < n → ptErr l i = 0) → v = 0) := fun h => by
    rw [← hv]
    exact ser_in (by omega) (by omega) (fun i hi => h i (by omega))
   have HEr : Hid (∀ k, k < n → ptErr l k ≠ 0 → (∀ i, i < k → ptErr l i = 0) → v = ptErr l k) := fun k hk he hb => by
    rw [← hv]
    unfold serE
    rw [if_neg (by omega), if_neg (by omega)]
    exact errL_at (by omega) he hb
   clear hn hi hz hv
   go_enter Tryz.func61, Tryz.ntmps61
   go_wp2_with fail
   go_loopw [13] (fun s wr => ∃ k : Nat, k ≤ n ∧ s = .int .i64 (k : Int) ∧ St w wr ∧ Hid (∀ i, i < k → ptErr l i = 0)) (fun s _ => (n - intOf s).toNat)
   case atStart => exact ⟨0, by omega, rfl, hs, fun i h => by omega⟩
   case round =>
    obtain ⟨k, hk, rfl, hs, HP⟩ := hrel
    by_cases hkn : k = n
    ·subst hkn
     have q : decide ((k : Int) < (k : Int)) = false := decide_eq_false (by omega)
     obtain rfl : v = 0 := HNo.out HP.out
     go_wp2_with fail
     go_ret
     exact ⟨rfl, hs.2⟩
    ·have hkl : k < n := by omega
     have q : decide ((k : Int) < (n : Int)) = true := decide_eq_true (by omega)
     have qn : decide (k < n) = true := decide_eq_true hkl
     obtain ⟨d, hd⟩ : ∃ d, l[k]? = some d := ⟨l[k]'(by rw [HN.out]; exact hkl), by simp⟩
     obtain ⟨b, o, hA, hb, hcells⟩ := row_at (cs := ptcells) (m := 3) ptcells_lenS (by decide) (HI.out.on hs.2) hd
     subst hA
     have hdz := HZ.out d (List.mem_of_getElem? hd)
     have KD := fvalid_any d.day
     have KV := ChkR (a := d.v) (by omega)
     have KF := ChkR (a := d.f) (by omega)
     have hpe := ptErr_at hd
     have HER := Lib.hid (fun h => HEr.out k hkl h HP.out)
     have HNX : Hid (ptErr l k = 0 → ∀ i, i < k + 1 → ptErr l i = 0) := fun h i hi => by
      by_cases e : i = k
      ·subst e; exact h
      ·exact HP.out i (by omega)
     have HIw := Lib.hid (HI.out.on hs.2)
     clear hdz hkn
     obtain ⟨f0, f1, f2⟩ := d
     dsimp only at KD KV KF hpe
     have x0 : wr.cell? ⟨b, o + k * 3, none⟩ = some (.int .i64 f0) := hcells 0 _ rfl
     have x1 : wr.cell? ⟨b, o + k * 3 + 1, none⟩ = some (.string f1) := hcells 1 _ rfl
     have x2 : wr.cell? ⟨b, o + k * 3 + 2, none⟩ = some (.string f2) := hcells 2 _ rfl
     clear hcells
     have XD := Bx.new wr #[.int .i64 f0, .string f1, .string f2] 63
     have hsa := hs.alloc (.cells #[.int .i64 f0, .string f1, .string f2] 63)
     have hrw : Below wr.heap.size wr (wr.alloc (.cells #[.int .i64 f0, .string f1, .string f2] 63)) := (Below.refl _ _).alloc (Nat.le_refl _) _
     have y0 := XD.cell (i := 0) (v := .int .i64 f0) rfl
     have y1 := XD.cell (i := 1) (v := .string f1) rfl
     have y2 := XD.cell (i := 2) (v := .string f2) rfl
     replace hs := hsa
     clear hsa
     cases hD : notDay f0 with
     | true =>
      rw [hD] at KD hpe
      rw [if_pos rfl] at hpe
      obtain rfl : v = 13 := by have := HER.out (by rw [hpe]; decide); rw [this, hpe]
      clear hpe HER HNX hD hd
      go_wp2_with fail
      refine KD.step hs ?_
      intro w2 hs hb2
      clear y0 y1 y2
      replace XD := XD.on hb2
      have y0 := XD.cell (i := 0) (v := .int .i64 f0) rfl
      have y1 := XD.cell (i := 1) (v := .string f1) rfl
      have y2 := XD.cell (i := 2) (v := .string f2) rfl
      go_wp2_with fail
      go_ret
      exact ⟨rfl, hs.2⟩
     | false =>
      rw [hD] at KD hpe
      rw [if_neg (by decide)] at hpe
      by_cases hV : chk f1 = 0
      ·by_cases hF : chk f2 = 0
       ·rw [if_neg (by rw [hV, hF]; simp)] at hpe
        rw [hV] at KV
        rw [hF] at KF
        cases k with
        | zero =>
         simp only [Nat.zero_mul, Nat.add_zero] at x0 x1 x2
         have hz0 : ptErr l 0 = 0 := hpe
         have HX := Lib.hid (HNX.out hz0)
         clear hpe HER HNX hD hV hF hd hz0
         go_wp2_with fail
         refine KD.step hs ?_
         intro w2 hs hb2
         clear y0 y1 y2
         replace XD := XD.on hb2
         have y0 := XD.cell (i := 0) (v := .int .i64 f0) rfl
         have y1 := XD.cell (i := 1) (v := .string f1) rfl
         have y2 := XD.cell (i := 2) (v := .string f2) rfl
         go_wp2_with fail
         refine KV.step hs ?_
         intro w2 hs hb2
         clear y0 y1 y2
         replace XD := XD.on hb2
         have y0 := XD.cell (i := 0) (v := .int .i64 f0) rfl
         have y1 := XD.cell (i := 1) (v := .string f1) rfl
         have y2 := XD.cell (i := 2) (v := .string f2) rfl
         go_wp2_with fail
         refine KF.step hs ?_
         intro w2 hs hb2
         clear y0 y1 y2
         replace XD := XD.on hb2
         have y0 := XD.cell (i := 0) (v := .int .i64 f0) rfl
         have y1 := XD.cell (i := 1) (v := .string f1) rfl
         have y2 := XD.cell (i := 2) (v := .string f2) rfl
         go_wp2_with fail
         have k0 := XD.keeps (i := 0) (v := .int .i64 f0) rfl
         refine wp_region_kept (by kernel_rfl) (by kernel_rfl) ?_
         repeat (go_big_quiet_step (fail))
         refine wpQuiet_nil ?_
         rintro _ ⟨u_, rfl⟩
         replace hs := hs.kept u_
         go_wp2_with fail
         go_roundw
         case rel => exact ⟨1, by omega, rfl, hs, HX.out⟩
         case measure => simp [intOf]; omega
        | succ j =>
         obtain ⟨pd, hpd⟩ : ∃ d, l[j]? = some d := ⟨l[j]'(by rw [HN.out]; omega), by simp⟩
         obtain ⟨b', o', hA2, _, hcP⟩ := row_at (cs := ptcells) (m := 3) ptcells_lenS (by decide) HIw.out hpd
         obtain ⟨rfl, rfl⟩ : b = b' ∧ o = o' := by injection hA2 with hA2; injection hA2 with h1 h2; exact ⟨h1, h2⟩
         have hpv : ptLate l ⟨f0, f1, f2⟩ (j + 1) = if f0 ≤ pd.day then 8 else 0 := by simp only [ptLate, hpd]
         rw [hpv] at hpe
         have r0 : wr.cell? ⟨b, o + j * 3, none⟩ = some (.int .i64 pd.day) := hcP 0 _ rfl
         have HR0 := Lib.hid r0
         obtain ⟨od, hod⟩ : ∃ x, pd.day = x := ⟨_, rfl⟩
         rw [hod] at hpe HR0
         have g0 : decide ((0 : Int) < ((j + 1 : Nat) : Int)) = true := decide_eq_true (by omega)
         have g1 : (((j + 1 : Nat) : Int) - 1) = (j : Int) := by omega
         have g2 : decide ((j : Int) < (n : Int)) = true := decide_eq_true (by omega)
         have g3 : decide (j < n) = true := decide_eq_true (by omega)
         have HPD := Lib.hid hpd
         have HOD := Lib.hid hod
         clear hA2 hcP hpv r0 hod hpd
         by_cases hle : f0 ≤ od
         ·have ql : decide (f0 ≤ od) = true := decide_eq_true hle
          rw [if_pos hle] at hpe
          obtain rfl : v = 8 := by have := HER.out (by rw [hpe]; decide); rw [this, hpe]
          clear hpe HER HNX hD hV hF hd hle
          go_wp2_with fail
          refine KD.step hs ?_
          intro w2 hs hb2
          clear y0 y1 y2
          replace XD := XD.on hb2
          have y0 := XD.cell (i := 0) (v := .int .i64 f0) rfl
          have y1 := XD.cell (i := 1) (v := .string f1) rfl
          have y2 := XD.cell (i := 2) (v := .string f2) rfl
          go_wp2_with fail
          refine KV.step hs ?_
          intro w2 hs hb2
          clear y0 y1 y2
          replace XD := XD.on hb2
          have y0 := XD.cell (i := 0) (v := .int .i64 f0) rfl
          have y1 := XD.cell (i := 1) (v := .string f1) rfl
          have y2 := XD.cell (i := 2) (v := .string f2) rfl
          go_wp2_with fail
          refine KF.step hs ?_
          intro w2 hs hb2
          clear y0 y1 y2
          replace XD := XD.on hb2
          have y0 := XD.cell (i := 0) (v := .int .i64 f0) rfl
          have y1 := XD.cell (i := 1) (v := .string f1) rfl
          have y2 := XD.cell (i := 2) (v := .string f2) rfl
          go_wp2_with fail
          have k0 := XD.keeps (i := 0) (v := .int .i64 f0) rfl
          have k1 : ∀ u : Kept w2, u.W.cell? ⟨b, o + j * 3, none⟩ = some (.int .i64 od) := by
           obtain ⟨b2, o2, hA3, _, hc3⟩ := row_at (cs := ptcells) (m := 3) ptcells_lenS (by decide) (HI.out.on hs.2) HPD.out
           obtain ⟨rfl, rfl⟩ : b = b2 ∧ o = o2 := by injection hA3 with hA3; injection hA3 with h1 h2; exact ⟨h1, h2⟩
           have := hc3 0 _ rfl
           rw [HOD.out] at this
           exact fun u => Kept.cell_of this u
          refine wp_region_kept (by kernel_rfl) (by kernel_rfl) ?_
          repeat (go_big_quiet_step (fail))
          refine wpQuiet_nil ?_
          rintro _ ⟨u_, rfl⟩
          replace hs := hs.kept u_
          go_wp2_with fail
          go_ret
          exact ⟨rfl, hs.2⟩
         ·have ql : decide (f0 ≤ od) = false := decide_eq_false hle
          rw [if_neg hle] at hpe
          have HX := Lib.hid (HNX.out hpe)
          clear hpe HER HNX hD hV hF hd hle
          go_wp2_with fail
          refine KD.step hs ?_
          intro w2 hs hb2
          clear y0 y1 y2
          replace XD := XD.on hb2
          have y0 := XD.cell (i := 0) (v := .int .i64 f0) rfl
          have y1 := XD.cell (i := 1) (v := .string f1) rfl
          have y2 := XD.cell (i := 2) (v := .string f2) rfl
          go_wp2_with fail
          refine KV.step hs ?_
          intro w2 hs hb2
          clear y0 y1 y2
          replace XD := XD.on hb2
          have y0 := XD.cell (i := 0) (v := .int .i64 f0) rfl
          have y1 := XD.cell (i := 1) (v := .string f1) rfl
          have y2 := XD.cell (i := 2) (v := .string f2) rfl
          go_wp2_with fail
          refine KF.step hs ?_
          intro w2 hs hb2
          clear y0 y1 y2
          replace XD := XD.on hb2
          have y0 := XD.cell (i := 0) (v := .int .i64 f0) rfl
          have y1 := XD.cell (i := 1) (v := .string f1) rfl
          have y2 := XD.cell (i := 2) (v := .string f2) rfl
          go_wp2_with fail
          have k0 := XD.keeps (i := 0) (v := .int .i64 f0) rfl
          have k1 : ∀ u : Kept w2, u.W.cell? ⟨b, o + j * 3, none⟩ = some (.int .i64 od) := by
           obtain ⟨b2, o2, hA3, _, hc3⟩ := row_at (cs := ptcells) (m := 3) ptcells_lenS (by decide) (HI.out.on hs.2) HPD.out
           obtain ⟨rfl, rfl⟩ : b = b2 ∧ o = o2 := by injection hA3 with hA3; injection hA3 with h1 h2; exact ⟨h1, h2⟩
           have := hc3 0 _ rfl
           rw [HOD.out] at this
           exact fun u => Kept.cell_of this u
          refine wp_region_kept (by kernel_rfl) (by kernel_rfl) ?_
          repeat (go_big_quiet_step (fail))
          refine wpQuiet_nil ?_
          rintro _ ⟨u_, rfl⟩
          replace hs := hs.kept u_
          go_wp2_with fail
          go_roundw
          case rel => exact ⟨j + 1 + 1, by omega, by go_num, hs, HX.out⟩
          case measure => simp [intOf]; omega
       ·rw [if_pos (.inr hF)] at hpe
        rw [hV] at KV
        have qF : (chk f2 != 0) = true := by simpa using hF
        obtain rfl : v = 1 := by have := HER.out (by rw [hpe]; decide); rw [this, hpe]
        clear hpe HER HNX hD hV hF hd
        generalize chk f2 = cf at *
        go_wp2_with fail
        refine KD.step hs ?_
        intro w2 hs hb2
        clear y0 y1 y2
        replace XD := XD.on hb2
        have y0 := XD.cell (i := 0) (v := .int .i64 f0) rfl
        have y1 := XD.cell (i := 1) (v := .string f1) rfl
        have y2 := XD.cell (i := 2) (v := .string f2) rfl
        go_wp2_with fail
        refine KV.step hs ?_
        intro w2 hs hb2
        clear y0 y1 y2
        replace XD := XD.on hb2
        have y0 := XD.cell (i := 0) (v := .int .i64 f0) rfl
        have y1 := XD.cell (i := 1) (v := .string f1) rfl
        have y2 := XD.cell (i := 2) (v := .string f2) rfl
        go_wp2_with fail
        refine KF.step hs ?_
        intro w2 hs hb2
        clear y0 y1 y2
        replace XD := XD.on hb2
        have y0 := XD.cell (i := 0) (v := .int .i64 f0) rfl
        have y1 := XD.cell (i := 1) (v := .string f1) rfl
        have y2 := XD.cell (i := 2) (v := .string f2) rfl
        go_wp2_with fail
        go_ret
        exact ⟨rfl, hs.2⟩
      ·rw [if_pos (.inl hV)] at hpe
       have qV : (chk f1 != 0) = true := by simpa using hV
       obtain rfl : v = 1 := by have := HER.out (by rw [hpe]; decide); rw [this, hpe]
       clear hpe HER HNX hD hV hd
       generalize chk f1 = cv at *
       go_wp2_with fail
       refine KD.step hs ?_
       intro w2 hs hb2
       clear y0 y1 y2
       replace XD := XD.on hb2
       have y0 := XD.cell (i := 0) (v := .int .i64 f0) rfl
       have y1 := XD.cell (i := 1) (v := .string f1) rfl
       have y2 := XD.cell (i := 2) (v := .string f2) rfl
       go_wp2_with fail
       refine KV.step hs ?_
       intro w2 hs hb2
       clear y0 y1 y2
       replace XD := XD.on hb2
       have y0 := XD.cell (i := 0) (v := .int .i64 f0) rfl
       have y1 := XD.cell (i := 1) (v := .string f1) rfl
       have y2 := XD.cell (i := 2) (v := .string f2) rfl
       go_wp2_with fail
       go_ret
       exact ⟨rfl, hs.2⟩
end Go.Proofs.YticfdeaphiifeaaGreatDoor
