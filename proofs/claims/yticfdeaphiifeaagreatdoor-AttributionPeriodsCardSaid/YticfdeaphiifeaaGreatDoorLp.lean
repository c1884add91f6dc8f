/- Attribution, the reference: what a part contributes, the total of parts. Conditions: up to five parts with numbers of bounded length, or more than 32. Attribution, the reference: Check. Conditions: up to five sectors with numbers of bounded length, or more than 32. Attribution, the reference: Return. Conditions: up to five sectors with numbers of bounded length, or more than 32. Attribution, the reference: Parts. Conditions: up to five sectors with numbers of bounded length, or more than 32. -/
import Derived.Test.YticfdeaphiifeaaGreatDoorRf2
import Derived.Test.YticfdeaphiifeaaGreatDoorClo
import Derived.Test.YticfdeaphiifeaaGreatDoorAt6
set_option maxHeartbeats 4000000
set_option maxRecDepth 100000
namespace Go.Proofs.YticfdeaphiifeaaGreatDoor
open Go.RowKit Go.Shelf Dec QQ
theorem canB_chk (a b : ByteArray) : (chkF a b != 0) = !canB a b := by
 unfold canB
 cases h : (chkF a b == 0) <;> simp [bne, h]
theorem rcanonF_any {A : Option Addr} {n c : Nat} {l : List FrS} (hn : l.length = n) (hm : n ≤ 1000000) (hl : ∀ s ∈ l, s.n.size ≤ 80000 ∧ s.d.size ≤ 80000) : RetI (fun w => Row w A (flatG fcells l)) 98 #[.slice A n c] (.bool (l.all fun s => canB s.n s.d)) := by
 intro w hg hi
 have hs := St.refl hg
 have HN := Lib.hid hn
 have HI := Lib.hid hi
 have HL := Lib.hid hl
 obtain ⟨v, hv⟩ : ∃ v, l.all (fun s => canB s.n s.d) = v := ⟨_, rfl⟩
 rw [hv]
 have HV := Lib.hid hv
 clear hn hi hl hv
 go_enter Tryz.func98, Tryz.ntmps98
 go_wp2_with fail
 go_loopw [3] (fun s wr => ∃ k : Nat, k ≤ n ∧ s = .int .i64 (k : Int) ∧ St w wr ∧ Hid (∀ i, i < k → ∀ t, l[i]? = some t → canB t.n t.d = true)) (fun s _ => (n - intOf s).toNat)
 case atStart => exact ⟨0, by omega, rfl, hs, fun i h => by omega⟩
 case round =>
  obtain ⟨k, hk, rfl, hs, HP⟩ := hrel
  by_cases hkn : k = n
  ·subst hkn
   have q : decide ((k : Int) < (k : Int)) = false := decide_eq_false (by omega)
   have hv : v = true := by
    rw [← HV.out, List.all_eq_true]
    intro s hs
    obtain ⟨i, hi, rfl⟩ := List.mem_iff_getElem.1 hs
    exact HP.out i (by have := HN.out; omega) _ (List.getElem?_eq_getElem hi)
   subst hv
   go_wp2_with fail
   go_ret
   exact ⟨rfl, hs.2⟩
  ·have hkl : k < n := by omega
   have q : decide ((k : Int) < (n : Int)) = true := decide_eq_true (by omega)
   have qn : decide (k < n) = true := decide_eq_true hkl
   obtain ⟨d, hd⟩ : ∃ d, l[k]? = some d := ⟨l[k]'(by rw [HN.out]; exact hkl), by simp⟩
   obtain ⟨b, o, hA, hb, hcells⟩ := row_at (cs := fcells) (m := 2) fcells_len (by decide) (HI.out.on hs.2) hd
   subst hA
   have hz := HL.out d (List.mem_of_getElem? hd)
   have KC := rchk_r (a := d.n) (b := d.d) hz.1 hz.2
   have hcb := canB_chk d.n d.d
   have HD := Lib.hid hd
   unfold FV at KC
   clear hd hkn hz
   obtain ⟨cb, hcb2⟩ : ∃ x, canB d.n d.d = x := ⟨_, rfl⟩
   have HCB := Lib.hid hcb2
   rw [hcb2] at hcb
   clear hcb2
   obtain ⟨f0, f1⟩ := d
   have x0 : wr.cell? ⟨b, o + k * 2, none⟩ = some (.string f0) := hcells 0 _ rfl
   have x1 : wr.cell? ⟨b, o + k * 2 + 1, none⟩ = some (.string f1) := hcells 1 _ rfl
   clear hcells
   dsimp only at KC hcb
   generalize chkF f0 f1 = cf at *
   cases cb with
   | true =>
    replace hcb : (cf != 0) = false := hcb
    go_wp2_with fail
    refine KC.step hs ?_
    intro w2 hs hb
    go_wp2_with fail
    go_roundw
    case rel =>
     refine ⟨k + 1, by omega, by go_num, hs, fun i hi t ht => ?_⟩
     by_cases e : i = k
     ·subst e
      rw [HD.out] at ht
      cases ht
      exact HCB.out
     ·exact HP.out i (by omega) t ht
    case measure => simp [intOf]; omega
   | false =>
    replace hcb : (cf != 0) = true := hcb
    have hv : v = false := by
     rw [← HV.out, List.all_eq_false]
     exact ⟨_, List.mem_of_getElem? HD.out, by rw [HCB.out]; decide⟩
    subst hv
    go_wp2_with fail
    refine KC.step hs ?_
    intro w2 hs hb
    go_wp2_with fail
    go_ret
    exact ⟨rfl, hs.2⟩
section
variable {A : Option Addr} {n c k0 : Nat} {l : List PrtS}
end
end Go.Proofs.YticfdeaphiifeaaGreatDoor
namespace Go.Proofs.YticfdeaphiifeaaGreatDoor
open Go.RowKit Go.Shelf Dec QQ
theorem sec_can_list (s : SecS) : ([⟨s.wn, s.wd⟩, ⟨s.rn, s.rd⟩, ⟨s.vn, s.vd⟩, ⟨s.bn, s.bd⟩] : List FrS).all (fun s => canB s.n s.d) = s.can := by
 unfold SecS.can
 simp only [List.all_cons, List.all_nil, Bool.and_true, Bool.and_assoc]
theorem rscheck_far {A : Option Addr} {n c : Nat} (h : 32 < n) : Ret 46 #[.slice A n c] (.int .i64 4) := by
 intro w hg
 have hs := St.refl hg
 have q0 : ((n : Int) == 0) = false := by rw [beq_eq_false_iff_ne]; omega
 have q : decide ((32 : Int) < (n : Int)) = true := decide_eq_true (by omega)
 have qn : decide (32 < n) = true := decide_eq_true h
 go_enter Tryz.func46, Tryz.ntmps46
 go_wp2_with fail
 go_ret
 exact ⟨rfl, hs.2⟩
theorem rscheck_nil {A : Option Addr} {c : Nat} : Ret 46 #[.slice A 0 c] (.int .i64 11) := by
 intro w hg
 have hs := St.refl hg
 go_enter Tryz.func46, Tryz.ntmps46
 go_wp2_with fail
 go_ret
 exact ⟨rfl, hs.2⟩
theorem rscheck_few {A : Option Addr} {n c k0 : Nat} {l : List SecS} (hn : l.length = n) (hl : FewS k0 l) (h0 : 0 < n) : RetI (fun w => Row w A (flatG scells l)) 46 #[.slice A n c] (.int .i64 (chkS l)) := by
 intro w hg hi
 have h5 : n ≤ 5 := by have := hl.1; omega
 have hs := St.refl hg
 have HI := Lib.hid hi
 have q0 : ((n : Int) == 0) = false := by rw [beq_eq_false_iff_ne]; omega
 have q32 : decide ((32 : Int) < (n : Int)) = false := decide_eq_false (by omega)
 have q32n : decide (32 < n) = false := decide_eq_false (by omega)
 have HE : Hid (∀ k, k < n → secErr l k ≠ 0 → (∀ i, i < k → secErr l i = 0) → chkS l = secErr l k) := fun k hk h hb => by
  have e := errL_at (e := secErr l) (n := l.length) (by omega) h hb
  unfold chkS
  rw [if_neg (by omega), if_neg (by omega), e, if_pos h]
 have HZ : Hid ((∀ i, i < n → secErr l i = 0) → chkS l = if sumQ SecS.w l = 1 ∧ sumQ SecS.v l = 1 then 0 else 14) := fun h => by
  have e := errL_none (e := secErr l) (n := l.length) (fun i hi => h i (by omega))
  unfold chkS
  rw [if_neg (by omega), if_neg (by omega), e, if_neg (by simp)]
 have HSE : Hid (∀ k d, l[k]? = some d → secErr l k = if nameOk d.nm = false then 23 else if (l.take k).any (fun t => eqB t.nm d.nm) = true then 5 else if d.can = false then 1 else 0) := fun k d h => by
  unfold secErr
  rw [h]
 have HN := Lib.hid hn
 have HL := Lib.hid hl
 obtain ⟨CH, hCH⟩ : ∃ x, chkS l = x := ⟨_, rfl⟩
 rw [hCH] at HE HZ ⊢
 clear hCH hn hl hi
 go_enter Tryz.func46, Tryz.ntmps46
 go_wp2_with fail
 have hsB := (hs.alloc (.cells #[.string ⟨#[]⟩, .string ⟨#[]⟩] 34)).alloc (.cells #[.string ⟨#[]⟩, .string ⟨#[]⟩] 34)
 have HB0 : Hid (Bx ((w.alloc (.cells #[.string ⟨#[]⟩, .string ⟨#[]⟩] 34)).alloc (.cells #[.string ⟨#[]⟩, .string ⟨#[]⟩] 34)) w.heap.size #[.string (frN (sumQ SecS.w (l.take 0))), .string (frD (sumQ SecS.w (l.take 0)))]) := by
  show Bx _ _ _
  rw [List.take_zero, show sumQ SecS.w [] = 0 from rfl, frN_zero, frD_zero]
  exact (Bx.new w #[.string ⟨#[]⟩, .string ⟨#[]⟩] 34).alloc (.cells #[.string ⟨#[]⟩, .string ⟨#[]⟩] 34)
 have HB1 : Hid (Bx ((w.alloc (.cells #[.string ⟨#[]⟩, .string ⟨#[]⟩] 34)).alloc (.cells #[.string ⟨#[]⟩, .string ⟨#[]⟩] 34)) (w.heap.size + 1) #[.string (frN (sumQ SecS.v (l.take 0))), .string (frD (sumQ SecS.v (l.take 0)))]) := by
  show Bx _ _ _
  rw [List.take_zero, show sumQ SecS.v [] = 0 from rfl, frN_zero, frD_zero]
  exact Bx.new1 w (.cells #[.string ⟨#[]⟩, .string ⟨#[]⟩] 34) #[.string ⟨#[]⟩, .string ⟨#[]⟩] 34
 generalize (w.alloc (.cells #[.string ⟨#[]⟩, .string ⟨#[]⟩] 34)).alloc (.cells #[.string ⟨#[]⟩, .string ⟨#[]⟩] 34) = wB at *
 go_loopw [5] (fun s wr => ∃ k : Nat, k ≤ n ∧ s = .int .i64 (k : Int) ∧ St w wr ∧ Hid (Bx wr w.heap.size #[.string (frN (sumQ SecS.w (l.take k))), .string (frD (sumQ SecS.w (l.take k)))]) ∧ Hid (Bx wr (w.heap.size + 1) #[.string (frN (sumQ SecS.v (l.take k))), .string (frD (sumQ SecS.v (l.take k)))]) ∧ Hid (∀ i, i < k → secErr l i = 0)) (fun s _ => (n - intOf s).toNat)
 case atStart => exact ⟨0, by omega, rfl, hsB, HB0, HB1, fun i h => by omega⟩
 case round =>
  obtain ⟨k, hk, rfl, hs, HX0, HX1, HP⟩ := hrel
  by_cases hkn : k = n
  ·subst hkn
   have q : decide ((k : Int) < (k : Int)) = false := decide_eq_false (by omega)
   have hcv := HZ.out HP.out
   have KO := rof_r (a := ⟨#[49]⟩) (by decide)
   rw [one_val, show ((1 : Int) : Rat) = 1 from rfl] at KO
   have X0 := HX0.out
   have X1 := HX1.out
   rw [List.take_of_length_le (by have := HN.out; omega)] at X0 X1
   have n0 := neqF (frN (sumQ SecS.w l)) (frD (sumQ SecS.w l)) (frN 1) (frD 1)
   have n1 := neqF (frN (sumQ SecS.v l)) (frD (sumQ SecS.v l)) (frN 1) (frD 1)
   rw [fr_eq] at n0 n1
   have k0 := X0.keeps (i := 0) (v := .string (frN (sumQ SecS.w l))) rfl
   have k1 := X0.keeps (i := 1) (v := .string (frD (sumQ SecS.w l))) rfl
   have k2 := X1.keeps (i := 0) (v := .string (frN (sumQ SecS.v l))) rfl
   have k3 := X1.keeps (i := 1) (v := .string (frD (sumQ SecS.v l))) rfl
   unfold FR at KO
   have HCV := Lib.hid hcv
   obtain ⟨b1, hb1⟩ : ∃ b, decide (sumQ SecS.w l = 1) = b := ⟨_, rfl⟩
   obtain ⟨b2, hb2⟩ : ∃ b, decide (sumQ SecS.v l = 1) = b := ⟨_, rfl⟩
   rw [hb1] at n0
   rw [hb2] at n1
   have HB1' : Hid ((b1 = true ∧ b2 = true → CH = 0) ∧ (¬ (b1 = true ∧ b2 = true) → CH = 14)) := by
    have e : (b1 = true ∧ b2 = true) ↔ (sumQ SecS.w l = 1 ∧ sumQ SecS.v l = 1) := by rw [← hb1, ← hb2]; simp
    refine ⟨fun h => ?_, fun h => ?_⟩
    ·rw [HCV.out, if_pos (e.1 h)]
    ·rw [HCV.out, if_neg (fun h2 => h (e.2 h2))]
   clear hb1 hb2 hcv HCV X0 X1 HX0 HX1 HP HZ HE HSE
   generalize frN (sumQ SecS.w l) = sn at *
   generalize frD (sumQ SecS.w l) = sd at *
   generalize frN (sumQ SecS.v l) = tn at *
   generalize frD (sumQ SecS.v l) = td at *
   generalize frN 1 = on at *
   generalize frD 1 = od at *
   cases b1 <;> cases b2
   ·have hc := HB1'.out.2 (by decide)
    subst hc
    clear HB1'
    go_wp2_with fail
    refine wp_region_kept (by kernel_rfl) (by kernel_rfl) ?_
    repeat (go_big_quiet_step (first | (with_reducible exact KO.kept hs)))
    refine wpQuiet_nil ?_
    rintro _ ⟨u, rfl⟩
    go_wp2_with fail
    go_ret
    exact ⟨rfl, (hs.kept u).2⟩
   ·have hc := HB1'.out.2 (by decide)
    subst hc
    clear HB1'
    go_wp2_with fail
    refine wp_region_kept (by kernel_rfl) (by kernel_rfl) ?_
    repeat (go_big_quiet_step (first | (with_reducible exact KO.kept hs)))
    refine wpQuiet_nil ?_
    rintro _ ⟨u, rfl⟩
    go_wp2_with fail
    go_ret
    exact ⟨rfl, (hs.kept u).2⟩
   ·have hc := HB1'.out.2 (by decide)
    subst hc
    clear HB1'
    go_wp2_with fail
    refine wp_region_kept (by kernel_rfl) (by kernel_rfl) ?_
    repeat (go_big_quiet_step (first | (with_reducible exact KO.kept hs)))
    refine wpQuiet_nil ?_
    rintro _ ⟨u, rfl⟩
    go_wp2_with fail
    go_ret
    exact ⟨rfl, (hs.kept u).2⟩
   ·have hc := HB1'.out.1 (by decide)
    subst hc
    clear HB1'
    go_wp2_with fail
    refine wp_region_kept (by kernel_rfl) (by kernel_rfl) ?_
    repeat (go_big_quiet_step (first | (with_reducible exact KO.kept hs)))
    refine wpQuiet_nil ?_
    rintro _ ⟨u, rfl⟩
    go_wp2_with fail
    go_ret
    exact ⟨rfl, (hs.kept u).2⟩
  ·have hkl : k < n := by omega
   have q : decide ((k : Int) < (n : Int)) = true := decide_eq_true (by omega)
   have qn : decide (k < n) = true := decide_eq_true hkl
   obtain ⟨d, hd⟩ : ∃ d, l[k]? = some d := ⟨l[k]'(by rw [HN.out]; exact hkl), by simp⟩
   obtain ⟨b, o, hA, hb, hcells⟩ := row_at (cs := scells) (m := 9) scells_len (by decide) HI.out hd
   have HSK := Lib.hid (HSE.out k d hd)
   have HEK := Lib.hid (fun h => HE.out k hkl h HP.out)
   have hdz := HL.out.2.2.2 d (List.mem_of_getElem? hd)
   have hk3 := HL.out.2.1
   have KN := rNameR (s := d.nm) (by have := hdz.1; omega)
   have HKC : Hid (∀ B : Nat, RetI (fun w => Row w (some ⟨B, 0, none⟩) (flatG fcells [⟨d.wn, d.wd⟩, ⟨d.rn, d.rd⟩, ⟨d.vn, d.vd⟩, ⟨d.bn, d.bd⟩])) 98 #[.slice (some ⟨B, 0, none⟩) 4 4] (.bool d.can)) := fun B => by
    have KC := rcanonF_any (A := some ⟨B, 0, none⟩) (n := 4) (c := 4) (l := [⟨d.wn, d.wd⟩, ⟨d.rn, d.rd⟩, ⟨d.vn, d.vd⟩, ⟨d.bn, d.bd⟩]) rfl (by omega) (by unfold SecS.le at hdz; intro s hs; simp at hs; rcases hs with rfl | rfl | rfl | rfl <;> (constructor <;> (dsimp only; omega)))
    rw [sec_can_list] at KC
    exact KC
   have z1 := FitQ.sizes (FitQ.sum_take (f := SecS.w) (k := k0) (n := 5) (m := 5 * (k0 + 1) + 1) (fun a ha => (HL.out.fit ha).1) HL.out.1 (by omega) k)
   have z2 := FitQ.sizes (FitQ.sum_take (f := SecS.v) (k := k0) (n := 5) (m := 5 * (k0 + 1) + 1) (fun a ha => (HL.out.fit ha).2.2.1) HL.out.1 (by omega) k)
   unfold SecS.le at hdz
   have KA1 := radd_r (a := frN (sumQ SecS.w (l.take k))) (b := frD (sumQ SecS.w (l.take k))) (c := d.wn) (d := d.wd) (by omega) (by omega) (by omega) (by omega)
   have KA2 := radd_r (a := frN (sumQ SecS.v (l.take k))) (b := frD (sumQ SecS.v (l.take k))) (c := d.vn) (d := d.vd) (by omega) (by omega) (by omega) (by omega)
   rw [ratV_fr] at KA1 KA2
   change Ret _ _ (FR (sumQ SecS.w (l.take k) + d.w)) at KA1
   change Ret _ _ (FR (sumQ SecS.v (l.take k) + d.v)) at KA2
   rw [← sumQ_take hd] at KA1 KA2
   unfold FR at KA1 KA2
   unfold FV at KA1 KA2
   subst hA
   clear hdz z1 z2 hkn
   obtain ⟨xn, hxn⟩ : ∃ x, frN (sumQ SecS.w (l.take (k + 1))) = x := ⟨_, rfl⟩
   obtain ⟨xd, hxd⟩ : ∃ x, frD (sumQ SecS.w (l.take (k + 1))) = x := ⟨_, rfl⟩
   obtain ⟨yn, hyn⟩ : ∃ x, frN (sumQ SecS.v (l.take (k + 1))) = x := ⟨_, rfl⟩
   obtain ⟨yd, hyd⟩ : ∃ x, frD (sumQ SecS.v (l.take (k + 1))) = x := ⟨_, rfl⟩
   have HXN := Lib.hid hxn
   have HXD := Lib.hid hxd
   have HYN := Lib.hid hyn
   have HYD := Lib.hid hyd
   rw [hxn, hxd] at KA1
   rw [hyn, hyd] at KA2
   clear hxn hxd hyn hyd
   generalize frN (sumQ SecS.w (l.take k)) = sn at *
   generalize frD (sumQ SecS.w (l.take k)) = sd at *
   generalize frN (sumQ SecS.v (l.take k)) = tn at *
   generalize frD (sumQ SecS.v (l.take k)) = td at *
   have HCW : Hid (∀ W, St w W → ∀ t v, (scells d)[t]? = some v → W.cell? ⟨b, o + k * 9 + t, none⟩ = some v) := fun W hW t v h => by
    have := (hW.2.cell (p := ⟨b, o + (k * 9 + t), none⟩) hb).trans (hcells t v h)
    rwa [show o + (k * 9 + t) = o + k * 9 + t by omega] at this
   have HNMS : Hid (∀ j t, j < k → l[j]? = some t → ∀ W, St w W → W.cell? ⟨b, o + j * 9, none⟩ = some (.string t.nm)) := fun j t hj ht W hW => by
    obtain ⟨b2, o2, hA2, hb2, hc2⟩ := row_at (cs := scells) (m := 9) scells_len (by decide) HI.out ht
    injection hA2 with hA2
    injection hA2 with h1 h2
    subst h1 h2
    exact (hW.2.cell (p := ⟨b, o + (j * 9 + 0), none⟩) hb2).trans (hc2 0 _ rfl)
   clear hcells hd
   obtain ⟨ok, hok⟩ : ∃ x, nameOk d.nm = x := ⟨_, rfl⟩
   obtain ⟨ca, hca⟩ : ∃ x, d.can = x := ⟨_, rfl⟩
   rw [hok, hca] at HSK
   rw [hok] at KN
   rw [hca] at HKC
   clear hok hca
   obtain ⟨f0, f1, f2, f3, f4, f5, f6, f7, f8⟩ := d
   dsimp only at KN HKC KA1 KA2 HSK
   have x0 : wr.cell? ⟨b, o + k * 9, none⟩ = some (.string f0) := HCW.out wr hs 0 _ rfl
   cases ok with
   | false =>
    have e3 := HSK.out
    rw [if_pos rfl] at e3
    have hc := HEK.out (by rw [e3]; decide)
    rw [e3] at hc
    subst hc
    clear HEK HSK HE HZ HSE e3
    go_wp2_with fail
    refine KN.step hs ?_
    intro w1 hs hb1
    go_wp2_with fail
    go_ret
    exact ⟨rfl, hs.2⟩
   | true =>
    go_wp2_with fail
    refine KN.step hs ?_
    intro w1 hs hb1
    have H0 := Lib.hid (HX0.out.on hb1)
    have H1 := Lib.hid (HX1.out.on hb1)
    clear x0 HX0 HX1
    go_wp2_with fail
    go_loopw [6] (fun s wr2 => ∃ j : Nat, j ≤ k ∧ s = .int .i64 (j : Int) ∧ St w wr2 ∧ Hid (Bx wr2 w.heap.size #[.string sn, .string sd]) ∧ Hid (Bx wr2 (w.heap.size + 1) #[.string tn, .string td]) ∧ Hid (∀ i, i < j → ∀ t, l[i]? = some t → eqB t.nm f0 = false)) (fun s _ => (k - intOf s).toNat)
    case atStart => exact ⟨0, by omega, rfl, hs, H0, H1, fun i h => by omega⟩
    case round =>
     obtain ⟨j, hj, rfl, hs, H0, H1, HQ⟩ := hrel
     by_cases hjk : j = k
     ·subst hjk
      have q2 : decide ((j : Int) < (j : Int)) = false := decide_eq_false (by omega)
      have HAN : Hid ((l.take j).any (fun t => eqB t.nm f0) = false) := any_take.2 (fun i t hi ht => eqB_false.1 (HQ.out i hi t ht))
      have e3 := HSK.out
      rw [if_neg (by decide), HAN.out, if_neg (by decide)] at e3
      have HS3 := Lib.hid e3
      clear e3
      have k1 : ∀ u : Kept wr, u.W.cell? ⟨b, o + j * 9 + 1, none⟩ = some (.string f1) := fun u => Kept.cell_of (HCW.out wr hs 1 _ rfl) u
      have k2 : ∀ u : Kept wr, u.W.cell? ⟨b, o + j * 9 + 2, none⟩ = some (.string f2) := fun u => Kept.cell_of (HCW.out wr hs 2 _ rfl) u
      have k3 : ∀ u : Kept wr, u.W.cell? ⟨b, o + j * 9 + 3, none⟩ = some (.string f3) := fun u => Kept.cell_of (HCW.out wr hs 3 _ rfl) u
      have k4 : ∀ u : Kept wr, u.W.cell? ⟨b, o + j * 9 + 4, none⟩ = some (.string f4) := fun u => Kept.cell_of (HCW.out wr hs 4 _ rfl) u
      have k5 : ∀ u : Kept wr, u.W.cell? ⟨b, o + j * 9 + 5, none⟩ = some (.string f5) := fun u => Kept.cell_of (HCW.out wr hs 5 _ rfl) u
      have k6 : ∀ u : Kept wr, u.W.cell? ⟨b, o + j * 9 + 6, none⟩ = some (.string f6) := fun u => Kept.cell_of (HCW.out wr hs 6 _ rfl) u
      have k7 : ∀ u : Kept wr, u.W.cell? ⟨b, o + j * 9 + 7, none⟩ = some (.string f7) := fun u => Kept.cell_of (HCW.out wr hs 7 _ rfl) u
      have k8 : ∀ u : Kept wr, u.W.cell? ⟨b, o + j * 9 + 8, none⟩ = some (.string f8) := fun u => Kept.cell_of (HCW.out wr hs 8 _ rfl) u
      go_wp2_with fail
      refine wp_region_kept_tail 20 (by kernel_rfl) (by kernel_rfl) ?_
      simp only [List.take_succ_cons, List.take_zero, List.drop_succ_cons, List.drop_zero]
      repeat (go_big_quiet_step (fail))
      refine wpQuiet_nil ?_
      rintro _ ⟨u, rfl⟩
      replace hs := hs.kept u
      have X0 := H0.out.kept u
      have X1 := H1.out.kept u
      clear k1 k2 k3 k4 k5 k6 k7 k8 H0 H1
      generalize u.W = w2 at *
      have KC := HKC.out w2.heap.size
      have BR : Hid (Row (w2.alloc (.cells #[.string f1, .string f2, .string f3, .string f4, .string f5, .string f6, .string f7, .string f8] 34)) (some ⟨w2.heap.size, 0, none⟩) (flatG fcells [⟨f1, f2⟩, ⟨f3, f4⟩, ⟨f5, f6⟩, ⟨f7, f8⟩])) := Row.of (Bx.new w2 #[.string f1, .string f2, .string f3, .string f4, .string f5, .string f6, .string f7, .string f8] 34)
      replace hs := hs.alloc (.cells #[.string f1, .string f2, .string f3, .string f4, .string f5, .string f6, .string f7, .string f8] 34)
      replace X0 := X0.alloc (.cells #[.string f1, .string f2, .string f3, .string f4, .string f5, .string f6, .string f7, .string f8] 34)
      replace X1 := X1.alloc (.cells #[.string f1, .string f2, .string f3, .string f4, .string f5, .string f6, .string f7, .string f8] 34)
      cases ca with
      | false =>
       have e3 := HS3.out
       rw [if_pos rfl] at e3
       have hc := HEK.out (by rw [e3]; decide)
       rw [e3] at hc
       subst hc
       clear HEK HSK HE HZ HSE e3 HS3
       go_wp2_with fail
       refine KC.step hs BR.out ?_
       intro w3 hs hb1
       go_wp2_with fail
       go_ret
       exact ⟨rfl, hs.2⟩
      | true =>
       have e3 := HS3.out
       rw [if_neg (by decide)] at e3
       have HD3 := Lib.hid e3
       clear e3 HS3
       go_wp2_with fail
       refine KC.step hs BR.out ?_
       intro w3 hs hb3
       replace X0 := X0.on hb3
       replace X1 := X1.on hb3
       have k1 : ∀ u : Kept w3, u.W.cell? ⟨b, o + j * 9 + 1, none⟩ = some (.string f1) := fun u => Kept.cell_of (HCW.out w3 hs 1 _ rfl) u
       have k2 : ∀ u : Kept w3, u.W.cell? ⟨b, o + j * 9 + 2, none⟩ = some (.string f2) := fun u => Kept.cell_of (HCW.out w3 hs 2 _ rfl) u
       have k5 : ∀ u : Kept w3, u.W.cell? ⟨b, o + j * 9 + 5, none⟩ = some (.string f5) := fun u => Kept.cell_of (HCW.out w3 hs 5 _ rfl) u
       have k6 : ∀ u : Kept w3, u.W.cell? ⟨b, o + j * 9 + 6, none⟩ = some (.string f6) := fun u => Kept.cell_of (HCW.out w3 hs 6 _ rfl) u
       have k7 := X0.keeps (i := 0) (v := .string sn) rfl
       have k8 := X0.keeps (i := 1) (v := .string sd) rfl
       have k9 := X1.keeps (i := 0) (v := .string tn) rfl
       have k10 := X1.keeps (i := 1) (v := .string td) rfl
       go_wp2_with fail
       refine wp_region_kept_tail 14 (by kernel_rfl) (by kernel_rfl) ?_
       simp only [List.take_succ_cons, List.take_zero, List.drop_succ_cons, List.drop_zero]
       repeat (go_big_quiet_step (first | (with_reducible exact KA1.kept hs) | (with_reducible exact KA2.kept hs)))
       refine wpQuiet_nil ?_
       rintro _ ⟨u, rfl⟩
       have U0 := X0.kept u
       have U1 := X1.kept u
       have u0 := U0.cell (i := 0) (v := .string sn) rfl
       have u1 := U0.cell (i := 1) (v := .string sd) rfl
       have v0 := U0.frozen 0
       have v1 := U0.frozen 1
       have u2' := U1.cell (i := 0) (v := .string tn) rfl
       have u3' := U1.cell (i := 1) (v := .string td) rfl
       have v2 := U1.frozen 0
       have v3 := U1.frozen 1
       go_wp2_with fail
       go_roundw
       case rel =>
        refine ⟨j + 1, by omega, by go_num, ((((hs.kept u).set (b := w.heap.size) (Nat.le_refl _) 0 (.string xn)).set (b := w.heap.size) (Nat.le_refl _) 1 (.string xd)).set (b := w.heap.size + 1) (by omega) 0 (.string yn)).set (b := w.heap.size + 1) (by omega) 1 (.string yd), ?_, ?_, fun i hi => ?_⟩
        ·show Bx _ _ _
         rw [HXN.out, HXD.out]
         exact (((U0.set 0 (.string xn)).set 1 (.string xd)).other (by omega) 0 (.string yn)).other (by omega) 1 (.string yd)
        ·show Bx _ _ _
         rw [HYN.out, HYD.out]
         exact (((U1.other (by omega) 0 (.string xn)).other (by omega) 1 (.string xd)).set 0 (.string yn)).set 1 (.string yd)
        ·by_cases e : i = j
         ·subst e; exact HD3.out
         ·exact HP.out i (by omega)
       case measure => simp [intOf]; omega
     ·have hjl : j < k := by omega
      have qj : decide ((j : Int) < (k : Int)) = true := decide_eq_true (by omega)
      have qjn : decide (j < k) = true := decide_eq_true hjl
      have qjm : decide ((j : Int) < (n : Int)) = true := decide_eq_true (by omega)
      have qjmn : decide (j < n) = true := decide_eq_true (by omega)
      obtain ⟨t, ht⟩ : ∃ d, l[j]? = some d := ⟨l[j]'(by have := HN.out; omega), by simp⟩
      have x0 := HCW.out wr hs 0 _ rfl
      have y0 := HNMS.out j t hjl ht wr hs
      have HT := Lib.hid ht
      clear ht hjk
      obtain ⟨m, hm⟩ : ∃ m, t.nm = m := ⟨_, rfl⟩
      have HM := Lib.hid hm
      rw [hm] at y0
      clear hm
      have kx0 : ∀ u : Kept wr, u.W.cell? ⟨b, o + k * 9, none⟩ = some (.string f0) := fun u => Kept.cell_of x0 u
      have ky0 : ∀ u : Kept wr, u.W.cell? ⟨b, o + j * 9, none⟩ = some (.string m) := fun u => Kept.cell_of y0 u
      clear x0 y0
      obtain ⟨tb, htb⟩ : ∃ tb, (m.toList == f0.toList) = tb := ⟨_, rfl⟩
      have HTB : Hid (eqB t.nm f0 = tb) := by show _ = _; rw [HM.out]; exact htb
      cases tb with
      | true =>
       have han : (l.take k).any (fun t => eqB t.nm f0) = true := by
        cases h : (l.take k).any (fun t => eqB t.nm f0) with
        | true => rfl
        | false =>
         have := any_take.1 h j t hjl HT.out
         exact absurd (eqB_iff.1 HTB.out) this
       have e3 := HSK.out
       rw [if_neg (by decide), if_pos han] at e3
       have hc := HEK.out (by rw [e3]; decide)
       rw [e3] at hc
       subst hc
       clear HEK HSK HE HZ HSE e3 han
       go_wp2_with fail
       refine wp_region_kept (by kernel_rfl) (by kernel_rfl) ?_
       repeat (go_big_quiet_step (fail))
       refine wpQuiet_nil ?_
       rintro _ ⟨u, rfl⟩
       go_wp2_with fail
       go_ret
       exact ⟨rfl, (hs.kept u).2⟩
      | false =>
       go_wp2_with fail
       refine wp_region_kept (by kernel_rfl) (by kernel_rfl) ?_
       repeat (go_big_quiet_step (fail))
       refine wpQuiet_nil ?_
       rintro _ ⟨u, rfl⟩
       go_wp2_with fail
       go_roundw
       case rel =>
        refine ⟨j + 1, by omega, by go_num, hs.kept u, H0.out.kept u, H1.out.kept u, fun i hi t2 ht2 => ?_⟩
        by_cases e : i = j
        ·subst e
         rw [HT.out] at ht2
         cases ht2
         exact HTB.out
        ·exact HQ.out i (by omega) t2 ht2
       case measure => simp [intOf]; omega
theorem rscheck_any {A : Option Addr} {n c k0 : Nat} {l : List SecS} (hn : l.length = n) (hl : 32 < n ∨ FewS k0 l) : RetI (fun w => Row w A (flatG scells l)) 46 #[.slice A n c] (.int .i64 (chkS l)) := by
 rcases hl with h | h
 ·have e : chkS l = 4 := by unfold chkS; rw [if_neg (by omega), if_pos (by omega)]
  rw [e]
  exact (rscheck_far h).i _
 ·by_cases h0 : n = 0
  ·subst h0
   have e : chkS l = 11 := by unfold chkS; rw [if_pos hn]
   rw [e]
   exact rscheck_nil.i _
  ·exact rscheck_few hn h (by omega)
end Go.Proofs.YticfdeaphiifeaaGreatDoor
namespace Go.Proofs.YticfdeaphiifeaaGreatDoor
open Go.RowKit Go.Shelf Dec QQ
def ownP (s : SecS) : Rat := s.w * s.r
def benP (s : SecS) : Rat := s.v * s.b
theorem ownP_fit {k0 : Nat} {l : List SecS} (h : FewS k0 l) (k : Nat) : FitQ (5 * (2 * k0 + 1) + 1) (sumQ ownP (l.take k)) ∧ FitQ (5 * (2 * k0 + 1) + 1) (sumQ benP (l.take k)) :=
 ⟨FitQ.sum_take (k := 2 * k0) (n := 5) (fun a ha => ((h.fit ha).1.mul (h.fit ha).2.1).mono (by omega)) h.1 (by omega) k, FitQ.sum_take (k := 2 * k0) (n := 5) (fun a ha => ((h.fit ha).2.2.1.mul (h.fit ha).2.2.2).mono (by omega)) h.1 (by omega) k⟩
theorem rReturn_any {A : Option Addr} {n c k0 : Nat} {l : List SecS} (hn : l.length = n) (hl : 32 < n ∨ FewS k0 l) (hk0 : k0 ≤ 400) : RetI (fun w => Row w A (flatG scells l)) 48 #[.slice A n c] (.tuple #[FR (retOwn l), FR (retBen l), .int .i64 (chkS l)]) := by
 intro w hg hi
 have hs := ((St.refl hg).alloc (.cells #[.string ⟨#[]⟩, .string ⟨#[]⟩] 34)).alloc (.cells #[.string ⟨#[]⟩, .string ⟨#[]⟩] 34)
 have X0 := ((Bx.new w #[.string ⟨#[]⟩, .string ⟨#[]⟩] 34).alloc (.cells #[.string ⟨#[]⟩, .string ⟨#[]⟩] 34))
 have X1 := (Bx.new1 w (.cells #[.string ⟨#[]⟩, .string ⟨#[]⟩] 34) #[.string ⟨#[]⟩, .string ⟨#[]⟩] 34)
 have K1 := rscheck_any (A := A) (c := c) hn hl
 have Hi := Lib.hid hi
 have e1 : retOwn l = if chkS l = 0 then ownQ l else 0 := rfl
 have e2 : retBen l = if chkS l = 0 then benQ l else 0 := rfl
 by_cases h : chkS l = 0
 ·have hf : FewS k0 l := by
   rcases hl with h32 | h5
   ·unfold chkS at h; rw [if_neg (by omega), if_pos (by omega)] at h; cases h
   ·exact h5
  rw [if_pos h] at e1 e2
  rw [h] at K1 ⊢
  rw [e1, e2]
  have HOQ : Hid (ownQ l = sumQ ownP l ∧ benQ l = sumQ benP l) := ⟨rfl, rfl⟩
  unfold FR
  obtain ⟨an, han⟩ : ∃ x, frN (ownQ l) = x := ⟨_, rfl⟩
  obtain ⟨ad, had⟩ : ∃ x, frD (ownQ l) = x := ⟨_, rfl⟩
  obtain ⟨bn, hbn⟩ : ∃ x, frN (benQ l) = x := ⟨_, rfl⟩
  obtain ⟨bd, hbd⟩ : ∃ x, frD (benQ l) = x := ⟨_, rfl⟩
  rw [han, had, hbn, hbd]
  have HAN := Lib.hid han
  have HAD := Lib.hid had
  have HBN := Lib.hid hbn
  have HBD := Lib.hid hbd
  have h5 : n ≤ 5 := by have := hf.1; omega
  have HN := Lib.hid hn
  have HL := Lib.hid hf
  clear hn hl hi e1 e2 h han had hbn hbd hf
  go_enter Tryz.func48, Tryz.ntmps48
  go_wp2_with fail
  refine K1.step hs (Hi.out.on hs.2) ?_
  intro w1 hs hb1
  replace X0 := X0.on hb1
  replace X1 := X1.on hb1
  have hz0 := X1.lt
  go_wp2_with fail
  have HB0 : Hid (Bx ((w1.alloc (.cells #[.string ⟨#[]⟩, .string ⟨#[]⟩] 34)).alloc (.cells #[.string ⟨#[]⟩, .string ⟨#[]⟩] 34)) w1.heap.size #[.string (frN (sumQ ownP (l.take 0))), .string (frD (sumQ ownP (l.take 0)))]) := by
   show Bx _ _ _
   rw [List.take_zero, show sumQ ownP [] = 0 from rfl, frN_zero, frD_zero]
   exact (Bx.new w1 #[.string ⟨#[]⟩, .string ⟨#[]⟩] 34).alloc (.cells #[.string ⟨#[]⟩, .string ⟨#[]⟩] 34)
  have HB1 : Hid (Bx ((w1.alloc (.cells #[.string ⟨#[]⟩, .string ⟨#[]⟩] 34)).alloc (.cells #[.string ⟨#[]⟩, .string ⟨#[]⟩] 34)) (w1.heap.size + 1) #[.string (frN (sumQ benP (l.take 0))), .string (frD (sumQ benP (l.take 0)))]) := by
   show Bx _ _ _
   rw [List.take_zero, show sumQ benP [] = 0 from rfl, frN_zero, frD_zero]
   exact Bx.new1 w1 (.cells #[.string ⟨#[]⟩, .string ⟨#[]⟩] 34) #[.string ⟨#[]⟩, .string ⟨#[]⟩] 34
  have HX0 := Lib.hid ((X0.alloc (.cells #[.string ⟨#[]⟩, .string ⟨#[]⟩] 34)).alloc (.cells #[.string ⟨#[]⟩, .string ⟨#[]⟩] 34))
  have HX1 := Lib.hid ((X1.alloc (.cells #[.string ⟨#[]⟩, .string ⟨#[]⟩] 34)).alloc (.cells #[.string ⟨#[]⟩, .string ⟨#[]⟩] 34))
  have hs2 := (hs.alloc (.cells #[.string ⟨#[]⟩, .string ⟨#[]⟩] 34)).alloc (.cells #[.string ⟨#[]⟩, .string ⟨#[]⟩] 34)
  have hsz : w.heap.size + 1 < w1.heap.size := hz0
  clear hs X0 X1 hb1 hz0
  generalize (w1.alloc (.cells #[.string ⟨#[]⟩, .string ⟨#[]⟩] 34)).alloc (.cells #[.string ⟨#[]⟩, .string ⟨#[]⟩] 34) = w2 at *
  generalize w1.heap.size = b2 at *
  go_loopw [8] (fun s wr => ∃ k : Nat, k ≤ n ∧ s = .int .i64 (k : Int) ∧ St w wr ∧ Hid (Bx wr w.heap.size #[.string ⟨#[]⟩, .string ⟨#[]⟩]) ∧ Hid (Bx wr (w.heap.size + 1) #[.string ⟨#[]⟩, .string ⟨#[]⟩]) ∧ Hid (Bx wr b2 #[.string (frN (sumQ ownP (l.take k))), .string (frD (sumQ ownP (l.take k)))]) ∧ Hid (Bx wr (b2 + 1) #[.string (frN (sumQ benP (l.take k))), .string (frD (sumQ benP (l.take k)))])) (fun s _ => (n - intOf s).toNat)
  case atStart => exact ⟨0, by omega, rfl, hs2, HX0, HX1, HB0, HB1⟩
  case round =>
   obtain ⟨k, hk, rfl, hs, H0, H1, H2, H3⟩ := hrel
   by_cases hkn : k = n
   ·subst hkn
    have q : decide ((k : Int) < (k : Int)) = false := decide_eq_false (by omega)
    have X0 := H0.out
    have X1 := H1.out
    have X2 := H2.out
    have X3 := H3.out
    rw [List.take_of_length_le (by have := HN.out; omega), ← HOQ.out.1, HAN.out, HAD.out] at X2
    rw [List.take_of_length_le (by have := HN.out; omega), ← HOQ.out.2, HBN.out, HBD.out] at X3
    have k0 := X2.cell (i := 0) (v := .string an) rfl
    have k1 := X2.cell (i := 1) (v := .string ad) rfl
    have k2 := X3.cell (i := 0) (v := .string bn) rfl
    have k3 := X3.cell (i := 1) (v := .string bd) rfl
    have e0 := X0.cell (i := 0) (v := .string ⟨#[]⟩) rfl
    have e1 := X0.cell (i := 1) (v := .string ⟨#[]⟩) rfl
    have g0 := X0.frozen 0
    have g1 := X0.frozen 1
    have e2 := X1.cell (i := 0) (v := .string ⟨#[]⟩) rfl
    have e3 := X1.cell (i := 1) (v := .string ⟨#[]⟩) rfl
    have g2 := X1.frozen 0
    have g3 := X1.frozen 1
    have n1 : ¬ b2 = w.heap.size := by omega
    have n2 : ¬ w.heap.size = b2 := by omega
    have n3 : ¬ b2 + 1 = w.heap.size := by omega
    have n4 : ¬ w.heap.size = b2 + 1 := by omega
    have n5 : ¬ b2 = w.heap.size + 1 := by omega
    have n6 : ¬ w.heap.size + 1 = b2 := by omega
    clear H0 H1 H2 H3
    go_wp2_with fail
    go_region
    all_goals
     go_wp2_with fail
     obtain ⟨W, hW, y0, y1, y2, y3, hbe⟩ := ret_frac2 hs (Nat.le_refl _) (by omega) (by omega) X0 X1 an ad bn bd
     rw [hW]
     exact bodyPost_ret (v := .tuple #[.agg #[.string an, .string ad], .agg #[.string bn, .string bd], .int .i64 0]) (by simp [results, Tryz.results48, go_sem, y0, y1, y2, y3]) rfl ⟨rfl, hbe.drew⟩
   ·have hkl : k < n := by omega
    have q : decide ((k : Int) < (n : Int)) = true := decide_eq_true (by omega)
    have qn : decide (k < n) = true := decide_eq_true hkl
    obtain ⟨d, hd⟩ : ∃ d, l[k]? = some d := ⟨l[k]'(by rw [HN.out]; exact hkl), by simp⟩
    obtain ⟨b, o, hA, hb, hcells⟩ := row_at (cs := scells) (m := 9) scells_len (by decide) Hi.out hd
    have hdz := HL.out.2.2.2 d (List.mem_of_getElem? hd)
    have hf := HL.out.fit (List.mem_of_getElem? hd)
    have zm1 := FitQ.sizes (hf.1.mul hf.2.1)
    have zm2 := FitQ.sizes (hf.2.2.1.mul hf.2.2.2)
    have zs1 := FitQ.sizes (ownP_fit HL.out k).1
    have zs2 := FitQ.sizes (ownP_fit HL.out k).2
    unfold SecS.le at hdz
    have KM1 := rmul_r (a := d.wn) (b := d.wd) (c := d.rn) (d := d.rd) (by omega) (by omega) (by omega) (by omega)
    have KM2 := rmul_r (a := d.vn) (b := d.vd) (c := d.bn) (d := d.bd) (by omega) (by omega) (by omega) (by omega)
    change Ret _ _ (FR (ownP d)) at KM1
    change Ret _ _ (FR (benP d)) at KM2
    have KA1 := radd_r (a := frN (sumQ ownP (l.take k))) (b := frD (sumQ ownP (l.take k))) (c := frN (ownP d)) (d := frD (ownP d)) (by omega) (by omega) (by have : ownP d = d.w * d.r := rfl; rw [this]; omega) (by have : ownP d = d.w * d.r := rfl; rw [this]; omega)
    have KA2 := radd_r (a := frN (sumQ benP (l.take k))) (b := frD (sumQ benP (l.take k))) (c := frN (benP d)) (d := frD (benP d)) (by omega) (by omega) (by have : benP d = d.v * d.b := rfl; rw [this]; omega) (by have : benP d = d.v * d.b := rfl; rw [this]; omega)
    rw [ratV_fr, ratV_fr, ← sumQ_take hd] at KA1 KA2
    unfold FR at KM1 KM2 KA1 KA2
    unfold FV at KM1 KM2 KA1 KA2
    subst hA
    clear hdz hf zm1 zm2 zs1 zs2 hkn hd
    obtain ⟨xn, hxn⟩ : ∃ x, frN (sumQ ownP (l.take (k + 1))) = x := ⟨_, rfl⟩
    obtain ⟨xd, hxd⟩ : ∃ x, frD (sumQ ownP (l.take (k + 1))) = x := ⟨_, rfl⟩
    obtain ⟨yn, hyn⟩ : ∃ x, frN (sumQ benP (l.take (k + 1))) = x := ⟨_, rfl⟩
    obtain ⟨yd, hyd⟩ : ∃ x, frD (sumQ benP (l.take (k + 1))) = x := ⟨_, rfl⟩
    have HXN := Lib.hid hxn
    have HXD := Lib.hid hxd
    have HYN := Lib.hid hyn
    have HYD := Lib.hid hyd
    rw [hxn, hxd] at KA1
    rw [hyn, hyd] at KA2
    clear hxn hxd hyn hyd
    have B2 := H2.out
    have B3 := H3.out
    generalize frN (sumQ ownP (l.take k)) = sn at *
    generalize frD (sumQ ownP (l.take k)) = sd at *
    generalize frN (sumQ benP (l.take k)) = tn at *
    generalize frD (sumQ benP (l.take k)) = td at *
    generalize frN (ownP d) = p1 at *
    generalize frD (ownP d) = p2 at *
    generalize frN (benP d) = p3 at *
    generalize frD (benP d) = p4 at *
    have HCW : Hid (∀ W, St w W → ∀ t v, (scells d)[t]? = some v → W.cell? ⟨b, o + k * 9 + t, none⟩ = some v) := fun W hW t v h => by
     have := (hW.2.cell (p := ⟨b, o + (k * 9 + t), none⟩) hb).trans (hcells t v h)
     rwa [show o + (k * 9 + t) = o + k * 9 + t by omega] at this
    clear hcells
    obtain ⟨f0, f1, f2, f3, f4, f5, f6, f7, f8⟩ := d
    dsimp only at KM1 KM2
    have k1 : ∀ u : Kept wr, u.W.cell? ⟨b, o + k * 9 + 1, none⟩ = some (.string f1) := fun u => Kept.cell_of (HCW.out wr hs 1 _ rfl) u
    have k2 : ∀ u : Kept wr, u.W.cell? ⟨b, o + k * 9 + 2, none⟩ = some (.string f2) := fun u => Kept.cell_of (HCW.out wr hs 2 _ rfl) u
    have k3 : ∀ u : Kept wr, u.W.cell? ⟨b, o + k * 9 + 3, none⟩ = some (.string f3) := fun u => Kept.cell_of (HCW.out wr hs 3 _ rfl) u
    have k4 : ∀ u : Kept wr, u.W.cell? ⟨b, o + k * 9 + 4, none⟩ = some (.string f4) := fun u => Kept.cell_of (HCW.out wr hs 4 _ rfl) u
    have k7 := B2.keeps (i := 0) (v := .string sn) rfl
    have k8 := B2.keeps (i := 1) (v := .string sd) rfl
    go_wp2_with fail
    refine wp_region_kept_tail 13 (by kernel_rfl) (by kernel_rfl) ?_
    simp only [List.take_succ_cons, List.take_zero, List.drop_succ_cons, List.drop_zero]
    repeat (go_big_quiet_step (first | (with_reducible exact KM1.kept hs) | (with_reducible exact KA1.kept hs)))
    refine wpQuiet_nil ?_
    rintro _ ⟨u, rfl⟩
    have U2 := B2.kept u
    have U3 := B3.kept u
    have V0 := H0.out.kept u
    have V1 := H1.out.kept u
    have u0 := U2.cell (i := 0) (v := .string sn) rfl
    have u1 := U2.cell (i := 1) (v := .string sd) rfl
    have v0 := U2.frozen 0
    have v1 := U2.frozen 1
    clear k1 k2 k3 k4 k7 k8
    go_wp2_with fail
    have hsY := ((hs.kept u).set (b := b2) (by omega) 0 (.string xn)).set (b := b2) (by omega) 1 (.string xd)
    have Y2 : Bx ((u.W.setCell ⟨b2, 0, none⟩ (.string xn)).setCell ⟨b2, 1, none⟩ (.string xd)) b2 #[.string xn, .string xd] := (U2.set 0 (.string xn)).set 1 (.string xd)
    have Y3 : Bx ((u.W.setCell ⟨b2, 0, none⟩ (.string xn)).setCell ⟨b2, 1, none⟩ (.string xd)) (b2 + 1) #[.string tn, .string td] := (U3.other (by omega) 0 (.string xn)).other (by omega) 1 (.string xd)
    have Y0 := (V0.other (c := b2) (by omega) 0 (.string xn)).other (c := b2) (by omega) 1 (.string xd)
    have Y1 := (V1.other (c := b2) (by omega) 0 (.string xn)).other (c := b2) (by omega) 1 (.string xd)
    clear u0 u1 v0 v1 U2 U3 V0 V1 H0 H1 H2 H3 B2 B3 hs KM1 KA1
    generalize (u.W.setCell ⟨b2, 0, none⟩ (.string xn)).setCell ⟨b2, 1, none⟩ (.string xd) = W4 at *
    have k5 : ∀ u : Kept W4, u.W.cell? ⟨b, o + k * 9 + 5, none⟩ = some (.string f5) := fun u => Kept.cell_of (HCW.out W4 hsY 5 _ rfl) u
    have k6 : ∀ u : Kept W4, u.W.cell? ⟨b, o + k * 9 + 6, none⟩ = some (.string f6) := fun u => Kept.cell_of (HCW.out W4 hsY 6 _ rfl) u
    have k7 : ∀ u : Kept W4, u.W.cell? ⟨b, o + k * 9 + 7, none⟩ = some (.string f7) := fun u => Kept.cell_of (HCW.out W4 hsY 7 _ rfl) u
    have k8 : ∀ u : Kept W4, u.W.cell? ⟨b, o + k * 9 + 8, none⟩ = some (.string f8) := fun u => Kept.cell_of (HCW.out W4 hsY 8 _ rfl) u
    have k9 := Y3.keeps (i := 0) (v := .string tn) rfl
    have k10 := Y3.keeps (i := 1) (v := .string td) rfl
    refine wp_region_kept_tail 13 (by kernel_rfl) (by kernel_rfl) ?_
    simp only [List.take_succ_cons, List.take_zero, List.drop_succ_cons, List.drop_zero]
    repeat (go_big_quiet_step (first | (with_reducible exact KM2.kept hsY) | (with_reducible exact KA2.kept hsY)))
    refine wpQuiet_nil ?_
    rintro _ ⟨u2, rfl⟩
    have U3 := Y3.kept u2
    have u0 := U3.cell (i := 0) (v := .string tn) rfl
    have u1 := U3.cell (i := 1) (v := .string td) rfl
    have v0 := U3.frozen 0
    have v1 := U3.frozen 1
    go_wp2_with fail
    go_roundw
    case rel =>
     refine ⟨k + 1, by omega, by go_num, ((hsY.kept u2).set (b := b2 + 1) (by omega) 0 (.string yn)).set (b := b2 + 1) (by omega) 1 (.string yd), ((Y0.kept u2).other (by omega) 0 (.string yn)).other (by omega) 1 (.string yd), ((Y1.kept u2).other (by omega) 0 (.string yn)).other (by omega) 1 (.string yd), ?_, ?_⟩
     ·show Bx _ _ _
      rw [HXN.out, HXD.out]
      exact ((Y2.kept u2).other (by omega) 0 (.string yn)).other (by omega) 1 (.string yd)
     ·show Bx _ _ _
      rw [HYN.out, HYD.out]
      exact (U3.set 0 (.string yn)).set 1 (.string yd)
    case measure => simp [intOf]; omega
 ·rw [if_neg h] at e1 e2
  rw [e1, e2]
  unfold FR
  rw [frN_zero, frD_zero]
  have q : (chkS l != 0) = true := by simpa using h
  generalize chkS l = ch at *
  clear hn hl hi e1 e2 h
  go_enter Tryz.func48, Tryz.ntmps48
  go_wp2_with fail
  refine K1.step hs (Hi.out.on hs.2) ?_
  intro w1 hs hb1
  replace X0 := X0.on hb1
  replace X1 := X1.on hb1
  have e0 := X0.cell (i := 0) (v := .string ⟨#[]⟩) rfl
  have e1 := X0.cell (i := 1) (v := .string ⟨#[]⟩) rfl
  have g0 := X0.frozen 0
  have g1 := X0.frozen 1
  have e2 := X1.cell (i := 0) (v := .string ⟨#[]⟩) rfl
  have e3 := X1.cell (i := 1) (v := .string ⟨#[]⟩) rfl
  have g2 := X1.frozen 0
  have g3 := X1.frozen 1
  go_wp2_with fail
  obtain ⟨W, hW, y0, y1, y2, y3, hbe⟩ := ret_frac2 hs (Nat.le_refl _) (by omega) (by omega) X0 X1 ⟨#[]⟩ ⟨#[]⟩ ⟨#[]⟩ ⟨#[]⟩
  rw [hW]
  exact bodyPost_ret (v := .tuple #[.agg #[.string ⟨#[]⟩, .string ⟨#[]⟩], .agg #[.string ⟨#[]⟩, .string ⟨#[]⟩], .int .i64 ch]) (by simp [results, Tryz.results48, go_sem, y0, y1, y2, y3]) rfl ⟨rfl, hbe⟩
end Go.Proofs.YticfdeaphiifeaaGreatDoor
namespace Go.Proofs.YticfdeaphiifeaaGreatDoor
open Go.RowKit Go.Shelf Dec QQ
theorem partS_cells (B : Rat) (d : SecS) : pcells (partS B d) = [.string d.nm, .string (frN ((d.w - d.v) * (d.b - B))), .string (frD ((d.w - d.v) * (d.b - B))), .string (frN (d.v * (d.r - d.b))), .string (frD (d.v * (d.r - d.b))), .string (frN ((d.w - d.v) * (d.r - d.b))), .string (frD ((d.w - d.v) * (d.r - d.b)))] := rfl
theorem partsL_at {l : List SecS} {k : Nat} {d : SecS} (h : l[k]? = some d) : (partsL l)[k]? = some (partS (benQ l) d) := by unfold partsL; rw [List.getElem?_map, h]; rfl
theorem rparts_few {A : Option Addr} {n c k0 : Nat} {l : List SecS} (hn : l.length = n) (hl : FewS k0 l) (hk0 : k0 ≤ 100) (h : chkS l = 0) (w : World) (hg : Gl w) (hr : Row w A (flatG scells l)) :
    Calls Tryz.prog 51 #[.slice A n c] w fun e w' => ∃ v, e = .returned (.tuple #[v, .int .i64 0]) ∧ OutG pcells 36 7 w.heap.size w' v n (partsL l) ∧ Below w.heap.size w w' := by
  have hs := St.refl hg
  have KR := rReturn_any (A := A) (c := c) hn (.inr hl) (by omega)
  rw [show retOwn l = ownQ l from if_pos h, show retBen l = benQ l from if_pos h, h] at KR
  have HBQ : Hid (FitQ (5 * (2 * k0 + 1) + 1) (benQ l)) := (hl.q).2.2.2
  have HPA : Hid (∀ k d, l[k]? = some d → (partsL l)[k]? = some (partS (benQ l) d)) := fun k d h => partsL_at h
  have HPL : Hid ((partsL l).length = n) := by show _ = _; unfold partsL; rw [List.length_map]; exact hn
  have HPT : Hid (∀ s ∈ l, FitQ (2 * k0 + 1) (s.w - s.v) ∧ FitQ (2 * k0 + 1) (s.r - s.b) ∧ FitQ (k0 + (5 * (2 * k0 + 1) + 1) + 1) (s.b - benQ l)) := fun s hs => by
    have f := hl.fit hs
    exact ⟨(f.1.sub f.2.2.1).mono (by omega), (f.2.1.sub f.2.2.2).mono (by omega), f.2.2.2.sub hl.q.2.2.2⟩
  have h5 : n ≤ 5 := by have := hl.1; omega
  have HN := Lib.hid hn
  have HL := Lib.hid hl
  have HR := Lib.hid hr
  unfold FR at KR
  clear hn hl hr h
  generalize partsL l = PL at *
  generalize benQ l = B at *
  generalize frN (ownQ l) = an at *
  generalize frD (ownQ l) = ad at *
  obtain ⟨bn, hbn⟩ : ∃ x, frN B = x := ⟨_, rfl⟩
  obtain ⟨bd, hbd⟩ : ∃ x, frD B = x := ⟨_, rfl⟩
  have HBN := Lib.hid hbn
  have HBD := Lib.hid hbd
  rw [hbn, hbd] at KR
  clear hbn hbd
  go_enter Tryz.func51, Tryz.ntmps51
  go_wp2_with fail
  refine KR.step hs HR.out ?_
  intro w1 hs hb1
  go_wp2_with fail
  have XB := Bx.new1 w1 (.cells #[.string an, .string ad] 34) #[.string bn, .string bd] 34
  have hwb : w.heap.size ≤ w1.heap.size := hb1.size
  replace hs := (hs.alloc (.cells #[.string an, .string ad] 34)).alloc (.cells #[.string bn, .string bd] 34)
  have HXB := Lib.hid XB
  have HOW : Hid (World.ownsRow ((w1.alloc (.cells #[.string an, .string ad] 34)).alloc (.cells #[.string bn, .string bd] 34)) (w1.heap.size + 2) 36 7 (.slice none 0 0) 0 (flatG pcells (PL.take 0))) := World.ownsRow_nil _ _ _ _
  clear XB hb1
  generalize (w1.alloc (.cells #[.string an, .string ad] 34)).alloc (.cells #[.string bn, .string bd] 34) = w2 at *
  generalize w1.heap.size = bA at *
  go_loopw [8, 7] (fun s v wr => ∃ k : Nat, k ≤ n ∧ s = .int .i64 (k : Int) ∧ St w wr ∧ Hid (Bx wr (bA + 1) #[.string bn, .string bd]) ∧ Hid (wr.ownsRow (bA + 2) 36 7 v k (flatG pcells (PL.take k)))) (fun s _ _ => (n - intOf s).toNat)
  case atStart => exact ⟨0, by omega, rfl, hs, HXB, HOW⟩
  case round =>
    obtain ⟨k, hk, rfl, hs, HX, HO⟩ := hrel
    by_cases hkn : k = n
    · subst hkn
      have q : decide ((k : Int) < (k : Int)) = false := decide_eq_false (by omega)
      have HDT : Hid (PL.take k = PL) := List.take_of_length_le (Nat.le_of_eq HPL.out)
      rw [HDT.out] at HO
      go_wp2_with fail
      go_ret2
      exact ⟨_, rfl, ⟨HPL.out, own_low HO.out (by omega)⟩, hs.2⟩
    · have hkl : k < n := by omega
      have q : decide ((k : Int) < (n : Int)) = true := decide_eq_true (by omega)
      have qn : decide (k < n) = true := decide_eq_true hkl
      obtain ⟨d, hd⟩ : ∃ d, l[k]? = some d := ⟨l[k]'(by rw [HN.out]; exact hkl), by simp⟩
      obtain ⟨b, o, hA, hb, hcells⟩ := row_at (cs := scells) (m := 9) scells_len (by decide) HR.out hd
      have hdz := HL.out.2.2.2 d (List.mem_of_getElem? hd)
      have hp := HPT.out d (List.mem_of_getElem? hd)
      have z1 := FitQ.sizes hp.1
      have z2 := FitQ.sizes hp.2.1
      have z3 := FitQ.sizes hp.2.2
      have zb := FitQ.sizes HBQ.out
      rw [HBN.out, HBD.out] at zb
      unfold SecS.le at hdz
      have KS1 := rsub_r (a := d.wn) (b := d.wd) (c := d.vn) (d := d.vd) (by omega) (by omega) (by omega) (by omega)
      have KS2 := rsub_r (a := d.rn) (b := d.rd) (c := d.bn) (d := d.bd) (by omega) (by omega) (by omega) (by omega)
      have KS3 := rsub_r (a := d.bn) (b := d.bd) (c := bn) (d := bd) (by omega) (by omega) (by omega) (by omega)
      rw [show ratV bn bd = B by rw [← HBN.out, ← HBD.out, ratV_fr]] at KS3
      change Ret _ _ (FR (d.w - d.v)) at KS1
      change Ret _ _ (FR (d.r - d.b)) at KS2
      change Ret _ _ (FR (d.b - B)) at KS3
      have KM1 := rmul_r (a := frN (d.w - d.v)) (b := frD (d.w - d.v)) (c := frN (d.b - B)) (d := frD (d.b - B)) (by omega) (by omega) (by omega) (by omega)
      have KM2 := rmul_r (a := d.vn) (b := d.vd) (c := frN (d.r - d.b)) (d := frD (d.r - d.b)) (by omega) (by omega) (by omega) (by omega)
      have KM3 := rmul_r (a := frN (d.w - d.v)) (b := frD (d.w - d.v)) (c := frN (d.r - d.b)) (d := frD (d.r - d.b)) (by omega) (by omega) (by omega) (by omega)
      rw [ratV_fr, ratV_fr] at KM1 KM3
      rw [ratV_fr] at KM2
      change Ret _ _ (FR (d.v * (d.r - d.b))) at KM2
      have HDK := Lib.hid (HPA.out k d hd)
      have HSC := Lib.hid (partS_cells B d)
      subst hA
      unfold FR at KS1 KS2 KS3 KM1 KM2 KM3
      unfold FV at KS1 KS2 KS3 KM1 KM2 KM3
      clear hd hkn hdz hp z1 z2 z3 zb
      generalize partS B d = D at *
      generalize frN (d.w - d.v) = wn1 at *
      generalize frD (d.w - d.v) = wd1 at *
      generalize frN (d.r - d.b) = rn1 at *
      generalize frD (d.r - d.b) = rd1 at *
      generalize frN (d.b - B) = gn1 at *
      generalize frD (d.b - B) = gd1 at *
      generalize frN ((d.w - d.v) * (d.b - B)) = pa at *
      generalize frD ((d.w - d.v) * (d.b - B)) = pb at *
      generalize frN (d.v * (d.r - d.b)) = pc at *
      generalize frD (d.v * (d.r - d.b)) = pd at *
      generalize frN ((d.w - d.v) * (d.r - d.b)) = pe at *
      generalize frD ((d.w - d.v) * (d.r - d.b)) = pf at *
      have HCW : Hid (∀ W, St w W → ∀ t v, (scells d)[t]? = some v → W.cell? ⟨b, o + k * 9 + t, none⟩ = some v) := fun W hW t v h => by
        have := (hW.2.cell (p := ⟨b, o + (k * 9 + t), none⟩) hb).trans (hcells t v h)
        rwa [show o + (k * 9 + t) = o + k * 9 + t by omega] at this
      clear hcells
      obtain ⟨f0, f1, f2, f3, f4, f5, f6, f7, f8⟩ := d
      dsimp only at KS1 KS2 KS3 KM2 HSC
      have HTK : Hid (flatG pcells (PL.take (k + 1)) = flatG pcells (PL.take k) ++ [.string f0, .string pa, .string pb, .string pc, .string pd, .string pe, .string pf]) := by
        show _ = _
        rw [List.take_add_one, HDK.out, Option.toList_some, flatG_snoc, HSC.out]
      clear HDK HSC
      have HNZ0 := Lib.hid (fun g hg => HO.out.lt g hg : ∀ g, u7.ownBlock = some g → bA + 2 ≤ g ∧ g < wr.heap.size)
      have ltX := HX.out.lt
      go_wp2_with fail
      refine wp_region_fresh1 12 11 9 #[.string ⟨#[]⟩, .string ⟨#[]⟩] (by kernel_rfl) (by kernel_rfl) (by kernel_rfl) (by omega) rfl (by kernel_rfl) ⟨_, 9, _, rfl, rfl, rfl, fun _ _ => by simp [execOp, go_sem, ptrTo]; rfl⟩ ?_
      apply Exists.intro
      refine ⟨fun S W hne hk hcl => ?_, ?_⟩
      · simp only [List.take_succ_cons, List.take_zero, quietL, List.mem_cons, List.not_mem_nil, or_false, Nat.reduceAdd, Nat.reduceEqDiff, reduceIte, Nat.zero_add]
        have kk0 : ∀ u, (W u).cell? ⟨b, o + k * 9 + 1, none⟩ = some (.string f1) := fun u => HCW.out (W u) (hs.on (hk u)) 1 _ rfl
        have kk1 : ∀ u, (W u).cell? ⟨b, o + k * 9 + 2, none⟩ = some (.string f2) := fun u => HCW.out (W u) (hs.on (hk u)) 2 _ rfl
        have kk2 : ∀ u, (W u).cell? ⟨b, o + k * 9 + 5, none⟩ = some (.string f5) := fun u => HCW.out (W u) (hs.on (hk u)) 5 _ rfl
        have kk3 : ∀ u, (W u).cell? ⟨b, o + k * 9 + 6, none⟩ = some (.string f6) := fun u => HCW.out (W u) (hs.on (hk u)) 6 _ rfl
        repeat (go_big_quiet_step (first | (with_reducible exact KS1.fresh hs hk hcl)))
        exact wpQuiet_nil rfl
      intro b9 v1 hb9 hv1 hx9
      simp only [List.drop_succ_cons, List.drop_zero, ptrTo]
      have c0 := hx9.cell (i := 0) (v := .string ⟨#[]⟩) rfl
      have c1 := hx9.cell (i := 1) (v := .string ⟨#[]⟩) rfl
      have cf0 := hx9.frozen 0
      have cf1 := hx9.frozen 1
      go_wp2_with fail
      have X9 : Bx ((v1.setCell ⟨b9, 0, none⟩ (.string wn1)).setCell ⟨b9, 1, none⟩ (.string wd1)) b9 #[.string wn1, .string wd1] := (hx9.set 0 (.string wn1)).set 1 (.string wd1)
      have low9 : Below wr.heap.size wr ((v1.setCell ⟨b9, 0, none⟩ (.string wn1)).setCell ⟨b9, 1, none⟩ (.string wd1)) := (hv1.setCell (p := ⟨b9, 0, none⟩) hb9 _).setCell (p := ⟨b9, 1, none⟩) hb9 _
      have HX3 := Lib.hid (HX.out.on low9)
      have hs3 := hs.on low9
      have HO3 := Lib.hid (own_below HO.out low9)
      clear c0 c1 cf0 cf1 hx9 low9 hv1 HX HO hs KS1
      generalize (v1.setCell ⟨b9, 0, none⟩ (.string wn1)).setCell ⟨b9, 1, none⟩ (.string wd1) = W3 at *
      have lt9 := X9.lt
      refine wp_region_fresh1 12 11 10 #[.string ⟨#[]⟩, .string ⟨#[]⟩] (by kernel_rfl) (by kernel_rfl) (by kernel_rfl) (by omega) rfl (by kernel_rfl) ⟨_, 10, _, rfl, rfl, rfl, fun _ _ => by simp [execOp, go_sem, ptrTo]; rfl⟩ ?_
      apply Exists.intro
      refine ⟨fun S W hne hk hcl => ?_, ?_⟩
      · simp only [List.take_succ_cons, List.take_zero, quietL, List.mem_cons, List.not_mem_nil, or_false, Nat.reduceAdd, Nat.reduceEqDiff, reduceIte, Nat.zero_add]
        have kk0 : ∀ u, (W u).cell? ⟨b, o + k * 9 + 3, none⟩ = some (.string f3) := fun u => HCW.out (W u) (hs3.on (hk u)) 3 _ rfl
        have kk1 : ∀ u, (W u).cell? ⟨b, o + k * 9 + 4, none⟩ = some (.string f4) := fun u => HCW.out (W u) (hs3.on (hk u)) 4 _ rfl
        have kk2 : ∀ u, (W u).cell? ⟨b, o + k * 9 + 7, none⟩ = some (.string f7) := fun u => HCW.out (W u) (hs3.on (hk u)) 7 _ rfl
        have kk3 : ∀ u, (W u).cell? ⟨b, o + k * 9 + 8, none⟩ = some (.string f8) := fun u => HCW.out (W u) (hs3.on (hk u)) 8 _ rfl
        repeat (go_big_quiet_step (first | (with_reducible exact KS2.fresh hs3 hk hcl)))
        exact wpQuiet_nil rfl
      intro b10 v2 hb10 hv2 hx10
      simp only [List.drop_succ_cons, List.drop_zero, ptrTo]
      have c0 := hx10.cell (i := 0) (v := .string ⟨#[]⟩) rfl
      have c1 := hx10.cell (i := 1) (v := .string ⟨#[]⟩) rfl
      have cf0 := hx10.frozen 0
      have cf1 := hx10.frozen 1
      go_wp2_with fail
      have X10 : Bx ((v2.setCell ⟨b10, 0, none⟩ (.string rn1)).setCell ⟨b10, 1, none⟩ (.string rd1)) b10 #[.string rn1, .string rd1] := (hx10.set 0 (.string rn1)).set 1 (.string rd1)
      have low10 : Below W3.heap.size W3 ((v2.setCell ⟨b10, 0, none⟩ (.string rn1)).setCell ⟨b10, 1, none⟩ (.string rd1)) := (hv2.setCell (p := ⟨b10, 0, none⟩) hb10 _).setCell (p := ⟨b10, 1, none⟩) hb10 _
      have HX4 := Lib.hid (HX3.out.on low10)
      replace X9 := X9.on low10
      have hs4 := hs3.on low10
      have HO4 := Lib.hid (own_below HO3.out low10)
      clear c0 c1 cf0 cf1 hx10 low10 hv2 HX3 HO3 hs3 KS2
      generalize (v2.setCell ⟨b10, 0, none⟩ (.string rn1)).setCell ⟨b10, 1, none⟩ (.string rd1) = W4 at *
      obtain ⟨i0, hi, hz0, hz1, hz2⟩ := info_parts infoP48
      have Hi := Lib.hid hi
      have Hz0 := Lib.hid hz0
      have Hz1 := Lib.hid hz1
      have Hz2 := Lib.hid hz2
      have hlt9 : wr.heap.size ≤ b9 := hb9
      have hlt10 : W3.heap.size ≤ b10 := hb10
      have hnz : ∀ g, u7.ownBlock = some g → bA + 2 ≤ g ∧ g < wr.heap.size := fun g hg => HNZ0.out g hg
      have HNZ := Lib.hid hnz
      clear hi hz0 hz1 hz2 hnz
      go_wp2_with fail
      have e3 : W4.drew.heap.size = W4.heap.size := rfl
      have low0 : Below W4.heap.size W4 W4 := Below.refl _ _
      have X0' : Bx W4 (b9) #[.string wn1, .string wd1] := X9
      have X1' : Bx W4 (b10) #[.string rn1, .string rd1] := X10
      have X2' : Bx W4 (bA + 1) #[.string bn, .string bd] := HX4.out
      have rX0 : W4.cell? ⟨b, o + k * 9, none⟩ = some (.string f0) := HCW.out W4 hs4 0 _ rfl
      have rX5 : W4.cell? ⟨b, o + k * 9 + 5, none⟩ = some (.string f5) := HCW.out W4 hs4 5 _ rfl
      have rX6 : W4.cell? ⟨b, o + k * 9 + 6, none⟩ = some (.string f6) := HCW.out W4 hs4 6 _ rfl
      have rX7 : W4.cell? ⟨b, o + k * 9 + 7, none⟩ = some (.string f7) := HCW.out W4 hs4 7 _ rfl
      have rX8 : W4.cell? ⟨b, o + k * 9 + 8, none⟩ = some (.string f8) := HCW.out W4 hs4 8 _ rfl
      have cX00 := X0'.cell (i := 0) (v := .string wn1) rfl
      have cX01 := X0'.cell (i := 1) (v := .string wd1) rfl
      have cX10 := X1'.cell (i := 0) (v := .string rn1) rfl
      have cX11 := X1'.cell (i := 1) (v := .string rd1) rfl
      have cX20 := X2'.cell (i := 0) (v := .string bn) rfl
      have cX21 := X2'.cell (i := 1) (v := .string bd) rfl
      go_region_held3 (fun w' => w'.cell? ⟨b, o + k * 9, none⟩ = some (.string f0) ∧ w'.cell? ⟨b, o + k * 9 + 5, none⟩ = some (.string f5) ∧ w'.cell? ⟨b, o + k * 9 + 6, none⟩ = some (.string f6) ∧ w'.cell? ⟨b, o + k * 9 + 7, none⟩ = some (.string f7) ∧ w'.cell? ⟨b, o + k * 9 + 8, none⟩ = some (.string f8) ∧ w'.cell? ⟨b9, 0, none⟩ = some (.string wn1) ∧ w'.cell? ⟨b9, 1, none⟩ = some (.string wd1) ∧ w'.cell? ⟨b10, 0, none⟩ = some (.string rn1) ∧ w'.cell? ⟨b10, 1, none⟩ = some (.string rd1) ∧ w'.cell? ⟨bA + 1, 0, none⟩ = some (.string bn) ∧ w'.cell? ⟨bA + 1, 1, none⟩ = some (.string bd))
        (first
          | (with_reducible exact ⟨rD0, rD5, rD6, rD7, rD8, cD00, cD01, cD10, cD11, cD20, cD21⟩)
          | (with_reducible exact ⟨rC0, rC5, rC6, rC7, rC8, cC00, cC01, cC10, cC11, cC20, cC21⟩)
          | (with_reducible exact ⟨rB0, rB5, rB6, rB7, rB8, cB00, cB01, cB10, cB11, cB20, cB21⟩)
          | (with_reducible exact ⟨rA0, rA5, rA6, rA7, rA8, cA00, cA01, cA10, cA11, cA20, cA21⟩)
          | (with_reducible exact ⟨rX0, rX5, rX6, rX7, rX8, cX00, cX01, cX10, cX11, cX20, cX21⟩)
          | exact ⟨HCW.out _ hs7 0 _ rfl, HCW.out _ hs7 5 _ rfl, HCW.out _ hs7 6 _ rfl, HCW.out _ hs7 7 _ rfl, HCW.out _ hs7 8 _ rfl, E0.cell (i := 0) (v := .string wn1) rfl, E0.cell (i := 1) (v := .string wd1) rfl, E1.cell (i := 0) (v := .string rn1) rfl, E1.cell (i := 1) (v := .string rd1) rfl, E2.cell (i := 0) (v := .string bn) rfl, E2.cell (i := 1) (v := .string bd) rfl⟩
          | exact ⟨HCW.out _ (hsD.alloc _) 0 _ rfl, HCW.out _ (hsD.alloc _) 5 _ rfl, HCW.out _ (hsD.alloc _) 6 _ rfl, HCW.out _ (hsD.alloc _) 7 _ rfl, HCW.out _ (hsD.alloc _) 8 _ rfl, (D0'.alloc _).cell (i := 0) (v := .string wn1) rfl, (D0'.alloc _).cell (i := 1) (v := .string wd1) rfl, (D1'.alloc _).cell (i := 0) (v := .string rn1) rfl, (D1'.alloc _).cell (i := 1) (v := .string rd1) rfl, (D2'.alloc _).cell (i := 0) (v := .string bn) rfl, (D2'.alloc _).cell (i := 1) (v := .string bd) rfl⟩
          | (go_keep; done))
        (first
          | (go_at_call 104
             with_reducible refine KS3.step (by first | with_reducible exact hs4.drew | with_reducible exact hs4) ?_
             intro wA hsA hbA
             have A0' : Bx wA (b9) #[.string wn1, .string wd1] := (by first | with_reducible exact X0'.drew.on hbA | with_reducible exact X0'.on hbA)
             have A1' : Bx wA (b10) #[.string rn1, .string rd1] := (by first | with_reducible exact X1'.drew.on hbA | with_reducible exact X1'.on hbA)
             have A2' : Bx wA (bA + 1) #[.string bn, .string bd] := (by first | with_reducible exact X2'.drew.on hbA | with_reducible exact X2'.on hbA)
             have lowA : Below W4.heap.size W4 wA := (by first | with_reducible exact low0.trans (hbA.mono low0.size) | exact low0.drew.trans (hbA.mono low0.drew.size))
             have rA0 : wA.cell? ⟨b, o + k * 9, none⟩ = some (.string f0) := HCW.out wA hsA 0 _ rfl
             have rA5 : wA.cell? ⟨b, o + k * 9 + 5, none⟩ = some (.string f5) := HCW.out wA hsA 5 _ rfl
             have rA6 : wA.cell? ⟨b, o + k * 9 + 6, none⟩ = some (.string f6) := HCW.out wA hsA 6 _ rfl
             have rA7 : wA.cell? ⟨b, o + k * 9 + 7, none⟩ = some (.string f7) := HCW.out wA hsA 7 _ rfl
             have rA8 : wA.cell? ⟨b, o + k * 9 + 8, none⟩ = some (.string f8) := HCW.out wA hsA 8 _ rfl
             have cA00 := A0'.cell (i := 0) (v := .string wn1) rfl
             have cA01 := A0'.cell (i := 1) (v := .string wd1) rfl
             have cA10 := A1'.cell (i := 0) (v := .string rn1) rfl
             have cA11 := A1'.cell (i := 1) (v := .string rd1) rfl
             have cA20 := A2'.cell (i := 0) (v := .string bn) rfl
             have cA21 := A2'.cell (i := 1) (v := .string bd) rfl)
          | (go_at_call 49
             with_reducible refine KM1.step (by first | with_reducible exact hsA.drew | with_reducible exact hsA) ?_
             intro wB hsB hbB
             have B0' : Bx wB (b9) #[.string wn1, .string wd1] := (by first | with_reducible exact A0'.drew.on hbB | with_reducible exact A0'.on hbB)
             have B1' : Bx wB (b10) #[.string rn1, .string rd1] := (by first | with_reducible exact A1'.drew.on hbB | with_reducible exact A1'.on hbB)
             have B2' : Bx wB (bA + 1) #[.string bn, .string bd] := (by first | with_reducible exact A2'.drew.on hbB | with_reducible exact A2'.on hbB)
             have lowB : Below W4.heap.size W4 wB := (by first | with_reducible exact lowA.trans (hbB.mono lowA.size) | exact lowA.drew.trans (hbB.mono lowA.drew.size))
             have rB0 : wB.cell? ⟨b, o + k * 9, none⟩ = some (.string f0) := HCW.out wB hsB 0 _ rfl
             have rB5 : wB.cell? ⟨b, o + k * 9 + 5, none⟩ = some (.string f5) := HCW.out wB hsB 5 _ rfl
             have rB6 : wB.cell? ⟨b, o + k * 9 + 6, none⟩ = some (.string f6) := HCW.out wB hsB 6 _ rfl
             have rB7 : wB.cell? ⟨b, o + k * 9 + 7, none⟩ = some (.string f7) := HCW.out wB hsB 7 _ rfl
             have rB8 : wB.cell? ⟨b, o + k * 9 + 8, none⟩ = some (.string f8) := HCW.out wB hsB 8 _ rfl
             have cB00 := B0'.cell (i := 0) (v := .string wn1) rfl
             have cB01 := B0'.cell (i := 1) (v := .string wd1) rfl
             have cB10 := B1'.cell (i := 0) (v := .string rn1) rfl
             have cB11 := B1'.cell (i := 1) (v := .string rd1) rfl
             have cB20 := B2'.cell (i := 0) (v := .string bn) rfl
             have cB21 := B2'.cell (i := 1) (v := .string bd) rfl)
          | (go_at_call 49
             with_reducible refine KM2.step (by first | with_reducible exact hsB.drew | with_reducible exact hsB) ?_
             intro wC hsC hbC
             have C0' : Bx wC (b9) #[.string wn1, .string wd1] := (by first | with_reducible exact B0'.drew.on hbC | with_reducible exact B0'.on hbC)
             have C1' : Bx wC (b10) #[.string rn1, .string rd1] := (by first | with_reducible exact B1'.drew.on hbC | with_reducible exact B1'.on hbC)
             have C2' : Bx wC (bA + 1) #[.string bn, .string bd] := (by first | with_reducible exact B2'.drew.on hbC | with_reducible exact B2'.on hbC)
             have lowC : Below W4.heap.size W4 wC := (by first | with_reducible exact lowB.trans (hbC.mono lowB.size) | exact lowB.drew.trans (hbC.mono lowB.drew.size))
             have rC0 : wC.cell? ⟨b, o + k * 9, none⟩ = some (.string f0) := HCW.out wC hsC 0 _ rfl
             have rC5 : wC.cell? ⟨b, o + k * 9 + 5, none⟩ = some (.string f5) := HCW.out wC hsC 5 _ rfl
             have rC6 : wC.cell? ⟨b, o + k * 9 + 6, none⟩ = some (.string f6) := HCW.out wC hsC 6 _ rfl
             have rC7 : wC.cell? ⟨b, o + k * 9 + 7, none⟩ = some (.string f7) := HCW.out wC hsC 7 _ rfl
             have rC8 : wC.cell? ⟨b, o + k * 9 + 8, none⟩ = some (.string f8) := HCW.out wC hsC 8 _ rfl
             have cC00 := C0'.cell (i := 0) (v := .string wn1) rfl
             have cC01 := C0'.cell (i := 1) (v := .string wd1) rfl
             have cC10 := C1'.cell (i := 0) (v := .string rn1) rfl
             have cC11 := C1'.cell (i := 1) (v := .string rd1) rfl
             have cC20 := C2'.cell (i := 0) (v := .string bn) rfl
             have cC21 := C2'.cell (i := 1) (v := .string bd) rfl)
          | (go_at_call 49
             with_reducible refine KM3.step (by first | with_reducible exact hsC.drew | with_reducible exact hsC) ?_
             intro wD hsD hbD
             have D0' : Bx wD (b9) #[.string wn1, .string wd1] := (by first | with_reducible exact C0'.drew.on hbD | with_reducible exact C0'.on hbD)
             have D1' : Bx wD (b10) #[.string rn1, .string rd1] := (by first | with_reducible exact C1'.drew.on hbD | with_reducible exact C1'.on hbD)
             have D2' : Bx wD (bA + 1) #[.string bn, .string bd] := (by first | with_reducible exact C2'.drew.on hbD | with_reducible exact C2'.on hbD)
             have lowD : Below W4.heap.size W4 wD := (by first | with_reducible exact lowC.trans (hbD.mono lowC.size) | exact lowC.drew.trans (hbD.mono lowC.drew.size))
             have rD0 : wD.cell? ⟨b, o + k * 9, none⟩ = some (.string f0) := HCW.out wD hsD 0 _ rfl
             have rD5 : wD.cell? ⟨b, o + k * 9 + 5, none⟩ = some (.string f5) := HCW.out wD hsD 5 _ rfl
             have rD6 : wD.cell? ⟨b, o + k * 9 + 6, none⟩ = some (.string f6) := HCW.out wD hsD 6 _ rfl
             have rD7 : wD.cell? ⟨b, o + k * 9 + 7, none⟩ = some (.string f7) := HCW.out wD hsD 7 _ rfl
             have rD8 : wD.cell? ⟨b, o + k * 9 + 8, none⟩ = some (.string f8) := HCW.out wD hsD 8 _ rfl
             have cD00 := D0'.cell (i := 0) (v := .string wn1) rfl
             have cD01 := D0'.cell (i := 1) (v := .string wd1) rfl
             have cD10 := D1'.cell (i := 0) (v := .string rn1) rfl
             have cD11 := D1'.cell (i := 1) (v := .string rd1) rfl
             have cD20 := D2'.cell (i := 0) (v := .string bn) rfl
             have cD21 := D2'.cell (i := 1) (v := .string bd) rfl)
          | (refine step_append_any _ (by rfl) (.tmp 48) (.tmp 74) 27 (by rfl) (bA + 2) 36 i0 (.agg #[.string ⟨#[]⟩, .string ⟨#[]⟩, .string ⟨#[]⟩, .string ⟨#[]⟩, .string ⟨#[]⟩, .string ⟨#[]⟩, .string ⟨#[]⟩]) 7 112 (by kernel_rfl) Hi.out Hz0.out Hz1.out Hz2.out rfl (by omega) u7 k (flatG pcells (PL.take k)) (by rfl) ((own_below HO4.out lowD).alloc _) (wD.heap.size + 1) (some ⟨wD.heap.size, 0, none⟩) 1 1 [.string f0, .string pa, .string pb, .string pc, .string pd, .string pe, .string pf] (by rfl) (reads_row wD 36 [.string f0, .string pa, .string pb, .string pc, .string pd, .string pe, .string pf]) (pcells_one7 ⟨f0, pa, pb, pc, pd, pe, pf⟩) (by unfold maxLen; omega) (by omega) (by have := D2'.lt; simp; omega) ?_
             intro v7 w7 hown7 hg7 _
             have hs7 : St w w7 := ⟨hsD.1, (hsD.2.alloc hsD.2.size _).grown hg7 (by have := hsD.2.size; simp; omega) (fun g hg => by have := (HNZ.out g hg).1; omega)⟩
             have E0 := (D0'.alloc _).grown hg7 (fun e => by have := (HNZ.out _ e.symm); omega)
             have E1 := (D1'.alloc _).grown hg7 (fun e => by have := (HNZ.out _ e.symm); omega)
             have E2 := (D2'.alloc _).grown hg7 (fun e => by have := (HNZ.out _ e.symm); omega)))
      go_wp2_with fail
      go_roundw
      case rel =>
        refine ⟨k + 1, by omega, by go_num, hs7, E2, ?_⟩
        show World.ownsRow _ _ _ _ _ _ _
        rw [HTK.out]
        exact hown7
      case measure => simp [intOf]; omega
theorem rParts_any {A : Option Addr} {n c k0 : Nat} {l : List SecS} (hn : l.length = n) (hl : 32 < n ∨ FewS k0 l) (hk0 : k0 ≤ 100) (w : World) (hg : Gl w) (hr : Row w A (flatG scells l)) :
  Calls Tryz.prog 51 #[.slice A n c] w fun e w' => ∃ v, e = .returned (.tuple #[v, .int .i64 (chkS l)]) ∧ OutG pcells 36 7 w.heap.size w' v (prtsR l).length (prtsR l) ∧ Below w.heap.size w w' := by
 by_cases h : chkS l = 0
 ·have e : prtsR l = partsL l := if_pos h
  have hlen : (partsL l).length = n := by unfold partsL; rw [List.length_map]; exact hn
  rw [e, h, hlen]
  rcases hl with h32 | hf
  ·have := (chkS_iff.1 h).few; omega
  ·exact rparts_few hn hf hk0 h w hg hr
 ·have e : prtsR l = [] := if_neg h
  rw [e]
  have hs := St.refl hg
  have Hr := Lib.hid hr
  have K1 := rReturn_any (A := A) (c := c) hn hl (by omega)
  have q : (chkS l != 0) = true := by simpa using h
  unfold FR at K1
  generalize frN (retOwn l) = an at *
  generalize frD (retOwn l) = ad at *
  generalize frN (retBen l) = bn at *
  generalize frD (retBen l) = bd at *
  generalize chkS l = ch at *
  clear hn hl h hr e
  go_enter Tryz.func51, Tryz.ntmps51
  go_wp2_with fail
  refine K1.step hs Hr.out ?_
  intro w1 hs _
  go_wp2_with fail
  replace hs := (hs.alloc (.cells #[.string an, .string ad] 34)).alloc (.cells #[.string bn, .string bd] 34)
  go_ret2
  exact ⟨_, rfl, ⟨rfl, World.ownsRow_nil _ _ _ _⟩, hs.2⟩
end Go.Proofs.YticfdeaphiifeaaGreatDoor
