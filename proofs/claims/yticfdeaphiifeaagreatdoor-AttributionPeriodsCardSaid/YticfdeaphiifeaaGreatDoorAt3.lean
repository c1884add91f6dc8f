/- Attribution: the returns of portfolio and benchmark, the check of sectors. Conditions: up to five sectors with numbers of bounded length, or more than 32. -/
import Derived.Test.YticfdeaphiifeaaGreatDoorAt2
set_option maxHeartbeats 4000000
set_option maxRecDepth 100000
namespace Go.Proofs.YticfdeaphiifeaaGreatDoor
open Go.RowKit Go.Shelf Dec QQ
def FewS (k0 : Nat) (l : List SecS) : Prop := l.length ≤ 5 ∧ k0 ≤ 3000 ∧ 1 ≤ k0 ∧ ∀ s ∈ l, s.le k0
theorem FewS.fit {k0 : Nat} {l : List SecS} (h : FewS k0 l) {s : SecS} (hs : s ∈ l) : FitQ k0 s.w ∧ FitQ k0 s.r ∧ FitQ k0 s.v ∧ FitQ k0 s.b := (h.2.2.2 s hs).fit h.2.2.1
theorem SecS.le.mono {k m : Nat} {s : SecS} (h : s.le k) (hk : k ≤ m) : s.le m := by unfold SecS.le at *; omega
theorem FewS.q {k0 : Nat} {l : List SecS} (h : FewS k0 l) : FitQ (5 * (k0 + 1) + 1) (sumQ SecS.w l) ∧ FitQ (5 * (k0 + 1) + 1) (sumQ SecS.v l) ∧ FitQ (5 * (2 * k0 + 1) + 1) (ownQ l) ∧ FitQ (5 * (2 * k0 + 1) + 1) (benQ l) :=
  ⟨FitQ.sum_le (fun a ha => (h.fit ha).1) h.1 (by omega), FitQ.sum_le (fun a ha => (h.fit ha).2.2.1) h.1 (by omega),
   FitQ.sum_le (k := 2 * k0) (fun a ha => ((h.fit ha).1.mul (h.fit ha).2.1).mono (by omega)) h.1 (by omega), FitQ.sum_le (k := 2 * k0) (fun a ha => ((h.fit ha).2.2.1.mul (h.fit ha).2.2.2).mono (by omega)) h.1 (by omega)⟩
theorem ret_frac2 {w w1 : World} {B C : Nat} (hs : St w w1) (hb : w.heap.size ≤ B) (hc : w.heap.size ≤ C) (hne : B ≠ C) (X : Bx w1 B #[.string ⟨#[]⟩, .string ⟨#[]⟩]) (Y : Bx w1 C #[.string ⟨#[]⟩, .string ⟨#[]⟩]) (n d n' d' : ByteArray) :
  ∃ W, (((w1.setCell ⟨B, 0, none⟩ (.string n)).setCell ⟨B, 1, none⟩ (.string d)).setCell ⟨C, 0, none⟩ (.string n')).setCell ⟨C, 1, none⟩ (.string d') = W ∧ W.cell? ⟨B, 0, none⟩ = some (.string n) ∧ W.cell? ⟨B, 1, none⟩ = some (.string d) ∧ W.cell? ⟨C, 0, none⟩ = some (.string n') ∧ W.cell? ⟨C, 1, none⟩ = some (.string d') ∧ Below w.heap.size w W := by
 have X6 := (((X.set 0 (.string n)).set 1 (.string d)).other hne 0 (.string n')).other hne 1 (.string d')
 have Y6 := (((Y.other (Ne.symm hne) 0 (.string n)).other (Ne.symm hne) 1 (.string d)).set 0 (.string n')).set 1 (.string d')
 exact ⟨_, rfl, X6.cell (i := 0) rfl, X6.cell (i := 1) rfl, Y6.cell (i := 0) rfl, Y6.cell (i := 1) rfl, ((((hs.set hb 0 (.string n)).set hb 1 (.string d)).set hc 0 (.string n')).set hc 1 (.string d')).2⟩
section
variable {A : Option Addr} {n c k0 : Nat} {l : List SecS}
theorem returns_any (hn : l.length = n) (hl : FewS k0 l) : RetI (fun w => Row w A (flatG scells l)) 42 #[.slice A n c] (.tuple #[FR (ownQ l), FR (benQ l)]) := by
 intro w hg hi
 have h5 := hl.1
 have K1 := sum_any (A := A) (c := c) (l := l) (f := 94) (cap := #[]) (g := fun s => s.w * s.r) (k0 := (k0 + k0)) stays_true hn (by omega) (fun s hs => ((hl.fit hs).1.mul (hl.fit hs).2.1)) (by have := hl.1; have := hl.2.1; subst hn; have := Nat.mul_le_mul_left ((k0 + k0) + 1) hl.1; omega) (by have := hl.2.1; omega) (fun _ _ => rfl) (fun s hs => (returns_1 s ((hl.2.2.2 s hs).mono (by have := hl.2.1; omega))).i _)
 have K2 := sum_any (A := A) (c := c) (l := l) (f := 95) (cap := #[]) (g := fun s => s.v * s.b) (k0 := (k0 + k0)) stays_true hn (by omega) (fun s hs => ((hl.fit hs).2.2.1.mul (hl.fit hs).2.2.2)) (by have := hl.1; have := hl.2.1; subst hn; have := Nat.mul_le_mul_left ((k0 + k0) + 1) hl.1; omega) (by have := hl.2.1; omega) (fun _ _ => rfl) (fun s hs => (returns_2 s ((hl.2.2.2 s hs).mono (by have := hl.2.1; omega))).i _)
 change RetI _ _ _ (FR (ownQ l)) at K1
 change RetI _ _ _ (FR (benQ l)) at K2
 have hs := ((St.refl hg).alloc (.cells #[.string ⟨#[]⟩, .string ⟨#[]⟩] 34)).alloc (.cells #[.string ⟨#[]⟩, .string ⟨#[]⟩] 34)
 have HB0 := Lib.hid ((Bx.new w #[.string ⟨#[]⟩, .string ⟨#[]⟩] 34).alloc (.cells #[.string ⟨#[]⟩, .string ⟨#[]⟩] 34))
 have HB1 := Lib.hid (Bx.new1 w (.cells #[.string ⟨#[]⟩, .string ⟨#[]⟩] 34) #[.string ⟨#[]⟩, .string ⟨#[]⟩] 34)
 have Hi := Lib.hid hi
 unfold FR at K1 K2 ⊢
 generalize frN (ownQ l) = an at *
 generalize frD (ownQ l) = ad at *
 generalize frN (benQ l) = bn at *
 generalize frD (benQ l) = bd at *
 clear hn hl hi h5
 go_enter Tryz.func42, Tryz.ntmps42
 go_wp2_with fail
 refine K1.step hs ⟨Hi.out.on hs.2, trivial⟩ ?_
 intro w1 hs hb1
 have X0 := HB0.out.on hb1
 have X1 := HB1.out.on hb1
 have hs0 : w.heap.size < w1.heap.size := X0.lt
 go_wp2_with fail
 have X2 := Bx.new w1 #[.string an, .string ad] 34
 have hs1 := hs.alloc (.cells #[.string an, .string ad] 34)
 replace X0 := X0.alloc (.cells #[.string an, .string ad] 34)
 replace X1 := X1.alloc (.cells #[.string an, .string ad] 34)
 refine K2.step hs1 ⟨Hi.out.on hs1.2, trivial⟩ ?_
 intro w2 hs hb2
 replace X0 := X0.on hb2
 replace X1 := X1.on hb2
 replace X2 := X2.on hb2
 have hz1 := X0.lt
 have hz2 := X1.lt
 have hz3 := X2.lt
 go_wp2_with fail
 have X3 := Bx.new w2 #[.string bn, .string bd] 34
 have hs1 := hs.alloc (.cells #[.string bn, .string bd] 34)
 replace X0 := X0.alloc (.cells #[.string bn, .string bd] 34)
 replace X1 := X1.alloc (.cells #[.string bn, .string bd] 34)
 replace X2 := X2.alloc (.cells #[.string bn, .string bd] 34)
 have k0 := X2.cell (i := 0) (v := .string an) rfl
 have k1 := X2.cell (i := 1) (v := .string ad) rfl
 have k2 := X3.cell (i := 0) (v := .string bn) rfl
 have k3 := X3.cell (i := 1) (v := .string bd) rfl
 have e0 := X0.cell (i := 0) (v := .string ⟨#[]⟩) rfl
 have e1 := X0.cell (i := 1) (v := .string ⟨#[]⟩) rfl
 have g0 := X0.frozen 0
 have g1 := X0.frozen 1
 have e2 := X1.cell (i := 0) (v := .string ⟨#[]⟩) rfl
 have e3 := X1.cell (i := 1) (v := .string ⟨#[]⟩) rfl
 have g2 := X1.frozen 0
 have g3 := X1.frozen 1
 have hw1 := X2.lt
 have n1 : ¬ w1.heap.size = w.heap.size := by have := hs0; omega
 have n2 : ¬ w2.heap.size = w.heap.size := by omega
 have n3 : ¬ w.heap.size = w1.heap.size := by have := hs0; omega
 have n4 : ¬ w.heap.size = w2.heap.size := by omega
 obtain ⟨W0, hW0⟩ : ∃ W0, w2.alloc (.cells #[.string bn, .string bd] 34) = W0 := ⟨_, rfl⟩
 rw [hW0] at hs1 X0 X1 k0 k1 k2 k3 e0 e1 e2 e3 g0 g1 g2 g3 ⊢
 clear hW0
 generalize w1.heap.size = b1 at *
 generalize w2.heap.size = b2 at *
 go_region
 all_goals
  go_wp2_with fail
  obtain ⟨W, hW, y0, y1, y2, y3, hbe⟩ := ret_frac2 hs1 (Nat.le_refl _) (by omega) (by omega) X0 X1 an ad bn bd
  rw [hW]
  exact bodyPost_ret (v := .tuple #[.agg #[.string an, .string ad], .agg #[.string bn, .string bd]]) (by simp [results, Tryz.results42, go_sem, y0, y1, y2, y3]) rfl ⟨rfl, hbe.drew⟩
theorem Check_1 (x y : SecS) (B : Nat) : RetI (fun w => Bx w B #[.string x.nm, .string x.wn, .string x.wd, .string x.rn, .string x.rd, .string x.vn, .string x.vd, .string x.bn, .string x.bd]) 90 #[secV y, .pointer (some ⟨B, 0, none⟩)] (.bool (eqB y.nm x.nm)) := by
 intro w hg hi
 obtain ⟨y0, y1, y2, y3, y4, y5, y6, y7, y8⟩ := y
 have hs := (St.refl hg).alloc (.cells #[.string y0, .string y1, .string y2, .string y3, .string y4, .string y5, .string y6, .string y7, .string y8] 73)
 have x0 := (hi.alloc (.cells #[.string y0, .string y1, .string y2, .string y3, .string y4, .string y5, .string y6, .string y7, .string y8] 73)).cell (i := 0) rfl
 have hb : B < w.heap.size := hi.lt
 dsimp only [secV] at x0 ⊢
 unfold eqB
 clear hi
 go_enter Tryz.func90, Tryz.ntmps90
 go_wp2_with fail
 go_ret
 exact ⟨rfl, hs.2⟩
theorem fr_eq (p q : Rat) : (((frN p).toList == (frN q).toList) && ((frD p).toList == (frD q).toList)) = decide (p = q) := by
 by_cases h : p = q
 ·subst h
  rw [decide_eq_true rfl]
  simp
 ·rw [decide_eq_false h, Bool.and_eq_false_iff]
  refine Decidable.byContradiction fun hn => h ?_
  rw [not_or, Bool.not_eq_false, Bool.not_eq_false] at hn
  exact fr_inj (toList_inj (eq_of_beq hn.1)) (toList_inj (eq_of_beq hn.2))
theorem sec_fr {s : SecS} (h : s.can = true) : FV s.wn s.wd = FR s.w ∧ FV s.vn s.vd = FR s.v ∧ FV s.rn s.rd = FR s.r ∧ FV s.bn s.bd = FR s.b := by
 unfold SecS.can at h
 simp only [Bool.and_eq_true, canB_iff] at h
 unfold FV FR SecS.w SecS.v SecS.r SecS.b
 obtain ⟨⟨⟨h1, h2⟩, h3⟩, h4⟩ := h
 exact ⟨by rw [← h1.1, ← h1.2], by rw [← h3.1, ← h3.2], by rw [← h2.1, ← h2.2], by rw [← h4.1, ← h4.2]⟩
theorem can_list (s : SecS) : ([⟨s.wn, s.wd⟩, ⟨s.rn, s.rd⟩, ⟨s.vn, s.vd⟩, ⟨s.bn, s.bd⟩] : List FrS).all (fun s => canB s.n s.d) = s.can := by
 unfold SecS.can
 simp only [List.all_cons, List.all_nil, Bool.and_true, Bool.and_assoc]
theorem scheck_none {c : Nat} {A : Option Addr} : Ret 38 #[.slice A 0 c] (.int .i64 11) := by
 intro w hg
 have hs := St.refl hg
 go_enter Tryz.func38, Tryz.ntmps38
 go_wp2_with fail
 go_ret
 exact ⟨rfl, hs.2⟩
theorem scheck_far {n c : Nat} {A : Option Addr} (h : 32 < n) : Ret 38 #[.slice A n c] (.int .i64 4) := by
 intro w hg
 have hs := St.refl hg
 have q0 : ((n : Int) == 0) = false := by rw [beq_eq_false_iff_ne]; omega
 have q : decide ((32 : Int) < (n : Int)) = true := decide_eq_true (by omega)
 have qn : decide (32 < n) = true := decide_eq_true h
 go_enter Tryz.func38, Tryz.ntmps38
 go_wp2_with fail
 go_ret
 exact ⟨rfl, hs.2⟩
theorem scheck_few (hn : l.length = n) (hl : FewS k0 l) (h0 : 0 < n) (hc : n ≤ c) : RetI (fun w => Row w A (flatG scells l)) 38 #[.slice A n c] (.int .i64 (chkS l)) := by
 intro w hg hi
 have h5 := hl.1
 have hk3 := hl.2.1
 have HS1 := fun hcan : ∀ s ∈ l, s.can = true => sum_any (A := A) (c := c) (l := l) (f := 92) (cap := #[]) (g := SecS.w) (k0 := k0) stays_true hn (by omega) (fun s hs => (hl.fit hs).1) (by have := hl.2.1; subst hn; have := Nat.mul_le_mul_left (k0 + 1) hl.1; omega) (by have := hl.2.1; omega) (fun _ _ => rfl) (fun s hs => (by have := Check_2 s; rw [(sec_fr (hcan s hs)).1] at this; exact this.i _))
 have HS2 := fun hcan : ∀ s ∈ l, s.can = true => sum_any (A := A) (c := c) (l := l) (f := 93) (cap := #[]) (g := SecS.v) (k0 := k0) stays_true hn (by omega) (fun s hs => (hl.fit hs).2.2.1) (by have := hl.2.1; subst hn; have := Nat.mul_le_mul_left (k0 + 1) hl.1; omega) (by have := hl.2.1; omega) (fun _ _ => rfl) (fun s hs => (by have := Check_3 s; rw [(sec_fr (hcan s hs)).2.1] at this; exact this.i _))
 have K1 := Lib.hid HS1
 have K2 := Lib.hid HS2
 clear HS1 HS2
 have hs := St.refl hg
 have q0 : ((n : Int) == 0) = false := by rw [beq_eq_false_iff_ne]; omega
 have q32 : decide ((32 : Int) < (n : Int)) = false := decide_eq_false (by omega)
 have q32n : decide (32 < n) = false := decide_eq_false (by omega)
 have KO := one_any
 have HE : Hid (chkS l = if errL (secErr l) l.length ≠ 0 then errL (secErr l) l.length else if sumQ SecS.w l = 1 ∧ sumQ SecS.v l = 1 then 0 else 14) := by
  show _ = _
  unfold chkS
  rw [if_neg (by omega), if_neg (by omega)]
 generalize chkS l = CH at *
 have HN := Lib.hid hn
 have HL := Lib.hid hl
 have Hi := Lib.hid hi
 have h5n : n ≤ 5 := by omega
 clear hn hl hi h5
 go_enter Tryz.func38, Tryz.ntmps38
 go_wp2_with fail
 go_loopw [13] (fun s wr => ∃ k : Nat, k ≤ n ∧ s = .int .i64 (k : Int) ∧ St w wr ∧ Hid (∀ i, i < k → secErr l i = 0)) (fun s _ => (n - intOf s).toNat)
 case atStart => exact ⟨0, by omega, rfl, hs, fun i h => by omega⟩
 case round =>
  obtain ⟨k, hk, rfl, hs, HZ⟩ := hrel
  by_cases hkn : k = n
  ·subst hkn
   have q : decide ((k : Int) < (k : Int)) = false := decide_eq_false (by omega)
   have he : errL (secErr l) l.length = 0 := errL_none (fun i hi => HZ.out i (by have := HN.out; omega))
   have hcan : ∀ s ∈ l, s.can = true := fun s hs => by
    obtain ⟨i, hi, rfl⟩ := List.mem_iff_getElem.1 hs
    exact ((secErr_zero (List.getElem?_eq_getElem hi)).1 (HZ.out i (by have := HN.out; omega))).2.2
   have e1 := HE.out
   rw [he, if_neg (by simp)] at e1
   have HC := Lib.hid e1
   have KA := K1.out hcan
   have KB := K2.out hcan
   have ha := fr_eq (sumQ SecS.w l) 1
   have hb := fr_eq (sumQ SecS.v l) 1
   have na := neqF (frN (sumQ SecS.w l)) (frD (sumQ SecS.w l)) (frN 1) (frD 1)
   have nb := neqF (frN (sumQ SecS.v l)) (frD (sumQ SecS.v l)) (frN 1) (frD 1)
   rw [ha] at na
   rw [hb] at nb
   unfold FR at KA KB KO
   clear he hcan e1 ha hb
   by_cases hw : sumQ SecS.w l = 1
   ·rw [decide_eq_true hw] at na
    by_cases hv : sumQ SecS.v l = 1
    ·rw [decide_eq_true hv] at nb
     have e2 := HC.out
     rw [if_pos ⟨hw, hv⟩] at e2
     have HD := Lib.hid e2
     clear hw hv e2
     generalize frN (sumQ SecS.w l) = a1 at *
     generalize frD (sumQ SecS.w l) = a2 at *
     generalize frN (sumQ SecS.v l) = b1 at *
     generalize frD (sumQ SecS.v l) = b2 at *
     generalize frN 1 = o1 at *
     generalize frD 1 = o2 at *
     go_wp2_with fail
     refine KA.step hs ⟨Hi.out.on hs.2, trivial⟩ ?_
     intro w1 hs _
     go_wp2_with fail
     refine KO.step hs ?_
     intro w1 hs _
     go_wp2_with fail
     refine KB.step hs ⟨Hi.out.on hs.2, trivial⟩ ?_
     intro w1 hs _
     go_wp2_with fail
     refine KO.step hs ?_
     intro w1 hs _
     go_wp2_with fail
     go_ret
     exact ⟨by rw [HD.out]; rfl, hs.2⟩
    ·rw [decide_eq_false hv] at nb
     have e2 := HC.out
     rw [if_neg (fun h => hv h.2)] at e2
     have HD := Lib.hid e2
     clear hw hv e2
     generalize frN (sumQ SecS.w l) = a1 at *
     generalize frD (sumQ SecS.w l) = a2 at *
     generalize frN (sumQ SecS.v l) = b1 at *
     generalize frD (sumQ SecS.v l) = b2 at *
     generalize frN 1 = o1 at *
     generalize frD 1 = o2 at *
     go_wp2_with fail
     refine KA.step hs ⟨Hi.out.on hs.2, trivial⟩ ?_
     intro w1 hs _
     go_wp2_with fail
     refine KO.step hs ?_
     intro w1 hs _
     go_wp2_with fail
     refine KB.step hs ⟨Hi.out.on hs.2, trivial⟩ ?_
     intro w1 hs _
     go_wp2_with fail
     refine KO.step hs ?_
     intro w1 hs _
     go_wp2_with fail
     go_ret
     exact ⟨by rw [HD.out]; rfl, hs.2⟩
   ·rw [decide_eq_false hw] at na
    have e2 := HC.out
    rw [if_neg (fun h => hw h.1)] at e2
    have HD := Lib.hid e2
    clear hw e2
    generalize frN (sumQ SecS.w l) = a1 at *
    generalize frD (sumQ SecS.w l) = a2 at *
    generalize frN (sumQ SecS.v l) = b1 at *
    generalize frD (sumQ SecS.v l) = b2 at *
    generalize frN 1 = o1 at *
    generalize frD 1 = o2 at *
    go_wp2_with fail
    refine KA.step hs ⟨Hi.out.on hs.2, trivial⟩ ?_
    intro w1 hs _
    go_wp2_with fail
    refine KO.step hs ?_
    intro w1 hs _
    go_wp2_with fail
    go_ret
    exact ⟨by rw [HD.out]; rfl, hs.2⟩
  ·have hkl : k < n := by omega
   have q : decide ((k : Int) < (n : Int)) = true := decide_eq_true (by omega)
   have qn : decide (k < n) = true := decide_eq_true hkl
   obtain ⟨d, hd⟩ : ∃ d, l[k]? = some d := ⟨l[k]'(by rw [HN.out]; exact hkl), by simp⟩
   obtain ⟨b, o, hA, hb, hcells⟩ := row_at (cs := scells) (m := 9) scells_len (by decide) (Hi.out.on hs.2) hd
   have HKE : Hid (secErr l k ≠ 0 → CH = secErr l k) := fun h => by
    have e1 := HE.out
    have hk2 : k < l.length := by have := HN.out; omega
    rw [errL_at hk2 h HZ.out, if_pos h] at e1
    exact e1
   have HSE : Hid (secErr l k = if nameOk d.nm = false then 23 else if (l.take k).any (fun t => eqB t.nm d.nm) = true then 5 else if d.can = false then 1 else 0) := by
    show _ = _
    unfold secErr
    rw [hd]
   have hdz := HL.out.2.2.2 d (List.mem_of_getElem? hd)
   have hdz2 : d.nm.size ≤ 4611686018427387904 := by have := hdz.1; omega
   have KN := NameR hdz2
   have HKC : Hid (∀ B : Nat, RetI (fun w => Row w (some ⟨B, 0, none⟩) (flatG fcells [⟨d.wn, d.wd⟩, ⟨d.rn, d.rd⟩, ⟨d.vn, d.vd⟩, ⟨d.bn, d.bd⟩])) 88 #[.slice (some ⟨B, 0, none⟩) 4 4] (.bool d.can)) := fun B => by
    have KC := canonF_any (A := some ⟨B, 0, none⟩) (n := 4) (c := 4) (l := [⟨d.wn, d.wd⟩, ⟨d.rn, d.rd⟩, ⟨d.vn, d.vd⟩, ⟨d.bn, d.bd⟩]) rfl (by omega) (by unfold SecS.le at hdz; intro s hs; simp at hs; rcases hs with rfl | rfl | rfl | rfl <;> (constructor <;> (dsimp only; omega)))
    rw [can_list] at KC
    exact KC
   subst hA
   have KX := containsS (A := some ⟨b, o, none⟩) (n := k) (c := c) (l := l.take k) (f := 90) (cap := #[.pointer (some ⟨wr.heap.size, 0, none⟩)]) (p := fun t => eqB t.nm d.nm) (stays_box wr.heap.size #[.string d.nm, .string d.wn, .string d.wd, .string d.rn, .string d.rd, .string d.vn, .string d.vd, .string d.bn, .string d.bd]) (by rw [List.length_take, HN.out]; omega) (by omega) (fun _ _ => rfl) (fun s _ => Check_1 d s wr.heap.size)
   have HRK := Lib.hid (RowG.cut (cs := scells) (m := 9) scells_len Hi.out k)
   generalize hok : nameOk d.nm = ok at *
   generalize hex : (l.take k).any (fun t => eqB t.nm d.nm) = ex at *
   generalize hca : d.can = ca at *
   clear hok hex hca hd hdz hkn
   obtain ⟨f0, f1, f2, f3, f4, f5, f6, f7, f8⟩ := d
   have x0 : wr.cell? ⟨b, o + k * 9, none⟩ = some (.string f0) := hcells 0 _ rfl
   have x1 : wr.cell? ⟨b, o + k * 9 + 1, none⟩ = some (.string f1) := hcells 1 _ rfl
   have x2 : wr.cell? ⟨b, o + k * 9 + 2, none⟩ = some (.string f2) := hcells 2 _ rfl
   have x3 : wr.cell? ⟨b, o + k * 9 + 3, none⟩ = some (.string f3) := hcells 3 _ rfl
   have x4 : wr.cell? ⟨b, o + k * 9 + 4, none⟩ = some (.string f4) := hcells 4 _ rfl
   have x5 : wr.cell? ⟨b, o + k * 9 + 5, none⟩ = some (.string f5) := hcells 5 _ rfl
   have x6 : wr.cell? ⟨b, o + k * 9 + 6, none⟩ = some (.string f6) := hcells 6 _ rfl
   have x7 : wr.cell? ⟨b, o + k * 9 + 7, none⟩ = some (.string f7) := hcells 7 _ rfl
   have x8 : wr.cell? ⟨b, o + k * 9 + 8, none⟩ = some (.string f8) := hcells 8 _ rfl
   clear hcells
   have BD := Bx.new wr #[.string f0, .string f1, .string f2, .string f3, .string f4, .string f5, .string f6, .string f7, .string f8] 73
   have hs1 := hs.alloc (.cells #[.string f0, .string f1, .string f2, .string f3, .string f4, .string f5, .string f6, .string f7, .string f8] 73)
   have hbk : b < wr.heap.size := hb
   dsimp only at KN KX HSE hdz2 HKC
   cases ok with
   | false =>
    have e3 := HSE.out
    rw [if_pos rfl] at e3
    have HD : Hid (CH = 23) := (HKE.out (by rw [e3]; decide)).trans e3
    clear e3 KX
    have z0 := BD.cell (i := 0) (v := .string f0) rfl
    go_wp2_with fail
    refine KN.step hs1 ?_
    intro w1 hs _
    go_wp2_with fail
    go_ret
    exact ⟨by rw [HD.out]; rfl, hs.2⟩
   | true =>
    cases ex with
    | true =>
     have e3 := HSE.out
     rw [if_neg (by decide), if_pos rfl] at e3
     have HD : Hid (CH = 5) := (HKE.out (by rw [e3]; decide)).trans e3
     clear e3
     go_wp2_with fail
     refine KN.step hs1 ?_
     intro w1 hs hb1
     replace BD := BD.on hb1
     have qk : decide ((k : Int) ≤ (c : Int)) = true := decide_eq_true (by omega)
     go_wp2_with fail
     refine KX.step hs ⟨HRK.out.on hs.2, BD⟩ ?_
     intro w2 hs hb2
     go_wp2_with fail
     go_ret
     exact ⟨by rw [HD.out]; rfl, hs.2⟩
    | false =>
     go_wp2_with fail
     refine KN.step hs1 ?_
     intro w1 hs hb1
     replace BD := BD.on hb1
     have qk : decide ((k : Int) ≤ (c : Int)) = true := decide_eq_true (by omega)
     go_wp2_with fail
     refine KX.step hs ⟨HRK.out.on hs.2, BD⟩ ?_
     intro w2 hs hb2
     replace BD := BD.on hb2
     have KC := HKC.out w2.heap.size
     have z0 := BD.cell (i := 0) (v := .string f0) rfl
     have z1 := BD.cell (i := 1) (v := .string f1) rfl
     have z2 := BD.cell (i := 2) (v := .string f2) rfl
     have z3 := BD.cell (i := 3) (v := .string f3) rfl
     have z4 := BD.cell (i := 4) (v := .string f4) rfl
     have z5 := BD.cell (i := 5) (v := .string f5) rfl
     have z6 := BD.cell (i := 6) (v := .string f6) rfl
     have z7 := BD.cell (i := 7) (v := .string f7) rfl
     have z8 := BD.cell (i := 8) (v := .string f8) rfl
     have BR : Hid (Row (w2.alloc (.cells #[.string f1, .string f2, .string f3, .string f4, .string f5, .string f6, .string f7, .string f8] 34)) (some ⟨w2.heap.size, 0, none⟩) (flatG fcells [⟨f1, f2⟩, ⟨f3, f4⟩, ⟨f5, f6⟩, ⟨f7, f8⟩])) := Row.of (Bx.new w2 #[.string f1, .string f2, .string f3, .string f4, .string f5, .string f6, .string f7, .string f8] 34)
     have hs1 := hs.alloc (.cells #[.string f1, .string f2, .string f3, .string f4, .string f5, .string f6, .string f7, .string f8] 34)
     cases ca with
     | false =>
      have e3 := HSE.out
      rw [if_neg (by decide), if_neg (by decide), if_pos rfl] at e3
      have HD : Hid (CH = 1) := (HKE.out (by rw [e3]; decide)).trans e3
      clear e3
      go_wp2_with fail
      refine KC.step hs1 BR.out ?_
      intro w3 hs _
      go_wp2_with fail
      go_ret
      exact ⟨by rw [HD.out]; rfl, hs.2⟩
     | true =>
      have e3 := HSE.out
      rw [if_neg (by decide), if_neg (by decide), if_neg (by decide)] at e3
      have HD := Lib.hid e3
      clear e3
      go_wp2_with fail
      refine KC.step hs1 BR.out ?_
      intro w3 hs _
      go_wp2_with fail
      go_roundw
      case rel =>
       refine ⟨k + 1, by omega, by go_num, hs, fun i hi => ?_⟩
       by_cases e : i = k
       ·subst e; exact HD.out
       ·exact HZ.out i (by omega)
      case measure => simp [intOf]; omega
def retOwn (l : List SecS) : Rat := if chkS l = 0 then ownQ l else 0
def retBen (l : List SecS) : Rat := if chkS l = 0 then benQ l else 0
theorem scheck_any (hn : l.length = n) (hl : 32 < n ∨ FewS k0 l) (hc : n ≤ c) : RetI (fun w => Row w A (flatG scells l)) 38 #[.slice A n c] (.int .i64 (chkS l)) := by
 rcases hl with h | h
 ·have e : chkS l = 4 := by unfold chkS; rw [if_neg (by omega), if_pos (by omega)]
  rw [e]
  exact (scheck_far h).i _
 ·by_cases h0 : n = 0
  ·subst h0
   have e : chkS l = 11 := by unfold chkS; rw [if_pos hn]
   rw [e]
   exact scheck_none.i _
  ·exact scheck_few hn h (by omega) hc
theorem Return_any (hn : l.length = n) (hl : 32 < n ∨ FewS k0 l) (hc : n ≤ c) : RetI (fun w => Row w A (flatG scells l)) 14 #[.slice A n c] (.tuple #[FR (retOwn l), FR (retBen l), .int .i64 (chkS l)]) := by
 intro w hg hi
 have hs := ((St.refl hg).alloc (.cells #[.string ⟨#[]⟩, .string ⟨#[]⟩] 34)).alloc (.cells #[.string ⟨#[]⟩, .string ⟨#[]⟩] 34)
 have X0 := ((Bx.new w #[.string ⟨#[]⟩, .string ⟨#[]⟩] 34).alloc (.cells #[.string ⟨#[]⟩, .string ⟨#[]⟩] 34))
 have X1 := (Bx.new1 w (.cells #[.string ⟨#[]⟩, .string ⟨#[]⟩] 34) #[.string ⟨#[]⟩, .string ⟨#[]⟩] 34)
 have K1 := scheck_any (A := A) hn hl hc
 have Hi := Lib.hid hi
 have e1 : retOwn l = if chkS l = 0 then ownQ l else 0 := rfl
 have e2 : retBen l = if chkS l = 0 then benQ l else 0 := rfl
 by_cases h : chkS l = 0
 ·have K2 := returns_any (A := A) (c := c) hn (by
   rcases hl with h32 | h5
   ·unfold chkS at h; rw [if_neg (by omega), if_pos (by omega)] at h; cases h
   ·exact h5)
  rw [if_pos h] at e1 e2
  rw [h] at K1 ⊢
  rw [e1, e2]
  unfold FR at K2 ⊢
  generalize frN (ownQ l) = an at *
  generalize frD (ownQ l) = ad at *
  generalize frN (benQ l) = bn at *
  generalize frD (benQ l) = bd at *
  clear hn hl hi e1 e2 h
  go_enter Tryz.func14, Tryz.ntmps14
  go_wp2_with fail
  refine K1.step hs (Hi.out.on hs.2) ?_
  intro w1 hs hb1
  replace X0 := X0.on hb1
  replace X1 := X1.on hb1
  go_wp2_with fail
  have hz0 := X1.lt
  refine K2.step hs (Hi.out.on hs.2) ?_
  intro w2 hs hb2
  replace X0 := X0.on hb2
  replace X1 := X1.on hb2
  go_wp2_with fail
  have X2 := (Bx.new w2 #[.string an, .string ad] 34).alloc (.cells #[.string bn, .string bd] 34)
  have X3 := Bx.new1 w2 (.cells #[.string an, .string ad] 34) #[.string bn, .string bd] 34
  have hs1 := (hs.alloc (.cells #[.string an, .string ad] 34)).alloc (.cells #[.string bn, .string bd] 34)
  replace X0 := (X0.alloc (.cells #[.string an, .string ad] 34)).alloc (.cells #[.string bn, .string bd] 34)
  replace X1 := (X1.alloc (.cells #[.string an, .string ad] 34)).alloc (.cells #[.string bn, .string bd] 34)
  have hsz : w.heap.size + 1 < w2.heap.size := by have h1 := hb2.size; have h2 := hz0; omega
  have k0 := X2.cell (i := 0) (v := .string an) rfl
  have k1 := X2.cell (i := 1) (v := .string ad) rfl
  have k2 := X3.cell (i := 0) (v := .string bn) rfl
  have k3 := X3.cell (i := 1) (v := .string bd) rfl
  have e0 := X0.cell (i := 0) (v := .string ⟨#[]⟩) rfl
  have e1 := X0.cell (i := 1) (v := .string ⟨#[]⟩) rfl
  have g0 := X0.frozen 0
  have g1 := X0.frozen 1
  have e2 := X1.cell (i := 0) (v := .string ⟨#[]⟩) rfl
  have e3 := X1.cell (i := 1) (v := .string ⟨#[]⟩) rfl
  have g2 := X1.frozen 0
  have g3 := X1.frozen 1
  have n1 : ¬ w2.heap.size = w.heap.size := by omega
  have n2 : ¬ w.heap.size = w2.heap.size := by omega
  have n3 : ¬ w2.heap.size + 1 = w.heap.size := by omega
  have n4 : ¬ w.heap.size = w2.heap.size + 1 := by omega
  have n5 : ¬ w2.heap.size = w.heap.size + 1 := by omega
  have n6 : ¬ w.heap.size + 1 = w2.heap.size := by omega
  obtain ⟨W0, hW0⟩ : ∃ W0, (w2.alloc (.cells #[.string an, .string ad] 34)).alloc (.cells #[.string bn, .string bd] 34) = W0 := ⟨_, rfl⟩
  rw [hW0] at hs1 X0 X1 k0 k1 k2 k3 e0 e1 e2 e3 g0 g1 g2 g3 ⊢
  clear hW0 X2 X3
  generalize w2.heap.size = b2 at *
  go_region
  all_goals
   go_wp2_with fail
   obtain ⟨W, hW, y0, y1, y2, y3, hbe⟩ := ret_frac2 hs1 (Nat.le_refl _) (by omega) (by omega) X0 X1 an ad bn bd
   rw [hW]
   exact bodyPost_ret (v := .tuple #[.agg #[.string an, .string ad], .agg #[.string bn, .string bd], .int .i64 0]) (by simp [results, Tryz.results14, go_sem, y0, y1, y2, y3]) rfl ⟨rfl, hbe.drew⟩
 ·rw [if_neg h] at e1 e2
  rw [e1, e2]
  unfold FR
  rw [frN_zero, frD_zero]
  have q : (chkS l != 0) = true := by simpa using h
  generalize chkS l = ch at *
  clear hn hl hi e1 e2 h
  go_enter Tryz.func14, Tryz.ntmps14
  go_wp2_with fail
  refine K1.step hs (Hi.out.on hs.2) ?_
  intro w1 hs hb1
  replace X0 := X0.on hb1
  replace X1 := X1.on hb1
  have e0 := X0.cell (i := 0) (v := .string ⟨#[]⟩) rfl
  have e1 := X0.cell (i := 1) (v := .string ⟨#[]⟩) rfl
  have g0 := X0.frozen 0
  have g1 := X0.frozen 1
  have e2 := X1.cell (i := 0) (v := .string ⟨#[]⟩) rfl
  have e3 := X1.cell (i := 1) (v := .string ⟨#[]⟩) rfl
  have g2 := X1.frozen 0
  have g3 := X1.frozen 1
  go_wp2_with fail
  obtain ⟨W, hW, y0, y1, y2, y3, hbe⟩ := ret_frac2 hs (Nat.le_refl _) (by omega) (by omega) X0 X1 ⟨#[]⟩ ⟨#[]⟩ ⟨#[]⟩ ⟨#[]⟩
  rw [hW]
  exact bodyPost_ret (v := .tuple #[.agg #[.string ⟨#[]⟩, .string ⟨#[]⟩], .agg #[.string ⟨#[]⟩, .string ⟨#[]⟩], .int .i64 ch]) (by simp [results, Tryz.results14, go_sem, y0, y1, y2, y3]) rfl ⟨rfl, hbe⟩
end
end Go.Proofs.YticfdeaphiifeaaGreatDoor
