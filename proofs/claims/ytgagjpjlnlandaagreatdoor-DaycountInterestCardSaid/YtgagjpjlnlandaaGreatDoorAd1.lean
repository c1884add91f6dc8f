/- Parts of years: the contract of Add. Conditions: parts of up to 20 bytes. -/
import Derived.Test.YtgagjpjlnlandaaGreatDoorAd0
import Derived.Test.YtgagjpjlnlandaaGreatDoorFc
namespace Go.Proofs.YtgagjpjlnlandaaGreatDoor
open Go.RowKit Go.Shelf Dec
open QQ

/-- the first number below N at which p holds, or N -/
def srch (p : Nat → Bool) (N : Nat) : Nat := (List.range N).findIdx p
theorem srch_le (p : Nat → Bool) (N : Nat) : srch p N ≤ N := by
  have := List.findIdx_le_length (p := p) (xs := List.range N)
  rwa [List.length_range] at this
theorem srch_below {p : Nat → Bool} {N i : Nat} (h : i < srch p N) : p i = false := by
  have hl := srch_le p N
  have := List.not_of_lt_findIdx (p := p) (xs := List.range N) h
  rw [List.getElem_range] at this
  simpa using this
theorem srch_at {p : Nat → Bool} {N : Nat} (h : srch p N < N) : p (srch p N) = true := by
  have := List.findIdx_getElem (p := p) (xs := List.range N) (w := by rw [List.length_range]; exact h)
  rw [List.getElem_range] at this
  exact this
/-- the number of days that Add counts -/
def addN (c : Int) (q : Rat) (n : Nat) : Nat := srch (fun i => decide (q < partQ c n (n + i))) (109573 - n)
/-- what Add returns -/
def addQ (c A : Int) (pn pd : ByteArray) : Int × Int :=
  if chkF pn pd ≠ 0 then (0, 1) else if c < 1 ∨ 5 < c then (0, 2) else if ratV pn pd < 0 then (0, 2) else if notDay A = true then (0, 13) else (A + ((addN c (ratV pn pd) (dayNum A) : Int) - 1), 0)
theorem addN_pos {c : Int} {q : Rat} {n : Nat} (hn : n < 109573) (hq : ¬ q < 0) : 1 ≤ addN c q n ∧ addN c q n ≤ 109573 - n := by
  have hle := srch_le (fun i => decide (q < partQ c n (n + i))) (109573 - n)
  refine ⟨?_, hle⟩
  rcases Nat.eq_zero_or_pos (addN c q n) with h | h
  · exfalso
    have h2 : srch (fun i => decide (q < partQ c n (n + i))) (109573 - n) < 109573 - n := by unfold addN at h; omega
    have h3 := srch_at h2
    unfold addN at h
    rw [h] at h3
    have := of_decide_eq_true h3
    rw [Nat.add_zero, part_self] at this
    exact hq this
  · exact h
theorem addN_up {c : Int} {q : Rat} {n i : Nat} (hn : n < 109573) (h : addN c q n ≤ i) (hi : i < 109573 - n) : decide (q < partQ c n (n + i)) = true := by
  have h2 : srch (fun i => decide (q < partQ c n (n + i))) (109573 - n) < 109573 - n := Nat.lt_of_le_of_lt h hi
  have h3 := of_decide_eq_true (srch_at h2)
  have h4 : srch (fun i => decide (q < partQ c n (n + i))) (109573 - n) ≤ i := h
  have h5 := part_mono (c := c) (a := n) (b := n + srch (fun i => decide (q < partQ c n (n + i))) (109573 - n)) (d := n + i) hn (by omega) (by omega)
  exact decide_eq_true (Std.lt_of_lt_of_le h3 h5)
theorem chkF_or (a b : ByteArray) : chkF a b = 0 ∨ chkF a b = 1 := by
  unfold chkF
  split
  · exact .inl rfl
  · exact .inr rfl
theorem vq_zero : Vq ⟨#[]⟩ ⟨#[]⟩ 0 := ⟨rfl, by decide, by decide⟩
theorem cmpQ_lt0 {q : Rat} : decide (cmpQ q 0 < 0) = decide (q < 0) := decide_eq_decide.2 cmpQ_neg
theorem fit_zero : FitQ 1 (0 : Rat) := ⟨by decide, by decide⟩
set_option maxRecDepth 100000 in
set_option maxHeartbeats 4000000 in
theorem addd_chk {c A : Int} {pn pd : ByteArray} (s1 : pn.size ≤ 20) (s2 : pd.size ≤ 20) (h : chkF pn pd ≠ 0) :
    Ret 34 #[.int .i64 c, .int .i64 A, .agg #[.string pn, .string pd]] (.tuple #[.int .i64 0, .int .i64 1]) := by
  intro w hg
  have hs := ((St.refl hg).alloc (.cells #[.int .i64 A] 43)).alloc (.cells #[.string pn, .string pd] 34)
  have XA := (Bx.new w #[.int .i64 A] 43).alloc (.cells #[.string pn, .string pd] 34)
  have XP := Bx.new1 w (.cells #[.int .i64 A] 43) #[.string pn, .string pd] 34
  have K1 := ChkF (a := pn) (b := pd) (by omega) (by omega)
  unfold FV at K1
  have e : chkF pn pd = 1 := (chkF_or pn pd).resolve_left h
  rw [e] at K1
  clear e h
  go_enter Tryz.func34, Tryz.ntmps34
  go_wp2_with fail
  refine K1.step hs ?_
  intro w1 hs hb
  replace XA := XA.on hb
  replace XP := XP.on hb
  go_wp2_with fail
  go_ret2
  exact ⟨rfl, hs.2⟩
set_option maxRecDepth 100000 in
set_option maxHeartbeats 4000000 in
theorem addd_conv {c A : Int} {pn pd : ByteArray} (s1 : pn.size ≤ 20) (s2 : pd.size ≤ 20) (hc : chkF pn pd = 0) (h : c < 1 ∨ 5 < c) :
    Ret 34 #[.int .i64 c, .int .i64 A, .agg #[.string pn, .string pd]] (.tuple #[.int .i64 0, .int .i64 2]) := by
  intro w hg
  have hs := ((St.refl hg).alloc (.cells #[.int .i64 A] 43)).alloc (.cells #[.string pn, .string pd] 34)
  have XA := (Bx.new w #[.int .i64 A] 43).alloc (.cells #[.string pn, .string pd] 34)
  have XP := Bx.new1 w (.cells #[.int .i64 A] 43) #[.string pn, .string pd] 34
  have K1 := ChkF (a := pn) (b := pd) (by omega) (by omega)
  unfold FV at K1
  have e := hc
  rw [e] at K1
  clear e
  go_enter Tryz.func34, Tryz.ntmps34
  go_wp2_with fail
  refine K1.step hs ?_
  intro w1 hs hb
  replace XA := XA.on hb
  replace XP := XP.on hb
  go_wp2_with fail
  refine (find_no h _).mono ?_
  rintro e w2 ⟨rfl, hb⟩
  have hs := (hs.on hb).alloc (.cells #[.nilFunc, .nilFunc] 137)
  go_wp2_with fail
  go_ret2
  exact ⟨rfl, hs.2⟩
set_option maxRecDepth 100000 in
set_option maxHeartbeats 4000000 in
theorem addd_neg {c A : Int} {pn pd : ByteArray} (s1 : pn.size ≤ 20) (s2 : pd.size ≤ 20) (hc : chkF pn pd = 0) (h1 : 1 ≤ c) (h5 : c ≤ 5) (hn : ratV pn pd < 0) :
    Ret 34 #[.int .i64 c, .int .i64 A, .agg #[.string pn, .string pd]] (.tuple #[.int .i64 0, .int .i64 2]) := by
  intro w hg
  have hs := ((St.refl hg).alloc (.cells #[.int .i64 A] 43)).alloc (.cells #[.string pn, .string pd] 34)
  have XA := (Bx.new w #[.int .i64 A] 43).alloc (.cells #[.string pn, .string pd] 34)
  have XP := Bx.new1 w (.cells #[.int .i64 A] 43) #[.string pn, .string pd] 34
  have K1 := ChkF (a := pn) (b := pd) (by omega) (by omega)
  unfold FV at K1
  have e := hc
  rw [e] at K1
  clear e
  have hq := Vq.arg (n := pn) (d := pd) (by omega) (by omega)
  have fq := FitQ.arg (n := pn) (d := pd) (k := 20) s1 s2 (by omega)
  have K2 := CmpF hq vq_zero (fq.sub fit_zero) (by omega)
  have q2 := cmpQ_lt0 (q := ratV pn pd)
  unfold FV at K2
  rw [decide_eq_true hn] at q2
  generalize cmpQ (ratV pn pd) 0 = cc at *
  clear hq fq hn
  go_enter Tryz.func34, Tryz.ntmps34
  go_wp2_with fail
  refine K1.step hs ?_
  intro w1 hs hb
  replace XA := XA.on hb
  replace XP := XP.on hb
  go_wp2_with fail
  refine (find_in h1 h5 _).mono ?_
  rintro e w2 ⟨v, rfl, hcv, hb⟩
  obtain ⟨f, cap, g, cap', I, rfl, hcf, hI, hi, KP⟩ := hcv.part
  replace XA := (XA.on hb).alloc (.cells #[.func (.func f) #[] cap, .func (.func g) #[] cap'] 137)
  replace XP := (XP.on hb).alloc (.cells #[.func (.func f) #[] cap, .func (.func g) #[] cap'] 137)
  have XC := Bx.new w2 #[.func (.func f) #[] cap, .func (.func g) #[] cap'] 137
  have hs := (hs.on hb).alloc (.cells #[.func (.func f) #[] cap, .func (.func g) #[] cap'] 137)
  replace hi := hI _ _ hi ((Below.refl _ _).alloc (Nat.le_refl _) (.cells #[.func (.func f) #[] cap, .func (.func g) #[] cap'] 137))
  have HCF := Lib.hid hcf
  have HII := Lib.hid hI
  have HKP := Lib.hid KP
  clear hcf hI KP hcv
  have xp0 := XP.cell (i := 0) (v := .string pn) rfl
  have xp1 := XP.cell (i := 1) (v := .string pd) rfl
  go_wp2_with fail
  refine K2.step hs ?_
  intro w3 hs hb
  replace XA := XA.on hb
  replace XP := XP.on hb
  go_wp2_with fail
  go_ret2
  exact ⟨rfl, hs.2⟩
set_option maxRecDepth 100000 in
set_option maxHeartbeats 4000000 in
theorem addd_day {c A : Int} {pn pd : ByteArray} (s1 : pn.size ≤ 20) (s2 : pd.size ≤ 20) (hc : chkF pn pd = 0) (h1 : 1 ≤ c) (h5 : c ≤ 5) (hn : ¬ ratV pn pd < 0) (hA : notDay A = true) :
    Ret 34 #[.int .i64 c, .int .i64 A, .agg #[.string pn, .string pd]] (.tuple #[.int .i64 0, .int .i64 13]) := by
  intro w hg
  have hs := ((St.refl hg).alloc (.cells #[.int .i64 A] 43)).alloc (.cells #[.string pn, .string pd] 34)
  have XA := (Bx.new w #[.int .i64 A] 43).alloc (.cells #[.string pn, .string pd] 34)
  have XP := Bx.new1 w (.cells #[.int .i64 A] 43) #[.string pn, .string pd] 34
  have K1 := ChkF (a := pn) (b := pd) (by omega) (by omega)
  unfold FV at K1
  have e := hc
  rw [e] at K1
  clear e
  have hq := Vq.arg (n := pn) (d := pd) (by omega) (by omega)
  have fq := FitQ.arg (n := pn) (d := pd) (k := 20) s1 s2 (by omega)
  have K2 := CmpF hq vq_zero (fq.sub fit_zero) (by omega)
  have q2 := cmpQ_lt0 (q := ratV pn pd)
  unfold FV at K2
  rw [decide_eq_false hn] at q2
  generalize cmpQ (ratV pn pd) 0 = cc at *
  clear hq fq hn
  have K3 := dvalid_any A
  rw [hA] at K3
  clear hA
  go_enter Tryz.func34, Tryz.ntmps34
  go_wp2_with fail
  refine K1.step hs ?_
  intro w1 hs hb
  replace XA := XA.on hb
  replace XP := XP.on hb
  go_wp2_with fail
  refine (find_in h1 h5 _).mono ?_
  rintro e w2 ⟨v, rfl, hcv, hb⟩
  obtain ⟨f, cap, g, cap', I, rfl, hcf, hI, hi, KP⟩ := hcv.part
  replace XA := (XA.on hb).alloc (.cells #[.func (.func f) #[] cap, .func (.func g) #[] cap'] 137)
  replace XP := (XP.on hb).alloc (.cells #[.func (.func f) #[] cap, .func (.func g) #[] cap'] 137)
  have XC := Bx.new w2 #[.func (.func f) #[] cap, .func (.func g) #[] cap'] 137
  have hs := (hs.on hb).alloc (.cells #[.func (.func f) #[] cap, .func (.func g) #[] cap'] 137)
  replace hi := hI _ _ hi ((Below.refl _ _).alloc (Nat.le_refl _) (.cells #[.func (.func f) #[] cap, .func (.func g) #[] cap'] 137))
  have HCF := Lib.hid hcf
  have HII := Lib.hid hI
  have HKP := Lib.hid KP
  clear hcf hI KP hcv
  have xp0 := XP.cell (i := 0) (v := .string pn) rfl
  have xp1 := XP.cell (i := 1) (v := .string pd) rfl
  go_wp2_with fail
  refine K2.step hs ?_
  intro w3 hs hb
  replace XA := XA.on hb
  replace XP := XP.on hb
  have xa0 := XA.cell (i := 0) (v := .int .i64 A) rfl
  go_wp2_with fail
  refine K3.step hs ?_
  intro w4 hs hb
  replace XA := XA.on hb
  replace XP := XP.on hb
  go_wp2_with fail
  go_ret2
  exact ⟨rfl, hs.2⟩
set_option maxRecDepth 100000 in
set_option maxHeartbeats 4000000 in
theorem addd_ok {c A : Int} {pn pd : ByteArray} (s1 : pn.size ≤ 20) (s2 : pd.size ≤ 20) {n : Nat} (hc : chkF pn pd = 0) (h1 : 1 ≤ c) (h5 : c ≤ 5) (hn : ¬ ratV pn pd < 0) (hA : IsDay A n) :
    Ret 34 #[.int .i64 c, .int .i64 A, .agg #[.string pn, .string pd]] (.tuple #[.int .i64 (A + ((addN c (ratV pn pd) n : Int) - 1)), .int .i64 0]) := by
  intro w hg
  have hs := ((St.refl hg).alloc (.cells #[.int .i64 A] 43)).alloc (.cells #[.string pn, .string pd] 34)
  have XA := (Bx.new w #[.int .i64 A] 43).alloc (.cells #[.string pn, .string pd] 34)
  have XP := Bx.new1 w (.cells #[.int .i64 A] 43) #[.string pn, .string pd] 34
  have K1 := ChkF (a := pn) (b := pd) (by omega) (by omega)
  unfold FV at K1
  have e := hc
  rw [e] at K1
  clear e
  have hq := Vq.arg (n := pn) (d := pd) (by omega) (by omega)
  have fq := FitQ.arg (n := pn) (d := pd) (k := 20) s1 s2 (by omega)
  have K2 := CmpF hq vq_zero (fq.sub fit_zero) (by omega)
  have q2 := cmpQ_lt0 (q := ratV pn pd)
  unfold FV at K2
  have hp := addN_pos (c := c) hA.2 hn
  rw [decide_eq_false hn] at q2
  generalize cmpQ (ratV pn pd) 0 = cc at *
  have K3 := dvalid_any A
  rw [hA.not] at K3
  have HA := Lib.hid hA
  have HQ := Lib.hid (And.intro hq fq)
  have bA : -25567 ≤ A ∧ A ≤ 84005 := by have := hA.1; have := hA.2; omega
  have bA1 := bA.1
  have bA2 := bA.2
  obtain ⟨N, hN⟩ : ∃ N, 109573 - n = N := ⟨_, rfl⟩
  have eN : 84005 - A + 1 = (N : Int) := by have := hA.1; have := hA.2; omega
  have HN := Lib.hid hN
  obtain ⟨r, hr⟩ : ∃ r, addN c (ratV pn pd) n = r := ⟨_, rfl⟩
  rw [hr] at hp ⊢
  rw [hN] at hp
  have HR := Lib.hid hr
  have hp1 := hp.1
  have hp2 := hp.2
  have hN2 : N ≤ 109573 := by omega
  clear hq fq hn hA bA hN hr hp
  go_enter Tryz.func34, Tryz.ntmps34
  go_wp2_with fail
  refine K1.step hs ?_
  intro w1 hs hb
  replace XA := XA.on hb
  replace XP := XP.on hb
  go_wp2_with fail
  refine (find_in h1 h5 _).mono ?_
  rintro e w2 ⟨v, rfl, hcv, hb⟩
  obtain ⟨f, cap, g, cap', I, rfl, hcf, hI, hi, KP⟩ := hcv.part
  replace XA := (XA.on hb).alloc (.cells #[.func (.func f) #[] cap, .func (.func g) #[] cap'] 137)
  replace XP := (XP.on hb).alloc (.cells #[.func (.func f) #[] cap, .func (.func g) #[] cap'] 137)
  have XC := Bx.new w2 #[.func (.func f) #[] cap, .func (.func g) #[] cap'] 137
  have hs := (hs.on hb).alloc (.cells #[.func (.func f) #[] cap, .func (.func g) #[] cap'] 137)
  replace hi := hI _ _ hi ((Below.refl _ _).alloc (Nat.le_refl _) (.cells #[.func (.func f) #[] cap, .func (.func g) #[] cap'] 137))
  have HCF := Lib.hid hcf
  have HII := Lib.hid hI
  have HKP := Lib.hid KP
  clear hcf hI KP hcv
  have xp0 := XP.cell (i := 0) (v := .string pn) rfl
  have xp1 := XP.cell (i := 1) (v := .string pd) rfl
  go_wp2_with fail
  refine K2.step hs ?_
  intro w3 hs hb
  replace XC := XC.on hb
  replace hi := HII.out _ _ hi hb
  replace XA := XA.on hb
  replace XP := XP.on hb
  have xa0 := XA.cell (i := 0) (v := .int .i64 A) rfl
  go_wp2_with fail
  refine K3.step hs ?_
  intro w4 hs hb
  replace XC := XC.on hb
  replace hi := HII.out _ _ hi hb
  replace XA := XA.on hb
  replace XP := XP.on hb
  have KS := search_any (n := N) (r := r) (p := fun i => decide (ratV pn pd < partQ (c.toNat : Int) n (n + i))) (f := 105) (cap := #[.pointer (some ⟨w2.heap.size, 0, none⟩), .pointer (some ⟨w.heap.size, 0, none⟩), .pointer (some ⟨w.heap.size + 1, 0, none⟩)]) (I := AdIs w2.heap.size w.heap.size (w.heap.size + 1) f g cap cap' A pn pd I) (AdIs.stays HII.out) (by omega) (fun _ _ => rfl) (by omega) ?_ ?_ ?_
  · have xa0 := XA.cell (i := 0) (v := .int .i64 A) rfl
    go_wp2_with fail
    refine KS.step hs ⟨XC, XA, XP, hi⟩ ?_
    intro w5 hs hb
    replace XA := XA.on hb
    have xa0 := XA.cell (i := 0) (v := .int .i64 A) rfl
    go_wp2_with fail
    go_ret2
    exact ⟨rfl, hs.2⟩
  · intro i hi
    rw [show ((c.toNat : Nat) : Int) = c by omega]
    have h := HR.out
    rw [← h] at hi
    exact srch_below (p := fun i => decide (ratV pn pd < partQ c n (n + i))) hi
  · intro i hi hl
    rw [show ((c.toNat : Nat) : Int) = c by omega]
    have h := HR.out
    have h2 := HN.out
    exact addN_up HA.out.2 (by omega) (by omega)
  · intro i hl
    have h2 := HN.out
    have hB : IsDay (A + (i : Int)) (n + i) := ⟨by have := HA.out.1; omega, by omega⟩
    exact add1_any HA.out hB rfl _ _ _ f g cap cap' pn pd (ratV pn pd) HQ.out.1 HQ.out.2 (by omega) HII.out HCF.out (HKP.out _ _ _ _ HA.out hB (by omega))
theorem AddD_any (c A : Int) {pn pd : ByteArray} (s1 : pn.size ≤ 20) (s2 : pd.size ≤ 20) :
    Ret 34 #[.int .i64 c, .int .i64 A, .agg #[.string pn, .string pd]] (.tuple #[.int .i64 (addQ c A pn pd).1, .int .i64 (addQ c A pn pd).2]) := by
  unfold addQ
  by_cases hc : chkF pn pd = 0
  · rw [if_neg (fun h => h hc)]
    by_cases h : c < 1 ∨ 5 < c
    · rw [if_pos h]; exact addd_conv s1 s2 hc h
    · rw [if_neg h]
      by_cases hn : ratV pn pd < 0
      · rw [if_pos hn]; exact addd_neg s1 s2 hc (by omega) (by omega) hn
      · rw [if_neg hn]
        rcases day_cases A with hA | ⟨hA, n, hd⟩
        · rw [if_pos hA.1]; exact addd_day s1 s2 hc (by omega) (by omega) hn hA.1
        · rw [if_neg (by rw [hA]; decide), hd.num]; exact addd_ok s1 s2 hc (by omega) (by omega) hn hd
  · rw [if_pos hc]; exact addd_chk s1 s2 hc
end Go.Proofs.YtgagjpjlnlandaaGreatDoor
