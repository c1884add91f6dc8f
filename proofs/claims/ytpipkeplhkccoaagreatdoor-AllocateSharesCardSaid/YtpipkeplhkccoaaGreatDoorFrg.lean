/- Slices of pairs of strings (fractions): looking through them. Condition: what the function returns. Allocation: Fractions, where all fractions are canonical and not negative. Condition: up to twelve fractions of bounded length. Allocation: Fractions (walk), where all fractions are canonical and not negative. Condition: up to twelve fractions of bounded length. -/
import Derived.Test.YtpipkeplhkccoaaGreatDoorGr
import Derived.Test.YtpipkeplhkccoaaGreatDoorSF
import Derived.Test.YtpipkeplhkccoaaGreatDoorDv
import Derived.Test.YtpipkeplhkccoaaGreatDoorWi
import Derived.Test.YtpipkeplhkccoaaGreatDoorDh
import Derived.Test.YtpipkeplhkccoaaGreatDoorWc
namespace Go.Proofs.YtpipkeplhkccoaaGreatDoor
open Go.RowKit Go.Shelf Dec QQ

/-- a pair of strings -/
structure PqS where
  n : ByteArray
  d : ByteArray
def pqcells (s : PqS) : List Value := [.string s.n, .string s.d]
def pqV (s : PqS) : Value := .agg #[.string s.n, .string s.d]
theorem pqcells_len (s : PqS) : (pqcells s).length = 2 := rfl
set_option maxRecDepth 100000 in
set_option maxHeartbeats 4000000 in
theorem indexPq {A : Option Addr} {n c : Nat} {l : List PqS} {f : FuncId} {cap : Array Value} {p : PqS → Bool} {I : World → Prop} (hI : Stays I) (hn : l.length = n) (hm : n ≤ 4611686018427387904) (hcf : ∀ (args : Array Value) (u : World), (callFunc f args).run Tryz.prog u = .ok (.enter f args) u)
    (KF : Hid (∀ s ∈ l, RetI I f (#[pqV s] ++ cap) (.bool (p s)))) :
    RetI (fun w => Row w A (flatG pqcells l) ∧ I w) 78 #[.slice A n c, .func (.func f) #[] cap] (.int .i64 (idxG p l)) := by
  intro w hg hi
  have hs := St.refl hg
  have HN := Lib.hid hn
  have Hi := Lib.hid hi
  have HI := Lib.hid hI
  clear hn hi hI
  go_enter Tryz.func78, Tryz.ntmps78
  go_wp2_with fail
  go_loopw [8] (fun s wr => ∃ k : Nat, k ≤ n ∧ s = .int .i64 (k : Int) ∧ St w wr ∧ Hid (Row wr A (flatG pqcells l) ∧ I wr) ∧ Hid (∀ i, i < k → ∀ t, l[i]? = some t → p t = false)) (fun s _ => (n - intOf s).toNat)
  case atStart => exact ⟨0, by omega, rfl, hs, Hi, fun i h => by omega⟩
  case round =>
    obtain ⟨k, hk, rfl, hs, H, HP⟩ := hrel
    by_cases hkn : k = n
    · subst hkn
      have q : decide ((k : Int) < (k : Int)) = false := decide_eq_false (by omega)
      have HE := Lib.hid (idxG_none (p := p) (l := l) (fun i hi t ht => HP.out i (by rw [HN.out] at hi; exact hi) t ht))
      clear HP
      go_wp2_with fail
      go_ret
      exact ⟨by rw [HE.out]; rfl, hs.2⟩
    · have hkl : k < n := by omega
      have q : decide ((k : Int) < (n : Int)) = true := decide_eq_true (by omega)
      have qn : decide (k < n) = true := decide_eq_true hkl
      obtain ⟨d, hd⟩ : ∃ d, l[k]? = some d := ⟨l[k]'(by rw [HN.out]; exact hkl), by simp⟩
      obtain ⟨b, o, hA, hb, hcells⟩ := row_at (cs := pqcells) (m := 2) pqcells_len (by decide) H.out.1 hd
      subst hA
      have KK := KF.out d (List.mem_of_getElem? hd)
      have HD := Lib.hid hd
      clear hd hkn
      obtain ⟨pv, hpv⟩ : ∃ pv, p d = pv := ⟨_, rfl⟩
      rw [hpv] at KK
      have HPV := Lib.hid hpv
      clear hpv
      obtain ⟨f0, f1⟩ := d
      have x0 : wr.cell? ⟨b, o + k * 2, none⟩ = some (.string f0) := hcells 0 _ rfl
      have x1 : wr.cell? ⟨b, o + k * 2 + 1, none⟩ = some (.string f1) := hcells 1 _ rfl
      have HC := Lib.hid hcells
      clear hcells
      dsimp only [pqV] at KK
      cases pv with
      | true =>
        have HE := Lib.hid (idxG_at HD.out HPV.out HP.out)
        go_wp2_with fail
        refine KK.step hs H.out.2 ?_
        intro w2 hs hb
        go_wp2_with fail
        go_ret
        exact ⟨by rw [HE.out]; rfl, hs.2⟩
      | false =>
        go_wp2_with fail
        refine KK.step hs H.out.2 ?_
        intro w2 hs hb
        have H2 : Hid (Row w2 (some ⟨b, o, none⟩) (flatG pqcells l) ∧ I w2) := ⟨H.out.1.on hb, HI.out _ _ H.out.2 hb⟩
        go_wp2_with fail
        go_roundw
        case rel =>
          refine ⟨k + 1, by omega, by go_num, hs, H2, ?_⟩
          intro i hi t ht
          by_cases e : i = k
          · subst e
            rw [HD.out] at ht
            cases ht
            exact HPV.out
          · exact HP.out i (by omega) t ht
        case measure => simp [intOf]; omega
set_option maxRecDepth 100000 in
set_option maxHeartbeats 4000000 in
theorem containsPq {A : Option Addr} {n c : Nat} {l : List PqS} {f : FuncId} {cap : Array Value} {p : PqS → Bool} {I : World → Prop} (hI : Stays I) (hn : l.length = n) (hm : n ≤ 4611686018427387904) (hcf : ∀ (args : Array Value) (u : World), (callFunc f args).run Tryz.prog u = .ok (.enter f args) u)
    (KF : Hid (∀ s ∈ l, RetI I f (#[pqV s] ++ cap) (.bool (p s)))) :
    RetI (fun w => Row w A (flatG pqcells l) ∧ I w) 28 #[.slice A n c, .func (.func f) #[] cap] (.bool (l.any p)) := by
  intro w hg hi
  have hs := St.refl hg
  have K := indexPq (A := A) (c := c) hI hn hm hcf KF
  have e := idxG_any p l
  generalize idxG p l = r at *
  generalize l.any p = v at *
  have Hi := Lib.hid hi
  clear hn hi hI
  go_enter Tryz.func28, Tryz.ntmps28
  go_wp2_with fail
  refine K.step hs Hi.out ?_
  intro w1 hs _
  go_wp2_with fail
  go_ret
  exact ⟨rfl, hs.2⟩
end Go.Proofs.YtpipkeplhkccoaaGreatDoor
namespace Go.Proofs.YtpipkeplhkccoaaGreatDoor
open Go.RowKit Go.Shelf Dec QQ SP

def fbad (s : PqS) : Bool := (chkF s.n s.d != 0) || decide (valS s.n < 0)
set_option maxRecDepth 100000 in
set_option maxHeartbeats 4000000 in
theorem frs4_1 {s : PqS} (h1 : s.n.size ≤ 100000) (h2 : s.d.size ≤ 100000) : Ret 85 #[pqV s] (.bool (fbad s)) := by
  intro w hg
  obtain ⟨a, b⟩ := s
  dsimp only at h1 h2
  have hs := (St.refl hg).alloc (.cells #[.string a, .string b] 36)
  have X := Bx.new w #[.string a, .string b] 36
  have K1 := ChkF (a := a) (b := b) h1 h2
  have K2 := neg4_any (a := a) (by omega)
  have x0 := X.cell (i := 0) (v := .string a) rfl
  have x1 := X.cell (i := 1) (v := .string b) rfl
  unfold fbad pqV
  dsimp only
  unfold FV at K1
  generalize decide (valS a < 0) = v2 at *
  by_cases h : chkF a b = 0
  · rw [h] at K1 ⊢
    go_enter Tryz.func85, Tryz.ntmps85
    go_wp2_with fail
    refine K1.step hs ?_
    intro w1 hs hb
    replace X := X.on hb
    clear x0 x1
    have x0 := X.cell (i := 0) (v := .string a) rfl
    go_wp2_with fail
    refine K2.step hs ?_
    intro w2 hs hb
    go_wp2_with fail
    go_ret
    exact ⟨by simp, hs.2⟩
  · have q : (chkF a b != 0) = true := by simpa using h
    rw [q]
    generalize chkF a b = e at *
    clear h
    go_enter Tryz.func85, Tryz.ntmps85
    go_wp2_with fail
    refine K1.step hs ?_
    intro w1 hs hb
    clear x0 x1
    go_wp2_with fail
    go_ret
    exact ⟨by simp, hs.2⟩
theorem sumR_snoc (l : List Rat) (q : Rat) : sumR (l ++ [q]) = sumR l + q := by
  induction l with
  | nil =>
    show q + 0 = 0 + q
    grind
  | cons a l ih =>
    show a + sumR (l ++ [q]) = a + sumR l + q
    rw [ih]
    grind
theorem sumR_succ {qs : List Rat} {k : Nat} {q : Rat} (h : qs[k]? = some q) : sumR (qs.take (k + 1)) = sumR (qs.take k) + q := by
  rw [List.take_add_one, h, Option.toList_some, sumR_snoc]
theorem dn_at {qs : List Rat} {k : Nat} {q : Rat} (h : qs[k]? = some q) : SP.dn qs k = (q.den : Int) := by
  unfold SP.dn
  rw [List.getD_eq_getElem?_getD, h]
  rfl
theorem prd_le {qs : List Rat} {K : Nat} (h : ∀ q ∈ qs, FitQ K q) : ∀ k, (prdTo qs k).natAbs ≤ 10 ^ (K * k)
  | 0 => by show (1 : Int).natAbs ≤ _; rw [Nat.mul_zero]; decide
  | k + 1 => by
    have h1 := prd_le h k
    have h2 : (SP.dn qs k).natAbs ≤ 10 ^ K := by
      have hp : 0 < 10 ^ K := Nat.pow_pos (by omega)
      cases hq : qs[k]? with
      | none =>
        have : SP.dn qs k = 1 := by unfold SP.dn; rw [List.getD_eq_getElem?_getD, hq]; rfl
        rw [this]
        show 1 ≤ _
        omega
      | some q =>
        rw [dn_at hq]
        have := (h q (List.mem_of_getElem? hq)).2
        show q.den ≤ _
        omega
    show (prdTo qs k * SP.dn qs k).natAbs ≤ _
    rw [Int.natAbs_mul, Nat.mul_succ, Nat.pow_add]
    exact Nat.mul_le_mul h1 h2
theorem lcm_fit {qs : List Rat} {K : Nat} (h : ∀ q ∈ qs, FitQ K q) (k : Nat) : Fit (K * k + 1) (lcmTo qs k) := by
  have h1 := prd_le h k
  have h2 := lcm_le qs k
  have h3 := lcm_pos qs k
  have h4 := prd_pos qs k
  have h5 : (10 : Nat) ^ (K * k + 1) = 10 ^ (K * k) * 10 := Nat.pow_succ _ _
  unfold Fit
  rw [h5]
  generalize 10 ^ (K * k) = p at *
  omega
theorem sumR_fit {qs : List Rat} {K : Nat} (h : ∀ q ∈ qs, FitQ K q) : ∀ k, k ≤ qs.length → FitQ ((K + 1) * k + 1) (sumR (qs.take k))
  | 0, _ => by
    rw [List.take_zero]
    exact FitQ.int (k := 1) (z := 0) (by decide) (by decide)
  | k + 1, hk => by
    have e : qs[k]? = some qs[k] := List.getElem?_eq_getElem (by omega)
    rw [sumR_succ e]
    have := (sumR_fit h k (by omega)).add (h _ (List.mem_of_getElem? e))
    exact FitQ.mono this (by rw [Nat.mul_succ]; omega)
theorem frW_at {qs : List Rat} {C : Int} {k : Nat} {q : Rat} (h : qs[k]? = some q) : (frW qs C)[k]? = some (q.num * (C / (q.den : Int))) := by
  unfold frW
  rw [List.getElem?_map, h]
  rfl
theorem frW_fit {qs : List Rat} {C : Int} {K m : Nat} (h : ∀ q ∈ qs, FitQ K q) (hC : Fit m C) : ∀ x ∈ frW qs C, Fit (K + m) x := by
  intro x hx
  unfold frW at hx
  obtain ⟨q, hq, rfl⟩ := List.mem_map.1 hx
  have h1 : Fit K q.num := (h q hq).1
  have h2 : Fit m (C / (q.den : Int)) := Nat.lt_of_le_of_lt (Int.natAbs_ediv_le_natAbs _ _) hC
  exact h1.mul h2
theorem lcm_succ {qs : List Rat} {k : Nat} {q : Rat} (h : qs[k]? = some q) : lcmTo qs (k + 1) = lcmTo qs k * ((q.den : Int).fdiv (Nat.gcd (lcmTo qs k).natAbs (q.den : Int).natAbs : Nat)) := by
  show lcmTo qs k * (SP.dn qs k / (Int.gcd (lcmTo qs k) (SP.dn qs k) : Int)) = _
  rw [dn_at h, Int.fdiv_eq_ediv_of_nonneg _ (by omega)]
  rfl
end Go.Proofs.YtpipkeplhkccoaaGreatDoor
namespace Go.Proofs.YtpipkeplhkccoaaGreatDoor
open Go.RowKit Go.Shelf Dec QQ SP

theorem frW_nn {qs : List Rat} {C : Int} (h : ∀ q ∈ qs, 0 ≤ q) (hC : 0 < C) (h1 : sumR qs = 1) (hd : ∀ q ∈ qs, (q.den : Int) ∣ C) : WOk (frW qs C) := frW_ok hC hd h1 h
theorem fr_ne {q : Rat} (h : ¬ q = 1) : ((frN q).toList == (frN 1).toList && (frD q).toList == (frD 1).toList) = false := by
  rw [← Bool.not_eq_true, Bool.and_eq_true, beq_iff_eq, beq_iff_eq]
  rintro ⟨h1, h2⟩
  have e1 := toList_inj h1
  have e2 := toList_inj h2
  apply h
  have a := ratV_fr q
  have b := ratV_fr 1
  rw [e1, e2, b] at a
  exact a.symm
/-- what Fractions returns -/
def frsL (T : Int) (qs : List Rat) : List Int := if sumR qs = 1 then splL T (frW qs (lcmTo qs qs.length)) else []
def frsE (qs : List Rat) : Int := if sumR qs = 1 then 0 else 9
set_option maxRecDepth 100000 in
set_option maxHeartbeats 4000000 in
theorem frs_few {A : Option Addr} {n c K k0 : Nat} {t : ByteArray} {qs : List Rat} (hn : qs.length = n) (h0 : 0 < n) (h12 : n ≤ 12) (hK : K ≤ 100) (hq : ∀ q ∈ qs, FitQ K q) (hk0 : k0 ≤ 1000) (ht : t.size ≤ k0) (hct : chk t = 0) (hnn : ∀ q ∈ qs, 0 ≤ q) (hany : ∀ q ∈ qs, fbad ⟨frN q, frD q⟩ = false)
    (w : World) (hg : Gl w) (hr : Row w A (flatG qcells qs)) :
    Calls Tryz.prog 32 #[.string t, .slice A n c] w fun e w' => ∃ v, e = .returned (.tuple #[v, .int .i64 (frsE qs)]) ∧ OutG icells 22 1 w.heap.size w' v (frsL (valS t) qs).length (frsL (valS t) qs) ∧ Below w.heap.size w w' := by
  have hs := St.refl hg
  obtain ⟨ee, hee⟩ : ∃ e, frsE qs = e := ⟨_, rfl⟩
  obtain ⟨ll, hll⟩ : ∃ l, frsL (valS t) qs = l := ⟨_, rfl⟩
  rw [hee, hll]
  have HEE := Lib.hid (And.intro hee hll)
  clear hee hll
  have HR := Lib.hid hr
  have HN := Lib.hid hn
  have HQ := Lib.hid hq
  have HT := Lib.hid ht
  have K1 := ChkR (a := t) (by omega)
  rw [hct] at K1
  have hrow2 : ∀ u : World, Row u A (flatG qcells qs) → Row u A (flatG pqcells (qs.map fun q => (⟨frN q, frD q⟩ : PqS))) := fun u h => by
    have e : flatG pqcells (qs.map fun q => (⟨frN q, frD q⟩ : PqS)) = flatG qcells qs := by
      unfold flatG
      rw [List.flatMap_map]
      rfl
    rw [e]
    exact h
  have K2 := containsPq (A := A) (c := c) (cap := #[]) (f := 85) (p := fbad) (l := qs.map fun q => (⟨frN q, frD q⟩ : PqS)) (I := fun _ => True) (n := n) (fun _ _ _ _ => trivial) (by rw [List.length_map, hn]) (by omega) (fun _ _ => rfl) (fun s hs => (frs4_1 (by
      obtain ⟨q, hq', rfl⟩ := List.mem_map.1 hs
      have := (FitQ.sizes (hq q hq')).1
      dsimp only
      omega) (by
      obtain ⟨q, hq', rfl⟩ := List.mem_map.1 hs
      have := (FitQ.sizes (hq q hq')).2
      dsimp only
      omega)).i _)
  have eany : (qs.map fun q => (⟨frN q, frD q⟩ : PqS)).any fbad = false := by
    rw [List.any_eq_false]
    intro s hs
    obtain ⟨q, hq', rfl⟩ := List.mem_map.1 hs
    rw [hany q hq']
    decide
  rw [eany] at K2
  have HR2 : Hid (∀ u : World, Row u A (flatG qcells qs) → Row u A (flatG pqcells (qs.map fun q => (⟨frN q, frD q⟩ : PqS)))) := hrow2
  have KO := OfF (a := ⟨#[49]⟩) (x := 1) (⟨by decide, by decide⟩ : Vs ⟨#[49]⟩ 1) (by decide)
  rw [show ((1 : Int) : Rat) = (1 : Rat) from rfl] at KO
  unfold FR at KO
  have HSF : Hid (∀ k, k ≤ n → FitQ 1300 (sumR (qs.take k))) := fun k hk => FitQ.mono (sumR_fit hq k (by omega)) (by
    have : (K + 1) * k ≤ 101 * 12 := Nat.mul_le_mul (by omega) (by omega)
    omega)
  have HCF : Hid (∀ k, k ≤ n → Fit 1300 (lcmTo qs k)) := fun k hk => Fit.mono (lcm_fit hq k) (by
    have : K * k ≤ 100 * 12 := Nat.mul_le_mul hK (by omega)
    omega)
  have HDV : Hid (∀ q ∈ qs, (q.den : Int) ∣ lcmTo qs n) := all_dvd (fun i hi => lcm_dvd qs n i (by omega))
  have HOK : Hid (sumR qs = 1 → WOk (frW qs (lcmTo qs n))) := fun h => frW_ok (lcm_pos qs n) HDV.out h hnn
  have HTK : Hid (qs.take n = qs) := List.take_of_length_le (by omega)
  have HCT := Lib.hid hct
  have ln : n ≤ 1000 := by omega
  have q1 : ((n : Int) == 0) = false := beq_eq_false_iff_ne.2 (by omega)
  have q2 : decide ((1000 : Int) < (n : Int)) = false := decide_eq_false (by omega)
  have q2n : decide (1000 < n) = false := decide_eq_false (by omega)
  have HS0 : Hid (frN (sumR (qs.take 0)) = ⟨#[]⟩ ∧ frD (sumR (qs.take 0)) = ⟨#[]⟩) := ⟨frN_zero, frD_zero⟩
  have HL0 : Hid (canS (lcmTo qs 0) = ⟨#[49]⟩) := by
    show canS 1 = _
    decide +kernel
  obtain ⟨on, hon⟩ : ∃ x, frN (1 : Rat) = x := ⟨_, rfl⟩
  obtain ⟨od, hod⟩ : ∃ x, frD (1 : Rat) = x := ⟨_, rfl⟩
  rw [hon, hod] at KO
  have HON := Lib.hid (And.intro hon hod)
  clear hr hn hq ht hct hany hrow2 eany hnn hon hod
  go_enter Tryz.func32, Tryz.ntmps32
  go_wp2_with fail
  refine K1.step hs ?_
  intro w1 hs hb
  go_wp2_with fail
  refine K2.step hs ⟨HR2.out _ (HR.out.on hs.2), trivial⟩ ?_
  intro w2 hs hb
  have X6 := Bx.new w2 #[.string ⟨#[]⟩, .string ⟨#[]⟩] 36
  have HL6 : Hid (w.heap.size ≤ w2.heap.size) := hs.2.size
  replace hs := hs.alloc (.cells #[.string ⟨#[]⟩, .string ⟨#[]⟩] 36)
  have HX6 := Lib.hid X6
  clear X6 K1 K2
  go_wp2_with fail
  obtain ⟨b6, hb6⟩ : ∃ b, w2.heap.size = b := ⟨_, rfl⟩
  rw [hb6] at HX6 HL6 ⊢
  generalize w2.alloc (.cells #[.string ⟨#[]⟩, .string ⟨#[]⟩] 36) = w3 at *
  clear hb6
  try go_wp2_with fail
  go_loopw [42, 7] (fun s cm wr => ∃ k : Nat, k ≤ n ∧ s = .int .i64 (k : Int) ∧ cm = .string (canS (lcmTo qs k)) ∧ St w wr ∧ Hid (Bx wr b6 #[.string (frN (sumR (qs.take k))), .string (frD (sumR (qs.take k)))])) (fun s _ _ => (n - intOf s).toNat)
  case atStart => exact ⟨0, by omega, rfl, by rw [HL0.out], hs, by rw [HS0.out.1, HS0.out.2]; exact HX6⟩
  case round =>
    clear hs HX6
    obtain ⟨k, hk, rfl, rfl, hs, HX6⟩ := hrel
    by_cases hkn : k = n
    · subst hkn
      have q : decide ((k : Int) < (k : Int)) = false := decide_eq_false (by omega)
      have e0 : sumR (qs.take k) = sumR qs := by rw [HTK.out]
      rw [e0] at HX6
      obtain ⟨cc, hcc⟩ : ∃ v, canS (lcmTo qs k) = v := ⟨_, rfl⟩
      rw [hcc]
      have HCC := Lib.hid hcc
      clear hcc e0
      by_cases h1 : sumR qs = 1
      · have eE : ee = 0 := by rw [← HEE.out.1]; exact if_pos h1
        have eL : ll = splL (valS t) (frW qs (lcmTo qs k)) := by rw [← HEE.out.2]; unfold frsL; rw [if_pos h1, HN.out]
        subst eE eL
        rw [h1, HON.out.1, HON.out.2] at HX6
        have k60 := HX6.out.keeps (i := 0) (v := .string on) rfl
        have k61 := HX6.out.keeps (i := 1) (v := .string od) rfl
        have eqD := fun x => neqF on od on od x
        simp only [beq_self_eq_true, Bool.and_true, Bool.not_true] at eqD
        have HWO := Lib.hid (HOK.out h1)
        have HWF : Hid (∀ x ∈ frW qs (lcmTo qs k), Fit 1400 x) := fun x hx => Fit.mono (frW_fit HQ.out (HCF.out k (Nat.le_refl _)) x hx) (by omega)
        have HWL : Hid ((frW qs (lcmTo qs k)).length = k) := by show _ = _; rw [frW_len, HN.out]
        clear h1
        go_wp2_with fail
        refine wp_region_kept (by kernel_rfl) (by kernel_rfl) ?_
        repeat (go_big_quiet_step (with_reducible exact KO.kept hs))
        refine wpQuiet_nil ?_
        rintro _ ⟨u, rfl⟩
        replace hs := hs.kept u
        clear k60 k61 KO eqD HX6
        generalize u.W = w4 at *
        go_wp2_with fail
        go_loopw [72, 15] (fun s v wr2 => ∃ j : Nat, j ≤ k ∧ s = .int .i64 (j : Int) ∧ St w wr2 ∧ Hid (World.ownsRow wr2 w.heap.size 22 1 v j (flatG icells ((frW qs (lcmTo qs k)).take j)))) (fun s _ _ => (k - intOf s).toNat)
        case atStart => exact ⟨0, by omega, rfl, hs, World.ownsRow_nil _ _ _ _⟩
        case round =>
          clear hs
          obtain ⟨j, hj, rfl, hs, HO⟩ := hrel
          by_cases hjn : j = k
          · subst hjn
            have q : decide ((j : Int) < (j : Int)) = false := decide_eq_false (by omega)
            have e : (frW qs (lcmTo qs j)).take j = frW qs (lcmTo qs j) := List.take_of_length_le (by rw [HWL.out]; exact Nat.le_refl _)
            rw [e] at HO
            obtain ⟨A1, c1, hv, hrow⟩ := OutG.row (cs := icells) (T := 22) (m := 1) (base := w.heap.size) ⟨HWL.out, HO.out⟩
            subst hv
            rw [flat_sv] at hrow
            have KD := Lib.hid (div4_few (A := A1) (c := c1) (n := j) (k0 := 2000) (t := t) (ws := (frW qs (lcmTo qs j)).map canS) (by rw [List.length_map, HWL.out]) h12 (by decide) (by have := HT.out; omega) (fun s hs => by
              obtain ⟨x, hx, rfl⟩ := List.mem_map.1 hs
              have := (HWF.out x hx).size
              omega) (chk_eq HCT.out) (by rw [iv_can]; exact HWO.out) _ hs.gl hrow)
            rw [iv_can] at KD
            clear e hrow HO
            go_wp2_with fail
            refine KD.out.mono ?_
            rintro e w5 ⟨v, rfl, ⟨P, rfl, lo, hl, F⟩, hb⟩
            have HPO : Hid (POut w (.slice (some ⟨P, 0, none⟩) j j) j (splL (valS t) (frW qs (lcmTo qs j))) w5) := ⟨P, rfl, Nat.le_trans hs.2.size lo, hl, F⟩
            replace hs := hs.on hb
            clear lo hl F
            go_wp2_with fail
            go_ret2
            exact ⟨_, rfl, (by rw [splL_len, HWL.out]; exact HPO.out.outG h12), hs.2⟩
          · have hjl : j < k := by omega
            have q : decide ((j : Int) < (k : Int)) = true := decide_eq_true (by omega)
            have qn : decide (j < k) = true := decide_eq_true hjl
            have jl2 : (j : Int) < (k : Int) := by omega
            obtain ⟨qk, hqk⟩ : ∃ q, qs[j]? = some q := ⟨qs[j]'(by rw [HN.out]; exact hjl), by simp⟩
            obtain ⟨bg, og, hA, lg, hcells⟩ := row_at (cs := qcells) (m := 2) qcells_len (by decide) (HR.out.on hs.2) hqk
            subst hA
            have fq := HQ.out qk (List.mem_of_getElem? hqk)
            have fC := HCF.out k (Nat.le_refl _)
            have fd : Fit 100 (qk.den : Int) := Fit.mono (show Fit K (qk.den : Int) from fq.2) hK
            have fnu : Fit 100 qk.num := Fit.mono (show Fit K qk.num from fq.1) hK
            have hdn : (qk.den : Int) ≠ 0 := den_ne qk
            have KPa := PartsF (Vq.fr fq (by omega))
            have KD := DivR (Vs.can fC (by omega)) (Vs.can fd (by omega)) hdn
            have ed : (lcmTo qs k).fdiv (qk.den : Int) = lcmTo qs k / (qk.den : Int) := Int.fdiv_eq_ediv_of_nonneg _ (by omega)
            rw [ed, HCC.out] at KD
            have fCd : Fit 1300 (lcmTo qs k / (qk.den : Int)) := Nat.lt_of_le_of_lt (Int.natAbs_ediv_le_natAbs _ _) fC
            have KM := MulR (Vs.can fnu (by omega)) (Vs.can fCd (by omega))
            have HSU : Hid ((frW qs (lcmTo qs k)).take (j + 1) = (frW qs (lcmTo qs k)).take j ++ [qk.num * (lcmTo qs k / (qk.den : Int))]) := by
              show _ = _
              rw [List.take_add_one, frW_at hqk]
              rfl
            unfold FV at KPa
            obtain ⟨xw, hxw⟩ : ∃ x, canS (qk.num * (lcmTo qs k / (qk.den : Int))) = x := ⟨_, rfl⟩
            rw [hxw] at KM
            have HXW : Hid (icells (qk.num * (lcmTo qs k / (qk.den : Int))) = [.string xw]) := by show _ = _; unfold icells; rw [hxw]
            generalize canS ((lcmTo qs k).fmod (qk.den : Int)) = cm at *
            generalize canS (lcmTo qs k / (qk.den : Int)) = cq at *
            generalize canS (qk.den : Int) = dd at *
            generalize canS qk.num = nn at *
            generalize (frW qs (lcmTo qs k)).take j = CL at *
            obtain ⟨fn, hfn⟩ : ∃ x, frN qk = x := ⟨_, rfl⟩
            obtain ⟨fd2, hfd⟩ : ∃ x, frD qk = x := ⟨_, rfl⟩
            rw [hfn, hfd] at KPa
            have y0 : wr.cell? ⟨bg, og + j * 2, none⟩ = some (.string fn) := by have := hcells 0 _ rfl; rw [hfn, Nat.add_zero] at this; exact this
            have y1 : wr.cell? ⟨bg, og + j * 2 + 1, none⟩ = some (.string fd2) := by have := hcells 1 _ rfl; rw [hfd] at this; exact this
            have XF := Bx.new wr #[.string fn, .string fd2] 36
            have HO4 := Lib.hid (HO.out.alloc (.cells #[.string fn, .string fd2] 36))
            replace hs := hs.alloc (.cells #[.string fn, .string fd2] 36)
            have x90 := XF.cell (i := 0) (v := .string fn) rfl
            have x91 := XF.cell (i := 1) (v := .string fd2) rfl
            clear hcells hfn hfd hqk lg fq fC fd fnu hdn ed fCd hxw hjn HO
            go_wp2_with fail
            refine KPa.step hs ?_
            intro w5 hs hb5
            replace HO4 := Lib.hid (own_below HO4.out hb5)
            clear x90 x91 y0 y1
            go_wp2_with fail
            refine KD.step hs ?_
            intro w6 hs hb6
            replace HO4 := Lib.hid (own_below HO4.out hb6)
            go_wp2_with fail
            refine KM.step hs ?_
            intro w7 hs hb7
            replace HO4 := Lib.hid (own_below HO4.out hb7)
            obtain ⟨i0, hi, hz0, hz1, hz2⟩ := info_parts infoI4
            have Hi := Lib.hid hi
            have Hz0 := Lib.hid hz0
            have Hz1 := Lib.hid hz1
            have Hz2 := Lib.hid hz2
            have hsz : w.heap.size ≤ w7.heap.size := hs.2.size
            clear hi hz0 hz1 hz2
            go_wp2_with (at_builtin; refine wpList_append_any _ rfl (.tmp 88) (.tmp 92) 25 rfl w.heap.size 22 i0 (.string ⟨#[]⟩) 1 16 (by kernel_rfl) Hi.out Hz0.out Hz1.out Hz2.out rfl (by omega) _ j (flatG icells CL) rfl (HO4.out.alloc _) (w7.heap.size + 1) (some ⟨w7.heap.size, 0, none⟩) 1 1 [.string xw] rfl (reads_row w7 _ [.string xw]) (by intro u hu; simp at hu; subst hu; rfl) (by unfold maxLen; omega) (by omega) (by simp at hsz ⊢; omega) ?_; intro v8 w8 hown8 hg8 _; have HO8 := Lib.hid hown8; have HG8 := Lib.hid hg8; clear hown8 hg8)
            go_roundw
            case rel =>
              refine ⟨j + 1, by omega, by go_num, ⟨hs.1, (hs.2.alloc hsz _).grown HG8.out (by simp at hsz ⊢; omega) (own_gen HO4.out)⟩, ?_⟩
              show World.ownsRow _ _ _ _ _ _ _
              rw [HSU.out, flatG_snoc, HXW.out]
              exact HO8.out
            case measure => simp [intOf]; omega
      · have eE : ee = 9 := by rw [← HEE.out.1]; exact if_neg h1
        have eL : ll = [] := by rw [← HEE.out.2]; exact if_neg h1
        subst eE eL
        have hne := fr_ne h1
        rw [HON.out.1, HON.out.2] at hne
        generalize frN (sumR qs) = sn at *
        generalize frD (sumR qs) = sd at *
        have k60 := HX6.out.keeps (i := 0) (v := .string sn) rfl
        have k61 := HX6.out.keeps (i := 1) (v := .string sd) rfl
        have eqD := fun x => neqF sn sd on od x
        rw [hne] at eqD
        simp only [Bool.not_false] at eqD
        clear h1 hne
        go_wp2_with fail
        refine wp_region_kept (by kernel_rfl) (by kernel_rfl) ?_
        repeat (go_big_quiet_step (with_reducible exact KO.kept hs))
        refine wpQuiet_nil ?_
        rintro _ ⟨u, rfl⟩
        replace hs := hs.kept u
        clear k60 k61 KO eqD HX6
        go_wp2_with fail
        go_ret2
        exact ⟨_, rfl, ⟨rfl, World.ownsRow_nil _ _ _ _⟩, hs.2⟩
    · have hkl : k < n := by omega
      have q : decide ((k : Int) < (n : Int)) = true := decide_eq_true (by omega)
      have qn : decide (k < n) = true := decide_eq_true hkl
      have kl2 : (k : Int) < (n : Int) := by omega
      obtain ⟨qk, hqk⟩ : ∃ q, qs[k]? = some q := ⟨qs[k]'(by rw [HN.out]; exact hkl), by simp⟩
      obtain ⟨bg, og, hA, lg, hcells⟩ := row_at (cs := qcells) (m := 2) qcells_len (by decide) (HR.out.on hs.2) hqk
      subst hA
      have fq := HQ.out qk (List.mem_of_getElem? hqk)
      have fs := HSF.out k hk
      have fC := HCF.out k hk
      have fd : Fit 100 (qk.den : Int) := Fit.mono (show Fit K (qk.den : Int) from fq.2) hK
      have hdn : (qk.den : Int) ≠ 0 := den_ne qk
      have KAd := AddF (Vq.fr fs (by omega)) (Vq.fr fq (by omega))
      have KPa := PartsF (Vq.fr fq (by omega))
      have vd := Vs.can fd (by omega)
      have vg := vd.gcd (x := lcmTo qs k) (by have := fd.size; omega) hdn
      have KG := GcdR (Vs.can fC (by omega)) vd
      have hg0 : ((Nat.gcd (lcmTo qs k).natAbs (qk.den : Int).natAbs : Nat) : Int) ≠ 0 := by
        have := Nat.gcd_pos_of_pos_right (lcmTo qs k).natAbs (Int.natAbs_pos.2 hdn)
        omega
      have KD := DivR vd vg hg0
      have fdd : Fit 101 ((qk.den : Int).fdiv (Nat.gcd (lcmTo qs k).natAbs (qk.den : Int).natAbs : Nat)) := fd.fdiv
      have KM := MulR (Vs.can fC (by omega)) (Vs.can fdd (by omega))
      rw [← lcm_succ hqk] at KM
      have HSU := Lib.hid (sumR_succ hqk)
      rw [← HSU.out] at KAd
      unfold FV at KAd KPa
      unfold FR at KAd
      generalize canS ((qk.den : Int).fmod (Nat.gcd (lcmTo qs k).natAbs (qk.den : Int).natAbs : Nat)) = dm at *
      generalize canS ((qk.den : Int).fdiv (Nat.gcd (lcmTo qs k).natAbs (qk.den : Int).natAbs : Nat)) = dq at *
      generalize canS (Nat.gcd (lcmTo qs k).natAbs (qk.den : Int).natAbs : Nat) = gg at *
      generalize canS (qk.den : Int) = dd at *
      generalize canS qk.num = nn at *
      obtain ⟨lk, hlk⟩ : ∃ v, canS (lcmTo qs k) = v := ⟨_, rfl⟩
      obtain ⟨lk', hlk'⟩ : ∃ v, canS (lcmTo qs (k + 1)) = v := ⟨_, rfl⟩
      obtain ⟨sn, hsn⟩ : ∃ v, frN (sumR (qs.take k)) = v := ⟨_, rfl⟩
      obtain ⟨sd, hsd⟩ : ∃ v, frD (sumR (qs.take k)) = v := ⟨_, rfl⟩
      obtain ⟨sn', hsn'⟩ : ∃ v, frN (sumR (qs.take (k + 1))) = v := ⟨_, rfl⟩
      obtain ⟨sd', hsd'⟩ : ∃ v, frD (sumR (qs.take (k + 1))) = v := ⟨_, rfl⟩
      rw [hlk] at KG KM ⊢
      rw [hlk'] at KM
      rw [hsn, hsd, hsn', hsd'] at KAd
      rw [hsn, hsd] at HX6
      have HL := Lib.hid hlk'
      have HSN := Lib.hid (And.intro hsn' hsd')
      obtain ⟨fn, hfn⟩ : ∃ x, frN qk = x := ⟨_, rfl⟩
      obtain ⟨fd2, hfd⟩ : ∃ x, frD qk = x := ⟨_, rfl⟩
      rw [hfn, hfd] at KAd KPa
      have y0 : wr.cell? ⟨bg, og + k * 2, none⟩ = some (.string fn) := by have := hcells 0 _ rfl; rw [hfn, Nat.add_zero] at this; exact this
      have y1 : wr.cell? ⟨bg, og + k * 2 + 1, none⟩ = some (.string fd2) := by have := hcells 1 _ rfl; rw [hfd] at this; exact this
      have hbw : Below wr.heap.size wr (wr.alloc (.cells #[.string fn, .string fd2] 36)) := (Below.refl _ _).alloc (Nat.le_refl _) _
      have XF := Bx.new wr #[.string fn, .string fd2] 36
      replace hs := hs.alloc (.cells #[.string fn, .string fd2] 36)
      have X6 := HX6.out.on hbw
      have x60 := X6.cell (i := 0) (v := .string sn) rfl
      have x61 := X6.cell (i := 1) (v := .string sd) rfl
      obtain ⟨b9, hb9⟩ : ∃ b, wr.heap.size = b := ⟨_, rfl⟩
      rw [hb9] at XF
      have ne69 : b6 ≠ b9 := by have := HX6.out.lt; omega
      clear hcells hfn hfd hlk hlk' hsn hsd hsn' hsd' hqk lg fq fs fC fd fdd vd vg hg0 hdn hkn hbw HX6
      go_wp2_with fail
      clear y0 y1 hb9
      generalize wr.alloc (.cells #[.string fn, .string fd2] 36) = w4 at *
      have x90 := XF.cell (i := 0) (v := .string fn) rfl
      have x91 := XF.cell (i := 1) (v := .string fd2) rfl
      try go_wp2_with fail
      refine KAd.step hs ?_
      intro w5 hs hb5
      replace X6 := X6.on hb5
      replace XF := XF.on hb5
      clear x60 x61 x90 x91
      have x60 := X6.cell (i := 0) (v := .string sn) rfl
      have x61 := X6.cell (i := 1) (v := .string sd) rfl
      have g60 := X6.frozen 0
      have g61 := X6.frozen 1
      have XF2 := (XF.other (c := b6) ne69.symm 0 (.string sn')).other (c := b6) ne69.symm 1 (.string sd')
      have x90 := XF2.cell (i := 0) (v := .string fn) rfl
      have x91 := XF2.cell (i := 1) (v := .string fd2) rfl
      have X62 := (X6.set 0 (.string sn')).set 1 (.string sd')
      replace hs := (hs.set (b := b6) HL6.out 0 (.string sn')).set (b := b6) HL6.out 1 (.string sd')
      go_wp2_with fail
      clear x60 x61 g60 g61 x90 x91 X6 XF
      generalize (w5.setCell ⟨b6, 0, none⟩ (.string sn')).setCell ⟨b6, 1, none⟩ (.string sd') = w6 at *
      refine KPa.step hs ?_
      intro w7 hs hb7
      replace X62 := X62.on hb7
      go_wp2_with fail
      refine KG.step hs ?_
      intro w8 hs hb8
      replace X62 := X62.on hb8
      go_wp2_with fail
      refine KD.step hs ?_
      intro w9 hs hb9
      replace X62 := X62.on hb9
      go_wp2_with fail
      refine KM.step hs ?_
      intro w10 hs hb10
      replace X62 := Lib.hid (X62.on hb10)
      go_wp2_with fail
      go_roundw
      case rel => exact ⟨k + 1, by omega, by go_num, by rw [HL.out], hs, by rw [HSN.out.1, HSN.out.2]; exact X62⟩
      case measure => simp [intOf]; omega
end Go.Proofs.YtpipkeplhkccoaaGreatDoor
