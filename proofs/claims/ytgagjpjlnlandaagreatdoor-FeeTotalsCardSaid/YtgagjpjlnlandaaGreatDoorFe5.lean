/- Fees: the contracts of Total and of its reference; the walk of FeeTotals. Conditions: up to twelve charges of bounded length. -/
import Derived.Test.YtgagjpjlnlandaaGreatDoorFe4
import Derived.Test.YtgagjpjlnlandaaGreatDoorRf2
import Derived.Test.YtgagjpjlnlandaaGreatDoorAt1
import Derived.Test.YtgagjpjlnlandaaGreatDoorLw45
namespace Go.Proofs.YtgagjpjlnlandaaGreatDoor
open Go.RowKit Go.Shelf Dec QQ

theorem chcells_len (c : ChS) : (chcells c).length = 5 := rfl
def chV (c : ChS) : Value := .agg #[.int .i64 c.day, .string c.mg, .string c.pf, .string c.mn, .string c.md]
def chMg (c : ChS) : Int := valS c.mg
def chPf (c : ChS) : Int := valS c.pf
/-- the sums of few charges fit -/
theorem tot_fit {l : List ChS} {K : Nat} (f : ChS → Int) (h : ∀ c ∈ l, (f c).natAbs < 10 ^ K) (hn : l.length ≤ 12) (k : Nat) : Fit (K + 2) (sumI f (l.take k)) := by
  have h1 := sumI_fit (f := f) (l := l.take k) (k := K) (fun a ha => h a (List.mem_of_mem_take ha))
  have h2 : (l.take k).length ≤ 12 := by rw [List.length_take]; omega
  have h3 : (l.take k).length * 10 ^ K ≤ 12 * 10 ^ K := Nat.mul_le_mul_right _ h2
  have h4 : 0 < 10 ^ K := Nat.pow_pos (by decide)
  unfold Fit
  rw [Nat.pow_add]
  omega
theorem canS_zero5 : canS 0 = ⟨#[]⟩ := canS_zero
set_option maxRecDepth 100000 in
set_option maxHeartbeats 4000000 in
theorem tot_any {A : Option Addr} {n c K : Nat} {l : List ChS} (hn : l.length = n) (h12 : n ≤ 12) (hK : K ≤ 5000) (hl : ∀ c ∈ l, c.mg.size ≤ K ∧ c.pf.size ≤ K) :
    RetI (fun w => Row w A (flatG chcells l)) 53 #[.slice A n c] (.tuple #[.string (canS (sumI chMg l)), .string (canS (sumI chPf l))]) := by
  intro w hg hi
  have hs := St.refl hg
  have HN := Lib.hid hn
  have HI := Lib.hid hi
  have HL := Lib.hid hl
  have HF : Hid (∀ k, Fit (K + 2) (sumI chMg (l.take k)) ∧ Fit (K + 2) (sumI chPf (l.take k))) := fun k =>
    ⟨tot_fit chMg (fun c hc => Fit.val (hl c hc).1) (by omega) k, tot_fit chPf (fun c hc => Fit.val (hl c hc).2) (by omega) k⟩
  obtain ⟨r1, hr1⟩ : ∃ v, canS (sumI chMg l) = v := ⟨_, rfl⟩
  obtain ⟨r2, hr2⟩ : ∃ v, canS (sumI chPf l) = v := ⟨_, rfl⟩
  rw [hr1, hr2]
  have HR1 := Lib.hid hr1
  have HR2 := Lib.hid hr2
  have HZ : Hid (canS (sumI chMg (l.take 0)) = ⟨#[]⟩ ∧ canS (sumI chPf (l.take 0)) = ⟨#[]⟩) := ⟨canS_zero5, canS_zero5⟩
  clear hn hi hl hr1 hr2
  go_enter Tryz.func53, Tryz.ntmps53
  go_wp2_with fail
  go_loopw [10, 4, 5] (fun s a b wr => ∃ k : Nat, k ≤ n ∧ s = .int .i64 (k : Int) ∧ a = .string (canS (sumI chMg (l.take k))) ∧ b = .string (canS (sumI chPf (l.take k))) ∧ St w wr) (fun s _ _ _ => (n - intOf s).toNat)
  case atStart => exact ⟨0, by omega, rfl, by rw [HZ.out.1], by rw [HZ.out.2], hs⟩
  case round =>
    obtain ⟨k, hk, rfl, rfl, rfl, hs⟩ := hrel
    by_cases hkn : k = n
    · subst hkn
      have q : decide ((k : Int) < (k : Int)) = false := decide_eq_false (by omega)
      have e1 : canS (sumI chMg (l.take k)) = r1 := by rw [List.take_of_length_le (Nat.le_of_eq HN.out)]; exact HR1.out
      have e2 : canS (sumI chPf (l.take k)) = r2 := by rw [List.take_of_length_le (Nat.le_of_eq HN.out)]; exact HR2.out
      rw [e1, e2]
      clear e1 e2
      go_wp2_with fail
      go_ret2
      exact ⟨rfl, hs.2⟩
    · have hkl : k < n := by omega
      have q : decide ((k : Int) < (n : Int)) = true := decide_eq_true (by omega)
      have qn : decide (k < n) = true := decide_eq_true hkl
      obtain ⟨d, hd⟩ : ∃ d, l[k]? = some d := ⟨l[k]'(by rw [HN.out]; exact hkl), by simp⟩
      obtain ⟨b, o, hA, hb, hcells⟩ := row_at (cs := chcells) (m := 5) chcells_len (by decide) (HI.out.on hs.2) hd
      subst hA
      have hz := HL.out d (List.mem_of_getElem? hd)
      have E1 : Hid (sumI chMg (l.take (k + 1)) = sumI chMg (l.take k) + valS d.mg) := sumI_take hd
      have E2 : Hid (sumI chPf (l.take (k + 1)) = sumI chPf (l.take k) + valS d.pf) := sumI_take hd
      have f1 := HF.out k
      have g1 := f1.1.size
      have g2 := f1.2.size
      have KA := AddR (Vs.can f1.1 (by omega)) (Vs.arg (s := d.mg) (by have := hz.1; omega))
      have KB := AddR (Vs.can f1.2 (by omega)) (Vs.arg (s := d.pf) (by have := hz.2; omega))
      clear hd hkn hz f1 g1 g2
      obtain ⟨f0, f1, f2, f3, f4⟩ := d
      dsimp only at KA KB
      generalize canS (sumI chMg (l.take k)) = s1 at *
      generalize canS (sumI chPf (l.take k)) = s2 at *
      have E1' : Hid (canS (sumI chMg (l.take (k + 1))) = canS (sumI chMg (l.take k) + valS f1)) := by show _ = _; rw [E1.out]
      have E2' : Hid (canS (sumI chPf (l.take (k + 1))) = canS (sumI chPf (l.take k) + valS f2)) := by show _ = _; rw [E2.out]
      clear E1 E2
      generalize canS (sumI chMg (l.take k) + valS f1) = s3 at *
      generalize canS (sumI chPf (l.take k) + valS f2) = s4 at *
      have x0 : wr.cell? ⟨b, o + k * 5, none⟩ = some (.int .i64 f0) := hcells 0 _ rfl
      have x1 : wr.cell? ⟨b, o + k * 5 + 1, none⟩ = some (.string f1) := hcells 1 _ rfl
      have x2 : wr.cell? ⟨b, o + k * 5 + 2, none⟩ = some (.string f2) := hcells 2 _ rfl
      have x3 : wr.cell? ⟨b, o + k * 5 + 3, none⟩ = some (.string f3) := hcells 3 _ rfl
      have x4 : wr.cell? ⟨b, o + k * 5 + 4, none⟩ = some (.string f4) := hcells 4 _ rfl
      clear hcells
      replace hs := hs.alloc (.cells #[.int .i64 f0, .string f1, .string f2, .string f3, .string f4] 75)
      have X := Bx.new wr #[.int .i64 f0, .string f1, .string f2, .string f3, .string f4] 75
      have k1 := X.keeps (i := 1) (v := .string f1) rfl
      have k2 := X.keeps (i := 2) (v := .string f2) rfl
      go_wp2_with fail
      refine wp_region_kept (by kernel_rfl) (by kernel_rfl) ?_
      repeat (go_big_quiet_step (first | (with_reducible exact KA.kept hs) | (with_reducible exact KB.kept hs)))
      refine wpQuiet_nil ?_
      rintro _ ⟨u, rfl⟩
      replace hs := hs.kept u
      go_wp2_with fail
      go_roundw
      case rel => exact ⟨k + 1, by omega, by go_num, by rw [E1'.out], by rw [E2'.out], hs⟩
      case measure => simp [intOf]; omega
set_option maxRecDepth 100000 in
set_option maxHeartbeats 4000000 in
theorem rtot_any {A : Option Addr} {n c K : Nat} {l : List ChS} (hn : l.length = n) (h12 : n ≤ 12) (hK : K ≤ 5000) (hl : ∀ c ∈ l, c.mg.size ≤ K ∧ c.pf.size ≤ K) :
    RetI (fun w => Row w A (flatG chcells l)) 54 #[.slice A n c] (.tuple #[.string (canS (sumI chMg l)), .string (canS (sumI chPf l))]) := by
  intro w hg hi
  have hs := St.refl hg
  have HN := Lib.hid hn
  have HI := Lib.hid hi
  have HL := Lib.hid hl
  have HF : Hid (∀ k, Fit (K + 2) (sumI chMg (l.take k)) ∧ Fit (K + 2) (sumI chPf (l.take k))) := fun k =>
    ⟨tot_fit chMg (fun c hc => Fit.val (hl c hc).1) (by omega) k, tot_fit chPf (fun c hc => Fit.val (hl c hc).2) (by omega) k⟩
  obtain ⟨r1, hr1⟩ : ∃ v, canS (sumI chMg l) = v := ⟨_, rfl⟩
  obtain ⟨r2, hr2⟩ : ∃ v, canS (sumI chPf l) = v := ⟨_, rfl⟩
  rw [hr1, hr2]
  have HR1 := Lib.hid hr1
  have HR2 := Lib.hid hr2
  have HZ : Hid (canS (sumI chMg (l.take 0)) = ⟨#[]⟩ ∧ canS (sumI chPf (l.take 0)) = ⟨#[]⟩) := ⟨canS_zero5, canS_zero5⟩
  clear hn hi hl hr1 hr2
  go_enter Tryz.func54, Tryz.ntmps54
  go_wp2_with fail
  go_loopw [6, 4, 5] (fun s a b wr => ∃ k : Nat, k ≤ n ∧ s = .int .i64 (k : Int) ∧ a = .string (canS (sumI chMg (l.take k))) ∧ b = .string (canS (sumI chPf (l.take k))) ∧ St w wr) (fun s _ _ _ => (n - intOf s).toNat)
  case atStart => exact ⟨0, by omega, rfl, by rw [HZ.out.1], by rw [HZ.out.2], hs⟩
  case round =>
    obtain ⟨k, hk, rfl, rfl, rfl, hs⟩ := hrel
    by_cases hkn : k = n
    · subst hkn
      have q : decide ((k : Int) < (k : Int)) = false := decide_eq_false (by omega)
      have e1 : canS (sumI chMg (l.take k)) = r1 := by rw [List.take_of_length_le (Nat.le_of_eq HN.out)]; exact HR1.out
      have e2 : canS (sumI chPf (l.take k)) = r2 := by rw [List.take_of_length_le (Nat.le_of_eq HN.out)]; exact HR2.out
      rw [e1, e2]
      clear e1 e2
      go_wp2_with fail
      go_ret2
      exact ⟨rfl, hs.2⟩
    · have hkl : k < n := by omega
      have q : decide ((k : Int) < (n : Int)) = true := decide_eq_true (by omega)
      have qn : decide (k < n) = true := decide_eq_true hkl
      obtain ⟨d, hd⟩ : ∃ d, l[k]? = some d := ⟨l[k]'(by rw [HN.out]; exact hkl), by simp⟩
      obtain ⟨b, o, hA, hb, hcells⟩ := row_at (cs := chcells) (m := 5) chcells_len (by decide) (HI.out.on hs.2) hd
      subst hA
      have hz := HL.out d (List.mem_of_getElem? hd)
      have E1 : Hid (sumI chMg (l.take (k + 1)) = sumI chMg (l.take k) + valS d.mg) := sumI_take hd
      have E2 : Hid (sumI chPf (l.take (k + 1)) = sumI chPf (l.take k) + valS d.pf) := sumI_take hd
      have f1 := HF.out k
      have g1 := f1.1.size
      have g2 := f1.2.size
      have KA := rAddR (a := canS (sumI chMg (l.take k))) (b := d.mg) (by omega) (by have := hz.1; omega)
      have KB := rAddR (a := canS (sumI chPf (l.take k))) (b := d.pf) (by omega) (by have := hz.2; omega)
      rw [valS_canS] at KA KB
      clear hd hkn hz f1 g1 g2
      obtain ⟨f0, f1, f2, f3, f4⟩ := d
      dsimp only at KA KB
      generalize canS (sumI chMg (l.take k)) = s1 at *
      generalize canS (sumI chPf (l.take k)) = s2 at *
      have E1' : Hid (canS (sumI chMg (l.take (k + 1))) = canS (sumI chMg (l.take k) + valS f1)) := by show _ = _; rw [E1.out]
      have E2' : Hid (canS (sumI chPf (l.take (k + 1))) = canS (sumI chPf (l.take k) + valS f2)) := by show _ = _; rw [E2.out]
      clear E1 E2
      generalize canS (sumI chMg (l.take k) + valS f1) = s3 at *
      generalize canS (sumI chPf (l.take k) + valS f2) = s4 at *
      have x1 : wr.cell? ⟨b, o + k * 5 + 1, none⟩ = some (.string f1) := hcells 1 _ rfl
      have x2 : wr.cell? ⟨b, o + k * 5 + 2, none⟩ = some (.string f2) := hcells 2 _ rfl
      have HC := Lib.hid hcells
      clear hcells
      go_wp2_with fail
      refine KA.step hs ?_
      intro w1 hs hb1
      clear x1 x2
      have x2 : w1.cell? ⟨b, o + k * 5 + 2, none⟩ = some (.string f2) := (hb1.cell (p := ⟨b, o + k * 5 + 2, none⟩) hb).trans (HC.out 2 _ rfl)
      go_wp2_with fail
      refine KB.step hs ?_
      intro w2 hs hb2
      go_wp2_with fail
      go_roundw
      case rel => exact ⟨k + 1, by omega, by go_num, by rw [E1'.out], by rw [E2'.out], hs⟩
      case measure => simp [intOf]; omega
set_option maxRecDepth 100000 in
set_option maxHeartbeats 4000000 in
theorem indexC {A : Option Addr} {n c : Nat} {l : List ChS} {f : FuncId} {cap : Array Value} {p : ChS → Bool} {I : World → Prop} (hI : Stays I) (hn : l.length = n) (hm : n ≤ 4611686018427387904) (hcf : ∀ (args : Array Value) (u : World), (callFunc f args).run Tryz.prog u = .ok (.enter f args) u)
    (KF : Hid (∀ s ∈ l, RetI I f (#[chV s] ++ cap) (.bool (p s)))) :
    RetI (fun w => Row w A (flatG chcells l) ∧ I w) 124 #[.slice A n c, .func (.func f) #[] cap] (.int .i64 (idxG p l)) := by
  intro w hg hi
  have hs := St.refl hg
  have HN := Lib.hid hn
  have Hi := Lib.hid hi
  have HI := Lib.hid hI
  clear hn hi hI
  go_enter Tryz.func124, Tryz.ntmps124
  go_wp2_with fail
  go_loopw [8] (fun s wr => ∃ k : Nat, k ≤ n ∧ s = .int .i64 (k : Int) ∧ St w wr ∧ Hid (Row wr A (flatG chcells l) ∧ I wr) ∧ Hid (∀ i, i < k → ∀ t, l[i]? = some t → p t = false)) (fun s _ => (n - intOf s).toNat)
  case atStart => exact ⟨0, by omega, rfl, hs, Hi, fun i h => by omega⟩
  case round =>
    obtain ⟨k, hk, rfl, hs, H, HP⟩ := hrel
    by_cases hkn : k = n
    · subst hkn
      have q : decide ((k : Int) < (k : Int)) = false := decide_eq_false (by omega)
      have HE := Lib.hid (idxG_none (p := p) (l := l) (fun i hi t ht => HP.out i (by rw [HN.out] at hi; exact hi) t ht))
      clear HP
      go_wp2_with fail
      go_ret
      exact ⟨by rw [HE.out]; rfl, hs.2⟩
    · have hkl : k < n := by omega
      have q : decide ((k : Int) < (n : Int)) = true := decide_eq_true (by omega)
      have qn : decide (k < n) = true := decide_eq_true hkl
      obtain ⟨d, hd⟩ : ∃ d, l[k]? = some d := ⟨l[k]'(by rw [HN.out]; exact hkl), by simp⟩
      obtain ⟨b, o, hA, hb, hcells⟩ := row_at (cs := chcells) (m := 5) chcells_len (by decide) H.out.1 hd
      subst hA
      have KK := KF.out d (List.mem_of_getElem? hd)
      have HD := Lib.hid hd
      clear hd hkn
      obtain ⟨pv, hpv⟩ : ∃ pv, p d = pv := ⟨_, rfl⟩
      rw [hpv] at KK
      have HPV := Lib.hid hpv
      clear hpv
      obtain ⟨f0, f1, f2, f3, f4⟩ := d
      have x0 : wr.cell? ⟨b, o + k * 5, none⟩ = some (.int .i64 f0) := hcells 0 _ rfl
      have x1 : wr.cell? ⟨b, o + k * 5 + 1, none⟩ = some (.string f1) := hcells 1 _ rfl
      have x2 : wr.cell? ⟨b, o + k * 5 + 2, none⟩ = some (.string f2) := hcells 2 _ rfl
      have x3 : wr.cell? ⟨b, o + k * 5 + 3, none⟩ = some (.string f3) := hcells 3 _ rfl
      have x4 : wr.cell? ⟨b, o + k * 5 + 4, none⟩ = some (.string f4) := hcells 4 _ rfl
      have HC := Lib.hid hcells
      clear hcells
      dsimp only [chV] at KK
      cases pv with
      | true =>
        have HE := Lib.hid (idxG_at HD.out HPV.out HP.out)
        go_wp2_with fail
        refine KK.step hs H.out.2 ?_
        intro w2 hs hb
        go_wp2_with fail
        go_ret
        exact ⟨by rw [HE.out]; rfl, hs.2⟩
      | false =>
        go_wp2_with fail
        refine KK.step hs H.out.2 ?_
        intro w2 hs hb
        have H2 : Hid (Row w2 (some ⟨b, o, none⟩) (flatG chcells l) ∧ I w2) := ⟨H.out.1.on hb, HI.out _ _ H.out.2 hb⟩
        go_wp2_with fail
        go_roundw
        case rel =>
          refine ⟨k + 1, by omega, by go_num, hs, H2, ?_⟩
          intro i hi t ht
          by_cases e : i = k
          · subst e
            rw [HD.out] at ht
            cases ht
            exact HPV.out
          · exact HP.out i (by omega) t ht
        case measure => simp [intOf]; omega
set_option maxRecDepth 100000 in
set_option maxHeartbeats 4000000 in
theorem containsC {A : Option Addr} {n c : Nat} {l : List ChS} {f : FuncId} {cap : Array Value} {p : ChS → Bool} {I : World → Prop} (hI : Stays I) (hn : l.length = n) (hm : n ≤ 4611686018427387904) (hcf : ∀ (args : Array Value) (u : World), (callFunc f args).run Tryz.prog u = .ok (.enter f args) u)
    (KF : Hid (∀ s ∈ l, RetI I f (#[chV s] ++ cap) (.bool (p s)))) :
    RetI (fun w => Row w A (flatG chcells l) ∧ I w) 51 #[.slice A n c, .func (.func f) #[] cap] (.bool (l.any p)) := by
  intro w hg hi
  have hs := St.refl hg
  have K := indexC (A := A) (c := c) hI hn hm hcf KF
  have e := idxG_any p l
  generalize idxG p l = r at *
  generalize l.any p = v at *
  have Hi := Lib.hid hi
  clear hn hi hI
  go_enter Tryz.func51, Tryz.ntmps51
  go_wp2_with fail
  refine K.step hs Hi.out ?_
  intro w1 hs _
  go_wp2_with fail
  go_ret
  exact ⟨rfl, hs.2⟩
def lngC (c : ChS) : Bool := decide (13 < c.mg.size) || decide (13 < c.pf.size)
set_option maxRecDepth 100000 in
set_option maxHeartbeats 4000000 in
theorem totals_1 (c : ChS) (h1 : c.mg.size ≤ 9223372036854775807) (h2 : c.pf.size ≤ 9223372036854775807) : Ret 52 #[chV c] (.bool (lngC c)) := by
  intro w hg
  obtain ⟨f0, f1, f2, f3, f4⟩ := c
  unfold chV
  dsimp only at *
  have hs := ((St.refl hg).alloc (.cells #[.int .i64 f0, .string f1, .string f2, .string f3, .string f4] 75)).alloc (.cells #[.string f1, .string f2] 32)
  have a1 := (Bx.new w #[.int .i64 f0, .string f1, .string f2, .string f3, .string f4] 75).cell (i := 1) (v := .string f1) rfl
  have a2 := (Bx.new w #[.int .i64 f0, .string f1, .string f2, .string f3, .string f4] 75).cell (i := 2) (v := .string f2) rfl
  have XS := Bx.new1 w (.cells #[.int .i64 f0, .string f1, .string f2, .string f3, .string f4] 75) #[.string f1, .string f2] 32
  have KL := long45_any (A := some ⟨w.heap.size + 1, 0, none⟩) (n := 2) (c := 2) (l := [f1, f2]) rfl (by decide) (by
    intro s hs
    simp at hs
    rcases hs with rfl | rfl
    · exact h1
    · exact h2)
  have e : [f1, f2].any (fun s => decide (13 < s.size)) = lngC ⟨f0, f1, f2, f3, f4⟩ := by
    show (decide (13 < f1.size) || (decide (13 < f2.size) || false)) = _
    rw [Bool.or_false]
    rfl
  rw [e] at KL
  have HR : Hid (Row ((w.alloc (.cells #[.int .i64 f0, .string f1, .string f2, .string f3, .string f4] 75)).alloc (.cells #[.string f1, .string f2] 32)) (some ⟨w.heap.size + 1, 0, none⟩) ([f1, f2].map sv)) := Row.of XS
  generalize lngC ⟨f0, f1, f2, f3, f4⟩ = t1 at *
  clear e XS h1 h2
  go_enter Tryz.func52, Tryz.ntmps52
  go_wp2_with fail
  refine KL.step hs HR.out ?_
  intro w1 hs hb
  go_wp2_with fail
  go_ret
  exact ⟨rfl, hs.2⟩
theorem lngC_false {c : ChS} (h : lngC c = false) : c.mg.size ≤ 13 ∧ c.pf.size ≤ 13 := by
  unfold lngC at h
  simp at h
  exact h
theorem chrow_drop {w : World} {b o : Nat} {l : List ChS} (h : Row w (some ⟨b, o, none⟩) (flatG chcells l)) (k : Nat) (hk : k ≤ l.length) : Row w (some ⟨b, o + k * 5, none⟩) (flatG chcells (l.drop k)) := by
  intro i v hv
  have e : flatG chcells l = flatG chcells (l.take k) ++ flatG chcells (l.drop k) := by
    unfold flatG
    rw [← List.flatMap_append, List.take_append_drop]
  have hl : (flatG chcells (l.take k)).length = k * 5 := by rw [flatG_len chcells_len, List.length_take, Nat.min_eq_left hk, Nat.mul_comm]
  have h2 : (flatG chcells l)[k * 5 + i]? = some v := by
    rw [e, List.getElem?_append_right (by omega), hl, Nat.add_sub_cancel_left]
    exact hv
  obtain ⟨b', o', e1, e2, e3⟩ := h _ _ h2
  injection e1 with e1
  injection e1 with e4 e5 e6
  subst e4 e5
  exact ⟨b, o + k * 5, rfl, e2, by rw [Nat.add_assoc]; exact e3⟩
end Go.Proofs.YtgagjpjlnlandaaGreatDoor
