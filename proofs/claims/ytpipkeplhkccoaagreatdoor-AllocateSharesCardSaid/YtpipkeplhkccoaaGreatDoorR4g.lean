/- Allocation, the reference: plain facts of its division. No condition. Allocation, the reference: negative, Sum, check. Conditions: up to twelve weights of bounded length, or more than 1000. Allocation, the reference: operations of fractions in canonical form; absolute; Ideal. Conditions: up to twelve weights of bounded length, or more than 1000. Allocation, the reference: Ideal. Conditions: up to twelve weights of bounded length, or more than 1000. Allocation, the reference: Check. Conditions: up to twelve weights of bounded length, or more than 1000; parts of bounded length. -/
import Derived.Test.YtpipkeplhkccoaaGreatDoorWQ
import Derived.Test.YtpipkeplhkccoaaGreatDoorWP
import Derived.Test.YtpipkeplhkccoaaGreatDoorRfg
import Derived.Test.YtpipkeplhkccoaaGreatDoorWi
import Derived.Test.YtpipkeplhkccoaaGreatDoorRt
import Derived.Test.YtpipkeplhkccoaaGreatDoorCkg
namespace Go.Proofs.YtpipkeplhkccoaaGreatDoor
open Go.RowKit Go.Shelf Dec QQ SP

theorem cmp_rats {a b S : Int} (h : 0 < S) : decide (0 < cmpQ (rat a S) (rat b S)) = decide (b < a) := by
  rw [← cmp_cross (a := a) (b := S) (c := b) (d := S) h h]
  have e1 : a * S < b * S ↔ a < b := ⟨fun h' => Int.lt_of_mul_lt_mul_right h' (by omega), fun h' => Int.mul_lt_mul_of_pos_right h' h⟩
  have e2 : a * S = b * S ↔ a = b := ⟨fun h' => Int.eq_of_mul_eq_mul_right (by omega) h', fun h' => by rw [h']⟩
  rw [decide_eq_decide]
  split
  · rename_i h3
    rw [e1] at h3
    omega
  · rename_i h3
    rw [e1] at h3
    split
    · rename_i h4
      rw [e2] at h4
      omega
    · rename_i h4
      rw [e2] at h4
      omega
/-- the rests behind t steps -/
def rstQ (r : List Int) (S : Int) (t i : Nat) : Rat := rat (lft r S t i) S
/-- the parts behind t steps -/
def prtI (q r : List Int) (t i : Nat) : Int := at0 q i + if rk r i < t then 1 else 0
theorem prt_zero (q r : List Int) (i : Nat) : prtI q r 0 i = at0 q i := by unfold prtI; rw [if_neg (Nat.not_lt_zero _), Int.add_zero]
theorem rst_zero (r : List Int) (S : Int) (i : Nat) : rstQ r S 0 i = rat (at0 r i) S := by unfold rstQ lft; rw [if_neg (Nat.not_lt_zero _), Int.sub_zero]
theorem rst_one {r : List Int} {S : Int} (h : 0 < S) (t i : Nat) : rstQ r S t i - ((1 : Int) : Rat) = rat (lft r S t i - S) S := by
  unfold rstQ
  rw [far_diff h, Int.mul_one]
theorem rst_next {r : List Int} {S : Int} (h : 0 < S) (hb : ∀ x ∈ r, 0 ≤ x ∧ x < S) {n t : Nat} (hn : r.length = n + 1) (ht : t < r.length) {i : Nat} (hi : i < r.length) :
    rstQ r S (t + 1) i = if i = bst (lft r S t) n then rstQ r S t i - ((1 : Int) : Rat) else rstQ r S t i := by
  rw [rst_one h]
  unfold rstQ
  rw [lft_succ hb hn ht hi]
  split <;> rfl
theorem prt_next {q r : List Int} {S : Int} (hb : ∀ x ∈ r, 0 ≤ x ∧ x < S) {n t : Nat} (hn : r.length = n + 1) (ht : t < r.length) {i : Nat} (hi : i < r.length) :
    prtI q r (t + 1) i = if i = bst (lft r S t) n then prtI q r t i + 1 else prtI q r t i := by
  have hk := bst_rk hb hn ht
  have hbl : bst (lft r S t) n < r.length := by have := (bst_ok (lft r S t) n).1; omega
  unfold prtI
  by_cases e : i = bst (lft r S t) n
  · rw [if_pos e]
    have h1 : rk r i = t := by rw [e]; exact hk
    rw [h1, if_pos (by omega), if_neg (by omega)]
    omega
  · rw [if_neg e]
    have h1 : rk r i ≠ t := fun h => e (rk_inj hi hbl (by rw [hk]; exact h))
    by_cases h2 : rk r i < t
    · rw [if_pos (by omega), if_pos h2]
    · rw [if_neg (by omega), if_neg h2]
theorem bst_le (f : Nat → Int) (k : Nat) : bst f k ≤ k := (bst_ok f k).1
/-- the reference's test -/
theorem rst_test {r : List Int} {S : Int} (h : 0 < S) (t i b : Nat) : decide (0 < cmpQ (rstQ r S t i) (rstQ r S t b)) = decide (lft r S t b < lft r S t i) := cmp_rats h
theorem prt_last (T : Int) {ws : List Int} (h : WOk ws) {i : Nat} (hi : i < ws.length) : prtI (qL T ws) (rL T ws) (mis T ws).toNat i = at0 (posL T ws) i := by
  rw [posL_at hi]
  unfold prtI bon
  rw [qL_at hi]
  have := mis_le T h
  by_cases hc : rk (rL T ws) i < (mis T ws).toNat
  · rw [if_pos hc, if_pos (by omega)]
  · rw [if_neg hc, if_neg (by omega)]
theorem lft_fit {r : List Int} {S : Int} (hb : ∀ x ∈ r, 0 ≤ x ∧ x < S) {t i : Nat} (hi : i < r.length) : (lft r S t i).natAbs ≤ S.natAbs := by
  have := hb _ (List.mem_of_getElem? (at0_lt hi))
  unfold lft
  split <;> omega
end Go.Proofs.YtpipkeplhkccoaaGreatDoor
namespace Go.Proofs.YtpipkeplhkccoaaGreatDoor
open Go.RowKit Go.Shelf Dec QQ SP

theorem rneg4 {a : ByteArray} (ha : a.size ≤ 1000000) : Ret 67 #[.string a] (.bool (decide (valS a < 0))) := by
  intro w hg
  have hs := St.refl hg
  have K := rcmpR (a := a) (b := ⟨#[]⟩) ha (by decide)
  rw [show valS ⟨#[]⟩ = 0 from by decide] at K
  have e : decide (cmpI (valS a) 0 < 0) = decide (valS a < 0) := by
    unfold cmpI
    rw [decide_eq_decide]
    split
    · omega
    · split <;> omega
  rw [← e]
  generalize cmpI (valS a) 0 = ci at *
  clear e
  go_enter Tryz.func67, Tryz.ntmps67
  go_wp2_with fail
  refine K.step hs ?_
  intro w1 hs hb
  go_wp2_with fail
  go_ret
  exact ⟨rfl, hs.2⟩
set_option maxRecDepth 100000 in
set_option maxHeartbeats 4000000 in
theorem rsum4 {A : Option Addr} {n c k0 : Nat} {ws : List ByteArray} (hn : ws.length = n) (h12 : n ≤ 12) (hk0 : k0 ≤ 5000) (hz : ∀ s ∈ ws, s.size ≤ k0) :
    RetI (fun w => Row w A (ws.map sv)) 64 #[.slice A n c] (.string (canS (iv ws).sum)) := by
  intro w hg hi
  have hs := St.refl hg
  have HN := Lib.hid hn
  have HI := Lib.hid hi
  have HZ := Lib.hid hz
  have HF : Hid (∀ k, Fit (k0 + 2) ((iv ws).take k).sum) := fun k => take_fit hz (by omega)
  obtain ⟨r1, hr1⟩ : ∃ v, canS (iv ws).sum = v := ⟨_, rfl⟩
  rw [hr1]
  have HR1 := Lib.hid hr1
  have HZ0 : Hid (canS ((iv ws).take 0).sum = ⟨#[]⟩) := canS_zero
  clear hn hi hz hr1
  go_enter Tryz.func64, Tryz.ntmps64
  go_wp2_with fail
  go_loopw [4, 3] (fun s a wr => ∃ k : Nat, k ≤ n ∧ s = .int .i64 (k : Int) ∧ a = .string (canS ((iv ws).take k).sum) ∧ St w wr) (fun s _ _ => (n - intOf s).toNat)
  case atStart => exact ⟨0, by omega, rfl, by rw [HZ0.out], hs⟩
  case round =>
    obtain ⟨k, hk, rfl, rfl, hs⟩ := hrel
    by_cases hkn : k = n
    · subst hkn
      have q : decide ((k : Int) < (k : Int)) = false := decide_eq_false (by omega)
      have e1 : canS ((iv ws).take k).sum = r1 := by rw [List.take_of_length_le (by rw [iv_len, HN.out]; omega)]; exact HR1.out
      rw [e1]
      clear e1
      go_wp2_with fail
      go_ret
      exact ⟨rfl, hs.2⟩
    · have hkl : k < n := by omega
      have q : decide ((k : Int) < (n : Int)) = true := decide_eq_true (by omega)
      have qn : decide (k < n) = true := decide_eq_true hkl
      obtain ⟨s, hd⟩ : ∃ s, ws[k]? = some s := ⟨ws[k]'(by rw [HN.out]; exact hkl), by simp⟩
      obtain ⟨b, o, hA, hb, hc⟩ := (HI.out.on hs.2) k (sv s) (by rw [List.getElem?_map, hd]; rfl)
      subst hA
      have zs := HZ.out s (List.mem_of_getElem? hd)
      have K := rAddR (a := canS ((iv ws).take k).sum) (b := s) (by have := (HF.out k).size; omega) (by omega)
      rw [valS_canS, ← iv_sum_succ hd] at K
      unfold sv at hc
      generalize canS ((iv ws).take k).sum = a at *
      obtain ⟨a', ha'⟩ : ∃ v, canS ((iv ws).take (k + 1)).sum = v := ⟨_, rfl⟩
      rw [ha'] at K
      have HA' := Lib.hid ha'
      have kl2 : (k : Int) < (n : Int) := by omega
      clear hd ha' hkn zs
      go_wp2_with fail
      refine K.step hs ?_
      intro w1 hs hb1
      go_wp2_with fail
      go_roundw
      case rel => exact ⟨k + 1, by omega, by go_num, by rw [HA'.out], hs⟩
      case measure => simp [intOf]; omega
theorem any_wbad {ws : List ByteArray} (h : ∀ i s, i < ws.length → ws[i]? = some s → wbad s = false) : ws.any wbad = false := by
  rw [List.any_eq_false]
  intro s hs
  obtain ⟨i, hi, rfl⟩ := List.mem_iff_getElem.1 hs
  rw [h i _ hi (List.getElem?_eq_getElem hi)]
  decide
set_option maxRecDepth 100000 in
set_option maxHeartbeats 4000000 in
theorem rchk4 {A : Option Addr} {n c k0 : Nat} {t : ByteArray} {ws : List ByteArray} (hn : ws.length = n) (h12 : n ≤ 12 ∨ 1000 < n) (hm : n ≤ 4611686018427387904) (hk0 : k0 ≤ 5000) (ht : t.size ≤ k0) (hz : ∀ s ∈ ws, s.size ≤ k0) :
    RetI (fun w => Row w A (ws.map sv)) 70 #[.string t, .slice A n c] (.int .i64 (alE t ws)) := by
  intro w hg hi
  have hs := St.refl hg
  have K1 := rchkR (a := t) (by omega)
  have HI := Lib.hid hi
  have HN := Lib.hid hn
  have HZ := Lib.hid hz
  have HE : Hid (alE t ws = if ws.length = 0 then 11 else if 1000 < ws.length then 4 else if chk t ≠ 0 ∨ ws.any wbad = true then 1 else if (iv ws).sum = 0 then 10 else 0) := rfl
  rw [hn] at HE
  by_cases h0 : n = 0
  · rw [HE.out, if_pos h0]
    subst h0
    clear HE K1 hn hz ht hi
    go_enter Tryz.func70, Tryz.ntmps70
    go_wp2_with fail
    go_ret
    exact ⟨rfl, hs.2⟩
  · have q0 : ((n : Int) == 0) = false := beq_eq_false_iff_ne.2 (by omega)
    by_cases h1 : 1000 < n
    · rw [HE.out, if_neg h0, if_pos h1]
      have q1 : decide ((1000 : Int) < (n : Int)) = true := decide_eq_true (by omega)
      have q1n : decide (1000 < n) = true := decide_eq_true h1
      clear HE K1 h0 hn hz ht hi
      go_enter Tryz.func70, Tryz.ntmps70
      go_wp2_with fail
      go_ret
      exact ⟨rfl, hs.2⟩
    · have q1 : decide ((1000 : Int) < (n : Int)) = false := decide_eq_false (by omega)
      have q1n : decide (1000 < n) = false := decide_eq_false h1
      by_cases h2 : chk t = 0
      · rw [h2] at K1
        have KS := rsum4 (A := A) (c := c) hn (by omega) hk0 hz
        have q3 := nil_eq (iv ws).sum
        obtain ⟨ee, hee⟩ : ∃ e, alE t ws = e := ⟨_, rfl⟩
        rw [hee]
        have HB : Hid (ws.any wbad = true → ee = 1) := fun h => by rw [← hee, HE.out, if_neg h0, if_neg h1, if_pos (.inr h)]
        have HG0 : Hid (ws.any wbad = false → (iv ws).sum = 0 → ee = 10) := fun h h' => by rw [← hee, HE.out, if_neg h0, if_neg h1, if_neg (by rw [h, h2]; simp), if_pos h']
        have HG1 : Hid (ws.any wbad = false → (iv ws).sum ≠ 0 → ee = 0) := fun h h' => by rw [← hee, HE.out, if_neg h0, if_neg h1, if_neg (by rw [h, h2]; simp), if_neg h']
        have HQ3 := Lib.hid q3
        clear HE h2 h0 h1 hn hz ht hi hee q3
        go_enter Tryz.func70, Tryz.ntmps70
        go_wp2_with fail
        refine K1.step hs ?_
        intro w1 hs hb
        go_wp2_with fail
        go_loopw [5] (fun s wr => ∃ k : Nat, k ≤ n ∧ s = .int .i64 (k : Int) ∧ St w wr ∧ Hid (∀ i s, i < k → ws[i]? = some s → wbad s = false)) (fun s _ => (n - intOf s).toNat)
        case atStart => exact ⟨0, by omega, rfl, hs, fun i s h => by omega⟩
        case round =>
          clear hs
          obtain ⟨k, hk, rfl, hs, HF⟩ := hrel
          by_cases hkn : k = n
          · subst hkn
            have q : decide ((k : Int) < (k : Int)) = false := decide_eq_false (by omega)
            have hw := any_wbad (fun i s hi h => HF.out i s (by rw [HN.out] at hi; exact hi) h)
            by_cases hz0 : (iv ws).sum = 0
            · have e := HG0.out hw hz0
              have q3 := HQ3.out
              rw [decide_eq_true hz0] at q3
              subst e
              generalize canS (iv ws).sum = sm at *
              clear hw hz0
              go_wp2_with fail
              refine KS.step hs (HI.out.on hs.2) ?_
              intro w2 hs hb
              go_wp2_with fail
              go_ret
              exact ⟨rfl, hs.2⟩
            · have e := HG1.out hw hz0
              have q3 := HQ3.out
              rw [decide_eq_false hz0] at q3
              subst e
              generalize canS (iv ws).sum = sm at *
              clear hw hz0
              go_wp2_with fail
              refine KS.step hs (HI.out.on hs.2) ?_
              intro w2 hs hb
              go_wp2_with fail
              go_ret
              exact ⟨rfl, hs.2⟩
          · have hkl : k < n := by omega
            have q : decide ((k : Int) < (n : Int)) = true := decide_eq_true (by omega)
            have qn : decide (k < n) = true := decide_eq_true hkl
            have kl2 : (k : Int) < (n : Int) := by omega
            obtain ⟨s, hd⟩ : ∃ s, ws[k]? = some s := ⟨ws[k]'(by rw [HN.out]; exact hkl), by simp⟩
            obtain ⟨b, o, hA, hb, hc⟩ := (HI.out.on hs.2) k (sv s) (by rw [List.getElem?_map, hd]; rfl)
            subst hA
            have zs := HZ.out s (List.mem_of_getElem? hd)
            unfold sv at hc
            have KC := rchkR (a := s) (by omega)
            have KN := rneg4 (a := s) (by omega)
            have HBT : Hid (wbad s = true → ee = 1) := fun h => HB.out (List.any_eq_true.2 ⟨s, List.mem_of_getElem? hd, h⟩)
            have HWB : Hid (wbad s = ((chk s != 0) || decide (valS s < 0))) := rfl
            have HD := Lib.hid hd
            generalize decide (valS s < 0) = v2 at *
            by_cases hcs : chk s = 0
            · rw [hcs] at KC HWB
              cases v2 with
              | true =>
                have e := HBT.out (by rw [HWB.out]; rfl)
                subst e
                clear hcs hd zs
                go_wp2_with fail
                refine KC.step hs ?_
                intro w2 hs hb2
                clear hc
                obtain ⟨b', o', hA, hb', hc⟩ := (HI.out.on hs.2) k (sv s) (by rw [List.getElem?_map, HD.out]; rfl)
                injection hA with hA; injection hA with e1 e2; subst e1 e2
                unfold sv at hc
                go_wp2_with fail
                refine KN.step hs ?_
                intro w3 hs hb3
                go_wp2_with fail
                go_ret
                exact ⟨rfl, hs.2⟩
              | false =>
                have hwb : wbad s = false := by rw [HWB.out]; rfl
                have HW := Lib.hid hwb
                clear hcs hd zs hwb
                go_wp2_with fail
                refine KC.step hs ?_
                intro w2 hs hb2
                clear hc
                obtain ⟨b', o', hA, hb', hc⟩ := (HI.out.on hs.2) k (sv s) (by rw [List.getElem?_map, HD.out]; rfl)
                injection hA with hA; injection hA with e1 e2; subst e1 e2
                unfold sv at hc
                go_wp2_with fail
                refine KN.step hs ?_
                intro w3 hs hb3
                go_wp2_with fail
                go_roundw
                case rel =>
                  refine ⟨k + 1, by omega, by go_num, hs, fun i s' hi h => ?_⟩
                  by_cases e : i = k
                  · subst e
                    rw [HD.out] at h
                    cases h
                    exact HW.out
                  · exact HF.out i s' (by omega) h
                case measure => simp [intOf]; omega
            · have qc : (chk s != 0) = true := by simpa using hcs
              have e := HBT.out (by rw [HWB.out, qc]; rfl)
              subst e
              generalize chk s = cs at *
              clear hcs hd zs KN HWB
              go_wp2_with fail
              refine KC.step hs ?_
              intro w2 hs hb2
              go_wp2_with fail
              go_ret
              exact ⟨rfl, hs.2⟩
      · have q2 : (chk t != 0) = true := by simpa using h2
        rw [HE.out, if_neg h0, if_neg h1, if_pos (.inl h2)]
        generalize chk t = e at *
        clear HE h2 h0 h1 hn hz ht hi
        go_enter Tryz.func70, Tryz.ntmps70
        go_wp2_with fail
        refine K1.step hs ?_
        intro w1 hs hb
        go_wp2_with fail
        go_ret
        exact ⟨rfl, hs.2⟩
end Go.Proofs.YtpipkeplhkccoaaGreatDoor
namespace Go.Proofs.YtpipkeplhkccoaaGreatDoor
open Go.RowKit Go.Shelf Dec QQ SP

section
variable {p q : Rat} {K : Nat}
theorem raddFR (h1 : FitQ K p) (h2 : FitQ K q) (hK : K ≤ 19999) : Ret 76 #[FR p, FR q] (FR (p + q)) := by
  have s1 := FitQ.sizes h1
  have s2 := FitQ.sizes h2
  have := radd_r (a := frN p) (b := frD p) (c := frN q) (d := frD q) (by omega) (by omega) (by omega) (by omega)
  rw [ratV_fr, ratV_fr] at this
  exact this
theorem rsubFR (h1 : FitQ K p) (h2 : FitQ K q) (hK : K ≤ 19999) : Ret 60 #[FR p, FR q] (FR (p - q)) := by
  have s1 := FitQ.sizes h1
  have s2 := FitQ.sizes h2
  have := rsub_r (a := frN p) (b := frD p) (c := frN q) (d := frD q) (by omega) (by omega) (by omega) (by omega)
  rw [ratV_fr, ratV_fr] at this
  exact this
theorem rmulFR (h1 : FitQ K p) (h2 : FitQ K q) (hK : K ≤ 19999) : Ret 93 #[FR p, FR q] (FR (p * q)) := by
  have s1 := FitQ.sizes h1
  have s2 := FitQ.sizes h2
  have := rmul_r (a := frN p) (b := frD p) (c := frN q) (d := frD q) (by omega) (by omega) (by omega) (by omega)
  rw [ratV_fr, ratV_fr] at this
  exact this
theorem rnegFR4 (h1 : FitQ K p) (hK : K ≤ 19999) : Ret 125 #[FR p] (FR (-p)) := by
  have s1 := FitQ.sizes h1
  have := rneg_r (a := frN p) (b := frD p) (by omega) (by omega)
  rw [ratV_fr] at this
  exact this
theorem rcmpFR4 (h1 : FitQ K p) (h2 : FitQ K q) (hK : K ≤ 19999) : Ret 65 #[FR p, FR q] (.int .i64 (cmpQ p q)) := by
  have s1 := FitQ.sizes h1
  have s2 := FitQ.sizes h2
  have := rcmpF (a := frN p) (b := frD p) (c := frN q) (d := frD q) (by omega) (by omega) (by omega) (by omega)
  rw [ratV_fr, ratV_fr] at this
  exact this
theorem rfloorFR (h1 : FitQ K p) (hK : K ≤ 19999) : Ret 59 #[FR p] (.string (canS p.floor)) := by
  have s1 := FitQ.sizes h1
  have := rfloor_r (a := frN p) (b := frD p) (by omega) (by omega)
  rw [ratV_fr] at this
  exact this
end
theorem rofI {z : Int} {k : Nat} (h : Fit k z) (hk : k ≤ 70000) : Ret 61 #[.string (canS z)] (FR (z : Rat)) := by
  have := rof_r (a := canS z) (by have := h.size; omega)
  rwa [valS_canS] at this
theorem rof1 : Ret 61 #[.string ⟨#[49]⟩] (FR 1) := by
  have := rof_r (a := ⟨#[49]⟩) (by decide)
  rw [show valS ⟨#[49]⟩ = 1 from by decide] at this
  exact this
/-- the absolute value of a fraction -/
def absR (q : Rat) : Rat := if q < 0 then -q else q
theorem absR_fit {q : Rat} {K : Nat} (h : FitQ K q) : FitQ K (absR q) := by
  unfold absR
  split
  · exact h.neg
  · exact h
theorem absR_rat (T : Int) {w S : Int} (hS : 0 < S) (hw : 0 ≤ w) : absR (rat (T * w) S) = rat (absI T * w) S := absQ T hS hw
theorem absR_int (T : Int) : absR ((T : Int) : Rat) = ((absI T : Int) : Rat) := by
  have h := absR_rat T (w := 1) (S := 1) (by decide) (by decide)
  rw [Int.mul_one, Int.mul_one, rat_one, rat_one] at h
  exact h
theorem absR_far {a S : Int} (hS : 0 < S) : decide (0 ≤ cmpQ (absR (rat a S)) 1) = (decide (S ≤ a) || decide (S ≤ -a)) := by
  have h := absR_rat a (w := 1) hS (by decide)
  rw [Int.mul_one, Int.mul_one] at h
  rw [h, far_cmp hS, Bool.eq_iff_iff, Bool.or_eq_true, decide_eq_true_eq, decide_eq_true_eq, decide_eq_true_eq]
  unfold absI
  split <;> omega
set_option maxRecDepth 100000 in
set_option maxHeartbeats 4000000 in
theorem rabs4 {q : Rat} {K : Nat} (h : FitQ K q) (hK : K ≤ 19999) : Ret 58 #[FR q] (FR (absR q)) := by
  intro w hg
  have hs := ((St.refl hg).alloc (.cells #[.string (frN q), .string (frD q)] 36)).alloc (.cells #[.string ⟨#[]⟩, .string ⟨#[]⟩] 36)
  have X1 := (Bx.new w #[.string (frN q), .string (frD q)] 36).alloc (.cells #[.string ⟨#[]⟩, .string ⟨#[]⟩] 36)
  have BZ := Bx.new1 w (.cells #[.string (frN q), .string (frD q)] 36) #[.string ⟨#[]⟩, .string ⟨#[]⟩] 36
  have f0 : FitQ K (0 : Rat) := FitQ.mono (FitQ.int (k := 1) (z := 0) (by decide) (by decide)) (FitQ.pos h)
  have K1 := rcmpFR4 h f0 hK
  have K2 := rnegFR4 h hK
  by_cases hn : q < 0
  · have e1 : absR q = -q := if_pos hn
    have e : decide (cmpQ q 0 < 0) = true := by
      rw [decide_eq_true_eq]
      exact cmpQ_neg.2 hn
    rw [e1]
    unfold FR at *
    rw [frN_zero, frD_zero] at K1
    generalize frN (-q) = rn at *
    generalize frD (-q) = rd at *
    generalize frN q = a at *
    generalize frD q = b at *
    generalize cmpQ q 0 = cc at *
    have x0 := X1.cell (i := 0) (v := .string a) rfl
    have x1 := X1.cell (i := 1) (v := .string b) rfl
    clear e1 hn f0 h
    go_enter Tryz.func58, Tryz.ntmps58
    go_wp2_with fail
    refine K1.step hs ?_
    intro w1 hs hb
    replace X1 := X1.on hb
    replace BZ := BZ.on hb
    clear x0 x1
    have x0 := X1.cell (i := 0) (v := .string a) rfl
    have x1 := X1.cell (i := 1) (v := .string b) rfl
    go_wp2_with fail
    refine K2.step hs ?_
    intro w2 hs hb
    replace BZ := BZ.on hb
    clear x0 x1
    have ce0 := BZ.cell (i := 0) (v := .string ⟨#[]⟩) rfl
    have ce1 := BZ.cell (i := 1) (v := .string ⟨#[]⟩) rfl
    have cg0 := BZ.frozen 0
    have cg1 := BZ.frozen 1
    go_wp2_with fail
    obtain ⟨W, hW, y0, y1, hbe⟩ := ret_frac hs (by omega) BZ rn rd
    rw [hW]
    exact bodyPost_ret (v := .agg #[.string rn, .string rd]) (by simp [results, Tryz.results58, go_sem, y0, y1]) rfl ⟨rfl, hbe⟩
  · have e1 : absR q = q := if_neg hn
    have e : decide (cmpQ q 0 < 0) = false := by
      rw [decide_eq_false_iff_not]
      exact fun h => hn (cmpQ_neg.1 h)
    rw [e1]
    unfold FR at *
    rw [frN_zero, frD_zero] at K1
    clear K2
    generalize frN q = a at *
    generalize frD q = b at *
    generalize cmpQ q 0 = cc at *
    have x0 := X1.cell (i := 0) (v := .string a) rfl
    have x1 := X1.cell (i := 1) (v := .string b) rfl
    clear e1 hn f0 h
    go_enter Tryz.func58, Tryz.ntmps58
    go_wp2_with fail
    refine K1.step hs ?_
    intro w1 hs hb
    replace X1 := X1.on hb
    replace BZ := BZ.on hb
    clear x0 x1
    have x0 := X1.cell (i := 0) (v := .string a) rfl
    have x1 := X1.cell (i := 1) (v := .string b) rfl
    have ce0 := BZ.cell (i := 0) (v := .string ⟨#[]⟩) rfl
    have ce1 := BZ.cell (i := 1) (v := .string ⟨#[]⟩) rfl
    have cg0 := BZ.frozen 0
    have cg1 := BZ.frozen 1
    go_wp2_with fail
    obtain ⟨W, hW, y0, y1, hbe⟩ := ret_frac hs (by omega) BZ a b
    rw [hW]
    exact bodyPost_ret (v := .agg #[.string a, .string b]) (by simp [results, Tryz.results58, go_sem, y0, y1]) rfl ⟨rfl, hbe⟩
end Go.Proofs.YtpipkeplhkccoaaGreatDoor
namespace Go.Proofs.YtpipkeplhkccoaaGreatDoor
open Go.RowKit Go.Shelf Dec QQ SP

set_option maxRecDepth 100000 in
set_option maxHeartbeats 4000000 in
theorem rideal_few {A : Option Addr} {n c k0 : Nat} {t : ByteArray} {ws : List ByteArray} (hn : ws.length = n) (h12 : n ≤ 12) (hk0 : k0 ≤ 5000) (ht : t.size ≤ k0) (hz : ∀ s ∈ ws, s.size ≤ k0) (he : alE t ws = 0) (w : World) (hg : Gl w) (hr : Row w A (ws.map sv)) :
    Calls Tryz.prog 21 #[.string t, .slice A n c] w fun e w' => ∃ v, e = .returned (.tuple #[v, .int .i64 0]) ∧ OutG qcells 36 2 w.heap.size w' v n (idL (valS t) (iv ws)) ∧ Below w.heap.size w w' := by
  have hs := St.refl hg
  have HR := Lib.hid hr
  have HN := Lib.hid hn
  have HZ := Lib.hid hz
  have HT := Lib.hid ht
  have HO := Lib.hid (alE_zero.1 he)
  have K1 := rchk4 (A := A) (c := c) hn (.inl h12) (by omega) hk0 ht hz
  rw [he] at K1
  have K2 := rsum4 (A := A) (c := c) hn h12 hk0 hz
  have HFS : Hid (Fit (k0 + 2) (iv ws).sum) := whole_fit hz (by omega)
  have HIL : Hid ((idL (valS t) (iv ws)).length = n) := by show _ = _; rw [idL_len, iv_len, hn]
  obtain ⟨al, hal⟩ : ∃ v, canS (iv ws).sum = v := ⟨_, rfl⟩
  rw [hal] at K2
  have HAL := Lib.hid hal
  clear hr hn hz ht he hal
  go_enter Tryz.func21, Tryz.ntmps21
  go_wp2_with fail
  refine K1.step hs (HR.out.on hs.2) ?_
  intro w1 hs hb
  go_wp2_with fail
  refine K2.step hs (HR.out.on hs.2) ?_
  intro w2 hs hb
  go_wp2_with fail
  go_loopw [9, 8] (fun s v wr => ∃ k : Nat, k ≤ n ∧ s = .int .i64 (k : Int) ∧ St w wr ∧ Hid (World.ownsRow wr w.heap.size 36 2 v k (flatG qcells ((idL (valS t) (iv ws)).take k)))) (fun s _ _ => (n - intOf s).toNat)
  case atStart => exact ⟨0, by omega, rfl, hs, World.ownsRow_nil _ _ _ _⟩
  case round =>
    clear hs
    obtain ⟨k, hk, rfl, hs, HOW⟩ := hrel
    by_cases hkn : k = n
    · subst hkn
      have q : decide ((k : Int) < (k : Int)) = false := decide_eq_false (by omega)
      have e : (idL (valS t) (iv ws)).take k = idL (valS t) (iv ws) := List.take_of_length_le (Nat.le_of_eq HIL.out)
      rw [e] at HOW
      clear e
      go_wp2_with fail
      go_ret2
      exact ⟨_, rfl, ⟨HIL.out, HOW.out⟩, hs.2⟩
    · have hkl : k < n := by omega
      have q : decide ((k : Int) < (n : Int)) = true := decide_eq_true (by omega)
      have qn : decide (k < n) = true := decide_eq_true hkl
      have kl2 : (k : Int) < (n : Int) := by omega
      obtain ⟨s, hd⟩ : ∃ s, ws[k]? = some s := ⟨ws[k]'(by rw [HN.out]; exact hkl), by simp⟩
      obtain ⟨b, o, hA, hb, hc⟩ := (HR.out.on hs.2) k (sv s) (by rw [List.getElem?_map, hd]; rfl)
      subst hA
      have zs := HZ.out s (List.mem_of_getElem? hd)
      have zt := HT.out
      have hS : (iv ws).sum ≠ 0 := by have := HO.out.ok.pos; omega
      have fm := (Fit.val (k := k0) zt).mul (Fit.val (k := k0) zs)
      have KM := rMulR (a := t) (b := s) (by omega) (by omega)
      have KN := new_r (n := canS (valS t * valS s)) (d := canS (iv ws).sum) (by have := fm.size; omega) (by have := HFS.out.size; omega)
      rw [valS_canS, valS_canS, if_neg hS, if_neg hS, HAL.out] at KN
      have HSU := Lib.hid (idL_succ (T := valS t) (ws := iv ws) (k := k) (by rw [iv_len, HN.out]; exact hkl))
      rw [iv_at hd] at HSU
      unfold sv at hc
      unfold FR at KN
      generalize canS (valS t * valS s) = mm at *
      generalize rat (valS t * valS s) (iv ws).sum = rq at *
      obtain ⟨fn, hfn⟩ : ∃ x, frN rq = x := ⟨_, rfl⟩
      obtain ⟨fd, hfd⟩ : ∃ x, frD rq = x := ⟨_, rfl⟩
      rw [hfn, hfd] at KN
      have HQC : Hid (qcells rq = [.string fn, .string fd]) := by show _ = _; unfold qcells; rw [hfn, hfd]
      generalize (idL (valS t) (iv ws)).take k = CL at *
      clear hd hkn zs zt hS fm hfn hfd
      go_wp2_with fail
      refine KM.step hs ?_
      intro w3 hs hb3
      clear hc
      go_wp2_with fail
      refine KN.step hs ?_
      intro w4 hs hb4
      have X := Bx.new w4 #[.string fn, .string fd] 36
      have HO4 := Lib.hid ((own_below (own_below HOW.out hb3) hb4).alloc (.cells #[.string fn, .string fd] 36))
      replace hs := hs.alloc (.cells #[.string fn, .string fd] 36)
      have x0 := X.cell (i := 0) (v := .string fn) rfl
      have x1 := X.cell (i := 1) (v := .string fd) rfl
      obtain ⟨i0, hi, hz0, hz1, hz2⟩ := info_parts infoF4
      have Hi := Lib.hid hi
      have Hz0 := Lib.hid hz0
      have Hz1 := Lib.hid hz1
      have Hz2 := Lib.hid hz2
      have hsz : w.heap.size ≤ (w4.alloc (.cells #[.string fn, .string fd] 36)).heap.size := hs.2.size
      clear hi hz0 hz1 hz2
      go_wp2_with (at_builtin; refine wpList_append_any _ rfl (.tmp 37) (.tmp 39) 42 rfl w.heap.size 36 i0 (.agg #[.string ⟨#[]⟩, .string ⟨#[]⟩]) 2 32 (by kernel_rfl) Hi.out Hz0.out Hz1.out Hz2.out rfl (by omega) _ k (flatG qcells CL) rfl (HO4.out.alloc _) (w4.heap.size + 1 + 1) (some ⟨w4.heap.size + 1, 0, none⟩) 1 1 [.string fn, .string fd] rfl (reads_row1 w4 _ _ [.string fn, .string fd]) (by intro u hu; simp at hu; rcases hu with rfl | rfl <;> rfl) (by unfold maxLen; omega) (by omega) (by simp at hsz ⊢; omega) ?_; intro v7 w7 hown7 hg7 _; have HO7 := Lib.hid hown7; have HG7 := Lib.hid hg7; clear hown7 hg7)
      go_roundw
      case rel =>
        refine ⟨k + 1, by omega, by go_num, ⟨hs.1, (hs.2.alloc hsz _).grown HG7.out (by simp at hsz ⊢; omega) (own_gen HO4.out)⟩, ?_⟩
        show World.ownsRow _ _ _ _ _ _ _
        rw [HSU.out, flatG_snoc, HQC.out]
        exact HO7.out
      case measure => simp [intOf]; omega
set_option maxRecDepth 100000 in
set_option maxHeartbeats 4000000 in
theorem rideal_any {A : Option Addr} {n c k0 : Nat} {t : ByteArray} {ws : List ByteArray} (hn : ws.length = n) (h12 : n ≤ 12 ∨ 1000 < n) (hm : n ≤ 4611686018427387904) (hk0 : k0 ≤ 5000) (ht : t.size ≤ k0) (hz : ∀ s ∈ ws, s.size ≤ k0) (w : World) (hg : Gl w) (hr : Row w A (ws.map sv)) :
    Calls Tryz.prog 21 #[.string t, .slice A n c] w fun e w' => ∃ v, e = .returned (.tuple #[v, .int .i64 (alE t ws)]) ∧ OutG qcells 36 2 w.heap.size w' v (alI t ws).length (alI t ws) ∧ Below w.heap.size w w' := by
  by_cases he : alE t ws = 0
  · have h2 := (alE_zero.1 he).len
    have e : alI t ws = idL (valS t) (iv ws) := if_pos he
    rw [e, he, idL_len, iv_len, hn]
    exact rideal_few hn (by omega) hk0 ht hz he w hg hr
  · have e : alI t ws = [] := if_neg he
    rw [e]
    have hs := St.refl hg
    have HR := Lib.hid hr
    have K1 := rchk4 (A := A) (c := c) hn h12 hm hk0 ht hz
    have q : (alE t ws != 0) = true := by simpa using he
    generalize alE t ws = ee at *
    clear hn hr hz ht e
    go_enter Tryz.func21, Tryz.ntmps21
    go_wp2_with fail
    refine K1.step hs (HR.out.on hs.2) ?_
    intro w1 hs hb
    go_wp2_with fail
    go_ret2
    exact ⟨_, rfl, ⟨rfl, World.ownsRow_nil _ _ _ _⟩, hs.2⟩
end Go.Proofs.YtpipkeplhkccoaaGreatDoor
namespace Go.Proofs.YtpipkeplhkccoaaGreatDoor
open Go.RowKit Go.Shelf Dec QQ SP

theorem any_pbad {ps : List ByteArray} (h : ∀ i s, i < ps.length → ps[i]? = some s → pbad s = false) : ps.any pbad = false := by
  rw [List.any_eq_false]
  intro s hs
  obtain ⟨i, hi, rfl⟩ := List.mem_iff_getElem.1 hs
  rw [h i _ hi (List.getElem?_eq_getElem hi)]
  decide
theorem rfar4 {T S w p : Int} (h : 0 < S) : decide (0 ≤ cmpQ (absR (rat (T * w) S - (p : Rat))) 1) = farI T S w p := by
  rw [far_diff h, absR_far h]
  unfold farI
  rw [show -(T * w - S * p) = S * p - T * w by omega]
set_option maxRecDepth 100000 in
set_option maxHeartbeats 4000000 in
theorem rck4 {A A' : Option Addr} {n n' c c' k0 : Nat} {t : ByteArray} {ws ps : List ByteArray} (hn : ws.length = n) (hn' : ps.length = n') (h12 : n ≤ 12 ∨ 1000 < n) (hm : n ≤ 4611686018427387904) (hk0 : k0 ≤ 5000) (ht : t.size ≤ k0) (hz : ∀ s ∈ ws, s.size ≤ k0) (hz' : ∀ s ∈ ps, s.size ≤ k0) :
    RetI (fun w => Row w A (ws.map sv) ∧ Row w A' (ps.map sv)) 35 #[.string t, .slice A n c, .slice A' n' c'] (.int .i64 (alC t ws ps)) := by
  intro w hg hi
  have hs := St.refl hg
  have HI := Lib.hid hi
  have KI := Lib.hid (fun (u : World) (hg : Gl u) (hr : Row u A (ws.map sv)) => rideal_any (A := A) (c := c) hn h12 hm hk0 ht hz u hg hr)
  by_cases he : alE t ws = 0
  · have hen : ¬ alE t ws ≠ 0 := by simpa using he
    have hao := alE_zero.1 he
    have h2 := hao.len
    have h0 : 0 < n := by have := hao.len0; omega
    have eI : alI t ws = idL (valS t) (iv ws) := if_pos he
    rw [he, eI, idL_len, iv_len, hn] at KI
    by_cases hl : n' = n
    · subst hl
      have hln : ¬ ps.length ≠ ws.length := by omega
      obtain ⟨ee, hee⟩ : ∃ e, alC t ws ps = e := ⟨_, rfl⟩
      rw [hee]
      have hps : ps.any (fun p => chk p != 0) = ps.any pbad := rfl
      have HB : Hid (ps.any pbad = true → ee = 1) := fun h => by rw [← hee]; unfold alC; rw [if_neg hen, if_neg hln]; exact if_pos h
      have HSm : Hid (ps.any pbad = false → canS (iv ps).sum ≠ t → ee = 14) := fun h h' => by
        rw [← hee]
        unfold alC
        rw [if_neg hen, if_neg hln, if_neg (by rw [hps, h]; decide)]
        exact if_pos h'
      have HF2 : Hid (ps.any pbad = false → canS (iv ps).sum = t → ∀ i, i < n' → farI (valS t) (iv ws).sum (at0 (iv ws) i) (at0 (iv ps) i) = true → ee = 2) := fun h h' i hi h3 => by
        rw [← hee]
        unfold alC
        rw [if_neg hen, if_neg hln, if_neg (by rw [hps, h]; decide), if_neg (by simpa using h')]
        exact if_pos (List.any_eq_true.2 ⟨i, by rw [List.mem_range, hn]; exact hi, h3⟩)
      have HF0 : Hid (ps.any pbad = false → canS (iv ps).sum = t → (∀ i, i < n' → farI (valS t) (iv ws).sum (at0 (iv ws) i) (at0 (iv ps) i) = false) → ee = 0) := fun h h' h3 => by
        rw [← hee]
        unfold alC
        rw [if_neg hen, if_neg hln, if_neg (by rw [hps, h]; decide), if_neg (by simpa using h')]
        refine if_neg ?_
        rw [Bool.not_eq_true, List.any_eq_false]
        intro i hi
        rw [List.mem_range, hn] at hi
        rw [h3 i hi]
        decide
      have KW := rsum4 (A := A') (c := c') hn' (by omega) hk0 hz'
      have HN := Lib.hid hn
      have HN' := Lib.hid hn'
      have HZ := Lib.hid hz
      have HZ' := Lib.hid hz'
      have HT := Lib.hid ht
      have HS0 : Hid (0 < (iv ws).sum) := hao.ok.pos
      have HFS : Hid (Fit (k0 + 2) (iv ws).sum) := whole_fit hz (by omega)
      have HIA : Hid (∀ i, i < n' → (idL (valS t) (iv ws))[i]? = some (rat (valS t * at0 (iv ws) i) (iv ws).sum)) := fun i hi => idL_at (by rw [iv_len, hn]; exact hi)
      have qlen : ((n' : Int) != (n' : Int)) = false := by simp
      have KO := rof1
      have h12n : n' ≤ 12 := by omega
      clear hen hln he hao h2 eI hn hn' hz hz' ht hi hee hps h12
      go_enter Tryz.func35, Tryz.ntmps35
      go_wp2_with fail
      refine (KI.out w hs.gl HI.out.1).mono ?_
      rintro e w1 ⟨v, rfl, hov, hb1⟩
      obtain ⟨g, c1, rfl, hrow⟩ : ∃ g c, v = .slice (some ⟨g, 0, none⟩) n' c ∧ Row w1 (some ⟨g, 0, none⟩) (flatG qcells (idL (valS t) (iv ws))) := by
        obtain ⟨A', c', e, hr⟩ := hov.row
        rcases hov.2.2 with ⟨_, h1⟩ | ⟨g, cap, cur, rfl, e2, e3, e4, e5, e6, e7⟩
        · omega
        · injection e with e8 e9 e10
          subst e8
          exact ⟨g, cap, rfl, hr⟩
      replace hs := hs.on hb1
      have HG := Lib.hid hrow
      clear hov hrow hb1
      go_wp2_with fail
      go_loopw [9] (fun s wr => ∃ k : Nat, k ≤ n' ∧ s = .int .i64 (k : Int) ∧ St w wr ∧ Hid (Row wr (some ⟨g, 0, none⟩) (flatG qcells (idL (valS t) (iv ws)))) ∧ Hid (∀ i s, i < k → ps[i]? = some s → pbad s = false)) (fun s _ => (n' - intOf s).toNat)
      case atStart => exact ⟨0, by omega, rfl, hs, HG.out, fun i s h => by omega⟩
      case round =>
        clear hs HG
        obtain ⟨k, hk, rfl, hs, HG, HP⟩ := hrel
        by_cases hkn : k = n'
        · subst hkn
          have q : decide ((k : Int) < (k : Int)) = false := decide_eq_false (by omega)
          have hany := any_pbad (fun i s hi h => HP.out i s (by rw [HN'.out] at hi; exact hi) h)
          by_cases hsum : canS (iv ps).sum = t
          · rw [hsum] at KW
            have HF2' : Hid (∀ i, i < k → farI (valS t) (iv ws).sum (at0 (iv ws) i) (at0 (iv ps) i) = true → ee = 2) := HF2.out hany hsum
            have HF0' : Hid ((∀ i, i < k → farI (valS t) (iv ws).sum (at0 (iv ws) i) (at0 (iv ps) i) = false) → ee = 0) := HF0.out hany hsum
            clear hany hsum HP HF2 HF0 HB HSm
            go_wp2_with fail
            refine KW.step hs (HI.out.2.on hs.2) ?_
            intro w3 hs hb
            replace HG := Lib.hid (HG.out.on hb)
            go_wp2_with fail
            go_loopw [10] (fun s wr => ∃ j : Nat, j ≤ k ∧ s = .int .i64 (j : Int) ∧ St w wr ∧ Hid (Row wr (some ⟨g, 0, none⟩) (flatG qcells (idL (valS t) (iv ws)))) ∧ Hid (∀ i, i < j → farI (valS t) (iv ws).sum (at0 (iv ws) i) (at0 (iv ps) i) = false)) (fun s _ => (k - intOf s).toNat)
            case atStart => exact ⟨0, by omega, rfl, hs, HG.out, fun i h => by omega⟩
            case round =>
              clear hs HG
              obtain ⟨j, hj, rfl, hs, HG, HFr⟩ := hrel
              by_cases hjn : j = k
              · subst hjn
                have q : decide ((j : Int) < (j : Int)) = false := decide_eq_false (by omega)
                have e := HF0'.out HFr.out
                subst e
                go_wp2_with fail
                go_ret
                exact ⟨rfl, hs.2⟩
              · have hjl : j < k := by omega
                have q : decide ((j : Int) < (k : Int)) = true := decide_eq_true (by omega)
                have qn : decide (j < k) = true := decide_eq_true hjl
                have jl2 : (j : Int) < (k : Int) := by omega
                obtain ⟨sp, hsp⟩ : ∃ s, ps[j]? = some s := ⟨ps[j]'(by rw [HN'.out]; exact hjl), by simp⟩
                obtain ⟨sw, hsw⟩ : ∃ s, ws[j]? = some s := ⟨ws[j]'(by rw [HN.out]; exact hjl), by simp⟩
                obtain ⟨bp, op, hA', lp, cp⟩ := (HI.out.2.on hs.2) j (sv sp) (by rw [List.getElem?_map, hsp]; rfl)
                subst hA'
                unfold sv at cp
                have zp := HZ'.out sp (List.mem_of_getElem? hsp)
                have zw := HZ.out sw (List.mem_of_getElem? hsw)
                have zt := HT.out
                have hia := HIA.out j hjl
                rw [iv_at hsw] at hia
                obtain ⟨bg, og, hA, lg, hcells⟩ := row_at (cs := qcells) (m := 2) qcells_len (by decide) HG.out hia
                injection hA with hA; injection hA with e1 e2
                subst e1 e2
                have fm := (Fit.val (k := k0) zt).mul (Fit.val (k := k0) zw)
                have fr : FitQ (k0 + k0 + 2) (rat (valS t * valS sw) (iv ws).sum) := FitQ.mono (FitQ.rat (k := k0 + k0) (m := k0 + 2) fm HFS.out (by omega)) (by omega)
                have fp : FitQ (k0 + 1) ((valS sp : Int) : Rat) := FitQ.int ((Fit.val (k := k0) zp).mono (by omega)) (by omega)
                have fd := fr.sub fp
                have f1 : FitQ 1 (1 : Rat) := FitQ.int (k := 1) (z := 1) (by decide) (by decide)
                have KP := rof_r (a := sp) (by omega)
                have KS := rsubFR (K := k0 + k0 + 2) fr (fp.mono (by omega)) (by omega)
                have KAb := rabs4 fd (by omega)
                have KC := rcmpFR4 (K := k0 + k0 + 2 + (k0 + 1) + 1) (absR_fit fd) (f1.mono (by omega)) (by omega)
                have q1 := rfar4 (T := valS t) (w := valS sw) (p := valS sp) HS0.out
                have HFK : Hid (farI (valS t) (iv ws).sum (at0 (iv ws) j) (at0 (iv ps) j) = farI (valS t) (iv ws).sum (valS sw) (valS sp)) := by
                  show farI _ _ _ _ = _
                  rw [iv_at hsw, iv_at hsp]
                unfold FR at KP KS KAb KC KO
                generalize farI (valS t) (iv ws).sum (valS sw) (valS sp) = v1 at *
                generalize cmpQ (absR (rat (valS t * valS sw) (iv ws).sum - ((valS sp : Int) : Rat))) 1 = c2 at *
                generalize frN (absR (rat (valS t * valS sw) (iv ws).sum - ((valS sp : Int) : Rat))) = an at *
                generalize frD (absR (rat (valS t * valS sw) (iv ws).sum - ((valS sp : Int) : Rat))) = ad at *
                generalize frN (rat (valS t * valS sw) (iv ws).sum - ((valS sp : Int) : Rat)) = dn' at *
                generalize frD (rat (valS t * valS sw) (iv ws).sum - ((valS sp : Int) : Rat)) = dd' at *
                obtain ⟨fn, hfn⟩ : ∃ x, frN (rat (valS t * valS sw) (iv ws).sum) = x := ⟨_, rfl⟩
                obtain ⟨fd2, hfd⟩ : ∃ x, frD (rat (valS t * valS sw) (iv ws).sum) = x := ⟨_, rfl⟩
                rw [hfn, hfd] at KS
                have y0 := hcells 0 _ rfl
                have y1 := hcells 1 _ rfl
                rw [hfn, Nat.zero_add, Nat.add_zero] at y0
                rw [hfd, Nat.zero_add] at y1
                generalize frN ((valS sp : Int) : Rat) = pn at *
                generalize frD ((valS sp : Int) : Rat) = pd at *
                generalize frN (1 : Rat) = on at *
                generalize frD (1 : Rat) = od at *
                have z0 := Kept.cell_of y0
                have z1 := Kept.cell_of y1
                have z2 := Kept.cell_of cp
                clear hcells hfn hfd hia hsp hsw lp lg fm fr fp fd f1 zp zw zt hjn y0 y1 cp
                cases v1 with
                | true =>
                  have e := HF2'.out j hjl HFK.out
                  subst e
                  go_wp2_with fail
                  refine wp_region_kept (by kernel_rfl) (by kernel_rfl) ?_
                  repeat (go_big_quiet_step (first | (with_reducible exact KP.kept hs) | (with_reducible exact KS.kept hs) | (with_reducible exact KAb.kept hs) | (with_reducible exact KO.kept hs) | (with_reducible exact KC.kept hs)))
                  refine wpQuiet_nil ?_
                  rintro _ ⟨u, rfl⟩
                  replace hs := hs.kept u
                  go_wp2_with fail
                  go_ret
                  exact ⟨rfl, hs.2⟩
                | false =>
                  go_wp2_with fail
                  refine wp_region_kept (by kernel_rfl) (by kernel_rfl) ?_
                  repeat (go_big_quiet_step (first | (with_reducible exact KP.kept hs) | (with_reducible exact KS.kept hs) | (with_reducible exact KAb.kept hs) | (with_reducible exact KO.kept hs) | (with_reducible exact KC.kept hs)))
                  refine wpQuiet_nil ?_
                  rintro _ ⟨u, rfl⟩
                  replace hs := hs.kept u
                  replace HG := Lib.hid (HG.out.on u.low)
                  go_wp2_with fail
                  go_roundw
                  case rel =>
                    refine ⟨j + 1, by omega, by go_num, hs, HG.out, fun i hi => ?_⟩
                    by_cases e : i = j
                    · subst e; exact HFK.out
                    · exact HFr.out i (by omega)
                  case measure => simp [intOf]; omega
          · have e := HSm.out hany hsum
            have qs : ((canS (iv ps).sum).toList == t.toList) = false := by
              rw [beq_eq_false_iff_ne]
              exact fun h => hsum (toList_inj h)
            subst e
            generalize canS (iv ps).sum = sm at *
            clear hany hsum HP HF2 HF0 HB HSm
            go_wp2_with fail
            refine KW.step hs (HI.out.2.on hs.2) ?_
            intro w3 hs hb
            go_wp2_with fail
            go_ret
            exact ⟨rfl, hs.2⟩
        · have hkl : k < n' := by omega
          have q : decide ((k : Int) < (n' : Int)) = true := decide_eq_true (by omega)
          have qn : decide (k < n') = true := decide_eq_true hkl
          have kl2 : (k : Int) < (n' : Int) := by omega
          obtain ⟨s, hd⟩ : ∃ s, ps[k]? = some s := ⟨ps[k]'(by rw [HN'.out]; exact hkl), by simp⟩
          obtain ⟨b, o, hA, hb, hc⟩ := (HI.out.2.on hs.2) k (sv s) (by rw [List.getElem?_map, hd]; rfl)
          subst hA
          have zs := HZ'.out s (List.mem_of_getElem? hd)
          unfold sv at hc
          have KC := rchkR (a := s) (by omega)
          have HBT : Hid (pbad s = true → ee = 1) := fun h => HB.out (List.any_eq_true.2 ⟨s, List.mem_of_getElem? hd, h⟩)
          have HD := Lib.hid hd
          have HPB : Hid (pbad s = (chk s != 0)) := rfl
          by_cases hcs : chk s = 0
          · rw [hcs] at KC HPB
            clear hcs hd zs hkn
            go_wp2_with fail
            refine KC.step hs ?_
            intro w2 hs hb2
            replace HG := Lib.hid (HG.out.on hb2)
            clear hc
            go_wp2_with fail
            go_roundw
            case rel =>
              refine ⟨k + 1, by omega, by go_num, hs, HG.out, fun i s' hi h => ?_⟩
              by_cases e : i = k
              · subst e
                rw [HD.out] at h
                cases h
                rw [HPB.out]
                rfl
              · exact HP.out i s' (by omega) h
            case measure => simp [intOf]; omega
          · have qc : (chk s != 0) = true := by simpa using hcs
            have e := HBT.out (by rw [HPB.out]; exact qc)
            subst e
            generalize chk s = cs at *
            clear hcs hd zs hkn
            go_wp2_with fail
            refine KC.step hs ?_
            intro w2 hs hb2
            go_wp2_with fail
            go_ret
            exact ⟨rfl, hs.2⟩
    · have e : alC t ws ps = 9 := by unfold alC; rw [if_neg hen, if_pos (by omega)]
      rw [e]
      have qlen : ((n' : Int) != (n : Int)) = true := by
        rw [bne_iff_ne]
        omega
      have qlenn : (n' != n) = true := by rw [bne_iff_ne]; exact hl
      clear e hen he h2 hao hn hn' hz hz' ht hi hl eI
      go_enter Tryz.func35, Tryz.ntmps35
      go_wp2_with fail
      refine (KI.out w hs.gl HI.out.1).mono ?_
      rintro e w1 ⟨v, rfl, hov, hb1⟩
      obtain ⟨A1, c1, rfl, hrow⟩ := hov.row
      replace hs := hs.on hb1
      clear hov hrow
      go_wp2_with fail
      go_ret
      exact ⟨rfl, hs.2⟩
  · have e : alC t ws ps = alE t ws := by unfold alC; rw [if_pos he]
    rw [e]
    have q : (alE t ws != 0) = true := by simpa using he
    generalize alE t ws = ee at *
    clear e he hn hn' hz hz' ht hi
    go_enter Tryz.func35, Tryz.ntmps35
    go_wp2_with fail
    refine (KI.out w hs.gl HI.out.1).mono ?_
    rintro e w1 ⟨v, rfl, hov, hb1⟩
    obtain ⟨A1, c1, rfl, hrow⟩ := hov.row
    replace hs := hs.on hb1
    clear hov hrow
    go_wp2_with fail
    go_ret
    exact ⟨rfl, hs.2⟩
end Go.Proofs.YtpipkeplhkccoaaGreatDoor
