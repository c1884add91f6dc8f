/- Parts of years, the reference: Interest and Add. Conditions: numbers of up to 40 bytes. -/
import Derived.Test.YtgagjpjlnlandaaGreatDoorIt
import Derived.Test.YtgagjpjlnlandaaGreatDoorRef3
import Derived.Test.YtgagjpjlnlandaaGreatDoorRd9
import Derived.Test.YtgagjpjlnlandaaGreatDoorRa8p
namespace Go.Proofs.YtgagjpjlnlandaaGreatDoor
open Go.RowKit Go.Shelf Dec QQ

theorem cmpQ_leD {x y : Rat} : decide (cmpQ x y ≤ 0) = decide (x ≤ y) := by
  rw [decide_eq_decide]
  unfold cmpQ
  by_cases h1 : x < y
  · rw [if_pos h1]
    constructor
    · intro _; exact Rat.le_of_lt h1
    · intro _; decide
  · rw [if_neg h1]
    by_cases h2 : x = y
    · rw [if_pos h2]
      constructor
      · intro _; rw [h2]; exact Rat.le_refl
      · intro _; decide
    · rw [if_neg h2]
      constructor
      · intro h; exact absurd h (by decide)
      · intro h; exact absurd (Rat.le_antisymm h (Rat.not_lt.1 h1)) h2
set_option maxRecDepth 100000 in
set_option maxHeartbeats 4000000 in
theorem rInterest_any (c A B m : Int) {a rn rd : ByteArray} (s0 : a.size ≤ 40) (s1 : rn.size ≤ 40) (s2 : rd.size ≤ 40) :
    Ret 33 #[.string a, .agg #[.string rn, .string rd], .int .i64 c, .int .i64 A, .int .i64 B, .int .i64 m] (.tuple #[.string (itS a rn rd c A B m), .int .i64 (itE a rn rd c A B m)]) := by
  intro w hg
  have hs := (St.refl hg).alloc (.cells #[.string rn, .string rd] 34)
  have XR := Bx.new w #[.string rn, .string rd] 34
  have K1 := rchkR (a := a) (by omega)
  have K2 := rchk_r (a := rn) (b := rd) (by omega) (by omega)
  have K3 := rFraction_any c A B
  unfold FV at K2
  by_cases h1 : chk a = 0
  · by_cases h2 : chkF rn rd = 0
    · by_cases h3 : (fracR c A B).2 = 0
      · obtain ⟨e1, e2⟩ := it_ok m h1 h2 h3
        rw [e1, e2]
        have fr0 := FitQ.arg (n := rn) (d := rd) (k := 40) s1 s2 (by omega)
        have fp := frac_fit c A B
        have zp := FitQ.sizes fp
        have fa : FitQ 40 ((valS a : Int) : Rat) := FitQ.int (Fit.val s0) (by omega)
        have za := FitQ.sizes fa
        have KO := rof_r (a := a) (by omega)
        have KM1 := rmul_r (a := frN ((valS a : Int) : Rat)) (b := frD ((valS a : Int) : Rat)) (c := rn) (d := rd) (by omega) (by omega) (by omega) (by omega)
        rw [ratV_fr] at KM1
        have f1 := fa.mul fr0
        have z1 := FitQ.sizes f1
        have KM2 := rmul_r (a := frN ((valS a : Int) * ratV rn rd)) (b := frD ((valS a : Int) * ratV rn rd)) (c := frN (fracR c A B).1) (d := frD (fracR c A B).1) (by omega) (by omega) (by omega) (by omega)
        rw [ratV_fr, ratV_fr] at KM2
        have f2 := f1.mul fp
        have z2 := FitQ.sizes f2
        have KR := rRound_any (a := frN ((valS a : Int) * ratV rn rd * (fracR c A B).1)) (b := frD ((valS a : Int) * ratV rn rd * (fracR c A B).1)) m (by omega) (by omega)
        rw [ratV_fr, show ((valS a : Int) : Rat) * ratV rn rd * (fracR c A B).1 = itQ a rn rd c A B by unfold itQ; grind] at KR
        rw [show ((valS a : Int) : Rat) * ratV rn rd * (fracR c A B).1 = itQ a rn rd c A B by unfold itQ; grind] at KM2
        rw [h1] at K1
        rw [h2] at K2
        rw [h3] at K3
        unfold FV at *
        unfold FR at *
        clear fr0 fp zp fa za f1 z1 f2 z2 h1 h2 h3 e1 e2 s0 s1 s2
        generalize rndS m (itQ a rn rd c A B) = rs at *
        generalize rndE m = re at *
        generalize frN (itQ a rn rd c A B) = n3 at *
        generalize frD (itQ a rn rd c A B) = d3 at *
        generalize frN ((valS a : Int) * ratV rn rd) = n2 at *
        generalize frD ((valS a : Int) * ratV rn rd) = d2 at *
        generalize frN (fracR c A B).1 = n1 at *
        generalize frD (fracR c A B).1 = d1 at *
        generalize frN ((valS a : Int) : Rat) = n0 at *
        generalize frD ((valS a : Int) : Rat) = d0 at *
        go_enter Tryz.func33, Tryz.ntmps33
        go_wp2_with fail
        refine K1.step hs ?_
        intro w1 hs hb
        replace XR := XR.on hb
        have x0 := XR.cell (i := 0) (v := .string rn) rfl
        have x1 := XR.cell (i := 1) (v := .string rd) rfl
        go_wp2_with fail
        refine K2.step hs ?_
        intro w2 hs hb
        replace XR := XR.on hb
        clear x0 x1
        go_wp2_with fail
        refine K3.step hs ?_
        intro w3 hs hb
        replace XR := (XR.on hb).alloc (.cells #[.string n1, .string d1] 34)
        have XP := Bx.new w3 #[.string n1, .string d1] 34
        replace hs := hs.alloc (.cells #[.string n1, .string d1] 34)
        have k0 := XR.keeps (i := 0) (v := .string rn) rfl
        have k1 := XR.keeps (i := 1) (v := .string rd) rfl
        have k2 := XP.keeps (i := 0) (v := .string n1) rfl
        have k3 := XP.keeps (i := 1) (v := .string d1) rfl
        go_wp2_with fail
        refine wp_region_kept (by kernel_rfl) (by kernel_rfl) ?_
        repeat (go_big_quiet_step (first | (with_reducible exact KO.kept hs) | (with_reducible exact KM1.kept hs) | (with_reducible exact KM2.kept hs) | (with_reducible exact KR.kept hs)))
        refine wpQuiet_nil ?_
        rintro _ ⟨u, rfl⟩
        replace hs := hs.kept u
        go_wp2_with fail
        go_ret2
        exact ⟨rfl, hs.2⟩
      · obtain ⟨e1, e2⟩ := it_day (a := a) (rn := rn) (rd := rd) m h1 h2 h3
        rw [e1, e2]
        have q : ((fracR c A B).2 != 0) = true := by simpa using h3
        rw [h1] at K1
        rw [h2] at K2
        unfold FR at K3
        clear h1 h2 h3 e1 e2
        generalize frN (fracR c A B).1 = n1 at *
        generalize frD (fracR c A B).1 = d1 at *
        generalize (fracR c A B).2 = e at *
        go_enter Tryz.func33, Tryz.ntmps33
        go_wp2_with fail
        refine K1.step hs ?_
        intro w1 hs hb
        replace XR := XR.on hb
        have x0 := XR.cell (i := 0) (v := .string rn) rfl
        have x1 := XR.cell (i := 1) (v := .string rd) rfl
        go_wp2_with fail
        refine K2.step hs ?_
        intro w2 hs hb
        clear x0 x1
        go_wp2_with fail
        refine K3.step hs ?_
        intro w3 hs hb
        replace hs := hs.alloc (.cells #[.string n1, .string d1] 34)
        go_wp2_with fail
        go_ret2
        exact ⟨rfl, hs.2⟩
    · obtain ⟨e1, e2⟩ := it_arg (a := a) (rn := rn) (rd := rd) c A B m (.inr h2)
      rw [e1, e2]
      have q : (chkF rn rd != 0) = true := by simpa using h2
      rw [h1] at K1
      clear h1 h2 e1 e2
      generalize chkF rn rd = e at *
      go_enter Tryz.func33, Tryz.ntmps33
      go_wp2_with fail
      refine K1.step hs ?_
      intro w1 hs hb
      replace XR := XR.on hb
      have x0 := XR.cell (i := 0) (v := .string rn) rfl
      have x1 := XR.cell (i := 1) (v := .string rd) rfl
      go_wp2_with fail
      refine K2.step hs ?_
      intro w1 hs _
      go_wp2_with fail
      go_ret2
      exact ⟨rfl, hs.2⟩
  · obtain ⟨e1, e2⟩ := it_arg (a := a) (rn := rn) (rd := rd) c A B m (.inl h1)
    rw [e1, e2]
    have q : (chk a != 0) = true := by simpa using h1
    clear h1 e1 e2
    generalize chk a = e at *
    go_enter Tryz.func33, Tryz.ntmps33
    go_wp2_with fail
    refine K1.step hs ?_
    intro w1 hs _
    go_wp2_with fail
    go_ret2
    exact ⟨rfl, hs.2⟩
set_option maxRecDepth 100000 in
set_option maxHeartbeats 4000000 in
theorem rAdd08_any (c A : Int) {pn pd : ByteArray} (s1 : pn.size ≤ 20) (s2 : pd.size ≤ 20) :
    Ret 35 #[.int .i64 c, .int .i64 A, .agg #[.string pn, .string pd]] (.tuple #[.int .i64 (addQ c A pn pd).1, .int .i64 (addQ c A pn pd).2]) := by
  intro w hg
  have hs := (St.refl hg).alloc (.cells #[.string pn, .string pd] 34)
  have XP := Bx.new w #[.string pn, .string pd] 34
  have K1 := rchk_r (a := pn) (b := pd) (by omega) (by omega)
  have K2 := rcmpF (a := pn) (b := pd) (c := ⟨#[]⟩) (d := ⟨#[]⟩) (by omega) (by omega) (by decide) (by decide)
  rw [show ratV ⟨#[]⟩ ⟨#[]⟩ = 0 from rfl] at K2
  have q2 : decide (cmpQ (ratV pn pd) 0 < 0) = decide (ratV pn pd < 0) := decide_eq_decide.2 cmpQ_neg
  have K3 := rvalid_any A
  unfold FV at *
  by_cases hc : chkF pn pd = 0
  · rw [hc] at K1
    by_cases h15 : c < 1 ∨ 5 < c
    · have e : addQ c A pn pd = (0, 2) := by unfold addQ; rw [if_neg (by simpa using hc), if_pos h15]
      rw [e]
      obtain ⟨t1, ht1⟩ : ∃ t, decide (c < 1) = t := ⟨_, rfl⟩
      obtain ⟨t2, ht2⟩ : ∃ t, decide (5 < c) = t := ⟨_, rfl⟩
      have ht : (t1 || t2) = true := by rw [← ht1, ← ht2]; simpa using h15
      clear e h15 hc
      cases t1
      · cases t2
        · cases ht
        · clear ht
          go_enter Tryz.func35, Tryz.ntmps35
          go_wp2_with fail
          refine K1.step hs ?_
          intro w1 hs _
          go_wp2_with fail
          go_ret2
          exact ⟨rfl, hs.2⟩
      · clear ht
        go_enter Tryz.func35, Tryz.ntmps35
        go_wp2_with fail
        refine K1.step hs ?_
        intro w1 hs _
        go_wp2_with fail
        go_ret2
        exact ⟨rfl, hs.2⟩
    · have t1 : decide (c < 1) = false := decide_eq_false (by omega)
      have t2 : decide (5 < c) = false := decide_eq_false (by omega)
      by_cases hn : ratV pn pd < 0
      · have e : addQ c A pn pd = (0, 2) := by unfold addQ; rw [if_neg (by simpa using hc), if_neg h15, if_pos hn]
        rw [e]
        rw [decide_eq_true hn] at q2
        clear e hn h15 hc
        generalize cmpQ (ratV pn pd) 0 = cq at *
        go_enter Tryz.func35, Tryz.ntmps35
        go_wp2_with fail
        refine K1.step hs ?_
        intro w1 hs hb
        replace XP := XP.on hb
        have x0 := XP.cell (i := 0) (v := .string pn) rfl
        have x1 := XP.cell (i := 1) (v := .string pd) rfl
        go_wp2_with fail
        refine K2.step hs ?_
        intro w1 hs _
        go_wp2_with fail
        go_ret2
        exact ⟨rfl, hs.2⟩
      · rw [decide_eq_false hn] at q2
        rcases day_cases A with ⟨hA, _⟩ | ⟨hA, n, hD⟩
        · have e : addQ c A pn pd = (0, 13) := by unfold addQ; rw [if_neg (by simpa using hc), if_neg h15, if_neg hn, if_pos hA]
          rw [e]
          rw [hA] at K3
          clear e hn h15 hc hA
          generalize cmpQ (ratV pn pd) 0 = cq at *
          go_enter Tryz.func35, Tryz.ntmps35
          go_wp2_with fail
          refine K1.step hs ?_
          intro w1 hs hb
          replace XP := XP.on hb
          have x0 := XP.cell (i := 0) (v := .string pn) rfl
          have x1 := XP.cell (i := 1) (v := .string pd) rfl
          go_wp2_with fail
          refine K2.step hs ?_
          intro w2 hs hb
          clear x0 x1
          go_wp2_with fail
          refine K3.step hs ?_
          intro w1 hs _
          go_wp2_with fail
          go_ret2
          exact ⟨rfl, hs.2⟩
        · have e : addQ c A pn pd = (A + ((addN c (ratV pn pd) n : Int) - 1), 0) := by unfold addQ; rw [if_neg (by simpa using hc), if_neg h15, if_neg hn, if_neg (by rw [hA]; decide), hD.num]
          rw [e]
          rw [hA] at K3
          have hn9 := hD.2
          have hA0 : -25567 ≤ A := by have := hD.1; omega
          have hA1 : A ≤ 84005 := by have := hD.1; omega
          have HST := Lib.hid (srch_start (c := c) hn9 hn)
          have HFR : Hid (∀ i, i < 109573 - n → fracR c A (A + (i : Int)) = (partQ c n (n + i), 0)) := fun i hi =>
            fracR_in (by omega) (by omega) hD ⟨by have := hD.1; push_cast; omega, by omega⟩ (by omega)
          have HFF : Hid (∀ i, i < 109573 - n → FitQ 13 (partQ c n (n + i))) := fun i hi => part_fit hn9 (by omega)
          have HMI : Hid (∀ lo hi mi : Nat, Srch c (ratV pn pd) n lo hi → lo < mi → mi ≤ hi → (partQ c n (n + mi) ≤ ratV pn pd → Srch c (ratV pn pd) n mi hi) ∧ (¬ partQ c n (n + mi) ≤ ratV pn pd → Srch c (ratV pn pd) n lo (mi - 1))) := fun lo hi mi h h1 h2 => srch_mid hn9 h h1 h2
          have HEND : Hid (∀ lo hi : Nat, Srch c (ratV pn pd) n lo hi → ¬ lo < hi → addN c (ratV pn pd) n = lo + 1) := fun lo hi h h1 => srch_end h h1
          have HDA : Hid (A = (n : Int) - 25567) := hD.1
          have HS12 : Hid (pn.size ≤ 20 ∧ pd.size ≤ 20) := ⟨s1, s2⟩
          obtain ⟨aN, haN⟩ : ∃ x, addN c (ratV pn pd) n = x := ⟨_, rfl⟩
          rw [haN]
          have HAN := Lib.hid haN
          obtain ⟨rr, hrr⟩ : ∃ x, A + ((aN : Int) - 1) = x := ⟨_, rfl⟩
          rw [hrr]
          have HRR := Lib.hid hrr
          clear hrr
          clear e hn h15 hc hA hD haN s1 s2
          generalize cmpQ (ratV pn pd) 0 = cq at *
          go_enter Tryz.func35, Tryz.ntmps35
          go_wp2_with fail
          refine K1.step hs ?_
          intro w1 hs hb
          replace XP := XP.on hb
          have x0 := XP.cell (i := 0) (v := .string pn) rfl
          have x1 := XP.cell (i := 1) (v := .string pd) rfl
          go_wp2_with fail
          refine K2.step hs ?_
          intro w2 hs hb
          replace XP := XP.on hb
          clear x0 x1
          go_wp2_with fail
          refine K3.step hs ?_
          intro w3 hs hb
          replace XP := Lib.hid (XP.on hb)
          go_wp2_with fail
          clear K1 K2 K3 hb
          go_loopw [8, 9] (fun s t wr => ∃ (lo hi : Nat) (x y : Int), lo ≤ hi ∧ s = .int .i64 x ∧ t = .int .i64 y ∧ Hid (x = A + (lo : Int)) ∧ Hid (y = A + (hi : Int)) ∧ St w wr ∧ Hid (Bx wr w.heap.size #[.string pn, .string pd]) ∧ Hid (Srch c (ratV pn pd) n lo hi)) (fun s t _ => (intOf t - intOf s).toNat)
          case atStart => exact ⟨0, 109572 - n, A, 84005, by omega, rfl, rfl, by show _ = _; simp, by show _ = _; have := HDA.out; omega, hs, XP, HST⟩
          case round =>
            obtain ⟨lo, hi, x, y, hlh, rfl, rfl, HX, HY, hs, HP, HS⟩ := hrel
            have hi9 : hi < 109573 - n := HS.out.2.2
            have hx0 : -25567 ≤ x := by have := HX.out; omega
            have hy1 : y ≤ 84005 := by have := HY.out; have := HDA.out; omega
            have hxy : x ≤ y := by have := HX.out; have := HY.out; omega
            by_cases hl : lo < hi
            · have hlt : x < y := by have := HX.out; have := HY.out; omega
              have q : decide (x < y) = true := decide_eq_true hlt
              obtain ⟨dd, hdd⟩ : ∃ d : Int, (y - x + 1).tdiv 2 = d := ⟨_, rfl⟩
              have hd3 : dd = (y - x + 1) / 2 := by rw [← hdd]; exact Int.tdiv_eq_ediv_of_nonneg (by omega)
              have hd1 : 1 ≤ dd := by omega
              have hd2 : dd ≤ y - x := by omega
              obtain ⟨mi, hmi⟩ : ∃ mi : Nat, (mi : Int) = (lo : Int) + dd := ⟨((lo : Int) + dd).toNat, by omega⟩
              have hm1 : lo < mi := by omega
              have hm2 : mi ≤ hi := by have := HX.out; have := HY.out; omega
              have HXM : Hid (x + dd = A + (mi : Int)) := by show _ = _; have := HX.out; omega
              have hxd0 : -25567 ≤ x + dd := by omega
              have hxd1 : x + dd ≤ 84005 := by omega
              have KF := rFraction_any c A (x + dd)
              rw [show fracR c A (x + dd) = (partQ c n (n + mi), 0) by rw [HXM.out]; exact HFR.out mi (by omega)] at KF
              have zf := FitQ.sizes (HFF.out mi (by omega))
              have KC := rcmpF (a := frN (partQ c n (n + mi))) (b := frD (partQ c n (n + mi))) (c := pn) (d := pd) (by omega) (by omega) (by have := HS12.out.1; omega) (by have := HS12.out.2; omega)
              rw [ratV_fr] at KC
              have qc : decide (cmpQ (partQ c n (n + mi)) (ratV pn pd) ≤ 0) = decide (partQ c n (n + mi) ≤ ratV pn pd) := cmpQ_leD
              have HSM := Lib.hid (HMI.out lo hi mi HS.out hm1 hm2)
              obtain ⟨tt, htt⟩ : ∃ t, decide (partQ c n (n + mi) ≤ ratV pn pd) = t := ⟨_, rfl⟩
              rw [htt] at qc
              have HTT := Lib.hid htt
              unfold FV at *
              unfold FR at *
              dsimp only at KF
              clear htt zf hd3 hmi
              generalize cmpQ (partQ c n (n + mi)) (ratV pn pd) = cm at *
              generalize frN (partQ c n (n + mi)) = fn at *
              generalize frD (partQ c n (n + mi)) = fd at *
              have hXP := HP.out
              go_wp2_with fail
              refine KF.step hs ?_
              intro w4 hs hb
              have XF := Bx.new w4 #[.string fn, .string fd] 34
              have XQ := (hXP.on hb).alloc (.cells #[.string fn, .string fd] 34)
              replace hs := hs.alloc (.cells #[.string fn, .string fd] 34)
              clear hXP
              have f0 := XF.cell (i := 0) (v := .string fn) rfl
              have f1 := XF.cell (i := 1) (v := .string fd) rfl
              have p0 := XQ.cell (i := 0) (v := .string pn) rfl
              have p1 := XQ.cell (i := 1) (v := .string pd) rfl
              go_wp2_with fail
              refine KC.step hs ?_
              intro w5 hs hb
              have HP2 := Lib.hid (XQ.on hb)
              clear f0 f1 p0 p1 XF XQ
              cases tt with
              | true =>
                go_wp2_with fail
                go_roundw
                case rel => exact ⟨mi, hi, x + dd, y, hm2, rfl, rfl, HXM, HY, hs, HP2, HSM.out.1 (of_decide_eq_true HTT.out)⟩
                case measure => simp [intOf]; omega
              | false =>
                go_wp2_with fail
                go_roundw
                case rel => exact ⟨lo, mi - 1, x, x + dd - 1, by omega, rfl, rfl, HX, by show _ = _; have := HXM.out; omega, hs, HP2, HSM.out.2 (of_decide_eq_false HTT.out)⟩
                case measure => simp [intOf]; omega
            · have hxe : x = y := by have := HX.out; have := HY.out; omega
              have q : decide (x < y) = false := decide_eq_false (by omega)
              have HE := HEND.out lo hi HS.out hl
              rw [HAN.out] at HE
              obtain rfl : rr = x := by have := HX.out; have := HRR.out; omega
              clear hxe HE hl hlh
              go_wp2_with fail
              go_ret2
              exact ⟨rfl, hs.2⟩
  · have e : addQ c A pn pd = (0, 1) := by unfold addQ; rw [if_pos hc]
    rw [e]
    have q : (chkF pn pd != 0) = true := by simpa using hc
    clear hc e
    generalize chkF pn pd = ck at *
    go_enter Tryz.func35, Tryz.ntmps35
    go_wp2_with fail
    refine K1.step hs ?_
    intro w1 hs _
    go_wp2_with fail
    go_ret2
    exact ⟨rfl, hs.2⟩
end Go.Proofs.YtgagjpjlnlandaaGreatDoor
