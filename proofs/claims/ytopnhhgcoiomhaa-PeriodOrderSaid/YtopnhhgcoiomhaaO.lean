/- Period: O; for every input. -/
import Derived.Test.YtopnhhgcoiomhaaJ
import Derived.Test.YtopnhhgcoiomhaaRows
import Derived.WalkKit
import Derived.ProofKit
import Derived.OpenShut
import Derived.WalkLawsBesides
import Derived.Deep.QuietTactic
import Derived.Deep.LoopGhost
import Derived.Deep.RegionWith
import Derived.BigQuiet
import Derived.Lib.Hide
namespace Go.Proofs.Ytopnhhgcoiomhaa
open Go.RowKit
set_option maxRecDepth 100000 in
set_option maxHeartbeats 4000000 in
theorem order_fine (A : Option Addr) (c : Nat) (l : List (Int × Int)) (m n : Int) (w : World) (hc : Cl w w.heap.size A l) (hm : l.length ≤ 9223372036854775807) (hwf : ∀ (i : Nat) (x : Int × Int), l[i]? = some x → x.2 ≤ 9223372036854775807)
    (hf : fineB l = true) (h1 : 0 ≤ m) (h2 : m ≤ n) :
    Calls Try.prog 3 #[.slice A l.length c, .int .i64 m, .int .i64 n] w fun e w' => e = .returned (.bool true) ∧ Below w.heap.size w w' := by
  obtain ⟨h0, hg⟩ := fine_good hf
  have hF := fine_any A c l w hc hm
  rw [hf] at hF
  have hmono := opW_mono hg m n h2
  have hz := opW_zero hg
  obtain ⟨om, hom⟩ : ∃ o, opW l m = o := ⟨_, rfl⟩
  obtain ⟨on, hon⟩ : ∃ o, opW l n = o := ⟨_, rfl⟩
  rw [hom, hon] at hmono
  have HF := Lib.hid hF
  have Hc := Lib.hid hc
  have HM := Lib.hid hom
  have HN := Lib.hid hon
  have HZ := Lib.hid hz
  have H0 := Lib.hid h0
  have HG := Lib.hid hg
  have HW := Lib.hid hwf
  clear hF hc hom hon hz h0 hg hwf hf
  have k0 : decide (m < 0) = false := by simp; omega
  have k1 : decide (n < m) = false := by simp; omega
  have k2 : decide (on < om) = false := by simp; omega
  go_enter Try.func3, Try.ntmps3
  go_wp2_with fail
  refine HF.out.mono ?_
  rintro e w1 ⟨rfl, hb1⟩
  have Hc1 := Lib.hid (Hc.out.up hb1)
  go_wp2_with fail
  refine (open_good H0.out A c m h1 w1 Hc1.out hm om HM.out).mono ?_
  rintro e w2 ⟨rfl, hb2⟩
  have Hc2 := Lib.hid (Hc1.out.up hb2)
  have hB2 := hb1.trans (hb2.mono hb1.size)
  go_wp2_with fail
  refine (open_good H0.out A c n (by omega) w2 Hc2.out hm on HN.out).mono ?_
  rintro e w3 ⟨rfl, hb3⟩
  have Hc3 := Lib.hid (Hc2.out.up hb3)
  have hB3 := hB2.trans (hb3.mono hB2.size)
  go_wp2_with fail
  refine (open_good H0.out A c 0 (by omega) w3 Hc3.out hm (-25567) HZ.out).mono ?_
  rintro e w4 ⟨rfl, hb4⟩
  have Hc4 := Lib.hid (Hc3.out.up hb4)
  have hB4 := hB3.trans (hb4.mono hB3.size)
  clear hb1 hb2 hb3 hb4 hB2 hB3 Hc1 Hc2 Hc3 HF
  go_wp2_with fail
  go_loopw [68] (fun i wr => ∃ k : Nat, k ≤ l.length ∧ i = .int .i64 k ∧ Below w.heap.size w wr) (fun i _ => l.length - (intOf i).toNat)
  case atStart => exact ⟨0, by omega, rfl, hB4⟩
  case round =>
    obtain ⟨k, hk, rfl, hb⟩ := hrel
    by_cases hlt : k < l.length
    · obtain ⟨x, hx⟩ : ∃ x, l[k]? = some x := ⟨l[k], by simp [hlt]⟩
      have hcx := Hc.out
      obtain ⟨b, o, hA, hB, g1, g2⟩ := (hcx.below hb) k _ hx
      subst hA
      have hbl : b < wr.heap.size := Nat.lt_of_lt_of_le hB hb.size
      have hxb := HG.out.one k x hx
      have hxw := HW.out k x hx
      have HX := Lib.hid hx
      have Hcr := Lib.hid ((hcx.below hb).mono hb.size)
      obtain ⟨d, nn⟩ := x
      dsimp only at g1 g2 hxb hxw
      by_cases hlast : k + 1 < l.length
      · obtain ⟨y, hy⟩ : ∃ y, l[k + 1]? = some y := ⟨l[k + 1], by simp [hlast]⟩
        obtain ⟨b', o', hA', hB', g3, g4⟩ := (hcx.below hb) (k + 1) _ hy
        obtain ⟨rfl, rfl⟩ : b = b' ∧ o = o' := by simpa using hA'
        have HY := Lib.hid hy
        obtain ⟨d', n'⟩ := y
        dsimp only at g3 g4
        clear hA' hB' g3 hx hy hcx
        have q0 : decide ((k : Int) + 1 < l.length) = true := by simp; omega
        by_cases hnn : n' = nn
        · have q1 : (n' == nn) = true := by simp [hnn]
          clear hnn
          go_wp2
          go_quiet (fail)
          go_wp2
          go_roundw
          case rel => exact ⟨k + 1, by omega, by go_num, below_drewN (hb.alloc hb.size _) _⟩
          case measure => simp [intOf]; omega
        · have q1 : (n' == nn) = false := by simp [hnn]
          have HNN := Lib.hid hnn
          clear hnn
          by_cases hmx : nn = 9223372036854775807
          · have q2 : (nn == 9223372036854775807) = true := by simp [hmx]
            clear hmx
            go_wp2
            go_quiet (fail)
            go_wp2
            go_roundw
            case rel => exact ⟨k + 1, by omega, by go_num, below_drewN (hb.alloc hb.size _) _⟩
            case measure => simp [intOf]; omega
          · have q2 : (nn == 9223372036854775807) = false := by simp [hmx]
            have hlt2 : nn < 9223372036854775807 := by omega
            clear hmx
            have HO := Lib.hid (opW_after HG.out k (d, nn) HX.out (fun z hz => by have e := HY.out; rw [e] at hz; cases hz; exact HNN.out))
            go_wp2
            go_quiet (fail)
            go_wp2_with fail
            refine (open_good H0.out (some ⟨b, o, none⟩) c (nn + 1) (by omega) _ (Hcr.out.up (below_drewN ((Below.refl _ wr).alloc (Nat.le_refl _) _) _)) hm (d + 1) HO.out).mono ?_
            rintro e w5 ⟨rfl, hb5⟩
            have hc5 : w5.cell? ⟨wr.heap.size, 0, none⟩ = some (.int .i64 d) := (hb5.cell (p := ⟨wr.heap.size, 0, none⟩) (by simp)).trans ((BlkC.new wr 30 #[.int .i64 d, .int .i64 nn]).cell 0)
            go_wp2_with fail
            go_roundw
            case rel => exact ⟨k + 1, by omega, by go_num, (below_drewN (hb.alloc hb.size _) _).trans (hb5.mono (by have := hb.size; simp; omega))⟩
            case measure => simp [intOf]; omega
      · have q0 : decide ((k : Int) + 1 < l.length) = false := by simp; omega
        clear hx hcx
        by_cases hmx : nn = 9223372036854775807
        · have q2 : (nn == 9223372036854775807) = true := by simp [hmx]
          clear hmx
          go_wp2
          go_quiet (fail)
          go_wp2
          go_roundw
          case rel => exact ⟨k + 1, by omega, by go_num, below_drewN (hb.alloc hb.size _) _⟩
          case measure => simp [intOf]; omega
        · have q2 : (nn == 9223372036854775807) = false := by simp [hmx]
          have hlt2 : nn < 9223372036854775807 := by omega
          clear hmx
          have HO := Lib.hid (opW_after HG.out k (d, nn) HX.out (fun z hz => by have := (List.getElem?_eq_some_iff.1 hz).1; omega))
          go_wp2
          go_quiet (fail)
          go_wp2_with fail
          refine (open_good H0.out (some ⟨b, o, none⟩) c (nn + 1) (by omega) _ (Hcr.out.up (below_drewN ((Below.refl _ wr).alloc (Nat.le_refl _) _) _)) hm (d + 1) HO.out).mono ?_
          rintro e w5 ⟨rfl, hb5⟩
          have hc5 : w5.cell? ⟨wr.heap.size, 0, none⟩ = some (.int .i64 d) := (hb5.cell (p := ⟨wr.heap.size, 0, none⟩) (by simp)).trans ((BlkC.new wr 30 #[.int .i64 d, .int .i64 nn]).cell 0)
          go_wp2_with fail
          go_roundw
          case rel => exact ⟨k + 1, by omega, by go_num, (below_drewN (hb.alloc hb.size _) _).trans (hb5.mono (by have := hb.size; simp; omega))⟩
          case measure => simp [intOf]; omega
    · go_wp2_with fail
      refine (awake_any _).mono ?_
      rintro e w6 ⟨rfl, hb6⟩
      go_wp2_with fail
      go_ret
      exact ⟨rfl, hb.trans (hb6.mono hb.size)⟩

set_option maxHeartbeats 2000000 in
theorem order_any (A : Option Addr) (c : Nat) (l : List (Int × Int)) (m n : Int) (w : World) (hc : Cl w w.heap.size A l) (hm : l.length ≤ 9223372036854775807) (hwf : ∀ (i : Nat) (x : Int × Int), l[i]? = some x → x.2 ≤ 9223372036854775807) :
    Calls Try.prog 3 #[.slice A l.length c, .int .i64 m, .int .i64 n] w fun e w' => e = .returned (.bool true) ∧ Below w.heap.size w w' := by
  by_cases hall : fineB l = true ∧ 0 ≤ m ∧ m ≤ n
  · exact order_fine A c l m n w hc hm hwf hall.1 hall.2.1 hall.2.2
  obtain ⟨f, hf⟩ : ∃ f, fineB l = f := ⟨_, rfl⟩
  have hF := fine_any A c l w hc hm
  rw [hf] at hF hall
  have HF := Lib.hid hF
  clear hF hc hf hwf
  have h3 : f = false ∨ f = true ∧ (m < 0 ∨ ¬ m < 0 ∧ n < m) := by
    cases f
    · exact .inl rfl
    · refine .inr ⟨rfl, ?_⟩
      by_cases a : m < 0
      · exact .inl a
      exact .inr ⟨a, Int.not_le.1 fun hn => hall ⟨rfl, by omega, hn⟩⟩
  clear hall
  rcases h3 with rfl | ⟨rfl, a | ⟨a, b⟩⟩
  · go_enter Try.func3, Try.ntmps3
    go_wp2_with fail
    refine HF.out.mono ?_
    rintro e w1 ⟨rfl, hb1⟩
    go_wp2_with fail
    refine (awake_any w1).mono ?_
    rintro e w7 ⟨rfl, hb7⟩
    have hB7 := hb1.trans (hb7.mono hb1.size)
    go_wp2_with fail
    go_ret
    exact ⟨rfl, hB7⟩
  · have k0 : decide (m < 0) = true := by simp; omega
    go_enter Try.func3, Try.ntmps3
    go_wp2_with fail
    refine HF.out.mono ?_
    rintro e w1 ⟨rfl, hb1⟩
    go_wp2_with fail
    refine (awake_any w1).mono ?_
    rintro e w7 ⟨rfl, hb7⟩
    have hB7 := hb1.trans (hb7.mono hb1.size)
    go_wp2_with fail
    go_ret
    exact ⟨rfl, hB7⟩
  · have k0 : decide (m < 0) = false := by simp; omega
    have k1 : decide (n < m) = true := by simp; omega
    go_enter Try.func3, Try.ntmps3
    go_wp2_with fail
    refine HF.out.mono ?_
    rintro e w1 ⟨rfl, hb1⟩
    go_wp2_with fail
    refine (awake_any w1).mono ?_
    rintro e w7 ⟨rfl, hb7⟩
    have hB7 := hb1.trans (hb7.mono hb1.size)
    go_wp2_with fail
    go_ret
    exact ⟨rfl, hB7⟩
end Go.Proofs.Ytopnhhgcoiomhaa
