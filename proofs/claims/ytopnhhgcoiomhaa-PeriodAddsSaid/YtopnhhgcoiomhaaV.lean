/- Period: V; for every input. -/
import Derived.Test.YtopnhhgcoiomhaaU
import Derived.Test.YtopnhhgcoiomhaaRows
import Derived.WalkKit
import Derived.ProofKit
import Derived.OpenShut
import Derived.WalkLawsBesides
import Derived.Deep.QuietTactic
import Derived.Deep.LoopGhost
import Derived.Deep.RegionWith
import Derived.BigQuiet
import Derived.Lib.Hide
import Derived.Lib.SmallJoins
import Derived.Deep.RegionHeld3
namespace Go.Proofs.Ytopnhhgcoiomhaa
open Go.RowKit Go.ChangeShapes Go.WideShapes Go.Deep Go.ChangeAt
theorem tw_append (l : List (Int × Int)) (x : Int × Int) (kn : Int) (h : kn ≤ x.2) : (l ++ [x]).takeWhile (fun z => decide (z.2 < kn)) = l.takeWhile (fun z => decide (z.2 < kn)) := by
  induction l with
  | nil => rw [List.nil_append, List.takeWhile_cons, if_neg (by simp; omega)]; rfl
  | cons a l ih => by_cases ha : a.2 < kn <;> simp [ha, ih]
theorem opW_before (l : List (Int × Int)) (x : Int × Int) (kn : Int) (h : kn ≤ x.2) : opW (l ++ [x]) kn = opW l kn := by
  unfold opW; rw [tw_append l x kn h]
theorem opW_behind {l : List (Int × Int)} {x : Int × Int} {kn : Int} (hg : Good (l ++ [x])) (h : x.2 < kn) : opW (l ++ [x]) kn = x.1 + 1 := by
  have hx : (l ++ [x])[l.length]? = some x := by simp
  have e : (l ++ [x]).takeWhile (fun z => decide (z.2 < kn)) = (l ++ [x]).take (l.length + 1) := by
    rw [takeWhile_all]
    · rw [List.take_of_length_le (by simp)]
    · intro j y hy
      have hj := (List.getElem?_eq_some_iff.1 hy).1
      simp at hj
      have := hg.mono j l.length y x (by omega) hy hx
      omega
  unfold opW
  rw [e, lastW_take hg _ (by simp), dayAt_succ hx]

set_option maxRecDepth 100000 in
set_option maxHeartbeats 2000000 in
theorem adds_fine (A : Option Addr) (c : Nat) (l : List (Int × Int)) (x : Int × Int) (kn d : Int) (w : World) (hc : Cl w w.heap.size A l) (hm : l.length ≤ 9223372036854775807)
    (hf : fineB l = true) (hk : 0 ≤ kn) (h1 : -25567 ≤ d) (h2 : d ≤ 84005) :
    Calls Try.prog 5 #[.slice A l.length c, .agg #[.int .i64 x.1, .int .i64 x.2], .int .i64 kn, .int .i64 d] w fun e w' => e = .returned (.bool true) ∧ Below w.heap.size w w' := by
  obtain ⟨h0, hg⟩ := fine_good hf
  have hlen := hg.len
  have hb0 : Below w.heap.size w (w.alloc (.cells #[.int .i64 x.1, .int .i64 x.2] 30)) := (Below.refl _ _).alloc (Nat.le_refl _) _
  have Hc0 := Lib.hid (hc.up hb0)
  have hF := fine_any A c l _ Hc0.out hm
  rw [hf] at hF
  have HF := Lib.hid hF
  have H0 := Lib.hid h0
  clear hF hc h0 hf hg
  have k0 : decide (kn < 0) = false := by simp; omega
  have k1 : decide (d < -25567) = false := by simp; omega
  have k2 : decide (84005 < d) = false := by simp; omega
  obtain ⟨s, hs⟩ : ∃ s, addE l x = s := ⟨_, rfl⟩
  have HS := Lib.hid hs
  clear hs
  go_enter Try.func5, Try.ntmps5
  go_wp2_with fail
  refine HF.out.mono ?_
  rintro e w1 ⟨rfl, hb1⟩
  have Hc1 := Lib.hid (Hc0.out.up hb1)
  have hB1 := hb0.trans (hb1.mono hb0.size)
  have hx1 : w1.cell? ⟨w.heap.size, 0, none⟩ = some (.int .i64 x.1) := (hb1.cell (p := ⟨w.heap.size, 0, none⟩) (by simp)).trans ((BlkC.new w 30 #[.int .i64 x.1, .int .i64 x.2]).cell 0)
  have hx2 : w1.cell? ⟨w.heap.size, 1, none⟩ = some (.int .i64 x.2) := (hb1.cell (p := ⟨w.heap.size, 1, none⟩) (by simp)).trans ((BlkC.new w 30 #[.int .i64 x.1, .int .i64 x.2]).cell 1)
  have hsz1 := hb1.size
  have hsz : w.heap.size + 1 ≤ w1.heap.size := by simpa using hsz1
  go_wp2_with fail
  refine (Add_any A c l x w1 Hc1.out hm).mono ?_
  rintro e w2 ⟨v2, rfl, hok, hno, hb2⟩
  rw [HS.out] at hok hno ⊢
  have hB2 := hB1.trans (hb2.mono hB1.size)
  have hx1' := (hb2.cell (p := ⟨w.heap.size, 0, none⟩) (by simp; omega)).trans hx1
  have hx2' := (hb2.cell (p := ⟨w.heap.size, 1, none⟩) (by simp; omega)).trans hx2
  clear hx1 hx2
  by_cases hs0 : s = 0
  · have hown := hok hs0
    have q : (s != 0) = false := by simp [hs0]
    have he : chk (l ++ [x]) = 0 := by have := HS.out; rw [hs0] at this; unfold addE at this; rw [H0.out] at this; simpa using this
    have hg2 := Lib.hid (good_of_chk he)
    have HE := Lib.hid he
    obtain ⟨A2, c2, hv2, hc2, _, _⟩ := cl_of_own hown
    have Hc2 := Lib.hid hc2
    have Hcl := Lib.hid (Hc1.out.up hb2)
    simp only [List.length_append, List.length_cons, List.length_nil, Nat.zero_add] at hv2
    subst hv2
    clear hok hno hown he hc2 hs0
    obtain ⟨o, ho⟩ : ∃ o, decide (d < opW l kn) = o := ⟨_, rfl⟩
    obtain ⟨o2, ho2⟩ : ∃ o, decide (d < opW (l ++ [x]) kn) = o := ⟨_, rfl⟩
    have HO := Lib.hid ho
    have HO2 := Lib.hid ho2
    clear ho ho2
    have C2 := fun W (h : Cl W W.heap.size A2 (l ++ [x])) => closed_good HE.out A2 c2 kn d hk h1 h2 W h (by simp; omega) o2 HO2.out
    have C3 := fun W (h : Cl W W.heap.size A2 (l ++ [x])) => Check_any A2 c2 (l ++ [x]) W h (by simp; omega)
    rw [HE.out] at C3
    simp only [List.length_append, List.length_cons, List.length_nil, Nat.zero_add] at C2 C3
    have D2 := Lib.hid C2
    have D3 := Lib.hid C3
    clear C2 C3
    go_wp2_with fail
    refine (closed_good H0.out A c kn d hk h1 h2 w2 Hcl.out hm o HO.out).mono ?_
    rintro e w3 ⟨rfl, hb3⟩
    have hB3 := hB2.trans (hb3.mono hB2.size)
    have Hc3 := Lib.hid (Hc2.out.up hb3)
    have hx13 := (hb3.cell (p := ⟨w.heap.size, 0, none⟩) (by have := hb2.size; simp; omega)).trans hx1'
    have hx23 := (hb3.cell (p := ⟨w.heap.size, 1, none⟩) (by have := hb2.size; simp; omega)).trans hx2'
    clear hx1' hx2'
    go_wp2_with fail
    refine (D2.out _ Hc3.out).mono ?_
    rintro e w4 ⟨rfl, hb4⟩
    have hB4 := hB3.trans (hb4.mono hB3.size)
    have Hc4 := Lib.hid (Hc3.out.up hb4)
    have hx14 := (hb4.cell (p := ⟨w.heap.size, 0, none⟩) (by have := hb2.size; have := hb3.size; simp; omega)).trans hx13
    have hx24 := (hb4.cell (p := ⟨w.heap.size, 1, none⟩) (by have := hb2.size; have := hb3.size; simp; omega)).trans hx23
    clear hx13 hx23
    go_wp2_with fail
    refine (D3.out _ Hc4.out).mono ?_
    rintro e w5 ⟨rfl, hb5⟩
    have hB5 := hB4.trans (hb5.mono hB4.size)
    have hx15 := (hb5.cell (p := ⟨w.heap.size, 0, none⟩) (by have := hb2.size; have := hb3.size; have := hb4.size; simp; omega)).trans hx14
    have hx25 := (hb5.cell (p := ⟨w.heap.size, 1, none⟩) (by have := hb2.size; have := hb3.size; have := hb4.size; simp; omega)).trans hx24
    clear hx14 hx24
    by_cases hkx : kn ≤ x.2
    · have e : o2 = o := by rw [← HO.out, ← HO2.out, opW_before l x kn hkx]
      subst e
      go_wp2_with fail
      refine (awake_any _).mono ?_
      rintro e w6 ⟨rfl, hb6⟩
      have hB6 := hB5.trans (hb6.mono hB5.size)
      go_wp2_with fail
      go_ret
      exact ⟨rfl, hB6⟩
    · have e : o2 = decide (d ≤ x.1) := by rw [← HO2.out, opW_behind hg2.out (by omega)]; simp; omega
      have q5 : (o2 == decide (d ≤ x.1)) = true := by simp [e]
      clear e
      go_wp2_with fail
      refine (awake_any _).mono ?_
      rintro e w6 ⟨rfl, hb6⟩
      have hB6 := hB5.trans (hb6.mono hB5.size)
      go_wp2_with fail
      go_ret
      exact ⟨rfl, hB6⟩
  · have hv := hno hs0
    subst hv
    have q : (s != 0) = true := by simp [hs0]
    clear hok hno
    go_wp2_with fail
    refine (awake_any _).mono ?_
    rintro e w6 ⟨rfl, hb6⟩
    have hB6 := hB2.trans (hb6.mono hB2.size)
    go_wp2_with fail
    go_ret
    exact ⟨rfl, hB6⟩

set_option maxHeartbeats 2000000 in
theorem adds_any (A : Option Addr) (c : Nat) (l : List (Int × Int)) (x : Int × Int) (kn d : Int) (w : World) (hc : Cl w w.heap.size A l) (hm : l.length ≤ 9223372036854775807) :
    Calls Try.prog 5 #[.slice A l.length c, .agg #[.int .i64 x.1, .int .i64 x.2], .int .i64 kn, .int .i64 d] w fun e w' => e = .returned (.bool true) ∧ Below w.heap.size w w' := by
  by_cases hall : fineB l = true ∧ 0 ≤ kn ∧ -25567 ≤ d ∧ d ≤ 84005
  · exact adds_fine A c l x kn d w hc hm hall.1 hall.2.1 hall.2.2.1 hall.2.2.2
  have hb0 : Below w.heap.size w (w.alloc (.cells #[.int .i64 x.1, .int .i64 x.2] 30)) := (Below.refl _ _).alloc (Nat.le_refl _) _
  obtain ⟨f, hf⟩ : ∃ f, fineB l = f := ⟨_, rfl⟩
  have hF := fine_any A c l _ (hc.up hb0) hm
  rw [hf] at hF hall
  have HF := Lib.hid hF
  clear hF hc hf
  have h3 : f = false ∨ f = true ∧ (kn < 0 ∨ ¬ kn < 0 ∧ (d < -25567 ∨ ¬ d < -25567 ∧ 84005 < d)) := by
    cases f
    · exact .inl rfl
    refine .inr ⟨rfl, ?_⟩
    by_cases a : kn < 0
    · exact .inl a
    by_cases b : d < -25567
    · exact .inr ⟨a, .inl b⟩
    exact .inr ⟨a, .inr ⟨b, Int.not_le.1 fun hn => hall ⟨rfl, by omega, by omega, hn⟩⟩⟩
  clear hall
  rcases h3 with rfl | ⟨rfl, a | ⟨a, b | ⟨b, b'⟩⟩⟩
  · go_enter Try.func5, Try.ntmps5
    go_wp2_with fail
    refine HF.out.mono ?_
    rintro e w1 ⟨rfl, hb1⟩
    go_wp2_with fail
    refine (awake_any w1).mono ?_
    rintro e w7 ⟨rfl, hb7⟩
    have hB1 := hb0.trans (hb1.mono hb0.size)
    have hB7 := hB1.trans (hb7.mono hB1.size)
    go_wp2_with fail
    go_ret
    exact ⟨rfl, hB7⟩
  · have k0 : decide (kn < 0) = true := by simp; omega
    go_enter Try.func5, Try.ntmps5
    go_wp2_with fail
    refine HF.out.mono ?_
    rintro e w1 ⟨rfl, hb1⟩
    go_wp2_with fail
    refine (awake_any w1).mono ?_
    rintro e w7 ⟨rfl, hb7⟩
    have hB1 := hb0.trans (hb1.mono hb0.size)
    have hB7 := hB1.trans (hb7.mono hB1.size)
    go_wp2_with fail
    go_ret
    exact ⟨rfl, hB7⟩
  · have k0 : decide (kn < 0) = false := by simp; omega
    have k1 : decide (d < -25567) = true := by simp; omega
    go_enter Try.func5, Try.ntmps5
    go_wp2_with fail
    refine HF.out.mono ?_
    rintro e w1 ⟨rfl, hb1⟩
    go_wp2_with fail
    refine (awake_any w1).mono ?_
    rintro e w7 ⟨rfl, hb7⟩
    have hB1 := hb0.trans (hb1.mono hb0.size)
    have hB7 := hB1.trans (hb7.mono hB1.size)
    go_wp2_with fail
    go_ret
    exact ⟨rfl, hB7⟩
  · have k0 : decide (kn < 0) = false := by simp; omega
    have k1 : decide (d < -25567) = false := by simp; omega
    have k2 : decide (84005 < d) = true := by simp; omega
    go_enter Try.func5, Try.ntmps5
    go_wp2_with fail
    refine HF.out.mono ?_
    rintro e w1 ⟨rfl, hb1⟩
    go_wp2_with fail
    refine (awake_any w1).mono ?_
    rintro e w7 ⟨rfl, hb7⟩
    have hB1 := hb0.trans (hb1.mono hb0.size)
    have hB7 := hB1.trans (hb7.mono hB1.size)
    go_wp2_with fail
    go_ret
    exact ⟨rfl, hB7⟩
end Go.Proofs.Ytopnhhgcoiomhaa
