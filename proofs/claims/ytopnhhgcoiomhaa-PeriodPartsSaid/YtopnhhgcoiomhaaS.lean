/- Period: S; for every input. -/
import Derived.Test.YtopnhhgcoiomhaaR
import Derived.Test.YtopnhhgcoiomhaaRows
import Derived.WalkKit
import Derived.ProofKit
import Derived.OpenShut
import Derived.WalkLawsBesides
import Derived.Deep.QuietTactic
import Derived.Deep.LoopGhost
import Derived.Deep.RegionWith
import Derived.BigQuiet
import Derived.Lib.Hide
namespace Go.Proofs.Ytopnhhgcoiomhaa
open Go.RowKit
theorem good_of_ck {l : List (Int × Int)} {kn d : Int} (h : ck l kn d = 0) : Good l := by
  unfold ck at h
  by_cases h1 : chk l = 0
  · exact good_of_chk h1
  · rw [if_pos h1] at h; omega

set_option maxRecDepth 100000 in
set_option maxHeartbeats 4000000 in
theorem days_any (A : Option Addr) (c : Nat) (l : List (Int × Int)) (kn d : Int) (w : World) (hc : Cl w w.heap.size A l) (hm : l.length ≤ 9223372036854775807) :
    Calls Try.prog 7 #[.slice A l.length c, .int .i64 kn, .int .i64 d] w fun e w' => e = .returned (.bool true) ∧ Below w.heap.size w w' := by
  have hG := great_any A l.length c w hm
  obtain ⟨g, hg⟩ : ∃ g, grt l.length = g := ⟨_, rfl⟩
  rw [hg] at hG
  have HG := Lib.hid hG
  clear hG hg
  cases g with
  | true =>
    clear hc
    go_enter Try.func7, Try.ntmps7
    go_wp2_with fail
    refine HG.out.mono ?_
    rintro e w1 ⟨rfl, rfl⟩
    go_wp2_with fail
    refine (awake_any _).mono ?_
    rintro e w7 ⟨rfl, hb7⟩
    go_wp2_with fail
    go_ret
    exact ⟨rfl, hb7⟩
  | false =>
    obtain ⟨o, ho⟩ : ∃ o, (if ck l kn 0 = 0 then opW l kn else 0) = o := ⟨_, rfl⟩
    obtain ⟨p, hp⟩ : ∃ o, (if ck l kn d = 0 then max d (opW l kn) else 0) = o := ⟨_, rfl⟩
    obtain ⟨b, hb⟩ : ∃ o, (if ck l kn d = 0 then decide (d < opW l kn) else false) = o := ⟨_, rfl⟩
    have ho' : (if ck l kn 0 = 0 then foldR l kn else 0) = o := by
      rw [← ho]; by_cases h : ck l kn 0 = 0
      · rw [foldR_eq (good_of_ck h)]
      · rw [if_neg h, if_neg h]
    have hp' : (if ck l kn d = 0 then max d (foldR l kn) else 0) = p := by
      rw [← hp]; by_cases h : ck l kn d = 0
      · rw [foldR_eq (good_of_ck h)]
      · rw [if_neg h, if_neg h]
    have hb' : (if ck l kn d = 0 then decide (d < foldR l kn) else false) = b := by
      rw [← hb]; by_cases h : ck l kn d = 0
      · rw [foldR_eq (good_of_ck h)]
      · rw [if_neg h, if_neg h]
    have C1 := fun W (h : Cl W W.heap.size A l) => Open_any A c l kn W h hm
    have C2 := fun W (h : Cl W W.heap.size A l) => rOpen_any A c l kn W h hm
    have C3 := fun W (h : Cl W W.heap.size A l) => Posting_any A c l kn d W h hm
    have C4 := fun W (h : Cl W W.heap.size A l) => rPosting_any A c l kn d W h hm
    have C5 := fun W (h : Cl W W.heap.size A l) => Closed_any A c l kn d W h hm
    have C6 := fun W (h : Cl W W.heap.size A l) => rClosed_any A c l kn d W h hm
    have C7 := fun W (h : Cl W W.heap.size A l) => Find_any A c l d W h hm
    have C8 := fun W (h : Cl W W.heap.size A l) => rFind_any A c l d W h hm
    simp only [ho, ho', hp, hp', hb, hb'] at C1 C2 C3 C4 C5 C6
    clear ho ho' hp hp' hb hb'
    generalize ck l kn 0 = e0 at C1 C2
    generalize ck l kn d = e1 at C3 C4 C5 C6
    generalize ck l 0 d = e2 at C7 C8
    generalize fndI l d = fi at C7 C8
    generalize fndB l d = fb at C7 C8
    have D1 := Lib.hid C1
    have D2 := Lib.hid C2
    have D3 := Lib.hid C3
    have D4 := Lib.hid C4
    have D5 := Lib.hid C5
    have D6 := Lib.hid C6
    have D7 := Lib.hid C7
    have D8 := Lib.hid C8
    have Hc0 := Lib.hid hc
    clear C1 C2 C3 C4 C5 C6 C7 C8 hc
    go_enter Try.func7, Try.ntmps7
    go_wp2_with fail
    refine HG.out.mono ?_
    rintro e w1 ⟨rfl, rfl⟩
    go_wp2_with fail
    refine (D1.out _ Hc0.out).mono ?_
    rintro e w1 ⟨rfl, hb1⟩
    have Hc1 := Lib.hid (Hc0.out.up hb1)
    go_wp2_with fail
    refine (D2.out _ Hc1.out).mono ?_
    rintro e w2 ⟨rfl, hb2⟩
    have Hc2 := Lib.hid (Hc1.out.up hb2)
    have hB2 := hb1.trans (hb2.mono hb1.size)
    go_wp2_with fail
    refine (D3.out _ Hc2.out).mono ?_
    rintro e w3 ⟨rfl, hb3⟩
    have Hc3 := Lib.hid (Hc2.out.up hb3)
    have hB3 := hB2.trans (hb3.mono hB2.size)
    go_wp2_with fail
    refine (D4.out _ Hc3.out).mono ?_
    rintro e w4 ⟨rfl, hb4⟩
    have Hc4 := Lib.hid (Hc3.out.up hb4)
    have hB4 := hB3.trans (hb4.mono hB3.size)
    go_wp2_with fail
    refine (D5.out _ Hc4.out).mono ?_
    rintro e w5 ⟨rfl, hb5⟩
    have Hc5 := Lib.hid (Hc4.out.up hb5)
    have hB5 := hB4.trans (hb5.mono hB4.size)
    go_wp2_with fail
    refine (D6.out _ Hc5.out).mono ?_
    rintro e w6 ⟨rfl, hb6⟩
    have Hc6 := Lib.hid (Hc5.out.up hb6)
    have hB6 := hB5.trans (hb6.mono hB5.size)
    go_wp2_with fail
    refine (D7.out _ Hc6.out).mono ?_
    rintro e w7 ⟨rfl, hb7⟩
    have Hc7 := Lib.hid (Hc6.out.up hb7)
    have hB7 := hB6.trans (hb7.mono hB6.size)
    go_wp2_with fail
    refine (D8.out _ Hc7.out).mono ?_
    rintro e w8 ⟨rfl, hb8⟩
    have hB8 := hB7.trans (hb8.mono hB7.size)
    go_wp2_with fail
    refine (awake_any _).mono ?_
    rintro e w9 ⟨rfl, hb9⟩
    have hB9 := hB8.trans (hb9.mono hB8.size)
    go_wp2_with fail
    go_ret
    exact ⟨rfl, hB9⟩
end Go.Proofs.Ytopnhhgcoiomhaa
