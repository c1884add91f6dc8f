/- Period: AB; for every input. -/
import Derived.Test.YtopnhhgcoiomhaaU
import Derived.Test.YtopnhhgcoiomhaaRows
import Derived.WalkKit
import Derived.ProofKit
import Derived.OpenShut
import Derived.WalkLawsBesides
import Derived.Deep.QuietTactic
import Derived.Deep.LoopGhost
import Derived.Deep.RegionWith
import Derived.BigQuiet
import Derived.Lib.Hide
import Derived.Lib.SmallJoins
import Derived.Deep.RegionHeld3
namespace Go.Proofs.Ytopnhhgcoiomhaa
open Go.RowKit
/-- the copy, after k rounds -/
def Own30 (w wr : World) (v : Value) (k : Nat) (l : List (Int × Int)) : Prop := wr.ownsRow w.heap.size 30 2 v k (flat (l.take k))
theorem own30_ge {w wr : World} {v : Value} {k : Nat} {l : List (Int × Int)} (h : Own30 w wr v k l) : ∀ b, v.ownBlock = some b → w.heap.size ≤ b := fun _ hb => own_ge h hb
theorem chk_many {l : List (Int × Int)} (h : 64 < l.length) : chk l = 4 := by simp [chk, h]

theorem added {w : World} {base k : Nat} {l : List (Int × Int)} {x : Int × Int} {v : Value} (hk : k = l.length) (h : w.ownsRow base 30 2 v (k + 1) (flat (l.take k) ++ [.int .i64 x.1, .int .i64 x.2])) :
    ∃ A c, v = .slice A (l.length + 1) c ∧ Cl w w.heap.size A (l ++ [x]) ∧ w.ownsRow base 30 2 (.slice A (l.length + 1) c) (l.length + 1) (flat (l ++ [x])) := by
  subst hk
  rw [List.take_length, ← flat_snoc] at h
  have h' : w.ownsRow base 30 2 v (l ++ [x]).length (flat (l ++ [x])) := by simpa using h
  obtain ⟨A, c, hv, hc, _, _⟩ := cl_of_own h'
  refine ⟨A, c, by simpa using hv, hc, ?_⟩
  have e : v = .slice A (l.length + 1) c := by simpa using hv
  rw [← e]
  exact h

set_option maxRecDepth 100000 in
set_option maxHeartbeats 2000000 in
theorem rAdd_any (A : Option Addr) (c : Nat) (l : List (Int × Int)) (x : Int × Int) (w : World) (hc : Cl w w.heap.size A l) (hm : l.length ≤ 9223372036854775807) :
    Calls Try.prog 25 #[.slice A l.length c, .agg #[.int .i64 x.1, .int .i64 x.2]] w (Handed 30 w (addE l x) (l ++ [x])) := by
  obtain ⟨i0, hi0, hz0, hz1, hz2⟩ := info_parts info30
  have hb0 : Below w.heap.size w (w.alloc (.cells #[.int .i64 x.1, .int .i64 x.2] 30)) := (Below.refl _ _).alloc (Nat.le_refl _) _
  have hC := rCheck_any A c l _ (hc.up hb0) hm
  obtain ⟨r, hr⟩ : ∃ r, chk l = r := ⟨_, rfl⟩
  rw [hr] at hC
  have HC := Lib.hid hC
  have HR := Lib.hid hr
  have Hc := Lib.hid hc
  clear hC hr hc
  by_cases h0 : r = 0
  · subst h0
    have hlen := chk_len HR.out
    have HE := Lib.hid (show addE l x = chk (l ++ [x]) by simp [addE, HR.out])
    by_cases h64 : l.length = 64
    · have q64 : ((l.length : Int) == 64) = true := by simp; omega
      have HE4 := Lib.hid (show addE l x = 4 by rw [HE.out, chk_many (by simp; omega)])
      clear h64
      go_enter Try.func25, Try.ntmps25
      go_wp2_with (go_at_call 27; refine HC.out.mono ?_; rintro e w1 ⟨rfl, hb1⟩)
      go_ret2
      exact ⟨_, by rw [HE4.out]; rfl, fun h => by rw [HE4.out] at h; omega, fun _ => rfl, hb0.trans (hb1.mono hb0.size)⟩
    · have q64 : ((l.length : Int) == 64) = false := by simp; omega
      clear h64
      obtain ⟨s, hs⟩ : ∃ s, chk (l ++ [x]) = s := ⟨_, rfl⟩
      have HS := Lib.hid hs
      clear hs
      go_enter Try.func25, Try.ntmps25
      go_wp2_with (go_at_call 27; refine HC.out.mono ?_; rintro e w1 ⟨rfl, hb1⟩)
      have hB1 := hb0.trans (hb1.mono hb0.size)
      have hsz1 := hb1.size
      have hsz : w.heap.size + 1 ≤ w1.heap.size := by simpa using hsz1
      have hx1 : w1.cell? ⟨w.heap.size, 0, none⟩ = some (.int .i64 x.1) := (hb1.cell (p := ⟨w.heap.size, 0, none⟩) (by simp)).trans ((BlkC.new w 30 #[.int .i64 x.1, .int .i64 x.2]).cell 0)
      have hx2 : w1.cell? ⟨w.heap.size, 1, none⟩ = some (.int .i64 x.2) := (hb1.cell (p := ⟨w.heap.size, 1, none⟩) (by simp)).trans ((BlkC.new w 30 #[.int .i64 x.1, .int .i64 x.2]).cell 1)
      have HX1 := Lib.hid hx1
      have HX2 := Lib.hid hx2
      clear hx1 hx2
      go_loopw [6, 7] (fun v i wr => ∃ k : Nat, k ≤ l.length ∧ i = .int .i64 k ∧ Own30 w1 wr v k l ∧ Below w1.heap.size w1 wr) (fun _ i _ => l.length - (intOf i).toNat)
      case atStart => exact ⟨0, by omega, rfl, own_empty w1 30 2, (Below.refl _ _).alloc (Nat.le_refl _) _⟩
      case round =>
        obtain ⟨k, hk, rfl, hown, hb⟩ := hrel
        have hB := hB1.trans (hb.mono hB1.size)
        have HO := Lib.hid hown
        clear hown
        by_cases hlt : k < l.length
        · obtain ⟨y, hy⟩ : ∃ y, l[k]? = some y := ⟨l[k], by simp [hlt]⟩
          obtain ⟨b, o, hA, hBl, g1, g2⟩ := (Hc.out.below hB) k _ hy
          subst hA
          have HT : Hid (l.take (k + 1) = l.take k ++ [y]) := by show l.take (k + 1) = l.take k ++ [y]; rw [List.take_add_one, hy]; rfl
          clear hy
          go_wp2_with (at_builtin; refine wpList_append_any _ rfl (.tmp 22) (.tmp 27) _ rfl w1.heap.size 30 i0 _ 2 16 Try.underlying22 hi0 hz0 hz1 hz2 rfl (by omega) _ k (flat (l.take k)) rfl (HO.out.alloc _) (wr.heap.size + 1) (some ⟨wr.heap.size, 0, none⟩) 1 1 [.int .i64 y.1, .int .i64 y.2] rfl (reads_one wr 30 y) (one_pair y) (by simp only [maxLen]; omega) (by omega) (by have := hb.size; simp; omega) ?_; intro v3 w3 hown3 hg3 hat3)
          have hB3 : Below w1.heap.size w1 w3 := (hb.alloc hb.size _).grown hg3 (by have := hb.size; simp; omega) (own30_ge HO.out)
          have HO3 : Hid (Own30 w1 w3 v3 (k + 1) l) := by
            show w3.ownsRow w1.heap.size 30 2 v3 (k + 1) (flat (l.take (k + 1)))
            rw [HT.out, flat_snoc]
            exact hown3
          clear hown3 hg3 hat3
          go_roundw
          case rel => exact ⟨k + 1, by omega, by go_num, HO3.out, hB3⟩
          case measure => simp [intOf]; omega
        · have HK := Lib.hid (show k = l.length by omega)
          have hx1 := (hb.cell (p := ⟨w.heap.size, 0, none⟩) (by simp; omega)).trans HX1.out
          have hx2 := (hb.cell (p := ⟨w.heap.size, 1, none⟩) (by simp; omega)).trans HX2.out
          go_wp2_with (at_builtin; refine wpList_append_any _ rfl (.tmp 29) (.tmp 31) _ rfl w1.heap.size 30 i0 _ 2 16 Try.underlying22 hi0 hz0 hz1 hz2 rfl (by omega) _ k (flat (l.take k)) rfl (HO.out.alloc _) (wr.heap.size + 1) (some ⟨wr.heap.size, 0, none⟩) 1 1 [.int .i64 x.1, .int .i64 x.2] rfl (reads_one wr 30 x) (one_pair x) (by simp only [maxLen]; omega) (by omega) (by have := hb.size; simp; omega) ?_; intro v3 w3 hown3 hg3 hat3; obtain ⟨A3, c3, hv3, hcl3, hown4⟩ := added HK.out hown3; subst hv3; have HCL := Lib.hid hcl3; have HOW := Lib.hid hown4; have HGR := Lib.hid hg3; clear hown3 hg3 hat3 hcl3 hown4)
          have hB3 : Below w.heap.size w w3 := (hB.alloc hB.size _).grown HGR.out (by have := hB.size; simp; omega) (fun b hb' => Nat.le_trans hB1.size (own30_ge HO.out b hb'))
          have hC3 := rCheck_any A3 c3 (l ++ [x]) w3 HCL.out (by simp; omega)
          rw [HS.out] at hC3
          simp only [List.length_append, List.length_cons, List.length_nil, Nat.zero_add] at hC3
          have HC3 := Lib.hid hC3
          clear hC3
          by_cases hs0 : s = 0
          · have q : (s != 0) = false := by simp [hs0]
            have HS0 := Lib.hid hs0
            clear hs0
            refine HC3.out.mono ?_
            rintro e w4 ⟨rfl, hb4⟩
            go_wp2_with fail
            go_ret2
            have he : addE l x = 0 := by rw [HE.out, HS.out, HS0.out]
            refine ⟨_, by rw [he]; rfl, fun _ => ?_, fun h => absurd he h, hB3.trans (hb4.mono hB3.size)⟩
            have := own_base (own_below HOW.out hb4) hB1.size
            rw [List.length_append]
            exact this
          · have q : (s != 0) = true := by simp [hs0]
            refine HC3.out.mono ?_
            rintro e w4 ⟨rfl, hb4⟩
            go_wp2_with fail
            go_ret2
            have he : addE l x = s := by rw [HE.out, HS.out]
            exact ⟨_, by rw [he]; rfl, fun h => absurd (he ▸ h) hs0, fun _ => rfl, hB3.trans (hb4.mono hB3.size)⟩
  · have h0b : (r != 0) = true := by simp [h0]
    have HE := Lib.hid (show addE l x = 1 by simp [addE, HR.out, h0])
    go_enter Try.func25, Try.ntmps25
    go_wp2_with fail
    refine HC.out.mono ?_
    rintro e w1 ⟨rfl, hb1⟩
    go_wp2_with fail
    go_ret2
    exact ⟨_, by rw [HE.out]; rfl, fun h => by rw [HE.out] at h; omega, fun _ => rfl, hb0.trans (hb1.mono hb0.size)⟩
end Go.Proofs.Ytopnhhgcoiomhaa
