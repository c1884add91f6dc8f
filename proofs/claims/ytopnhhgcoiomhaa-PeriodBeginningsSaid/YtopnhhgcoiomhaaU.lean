/- Period: U; for every input. -/
import Derived.Test.YtopnhhgcoiomhaaY
import Derived.Test.YtopnhhgcoiomhaaRows
import Derived.WalkKit
import Derived.ProofKit
import Derived.OpenShut
import Derived.WalkLawsBesides
import Derived.Deep.QuietTactic
import Derived.Deep.LoopGhost
import Derived.Deep.RegionWith
import Derived.BigQuiet
import Derived.Lib.Hide
import Derived.Deep.RegionHeld3
namespace Go.Proofs.Ytopnhhgcoiomhaa
open Go.RowKit
/-- the error of Add -/
def addE (l : List (Int × Int)) (x : Int × Int) : Int := if chk l ≠ 0 then 1 else chk (l ++ [x])
/-- what a function that makes a slice of pairs hands back -/
def Handed (E : TypeId) (w : World) (err : Int) (l : List (Int × Int)) (e : Ending) (w' : World) : Prop :=
  ∃ v, e = .returned (.tuple #[v, .int .i64 err]) ∧ (err = 0 → w'.ownsRow w.heap.size E 2 v l.length (flat l)) ∧ (err ≠ 0 → v = .slice none 0 0) ∧ Below w.heap.size w w'

theorem chk_len {l : List (Int × Int)} (h : chk l = 0) : l.length ≤ 64 := (good_of_chk h).len
theorem flat_snoc (l : List (Int × Int)) (x : Int × Int) : flat (l ++ [x]) = flat l ++ [.int .i64 x.1, .int .i64 x.2] := by simp [flat]

/-- one pair in a block of its own -/
theorem reads_one (w : World) (e : TypeId) (x : Int × Int) : Reads (w.alloc (.cells #[.int .i64 x.1, .int .i64 x.2] e)) (w.heap.size + 1) 2 (some ⟨w.heap.size, 0, none⟩) 1 [.int .i64 x.1, .int .i64 x.2] := by
  refine ⟨rfl, fun _ => ⟨_, rfl, by simp, fun j u hu => ?_⟩⟩
  rw [Go.WideShapes.add_plain, Nat.zero_add]
  rw [(BlkC.new w e #[.int .i64 x.1, .int .i64 x.2]).cell j]
  simpa using hu
theorem one_pair (x : Int × Int) : ∀ u ∈ [Value.int .i64 x.1, Value.int .i64 x.2], u.oneCell' = true := by
  intro u hu; simp at hu; rcases hu with rfl | rfl <;> rfl

theorem own_below {w w' : World} {base : Nat} {e : TypeId} {size n : Nat} {v : Value} {xs : List Value} (h : w.ownsRow base e size v n xs) (hb : Below w.heap.size w w') : w'.ownsRow base e size v n xs := by
  obtain ⟨h1, h2⟩ := h
  refine ⟨h1, ?_⟩
  rcases h2 with h2 | ⟨g, cap, cur, hv, hg, hh, r⟩
  · exact .inl h2
  · exact .inr ⟨g, cap, cur, hv, hg, (hb.block g (Array.getElem?_eq_some_iff.1 hh).1).trans hh, r⟩
theorem own_base {w : World} {base base' : Nat} {e : TypeId} {size n : Nat} {v : Value} {xs : List Value} (h : w.ownsRow base e size v n xs) (hb : base' ≤ base) : w.ownsRow base' e size v n xs := by
  obtain ⟨h1, h2⟩ := h
  refine ⟨h1, ?_⟩
  rcases h2 with h2 | ⟨g, cap, cur, hv, hg, r⟩
  · exact .inl h2
  · exact .inr ⟨g, cap, cur, hv, by omega, r⟩

theorem own_ne {w : World} {base b : Nat} {e : TypeId} {size n : Nat} {v : Value} {xs : List Value} (h : w.ownsRow base e size v n xs) (hb : b < base) : some b ≠ v.ownBlock := by
  rcases h.2 with ⟨rfl, _⟩ | ⟨g, cap, cur, rfl, hg, _⟩
  · simp [Value.ownBlock]
  · simp [Value.ownBlock]; omega
theorem own_ge {w : World} {base b : Nat} {e : TypeId} {size n : Nat} {v : Value} {xs : List Value} (h : w.ownsRow base e size v n xs) (hb : v.ownBlock = some b) : base ≤ b := by
  rcases h.2 with ⟨rfl, _⟩ | ⟨g, cap, cur, rfl, hg, _⟩
  · simp [Value.ownBlock] at hb
  · simp [Value.ownBlock] at hb; omega

set_option maxRecDepth 100000 in
set_option maxHeartbeats 2000000 in
theorem Add_any (A : Option Addr) (c : Nat) (l : List (Int × Int)) (x : Int × Int) (w : World) (hc : Cl w w.heap.size A l) (hm : l.length ≤ 9223372036854775807) :
    Calls Try.prog 15 #[.slice A l.length c, .agg #[.int .i64 x.1, .int .i64 x.2]] w (Handed 30 w (addE l x) (l ++ [x])) := by
  obtain ⟨i0, hi0, hz0, hz1, hz2⟩ := info_parts info30
  have hb0 : Below w.heap.size w (w.alloc (.cells #[.int .i64 x.1, .int .i64 x.2] 30)) := (Below.refl _ _).alloc (Nat.le_refl _) _
  have hC := Check_any A c l _ (hc.up hb0) hm
  obtain ⟨r, hr⟩ : ∃ r, chk l = r := ⟨_, rfl⟩
  rw [hr] at hC
  have HC := Lib.hid hC
  have HR := Lib.hid hr
  have Hc := Lib.hid hc
  clear hC hr hc
  by_cases h0 : r = 0
  · subst h0
    have hlen := chk_len HR.out
    have HE := Lib.hid (show addE l x = chk (l ++ [x]) by simp [addE, HR.out])
    obtain ⟨s, hs⟩ : ∃ s, chk (l ++ [x]) = s := ⟨_, rfl⟩
    have HS := Lib.hid hs
    clear hs
    go_enter Try.func15, Try.ntmps15
    go_wp2_with fail
    refine HC.out.mono ?_
    rintro e w1 ⟨rfl, hb1⟩
    have Hc1 := Lib.hid ((Hc.out.up hb0).up hb1)
    have hB1 := hb0.trans (hb1.mono hb0.size)
    have hx1 : w1.cell? ⟨w.heap.size, 0, none⟩ = some (.int .i64 x.1) := (hb1.cell (p := ⟨w.heap.size, 0, none⟩) (by simp)).trans ((BlkC.new w 30 #[.int .i64 x.1, .int .i64 x.2]).cell 0)
    have hx2 : w1.cell? ⟨w.heap.size, 1, none⟩ = some (.int .i64 x.2) := (hb1.cell (p := ⟨w.heap.size, 1, none⟩) (by simp)).trans ((BlkC.new w 30 #[.int .i64 x.1, .int .i64 x.2]).cell 1)
    go_wp2_with fail
    have hsz1 := hb1.size
    have hsz : w.heap.size + 1 ≤ w1.heap.size := by simpa using hsz1
    go_region_held3 (fun w' => w'.cell? ⟨w.heap.size, 0, none⟩ = some (.int .i64 x.1) ∧ w'.cell? ⟨w.heap.size, 1, none⟩ = some (.int .i64 x.2))
      (first
        | go_keep
        | (go_split_ands; refine ⟨(hb2.cell (p := ⟨w.heap.size, 0, none⟩) (by simp; omega)).trans ?_, (hb2.cell (p := ⟨w.heap.size, 1, none⟩) (by simp; omega)).trans ?_⟩ <;> (first | assumption | (simp; assumption)))
        | (go_split_ands; refine ⟨(hg3.cell_far _ (by have := hb2.size; simp at this ⊢; omega) (own_ne hown2 (by simp; omega))).trans ?_, (hg3.cell_far _ (by have := hb2.size; simp at this ⊢; omega) (own_ne hown2 (by simp; omega))).trans ?_⟩ <;> (first | assumption | (simp; assumption))))
      (first
        | (go_at_call 32; refine (clone_any A c l _ ?_ hlen).mono ?_; (first | exact Hc1.out.up ((Below.refl _ _).drew) | exact Hc1.out.up (((Below.refl _ _).alloc (Nat.le_refl _) _).drew)); rintro e w2 ⟨v2, rfl, hown2, hb2⟩)
        | (refine step_append_any _ (by rfl) (.tmp 12) (.tmp 14) 22 (by rfl) w.heap.size 30 i0 _ 2 16 Try.underlying22 hi0 hz0 hz1 hz2 rfl (by omega) v2 l.length (flat l) (by rfl) ((own_base hown2 (by simp; omega)).alloc _) (w2.heap.size + 1) _ 1 1 [.int .i64 x.1, .int .i64 x.2] (by rfl) (reads_one w2 30 x) (one_pair x) (by simp only [maxLen]; omega) (by omega) (by have := hb2.size; simp at this ⊢; omega) ?_; intro v3 w3 hown3 hg3 hat3)
        | (refine step_append_any _ (by rfl) (.tmp 12) (.tmp 14) 22 (by rfl) w.heap.size 30 i0 _ 2 16 Try.underlying22 hi0 hz0 hz1 hz2 rfl (by omega) v2 l.length (flat l) (by rfl) (own_base hown2 (by simp; omega)) (w2.heap.size + 1) _ 1 1 [.int .i64 x.1, .int .i64 x.2] (by rfl) ((((reads_one w1 30 x).drew).below (hb2.mono (by simp))).more (by have := hb2.size; simp at this ⊢; omega)) (one_pair x) (by simp only [maxLen]; omega) (by omega) (by have := hb2.size; simp at this ⊢; omega) ?_; intro v3 w3 hown3 hg3 hat3))
    all_goals
      have hB2 : Below w.heap.size w w2 := by
        first
          | exact hB1.drew.trans (hb2.mono hB1.size)
          | exact ((hB1.alloc hB1.size _).drew).trans (hb2.mono (by have := hB1.size; simp; omega))
      have hB3 : Below w.heap.size w w3 := by
        first
          | exact (hB2.alloc hB2.size _).grown hg3 (by have := hB2.size; simp; omega) (fun k hk => Nat.le_trans (by simp; omega) (own_ge hown2 hk))
          | exact hB2.grown hg3 hB2.size (fun k hk => Nat.le_trans (by simp; omega) (own_ge hown2 hk))
      have HO3 : Hid (w3.ownsRow w.heap.size 30 2 v3 (l ++ [x]).length (flat (l ++ [x]))) := by
        have := hown3; rw [flat_snoc, List.length_append]; exact this
      clear hown3 hg3 hat3 hown2 hb2 hB2
      obtain ⟨A3, c3, hv3, hc3, _, _⟩ := cl_of_own HO3.out
      have hC3 := Check_any A3 c3 (l ++ [x]) w3 hc3 (by simp; omega)
      rw [HS.out] at hC3
      simp only [List.length_append, List.length_cons, List.length_nil, Nat.zero_add] at hC3 hv3
      subst hv3
      have HC3 := Lib.hid hC3
      clear hC3 hc3
      by_cases hs0 : s = 0
      · have q : (s != 0) = false := by simp [hs0]
        have HS0 := Lib.hid hs0
        clear hs0
        go_wp2_with fail
        refine HC3.out.mono ?_
        rintro e w4 ⟨rfl, hb4⟩
        go_wp2_with fail
        go_ret2
        have he : addE l x = 0 := by rw [HE.out, HS.out, HS0.out]
        refine ⟨_, by rw [he]; rfl, fun _ => ?_, fun h => absurd he h, hB3.trans (hb4.mono hB3.size)⟩
        exact own_below HO3.out hb4
      · have q : (s != 0) = true := by simp [hs0]
        go_wp2_with fail
        refine HC3.out.mono ?_
        rintro e w4 ⟨rfl, hb4⟩
        go_wp2_with fail
        go_ret2
        have he : addE l x = s := by rw [HE.out, HS.out]
        exact ⟨_, by rw [he]; rfl, fun h => absurd (he ▸ h) hs0, fun _ => rfl, hB3.trans (hb4.mono hB3.size)⟩
  · have h0b : (r != 0) = true := by simp [h0]
    have HE := Lib.hid (show addE l x = 1 by simp [addE, HR.out, h0])
    go_enter Try.func15, Try.ntmps15
    go_wp2_with fail
    refine HC.out.mono ?_
    rintro e w1 ⟨rfl, hb1⟩
    go_wp2_with fail
    go_ret2
    exact ⟨_, by rw [HE.out]; rfl, fun h => by rw [HE.out] at h; omega, fun _ => rfl, hb0.trans (hb1.mono hb0.size)⟩
end Go.Proofs.Ytopnhhgcoiomhaa
