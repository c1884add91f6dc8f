/- Period: AA; for every input. -/
import Derived.Test.YtopnhhgcoiomhaaU
import Derived.Test.YtopnhhgcoiomhaaRows
import Derived.WalkKit
import Derived.ProofKit
import Derived.OpenShut
import Derived.WalkLawsBesides
import Derived.Deep.QuietTactic
import Derived.Deep.LoopGhost
import Derived.Deep.RegionWith
import Derived.BigQuiet
import Derived.Lib.Hide
import Derived.Lib.SmallJoins
import Derived.Deep.RegionHeld3
namespace Go.Proofs.Ytopnhhgcoiomhaa
open Go.RowKit
/-- the first k closed periods -/
def prd (l : List (Int × Int)) (k : Nat) : List (Int × Int) := (List.range k).map (fun j => (dayAt l j, dayAt l (j + 1)))
theorem prd_len (l : List (Int × Int)) (k : Nat) : (prd l k).length = k := by simp [prd]
theorem prd_succ (l : List (Int × Int)) (k : Nat) : prd l (k + 1) = prd l k ++ [(dayAt l k, dayAt l (k + 1))] := by simp [prd, List.range_succ]
theorem prd_get (l : List (Int × Int)) (n k : Nat) (h : k < n) : (prd l n)[k]? = some (dayAt l k, dayAt l (k + 1)) := by simp [prd, h]

def perE (l : List (Int × Int)) : Int := if chk l = 0 then 0 else 1
/-- a slice of pairs of the call's own, after k rounds -/
def Own48 (w wr : World) (v : Value) (k : Nat) (l : List (Int × Int)) : Prop := wr.ownsRow w.heap.size 48 2 v k (flat (prd l k))

theorem ownb_ge {w wr : World} {v : Value} {k : Nat} {l : List (Int × Int)} (h : Own48 w wr v k l) : ∀ b, v.ownBlock = some b → w.heap.size ≤ b := fun _ hb => own_ge h hb

theorem BlkC.alloc {W : World} {B : Nat} {t : TypeId} {cs : Array Value} (h : BlkC W B t cs) (o : Obj) : BlkC (W.alloc o) B t cs := (Below.heap_alloc W o B h.lt).trans h
theorem own_old {w : World} {base : Nat} {e : TypeId} {size n : Nat} {v : Value} {xs : List Value} (h : w.ownsRow base e size v n xs) : some w.heap.size ≠ v.ownBlock := by
  rcases h.2 with ⟨rfl, _⟩ | ⟨g, cap, cur, rfl, hg, hh, _⟩
  · simp [Value.ownBlock]
  · have := (Array.getElem?_eq_some_iff.1 hh).1
    simp [Value.ownBlock]; omega

set_option maxRecDepth 100000 in
set_option maxHeartbeats 2000000 in
theorem Periods_any (A : Option Addr) (c : Nat) (l : List (Int × Int)) (w : World) (hc : Cl w w.heap.size A l) (hm : l.length ≤ 9223372036854775807) :
    Calls Try.prog 24 #[.slice A l.length c] w (Handed 48 w (perE l) (prd l l.length)) := by
  obtain ⟨i0, hi0, hz0, hz1, hz2⟩ := info_parts info48
  have hC := Check_any A c l w hc hm
  obtain ⟨r, hr⟩ : ∃ r, chk l = r := ⟨_, rfl⟩
  rw [hr] at hC
  have HC := Lib.hid hC
  have HR := Lib.hid hr
  have Hc := Lib.hid hc
  clear hC hr hc
  by_cases h0 : r = 0
  · subst h0
    have HG := Lib.hid (good_of_chk HR.out)
    have hlen := HG.out.len
    have HE := Lib.hid (show perE l = 0 by simp [perE, HR.out])
    have HD0 : Hid (dayAt l 0 = -25567) := rfl
    go_enter Try.func24, Try.ntmps24
    go_wp2_with (go_at_call 16; refine HC.out.mono ?_; rintro e w1 ⟨rfl, hb1⟩)
    go_loopw [4, 5, 13] (fun v f i wr => ∃ k : Nat, k ≤ l.length ∧ i = .int .i64 k ∧ f = .int .i64 (dayAt l k) ∧ Own48 w wr v k l ∧ Below w.heap.size w wr) (fun _ _ i _ => l.length - (intOf i).toNat)
    case atStart => exact ⟨0, by omega, rfl, by rw [HD0.out], ⟨by simp [prd, flat], .inl ⟨rfl, rfl⟩⟩, hb1⟩
    case round =>
      obtain ⟨k, hk, rfl, rfl, hown, hb⟩ := hrel
      by_cases hlt : k < l.length
      · obtain ⟨x, hx⟩ : ∃ x, l[k]? = some x := ⟨l[k], by simp [hlt]⟩
        obtain ⟨b, o, hA, hB, g1, g2⟩ := (Hc.out.below hb) k _ hx
        subst hA
        have hxb := HG.out.one k x hx
        have HD := Lib.hid (dayAt_succ hx)
        have HO := Lib.hid hown
        clear hx hown
        go_wp2_with (at_builtin; refine wpList_append_any _ rfl (.tmp 17) (.tmp 23) _ rfl w.heap.size 48 i0 _ 2 16 Try.underlying44 hi0 hz0 hz1 hz2 rfl (by omega) _ k (flat (prd l k)) rfl ((HO.out.alloc _).alloc _) (wr.heap.size + 1 + 1) (some ⟨wr.heap.size + 1, 0, none⟩) 1 1 [.int .i64 (dayAt l k), .int .i64 (x.1 + 1)] rfl (by have := reads_one (wr.alloc (.cells #[.int .i64 x.1, .int .i64 x.2] 30)) 48 (dayAt l k, x.1 + 1); rwa [World.size_alloc] at this) (one_pair (dayAt l k, x.1 + 1)) (by simp only [maxLen]; omega) (by omega) (by have := hb.size; simp; omega) ?_; intro v3 w3 hown3 hg3 hat3; have hx3 := (hg3.cell_far ⟨wr.heap.size, 0, none⟩ (by simp; omega) (own_old HO.out)).trans (((BlkC.new wr 30 #[.int .i64 x.1, .int .i64 x.2]).alloc _).cell 0))
        have hB3 : Below w.heap.size w w3 := ((hb.alloc hb.size _).alloc (by have := hb.size; simp; omega) _).grown hg3 (by have := hb.size; simp; omega) (ownb_ge HO.out)
        have HO3 : Hid (Own48 w w3 v3 (k + 1) l) := by
          show w3.ownsRow w.heap.size 48 2 v3 (k + 1) (flat (prd l (k + 1)))
          rw [prd_succ, flat_snoc, HD.out]
          exact hown3
        clear hown3 hg3 hat3
        go_roundw
        case rel => exact ⟨k + 1, by omega, by go_num, by rw [HD.out], HO3.out, hB3⟩
        case measure => simp [intOf]; omega
      · have HK := Lib.hid (show k = l.length by omega)
        go_wp2
        go_ret2
        refine ⟨_, by rw [HE.out]; rfl, fun _ => ?_, fun h => absurd HE.out h, hb⟩
        rw [prd_len, ← HK.out]
        exact hown
  · have h0b : (r != 0) = true := by simp [h0]
    have HE := Lib.hid (show perE l = 1 by simp [perE, HR.out, h0])
    go_enter Try.func24, Try.ntmps24
    go_wp2_with (go_at_call 16; refine HC.out.mono ?_; rintro e w1 ⟨rfl, hb1⟩)
    go_ret2
    exact ⟨_, by rw [HE.out]; rfl, fun h => by rw [HE.out] at h; omega, fun _ => rfl, hb1⟩

set_option maxRecDepth 100000 in
set_option maxHeartbeats 2000000 in
theorem rPeriods_any (A : Option Addr) (c : Nat) (l : List (Int × Int)) (w : World) (hc : Cl w w.heap.size A l) (hm : l.length ≤ 9223372036854775807) :
    Calls Try.prog 26 #[.slice A l.length c] w (Handed 48 w (perE l) (prd l l.length)) := by
  obtain ⟨i0, hi0, hz0, hz1, hz2⟩ := info_parts info48
  have hC := rCheck_any A c l w hc hm
  obtain ⟨r, hr⟩ : ∃ r, chk l = r := ⟨_, rfl⟩
  rw [hr] at hC
  have HC := Lib.hid hC
  have HR := Lib.hid hr
  have Hc := Lib.hid hc
  clear hC hr hc
  by_cases h0 : r = 0
  · subst h0
    have HG := Lib.hid (good_of_chk HR.out)
    have hlen := HG.out.len
    have HE := Lib.hid (show perE l = 0 by simp [perE, HR.out])
    have HD0 : Hid (dayAt l 0 = -25567) := rfl
    go_enter Try.func26, Try.ntmps26
    go_wp2_with (go_at_call 27; refine HC.out.mono ?_; rintro e w1 ⟨rfl, hb1⟩)
    go_loopw [4, 5, 6] (fun v f i wr => ∃ k : Nat, k ≤ l.length ∧ i = .int .i64 k ∧ f = .int .i64 (dayAt l k) ∧ Own48 w wr v k l ∧ Below w.heap.size w wr) (fun _ _ i _ => l.length - (intOf i).toNat)
    case atStart => exact ⟨0, by omega, rfl, by rw [HD0.out], own_base (own_empty w1 48 2) hb1.size, hb1.alloc hb1.size _⟩
    case round =>
      obtain ⟨k, hk, rfl, rfl, hown, hb⟩ := hrel
      by_cases hlt : k < l.length
      · obtain ⟨x, hx⟩ : ∃ x, l[k]? = some x := ⟨l[k], by simp [hlt]⟩
        obtain ⟨b, o, hA, hB, g1, g2⟩ := (Hc.out.below hb) k _ hx
        subst hA
        have hxb := HG.out.one k x hx
        have HD := Lib.hid (dayAt_succ hx)
        have HO := Lib.hid hown
        clear hx hown
        go_wp2_with (at_builtin; refine wpList_append_any _ rfl (.tmp 17) (.tmp 26) _ rfl w.heap.size 48 i0 _ 2 16 Try.underlying44 hi0 hz0 hz1 hz2 rfl (by omega) _ k (flat (prd l k)) rfl (HO.out.alloc _) (wr.heap.size + 1) (some ⟨wr.heap.size, 0, none⟩) 1 1 [.int .i64 (dayAt l k), .int .i64 (x.1 + 1)] rfl (reads_one wr 48 (dayAt l k, x.1 + 1)) (one_pair (dayAt l k, x.1 + 1)) (by simp only [maxLen]; omega) (by omega) (by have := hb.size; simp; omega) ?_; intro v3 w3 hown3 hg3 hat3; have hx3 := (((Below.refl w.heap.size wr).alloc hb.size _).grown hg3 (by have := hb.size; simp; omega) (ownb_ge HO.out)).cell (p := ⟨b, o + k * 2, none⟩) hB |>.trans g1)
        have hB3 : Below w.heap.size w w3 := (hb.alloc hb.size _).grown hg3 (by have := hb.size; simp; omega) (ownb_ge HO.out)
        have HO3 : Hid (Own48 w w3 v3 (k + 1) l) := by
          show w3.ownsRow w.heap.size 48 2 v3 (k + 1) (flat (prd l (k + 1)))
          rw [prd_succ, flat_snoc, HD.out]
          exact hown3
        clear hown3 hg3 hat3
        go_roundw
        case rel => exact ⟨k + 1, by omega, by go_num, by rw [HD.out], HO3.out, hB3⟩
        case measure => simp [intOf]; omega
      · have HK := Lib.hid (show k = l.length by omega)
        go_wp2
        go_ret2
        refine ⟨_, by rw [HE.out]; rfl, fun _ => ?_, fun h => absurd HE.out h, hb⟩
        rw [prd_len, ← HK.out]
        exact hown
  · have h0b : (r != 0) = true := by simp [h0]
    have HE := Lib.hid (show perE l = 1 by simp [perE, HR.out, h0])
    go_enter Try.func26, Try.ntmps26
    go_wp2_with (go_at_call 27; refine HC.out.mono ?_; rintro e w1 ⟨rfl, hb1⟩)
    go_ret2
    exact ⟨_, by rw [HE.out]; rfl, fun h => by rw [HE.out] at h; omega, fun _ => rfl, hb1⟩
end Go.Proofs.Ytopnhhgcoiomhaa
