/- Period: plain laws of valid closings; for every input. -/
import Derived.Test.YtopnhhgcoiomhaaF
import Derived.Test.YtopnhhgcoiomhaaRows
import Derived.WalkKit
import Derived.ProofKit
import Derived.OpenShut
import Derived.WalkLawsBesides
import Derived.Deep.QuietTactic
import Derived.Deep.LoopGhost
import Derived.Deep.RegionWith
import Derived.BigQuiet
import Derived.Lib.Hide
namespace Go.Proofs.Ytopnhhgcoiomhaa
open Go.RowKit
/-- valid closings -/
structure Good (l : List (Int × Int)) : Prop where
  len : l.length ≤ 64
  one : ∀ (i : Nat) (x : Int × Int), l[i]? = some x → -25567 ≤ x.1 ∧ x.1 < 84005 ∧ 0 ≤ x.2
  two : ∀ (i : Nat) (x y : Int × Int), l[i]? = some x → l[i + 1]? = some y → x.1 < y.1 ∧ x.2 ≤ y.2

theorem chkGo_zero (l : List (Int × Int)) : ∀ f i, chkGo l f i = 0 → ∀ j, i ≤ j → j < i + f → bad l j = 0 := by
  intro f
  induction f with
  | zero => intro i _ j h1 h2; omega
  | succ f ih =>
    intro i h j h1 h2
    unfold chkGo at h
    by_cases e : bad l i = 0
    · rw [if_neg (by simpa using e)] at h
      by_cases e2 : j = i
      · subst e2; exact e
      · exact ih (i + 1) h j (by omega) (by omega)
    · rw [if_pos e] at h; exact absurd h e

theorem good_of_chk {l : List (Int × Int)} (h : chk l = 0) : Good l := by
  unfold chk at h
  by_cases hl : 64 < l.length
  · rw [if_pos hl] at h; omega
  rw [if_neg hl] at h
  have hb := chkGo_zero l _ _ h
  have key : ∀ (i : Nat) (x : Int × Int), l[i]? = some x → -25567 ≤ x.1 ∧ x.1 < 84005 ∧ 0 ≤ x.2 := by
    intro i x hx
    have hi : i < l.length := (List.getElem?_eq_some_iff.1 hx).1
    have hbi := hb i (by omega) (by omega)
    by_cases h1 : x.1 < -25567 ∨ 84005 ≤ x.1
    · rw [bad_13 (d := x.1) (n := x.2) hx h1] at hbi; omega
    · by_cases h2 : x.2 < 0
      · rw [bad_2 (d := x.1) (n := x.2) hx h1 h2] at hbi; omega
      · omega
  refine ⟨by omega, key, fun i x y hx hy => ?_⟩
  have hi : i + 1 < l.length := (List.getElem?_eq_some_iff.1 hy).1
  have hbi := hb (i + 1) (by omega) (by omega)
  have ky := key _ _ hy
  rw [bad_8 (d := y.1) (n := y.2) (d' := x.1) (n' := x.2) hy hx (by omega) (by omega)] at hbi
  by_cases h1 : y.1 ≤ x.1 ∨ y.2 < x.2
  · rw [if_pos h1] at hbi; omega
  · omega

theorem Good.mono {l : List (Int × Int)} (h : Good l) : ∀ (i j : Nat) (x y : Int × Int), i ≤ j → l[i]? = some x → l[j]? = some y → x.1 + (j - i : Nat) ≤ y.1 ∧ x.2 ≤ y.2 := by
  intro i j
  induction j with
  | zero => intro x y hij hx hy; obtain rfl : i = 0 := by omega
            rw [hx] at hy; cases hy; simp
  | succ j ih =>
    intro x y hij hx hy
    by_cases e : i = j + 1
    · subst e; rw [hx] at hy; cases hy; simp
    · have hj : j < l.length := by have := (List.getElem?_eq_some_iff.1 hy).1; omega
      obtain ⟨z, hz⟩ : ∃ z, l[j]? = some z := ⟨l[j], by simp [hj]⟩
      have h1 := ih x z (by omega) hx hz
      have h2 := h.two j z y hz hy
      omega

/-- the first open day behind the first k closings -/
def dayAt (l : List (Int × Int)) (k : Nat) : Int := if k = 0 then -25567 else (l.getD (k - 1) (0, 0)).1 + 1
theorem dayAt_succ {l : List (Int × Int)} {k : Nat} {x : Int × Int} (h : l[k]? = some x) : dayAt l (k + 1) = x.1 + 1 := by
  simp [dayAt, List.getD, h]
theorem lastW_take {l : List (Int × Int)} (h : Good l) (k : Nat) (hk : k ≤ l.length) : lastW (l.take k) = dayAt l k := by
  cases k with
  | zero => rfl
  | succ k =>
    obtain ⟨x, hx⟩ : ∃ x, l[k]? = some x := ⟨l[k], by simp [show k < l.length by omega]⟩
    rw [dayAt_succ hx]
    have e : l.take (k + 1) = l.take k ++ [x] := by rw [List.take_add_one, hx]; rfl
    rw [e, lastW_snoc]
    have := h.one k x hx
    exact IntWalk.wrap64_in _ (by omega)

/-- how many closings count -/
def cnt (l : List (Int × Int)) (kn : Int) : Nat := (l.takeWhile (fun x => decide (x.2 < kn))).length
theorem cnt_le (l : List (Int × Int)) (kn : Int) : cnt l kn ≤ l.length := (List.takeWhile_sublist _).length_le
theorem takeWhile_cnt (l : List (Int × Int)) (kn : Int) : l.takeWhile (fun x => decide (x.2 < kn)) = l.take (cnt l kn) := by
  have := List.takeWhile_prefix (fun x : Int × Int => decide (x.2 < kn)) (l := l)
  exact List.prefix_iff_eq_take.1 this
theorem opW_eq {l : List (Int × Int)} (h : Good l) (kn : Int) : opW l kn = dayAt l (cnt l kn) := by
  unfold opW
  rw [takeWhile_cnt, lastW_take h _ (cnt_le _ _)]
theorem cnt_mono (l : List (Int × Int)) (m n : Int) (h : m ≤ n) : cnt l m ≤ cnt l n := by
  unfold cnt
  induction l with
  | nil => simp
  | cons a l ih =>
    by_cases h1 : a.2 < m
    · have h2 : a.2 < n := by omega
      simp [h1, h2, ih]
    · simp [List.takeWhile_cons, h1]
theorem dayAt_mono {l : List (Int × Int)} (h : Good l) (i j : Nat) (hij : i ≤ j) (hj : j ≤ l.length) : dayAt l i ≤ dayAt l j := by
  cases i with
  | zero =>
    cases j with
    | zero => exact Int.le_refl _
    | succ j =>
      obtain ⟨y, hy⟩ : ∃ y, l[j]? = some y := ⟨l[j], by simp [show j < l.length by omega]⟩
      rw [dayAt_succ hy]
      have := h.one j y hy
      simp [dayAt]; omega
  | succ i =>
    cases j with
    | zero => omega
    | succ j =>
      obtain ⟨x, hx⟩ : ∃ x, l[i]? = some x := ⟨l[i], by simp [show i < l.length by omega]⟩
      obtain ⟨y, hy⟩ : ∃ y, l[j]? = some y := ⟨l[j], by simp [show j < l.length by omega]⟩
      rw [dayAt_succ hx, dayAt_succ hy]
      have := h.mono i j x y (by omega) hx hy
      omega
theorem dayAt_bd {l : List (Int × Int)} (h : Good l) (i : Nat) (hi : i ≤ l.length) : -25567 ≤ dayAt l i ∧ dayAt l i ≤ 84005 := by
  cases i with
  | zero => simp [dayAt]
  | succ i =>
    obtain ⟨x, hx⟩ : ∃ x, l[i]? = some x := ⟨l[i], by simp [show i < l.length by omega]⟩
    rw [dayAt_succ hx]
    have := h.one i x hx
    omega
theorem opW_mono {l : List (Int × Int)} (h : Good l) (m n : Int) (hmn : m ≤ n) : opW l m ≤ opW l n := by
  rw [opW_eq h, opW_eq h]; exact dayAt_mono h _ _ (cnt_mono l m n hmn) (cnt_le _ _)
theorem opW_bd {l : List (Int × Int)} (h : Good l) (n : Int) : -25567 ≤ opW l n ∧ opW l n ≤ 84005 := by
  rw [opW_eq h]; exact dayAt_bd h _ (cnt_le _ _)
theorem opW_zero {l : List (Int × Int)} (h : Good l) : opW l 0 = -25567 := by
  unfold opW
  cases l with
  | nil => rfl
  | cons a l =>
    have := h.one 0 a rfl
    rw [List.takeWhile_cons, if_neg (by simp; omega)]
    rfl
/-- behind a closing's Known, if no later closing counts -/
theorem opW_after {l : List (Int × Int)} (h : Good l) (i : Nat) (x : Int × Int) (hx : l[i]? = some x) (hn : ∀ y, l[i + 1]? = some y → y.2 ≠ x.2) : opW l (x.2 + 1) = x.1 + 1 := by
  have hi : i < l.length := (List.getElem?_eq_some_iff.1 hx).1
  have hb : ∀ (j : Nat) (y : Int × Int), j < i + 1 → l[j]? = some y → y.2 < x.2 + 1 := fun j y hj hy => by
    have := h.mono j i y x (by omega) hy hx; omega
  have e : l.takeWhile (fun z => decide (z.2 < x.2 + 1)) = l.take (i + 1) := by
    by_cases hl : i + 1 < l.length
    · obtain ⟨y, hy⟩ : ∃ y, l[i + 1]? = some y := ⟨l[i + 1], by simp [hl]⟩
      have h2 := h.two i x y hx hy
      have h3 := hn y hy
      exact takeWhile_at l (x.2 + 1) (i + 1) y hy hb (by omega)
    · rw [takeWhile_all l (x.2 + 1) (fun j y hy => hb j y (by have := (List.getElem?_eq_some_iff.1 hy).1; omega) hy)]
      rw [List.take_of_length_le (by omega)]
  unfold opW
  rw [e, lastW_take h _ (by omega), dayAt_succ hx]
theorem mem_tw (p : Int × Int → Bool) : ∀ (l : List (Int × Int)) {x : Int × Int}, x ∈ l.takeWhile p → p x = true
  | [], x, h => by simp at h
  | a :: l, x, h => by
    rw [List.takeWhile_cons] at h
    by_cases ha : p a = true
    · rw [if_pos ha] at h
      rcases List.mem_cons.1 h with rfl | h
      · exact ha
      · exact mem_tw p l h
    · rw [if_neg ha] at h; simp at h
theorem foldR_eq {l : List (Int × Int)} (h : Good l) (kn : Int) : foldR l kn = opW l kn := by
  have key : ∀ k, k ≤ l.length → foldR (l.take k) kn = dayAt l (min k (cnt l kn)) := by
    intro k
    induction k with
    | zero => intro _; simp [foldR, dayAt]
    | succ k ih =>
      intro hk
      obtain ⟨x, hx⟩ : ∃ x, l[k]? = some x := ⟨l[k], by simp [show k < l.length by omega]⟩
      rw [foldR_take l kn k x hx, ih (by omega)]
      have hxb := h.one k x hx
      by_cases hc : k < cnt l kn
      · have : x.2 < kn := by
          have h1 : (l.take (cnt l kn))[k]? = some x := by rw [List.getElem?_take, if_pos hc]; exact hx
          rw [← takeWhile_cnt] at h1
          have := List.mem_of_getElem? h1
          have h2 := mem_tw _ l this
          simpa using h2
        rw [if_pos this, show min (k + 1) (cnt l kn) = k + 1 by omega, dayAt_succ hx]
        exact IntWalk.wrap64_in _ (by omega)
      · have : ¬ x.2 < kn := by
          intro hlt
          apply hc
          have hall : ∀ (j : Nat) (y : Int × Int), j < k + 1 → l[j]? = some y → y.2 < kn := fun j y hj hy => by
            have := h.mono j k y x (by omega) hy hx; omega
          have h1 : cnt (l.take (k + 1)) kn = k + 1 := by
            unfold cnt
            rw [takeWhile_all _ _ (fun j y hy => ?_)]
            · simp; omega
            · rw [List.getElem?_take] at hy
              split at hy
              · rename_i hj; exact hall j y hj hy
              · cases hy
          have h2 : cnt (l.take (k + 1)) kn ≤ cnt l kn := by
            unfold cnt
            have hs : (l.take (k + 1)).takeWhile (fun x => decide (x.2 < kn)) = l.take (k + 1) := takeWhile_all _ _ (fun j y hy => by
              rw [List.getElem?_take] at hy
              split at hy
              · rename_i hj; exact hall j y hj hy
              · cases hy)
            rw [hs]
            have h3 : l = l.take (k + 1) ++ l.drop (k + 1) := (List.take_append_drop _ _).symm
            have h4 : l.takeWhile (fun x => decide (x.2 < kn)) = (l.take (k + 1)) ++ ((l.drop (k + 1)).takeWhile (fun x => decide (x.2 < kn))) := by
              conv => lhs; rw [h3]
              rw [List.takeWhile_append, if_pos (by rw [hs]), ]
            rw [h4]; simp
          omega
        rw [if_neg this, show min (k + 1) (cnt l kn) = min k (cnt l kn) by omega]
  have := key l.length (Nat.le_refl _)
  rw [List.take_length] at this
  rw [this, opW_eq h, Nat.min_eq_right (cnt_le _ _)]
end Go.Proofs.Ytopnhhgcoiomhaa
