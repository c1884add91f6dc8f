/- Dividing an integer by weights: a sort by insertion puts the places into order. Plain facts. No condition. -/
import Derived.Test.YtpipkeplhkccoaaGreatDoorSP
namespace SP
def ati (l : List Nat) (i : Nat) : Nat := l.getD i 0
theorem ati_lt {l : List Nat} {i : Nat} (h : i < l.length) : l[i]? = some (ati l i) := by simp [ati, List.getD_eq_getElem?_getD, List.getElem?_eq_getElem h]
theorem ati_some {l : List Nat} {i x : Nat} (h : l[i]? = some x) : ati l i = x := by simp [ati, List.getD_eq_getElem?_getD, h]
/-- the first i are in order -/
def Srt (r : List Int) (l : List Nat) (i : Nat) : Prop := ∀ a b, a < b → b < i → beats r (ati l a) (ati l b) = true
/-- the first i + 1 are in order but for what stands at j, which may belong further to the left -/
def Ins (r : List Int) (l : List Nat) (i j : Nat) : Prop := ∀ a b, a < b → b ≤ i → b ≠ j → beats r (ati l a) (ati l b) = true
def swp (l : List Nat) (j : Nat) : List Nat := (l.set j (ati l (j - 1))).set (j - 1) (ati l j)
theorem swp_len (l : List Nat) (j : Nat) : (swp l j).length = l.length := by simp [swp]
theorem ati_set {l : List Nat} {i k x : Nat} (h : i < l.length) : ati (l.set i x) k = if k = i then x else ati l k := by
  unfold ati
  rw [List.getD_eq_getElem?_getD, List.getD_eq_getElem?_getD, List.getElem?_set]
  by_cases e : k = i
  · subst e; simp [h]
  · rw [if_neg (by omega), if_neg e]
theorem swp_at {l : List Nat} {j k : Nat} (h0 : 0 < j) (h : j < l.length) : ati (swp l j) k = if k = j - 1 then ati l j else if k = j then ati l (j - 1) else ati l k := by
  unfold swp
  rw [ati_set (by rw [List.length_set]; omega), ati_set h]
theorem swp_perm {l : List Nat} {j : Nat} (h0 : 0 < j) (h : j < l.length) : (swp l j).Perm l := by
  have e1 : ati l (j - 1) = l[j - 1] := by have := ati_lt (l := l) (i := j - 1) (by omega); rw [List.getElem?_eq_getElem (by omega)] at this; injection this with this; exact this.symm
  have e2 : ati l j = l[j] := by have := ati_lt (l := l) (i := j) h; rw [List.getElem?_eq_getElem h] at this; injection this with this; exact this.symm
  unfold swp
  rw [e1, e2]
  exact List.set_set_perm _ _
theorem srt_ord {r : List Int} {l : List Nat} {n : Nat} (hp : l.Perm (List.range n)) (hr : r.length = n) (h : Srt r l n) : Ord r l := by
  subst hr
  refine ⟨hp, List.pairwise_iff_getElem.2 fun i j hi hj hij => ?_⟩
  have hl := hp.length_eq
  rw [List.length_range] at hl
  have := h i j hij (by omega)
  rwa [ati_some (List.getElem?_eq_getElem hi), ati_some (List.getElem?_eq_getElem hj)] at this
theorem srt_one (r : List Int) (l : List Nat) : Srt r l 1 := fun a b h h2 => by omega
theorem ins_start {r : List Int} {l : List Nat} {i : Nat} (h : Srt r l i) : Ins r l i i := fun a b h1 h2 h3 => h a b h1 (by omega)
theorem ins_zero {r : List Int} {l : List Nat} {i : Nat} (h : Ins r l i 0) : Srt r l (i + 1) := fun a b h1 h2 => h a b h1 (by omega) (by omega)
theorem ati_ne {l : List Nat} {n a b : Nat} (hp : l.Perm (List.range n)) (ha : a < n) (hb : b < n) (h : a ≠ b) : ati l a ≠ ati l b := by
  have hl := hp.length_eq
  rw [List.length_range] at hl
  have hn : l.Nodup := hp.nodup_iff.2 List.nodup_range
  intro e
  have e1 := ati_lt (l := l) (i := a) (by omega)
  have e2 := ati_lt (l := l) (i := b) (by omega)
  rw [e, ← e2] at e1
  exact h ((List.getElem?_inj (by omega) hn).1 e1)
theorem ins_stop {r : List Int} {l : List Nat} {n i j : Nat} (hp : l.Perm (List.range n)) (h0 : 0 < j) (hj : j ≤ i) (hi : i < n) (h : Ins r l i j) (hb : beats r (ati l j) (ati l (j - 1)) = false) : Srt r l (i + 1) := by
  have h1 : beats r (ati l (j - 1)) (ati l j) = true := by
    rcases beats_total (r := r) (ati_ne hp (a := j - 1) (b := j) (by omega) (by omega) (by omega)) with h' | h'
    · exact h'
    · rw [h'] at hb; cases hb
  intro a b hab hbi
  by_cases e : b = j
  · subst e
    by_cases e2 : a = b - 1
    · subst e2; exact h1
    · exact beats_trans (h a (b - 1) (by omega) (by omega) (by omega)) h1
  · exact h a b hab (by omega) e
theorem ins_swap {r : List Int} {l : List Nat} {i j : Nat} (h0 : 0 < j) (hj : j ≤ i) (hi : i < l.length) (h : Ins r l i j) (hb : beats r (ati l j) (ati l (j - 1)) = true) : Ins r (swp l j) i (j - 1) := by
  intro a b hab hbi hbj
  rw [swp_at h0 (by omega), swp_at h0 (by omega), if_neg hbj]
  by_cases e : b = j
  · rw [if_pos e]
    by_cases e2 : a = j - 1
    · rw [if_pos e2]; exact hb
    · rw [if_neg e2, if_neg (by omega)]
      exact h a (j - 1) (by omega) (by omega) (by omega)
  · rw [if_neg e]
    by_cases e2 : a = j - 1
    · rw [if_pos e2]; exact h j b (by omega) hbi e
    · rw [if_neg e2]
      by_cases e3 : a = j
      · rw [if_pos e3]; exact h (j - 1) b (by omega) hbi e
      · rw [if_neg e3]; exact h a b hab hbi e
end SP
