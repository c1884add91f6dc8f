/- Period: what Check says of closings; how a slice of closings reads; for every input. -/
import Derived.Test.YtopnhhgcoiomhaaRows
import Derived.WalkKit
import Derived.ProofKit
import Derived.OpenShut
import Derived.WalkLawsBesides
import Derived.Deep.QuietTactic
import Derived.Deep.LoopGhost
import Derived.Deep.RegionWith
import Derived.BigQuiet
import Derived.Lib.Hide
namespace Go.Proofs.Ytopnhhgcoiomhaa
open Go.RowKit
/-- closings: the slice value's address A reads as the list -/
def Cl (w : World) (B : Nat) (A : Option Addr) (l : List (Int × Int)) : Prop :=
  ∀ i x, l[i]? = some x → ∃ b o, A = some ⟨b, o, none⟩ ∧ b < B ∧ w.cell? ⟨b, o + i * 2, none⟩ = some (.int .i64 x.1) ∧ w.cell? ⟨b, o + i * 2 + 1, none⟩ = some (.int .i64 x.2)

theorem Cl.below {w w' : World} {B : Nat} {A : Option Addr} {l : List (Int × Int)} (h : Cl w B A l) (hb : Below B w w') : Cl w' B A l := by
  intro i x hx
  obtain ⟨b, o, hA, hB, h1, h2⟩ := h i x hx
  exact ⟨b, o, hA, hB, (hb.cell (p := ⟨b, o + i * 2, none⟩) hB).trans h1, (hb.cell (p := ⟨b, o + i * 2 + 1, none⟩) hB).trans h2⟩
theorem Cl.mono {w : World} {B B' : Nat} {A : Option Addr} {l : List (Int × Int)} (h : Cl w B A l) (hb : B ≤ B') : Cl w B' A l := by
  intro i x hx
  obtain ⟨b, o, hA, hB, h1, h2⟩ := h i x hx
  exact ⟨b, o, hA, by omega, h1, h2⟩
theorem Cl.up {w w' : World} {A : Option Addr} {l : List (Int × Int)} (h : Cl w w.heap.size A l) (hb : Below w.heap.size w w') : Cl w' w'.heap.size A l :=
  (h.below hb).mono hb.size

/-- what Check says of a closing x behind a closing y -/
def bad1 (x : Int × Int) : Int := if x.1 < -25567 ∨ 84005 ≤ x.1 then 13 else if x.2 < 0 then 2 else 0
def bad2 (x y : Int × Int) : Int := if x.1 ≤ y.1 ∨ x.2 < y.2 then 8 else 0
/-- what Check says of the k-th closing -/
def bad (l : List (Int × Int)) (k : Nat) : Int :=
  if bad1 (l.getD k (0, 0)) ≠ 0 then bad1 (l.getD k (0, 0)) else if k = 0 then 0 else bad2 (l.getD k (0, 0)) (l.getD (k - 1) (0, 0))

def chkGo (l : List (Int × Int)) : Nat → Nat → Int
  | 0, _ => 0
  | f + 1, k => if bad l k ≠ 0 then bad l k else chkGo l f (k + 1)
def chk (l : List (Int × Int)) : Int := if 64 < l.length then 4 else chkGo l l.length 0

theorem chkGo_at (l : List (Int × Int)) (k : Nat) : ∀ f i, i ≤ k → k < i + f → (∀ j, i ≤ j → j < k → bad l j = 0) → bad l k ≠ 0 → chkGo l f i = bad l k := by
  intro f
  induction f with
  | zero => intro i h1 h2; omega
  | succ f ih =>
    intro i h1 h2 h3 h4
    unfold chkGo
    by_cases e : i = k
    · subst e; rw [if_pos h4]
    · rw [if_neg (by simp; exact h3 i (Nat.le_refl _) (by omega))]
      exact ih (i + 1) (by omega) (by omega) (fun j a b => h3 j (by omega) b) h4
theorem chkGo_end (l : List (Int × Int)) : ∀ f i, (∀ j, i ≤ j → j < i + f → bad l j = 0) → chkGo l f i = 0 := by
  intro f
  induction f with
  | zero => intro i _; rfl
  | succ f ih =>
    intro i h
    unfold chkGo
    rw [if_neg (by simp; exact h i (Nat.le_refl _) (by omega))]
    exact ih (i + 1) (fun j a b => h j (by omega) (by omega))
theorem chk_at (l : List (Int × Int)) (k : Nat) (h0 : l.length ≤ 64) (h : k < l.length) (h3 : ∀ j, j < k → bad l j = 0) (h4 : bad l k ≠ 0) : chk l = bad l k := by
  unfold chk
  rw [if_neg (by omega)]
  exact chkGo_at l k _ 0 (by omega) (by omega) (fun j _ b => h3 j b) h4
theorem chk_end (l : List (Int × Int)) (h0 : l.length ≤ 64) (h3 : ∀ j, j < l.length → bad l j = 0) : chk l = 0 := by
  unfold chk
  rw [if_neg (by omega)]
  exact chkGo_end l _ 0 (fun j _ b => h3 j (by omega))
theorem getD_of {l : List (Int × Int)} {k : Nat} {x : Int × Int} (h : l[k]? = some x) : l.getD k (0, 0) = x := by simp [List.getD, h]

theorem bad_13 {l : List (Int × Int)} {k : Nat} {d n : Int} (h : l[k]? = some (d, n)) (hd : d < -25567 ∨ 84005 ≤ d) : bad l k = 13 := by
  unfold bad; rw [getD_of h]; simp [bad1, hd]
theorem bad_2 {l : List (Int × Int)} {k : Nat} {d n : Int} (h : l[k]? = some (d, n)) (hd : ¬ (d < -25567 ∨ 84005 ≤ d)) (hn : n < 0) : bad l k = 2 := by
  unfold bad; rw [getD_of h]; simp [bad1, hd, hn]
theorem bad_0 {l : List (Int × Int)} {d n : Int} (h : l[0]? = some (d, n)) (hd : ¬ (d < -25567 ∨ 84005 ≤ d)) (hn : 0 ≤ n) : bad l 0 = 0 := by
  unfold bad; rw [getD_of h]; simp [bad1, hd]; omega
theorem bad_8 {l : List (Int × Int)} {k : Nat} {d n d' n' : Int} (h : l[k + 1]? = some (d, n)) (h' : l[k]? = some (d', n')) (hd : ¬ (d < -25567 ∨ 84005 ≤ d)) (hn : 0 ≤ n) :
    bad l (k + 1) = if d ≤ d' ∨ n < n' then 8 else 0 := by
  unfold bad; rw [getD_of h, Nat.add_sub_cancel, getD_of h']
  have : ¬ n < 0 := by omega
  simp [bad1, hd, this, bad2]
end Go.Proofs.Ytopnhhgcoiomhaa
