/- Unit prices: runs over days: the plain law of the steps, and the rows of deals in memory. No condition. -/
import Derived.Test.YtndkglmokhndnaaGreatDoorUb
namespace Go.Proofs.YtndkglmokhndnaaGreatDoor
open Go.RowKit Go.Shelf Dec QQ

/-- a day of dealing -/
structure DealIn where
  day : Int
  v : ByteArray
  p : ByteArray
  b : ByteArray
def dcells (d : DealIn) : List Value := [.int .i64 d.day, .string d.v, .string d.p, .string d.b]
def rcells (d : DealtR) : List Value := [.string d.issued, .string d.paid, .string d.units, .string d.value]
def dflat (l : List DealIn) : List Value := l.flatMap dcells
def rflat (l : List DealtR) : List Value := l.flatMap rcells
theorem dflat_len (l : List DealIn) : (dflat l).length = 4 * l.length := by
  induction l with
  | nil => rfl
  | cons d l ih => simp [dflat, dcells] at *; omega
theorem rflat_len (l : List DealtR) : (rflat l).length = 4 * l.length := by
  induction l with
  | nil => rfl
  | cons d l ih => simp [rflat, rcells] at *; omega
theorem dflat_at {l : List DealIn} {k j : Nat} {d : DealIn} {x : Value} (h : l[k]? = some d) (hj : (dcells d)[j]? = some x) : (dflat l)[4 * k + j]? = some x := by
  induction l generalizing k with
  | nil => simp at h
  | cons e l ih =>
    have hj4 : j < 4 := by
      have := (List.getElem?_eq_some_iff.1 hj).1
      simpa [dcells] using this
    cases k with
    | zero =>
      simp at h
      subst h
      show (dcells e ++ dflat l)[4 * 0 + j]? = some x
      rw [List.getElem?_append_left (by simp [dcells]; omega)]
      simpa using hj
    | succ k =>
      simp at h
      show (dcells e ++ dflat l)[4 * (k + 1) + j]? = some x
      rw [List.getElem?_append_right (by simp [dcells]; omega)]
      have := ih h
      rw [show 4 * (k + 1) + j - (dcells e).length = 4 * k + j by simp [dcells]; omega]
      exact this
theorem rflat_snoc (l : List DealtR) (r : DealtR) : rflat (l ++ [r]) = rflat l ++ rcells r := by simp [rflat]
/-- why the step k fails, or 0 -/
def stepErr (l : List DealIn) (k : Nat) (u : ByteArray) : Int :=
  match l[k]? with
  | none => 0
  | some d => if 0 < k ∧ (match l[k - 1]? with | none => false | some c => decide (d.day ≤ c.day)) = true then 8 else (DealR u d.v d.p d.b).err
/-- the units and the results after k days -/
def runTo (l : List DealIn) : Nat → Option (ByteArray × List DealtR)
  | 0 => some (nil, [])
  | k + 1 => match runTo l k, l[k]? with
    | some (u, xs), some d => if stepErr l k u = 0 then some ((DealR u d.v d.p d.b).units, xs ++ [DealR u d.v d.p d.b]) else none
    | _, _ => none
/-- what a run returns -/
def RunsTo (l : List DealIn) (xs : List DealtR) (e : Int) : Prop :=
  (∃ k u ys, k < l.length ∧ runTo l k = some (u, ys) ∧ stepErr l k u = e ∧ e ≠ 0 ∧ xs = []) ∨ (∃ u, runTo l l.length = some (u, xs) ∧ e = 0)
theorem runTo_next {l : List DealIn} {k : Nat} {u : ByteArray} {xs : List DealtR} {d : DealIn} (h : runTo l k = some (u, xs)) (hd : l[k]? = some d) (h0 : stepErr l k u = 0) : runTo l (k + 1) = some ((DealR u d.v d.p d.b).units, xs ++ [DealR u d.v d.p d.b]) := by
  show (match runTo l k, l[k]? with
    | some (u, xs), some d => if stepErr l k u = 0 then some ((DealR u d.v d.p d.b).units, xs ++ [DealR u d.v d.p d.b]) else none
    | _, _ => none) = _
  rw [h, hd]
  show (if stepErr l k u = 0 then some ((DealR u d.v d.p d.b).units, xs ++ [DealR u d.v d.p d.b]) else none) = _
  rw [if_pos h0]
theorem runTo_fail {l : List DealIn} {k : Nat} {u : ByteArray} {xs : List DealtR} (h : runTo l k = some (u, xs)) (hk : k < l.length) (h0 : stepErr l k u ≠ 0) : ∀ m, k < m → runTo l m = none := by
  intro m hm
  induction m with
  | zero => omega
  | succ m ih =>
    show (match runTo l m, l[m]? with
      | some (u, xs), some d => if stepErr l m u = 0 then some ((DealR u d.v d.p d.b).units, xs ++ [DealR u d.v d.p d.b]) else none
      | _, _ => none) = none
    by_cases e : m = k
    · subst e
      rw [h, List.getElem?_eq_getElem hk]
      show (if stepErr l m u = 0 then _ else none) = none
      rw [if_neg h0]
    · rw [ih (by omega)]
theorem runsTo_unique {l : List DealIn} {xs ys : List DealtR} {e f : Int} (h : RunsTo l xs e) (h2 : RunsTo l ys f) : xs = ys ∧ e = f := by
  rcases h with ⟨k, u, zs, hk, hr, hs, he, rfl⟩ | ⟨u, hr, rfl⟩
  · rcases h2 with ⟨k', u', zs', hk', hr', hs', he', rfl⟩ | ⟨u', hr', rfl⟩
    · have hkk : k = k' := by
        rcases Nat.lt_trichotomy k k' with hl | hl | hl
        · have := runTo_fail hr hk (by rw [hs]; exact he) k' hl; rw [this] at hr'; cases hr'
        · exact hl
        · have := runTo_fail hr' hk' (by rw [hs']; exact he') k hl; rw [this] at hr; cases hr
      subst hkk
      rw [hr] at hr'
      injection hr' with e1
      injection e1 with e1 e2
      subst e1
      exact ⟨rfl, by rw [← hs, ← hs']⟩
    · have := runTo_fail hr hk (by rw [hs]; exact he) l.length hk
      rw [this] at hr'
      cases hr'
  · rcases h2 with ⟨k', u', zs', hk', hr', hs', he', rfl⟩ | ⟨u', hr', rfl⟩
    · have := runTo_fail hr' hk' (by rw [hs']; exact he') l.length hk'
      rw [this] at hr
      cases hr
    · rw [hr] at hr'
      injection hr' with e1
      injection e1 with e1 e2
      exact ⟨e2, rfl⟩
theorem units_good {u v p b : ByteArray} (h : (DealR u v p b).err = 0) : (DealR u v p b).units = canS (valS (DealR u v p b).units) ∧ 0 ≤ valS (DealR u v p b).units := by
  obtain ⟨h1, h2, h3⟩ := DealR_ok h
  have hc := DealR_check h
  have hz := ucheck_zero.1 hc
  have hu := hz u (by simp)
  have hv := hz v (by simp)
  have hp := hz p (by simp)
  have hb := hz b (by simp)
  have e : (DealR u v p b).units = canS (valS u + valS (issueR v u p).1 - valS b) := by rw [h3]
  rw [e, valS_canS]
  refine ⟨rfl, ?_⟩
  have hi : 0 ≤ valS (issueR v u p).1 := by
    unfold issueR at h1 ⊢
    split
    · exact hp.2
    · rename_i hn
      rw [if_neg hn] at h1
      by_cases h0 : valS v = 0
      · rw [h0, divR_zero] at h1; cases h1
      · rw [divR_ok h0]
        show 0 ≤ valS (canS _)
        rw [valS_canS]
        have := Int.mul_nonneg hp.2 hu.2
        rw [Int.fdiv_eq_ediv_of_nonneg _ hv.2]
        exact Int.ediv_nonneg this hv.2
  have hbu : valS b ≤ valS u := by
    unfold cancelR at h2
    rw [cmpI_pos] at h2
    split at h2
    · cases h2
    · rename_i hn
      simp at hn
      exact hn
  omega
end Go.Proofs.YtndkglmokhndnaaGreatDoor
