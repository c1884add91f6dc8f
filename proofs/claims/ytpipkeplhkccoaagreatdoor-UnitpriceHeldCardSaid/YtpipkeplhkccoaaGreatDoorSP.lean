/- Dividing an integer by weights: ranks, orders, parts. Plain facts. No condition. -/
namespace SP
theorem lt_ge (a b : Int) : a < b ∨ b ≤ a := by omega
def at0 (l : List Int) (i : Nat) : Int := l.getD i 0
theorem at0_some {l : List Int} {i : Nat} {x : Int} (h : l[i]? = some x) : at0 l i = x := by simp [at0, List.getD_eq_getElem?_getD, h]
theorem at0_lt {l : List Int} {i : Nat} (h : i < l.length) : l[i]? = some (at0 l i) := by simp [at0, List.getD_eq_getElem?_getD, List.getElem?_eq_getElem h]
/-- k comes ahead of i: a greater rest, or an equal one further to the left -/
def beats (r : List Int) (k i : Nat) : Bool := decide (at0 r i < at0 r k) || (decide (at0 r k = at0 r i) && decide (k < i))
theorem beats_iff {r : List Int} {k i : Nat} : beats r k i = true ↔ at0 r i < at0 r k ∨ (at0 r k = at0 r i ∧ k < i) := by simp [beats]
theorem beats_self (r : List Int) (i : Nat) : beats r i i = false := by
  rw [← Bool.not_eq_true, beats_iff]; omega
theorem beats_asymm {r : List Int} {k i : Nat} (h : beats r k i = true) : beats r i k = false := by
  rw [← Bool.not_eq_true, beats_iff]; rw [beats_iff] at h; omega
theorem beats_total {r : List Int} {k i : Nat} (h : k ≠ i) : beats r k i = true ∨ beats r i k = true := by
  rw [beats_iff, beats_iff]; omega
theorem beats_trans {r : List Int} {a b c : Nat} (h : beats r a b = true) (h2 : beats r b c = true) : beats r a c = true := by
  rw [beats_iff] at *; omega
/-- how many come ahead of i -/
def rk (r : List Int) (i : Nat) : Nat := (List.range r.length).countP (fun k => beats r k i)
/-- an order of the places: each comes ahead of the later ones -/
def Ord (r : List Int) (l : List Nat) : Prop := l.Perm (List.range r.length) ∧ l.Pairwise (fun a b => beats r a b = true)
theorem cut_at {l : List Nat} {j i : Nat} (h : l[j]? = some i) : l = l.take j ++ i :: l.drop (j + 1) := by
  obtain ⟨hj, e⟩ := List.getElem?_eq_some_iff.1 h
  rw [← e, ← List.drop_eq_getElem_cons hj, List.take_append_drop]
theorem rk_at {r : List Int} {l : List Nat} (h : Ord r l) {j i : Nat} (hj : l[j]? = some i) : rk r i = j := by
  have hjl : j < l.length := (List.getElem?_eq_some_iff.1 hj).1
  unfold rk
  rw [← h.1.countP_eq]
  have hs := h.2
  rw [cut_at hj] at hs ⊢
  rw [List.pairwise_append, List.pairwise_cons] at hs
  obtain ⟨_, ⟨h2, _⟩, h3⟩ := hs
  rw [List.countP_append, List.countP_cons, beats_self]
  have e1 : (l.take j).countP (fun k => beats r k i) = (l.take j).length := List.countP_eq_length.2 (fun a ha => h3 a ha i (by simp))
  have e2 : (l.drop (j + 1)).countP (fun k => beats r k i) = 0 := List.countP_eq_zero.2 (fun a ha => by rw [beats_asymm (h2 a ha)]; simp)
  rw [e1, e2, List.length_take]
  simp
  omega
theorem ord_len {r : List Int} {l : List Nat} (h : Ord r l) : l.length = r.length := by rw [h.1.length_eq, List.length_range]
theorem ord_mem {r : List Int} {l : List Nat} (h : Ord r l) {i : Nat} : i ∈ l ↔ i < r.length := by rw [h.1.mem_iff, List.mem_range]
theorem ord_pos {r : List Int} {l : List Nat} (h : Ord r l) {i : Nat} (hi : i < r.length) : l[rk r i]? = some i := by
  obtain ⟨j, hj, e⟩ := List.mem_iff_getElem.1 ((ord_mem h).2 hi)
  have : l[j]? = some i := by rw [List.getElem?_eq_getElem hj, e]
  rw [rk_at h this]; exact this
/-- there is such an order -/
theorem ord_ex (r : List Int) : ∃ l, Ord r l := by
  refine ⟨(List.range r.length).mergeSort (fun a b => !beats r b a), List.mergeSort_perm _ _, ?_⟩
  have h1 := List.pairwise_mergeSort (le := fun a b => !beats r b a) (fun a b c h h2 => by
    simp only [Bool.not_eq_true', ← Bool.not_eq_true, beats_iff] at *; omega) (fun a b => by
    rcases Nat.lt_trichotomy a b with h | h | h
    · rcases beats_total (r := r) (k := a) (i := b) (by omega) with h' | h' <;> rw [beats_asymm h'] <;> simp
    · subst h; simp [beats_self]
    · rcases beats_total (r := r) (k := a) (i := b) (by omega) with h' | h' <;> rw [beats_asymm h'] <;> simp) (List.range r.length)
  have h2 : ((List.range r.length).mergeSort (fun a b => !beats r b a)).Pairwise (· ≠ ·) :=
    (List.mergeSort_perm _ _).symm.pairwise List.nodup_range (fun h => h.symm)
  exact (h1.and h2).imp (fun {a b} h => by
    have h3 := h.1
    rcases beats_total (r := r) h.2 with h' | h'
    · exact h'
    · rw [h'] at h3; simp at h3)
theorem rk_lt {r : List Int} {i : Nat} (hi : i < r.length) : rk r i < r.length := by
  obtain ⟨l, h⟩ := ord_ex r
  have := (List.getElem?_eq_some_iff.1 (ord_pos h hi)).1
  rwa [ord_len h] at this
theorem rk_inj {r : List Int} {i k : Nat} (hi : i < r.length) (hk : k < r.length) (e : rk r i = rk r k) : i = k := by
  obtain ⟨l, h⟩ := ord_ex r
  have h1 := ord_pos h hi
  rw [e, ord_pos h hk] at h1
  injection h1 with h1
  exact h1.symm
theorem rk_ex {r : List Int} {t : Nat} (ht : t < r.length) : ∃ i, i < r.length ∧ rk r i = t := by
  obtain ⟨l, h⟩ := ord_ex r
  have hl : t < l.length := by rw [ord_len h]; exact ht
  exact ⟨l[t], (ord_mem h).1 (List.getElem_mem hl), rk_at h (List.getElem?_eq_getElem hl)⟩
theorem rk_beats {r : List Int} {i k : Nat} (hi : i < r.length) (hk : k < r.length) : rk r i < rk r k ↔ beats r i k = true := by
  obtain ⟨l, h⟩ := ord_ex r
  have h1 := ord_pos h hi
  have h2 := ord_pos h hk
  have go : ∀ {a b : Nat}, l[rk r a]? = some a → l[rk r b]? = some b → rk r a < rk r b → beats r a b = true := by
    intro a b ha hb hlt
    obtain ⟨ja, ea⟩ := List.getElem?_eq_some_iff.1 ha
    obtain ⟨jb, eb⟩ := List.getElem?_eq_some_iff.1 hb
    have := List.pairwise_iff_getElem.1 h.2 _ _ ja jb hlt
    rwa [ea, eb] at this
  constructor
  · exact go h1 h2
  · intro hb
    rcases Nat.lt_trichotomy (rk r i) (rk r k) with h' | h' | h'
    · exact h'
    · have := rk_inj hi hk h'; subst this; rw [beats_self] at hb; simp at hb
    · have := go h2 h1 h'; rw [beats_asymm this] at hb; simp at hb
/-- the first t of an order are those of which fewer than t come ahead -/
theorem ord_take {r : List Int} {l : List Nat} (h : Ord r l) {i t : Nat} (hi : i < r.length) : i ∈ l.take t ↔ rk r i < t := by
  constructor
  · intro hm
    obtain ⟨j, hj, e⟩ := List.mem_iff_getElem.1 hm
    rw [List.length_take] at hj
    rw [List.getElem_take] at e
    have : l[j]? = some i := by rw [List.getElem?_eq_getElem (by omega), e]
    rw [rk_at h this]; omega
  · intro hlt
    obtain ⟨hj, e⟩ := List.getElem?_eq_some_iff.1 (ord_pos h hi)
    refine List.mem_iff_getElem.2 ⟨rk r i, by rw [List.length_take]; omega, ?_⟩
    rw [List.getElem_take, e]
theorem rk_count {r : List Int} {t : Nat} (ht : t ≤ r.length) : (List.range r.length).countP (fun i => decide (rk r i < t)) = t := by
  obtain ⟨l, h⟩ := ord_ex r
  rw [← h.1.countP_eq]
  have e : l = l.take t ++ l.drop t := (List.take_append_drop t l).symm
  rw [e, List.countP_append]
  have e1 : (l.take t).countP (fun i => decide (rk r i < t)) = (l.take t).length := List.countP_eq_length.2 (fun a ha => by
    have : a < r.length := (ord_mem h).1 (List.mem_of_mem_take ha)
    simpa using (ord_take h this).1 ha)
  have e2 : (l.drop t).countP (fun i => decide (rk r i < t)) = 0 := List.countP_eq_zero.2 (fun a ha => by
    obtain ⟨j, hj, e⟩ := List.mem_iff_getElem.1 ha
    rw [List.getElem_drop] at e
    rw [List.length_drop] at hj
    have : l[t + j]? = some a := by rw [List.getElem?_eq_getElem (by omega), e]
    rw [rk_at h this]
    simp)
  rw [e1, e2, List.length_take, ord_len h]
  omega
/-! the parts -/
theorem map_at0 (r : List Int) : (List.range r.length).map (at0 r) = r := by
  apply List.ext_getElem?
  intro i
  rw [List.getElem?_map]
  by_cases h : i < r.length
  · rw [List.getElem?_range h, at0_lt h]; rfl
  · rw [List.getElem?_eq_none (by rw [List.length_range]; omega), List.getElem?_eq_none (by omega)]; rfl
def qL (T : Int) (ws : List Int) : List Int := ws.map fun w => (T * w).fdiv ws.sum
def rL (T : Int) (ws : List Int) : List Int := ws.map fun w => (T * w).fmod ws.sum
def mis (T : Int) (ws : List Int) : Int := T - (qL T ws).sum
def bon (T : Int) (ws : List Int) (i : Nat) : Int := if (rk (rL T ws) i : Int) < mis T ws then 1 else 0
def posL (T : Int) (ws : List Int) : List Int := (List.range ws.length).map fun i => at0 (qL T ws) i + bon T ws i
def splL (T : Int) (ws : List Int) : List Int := if T < 0 then (posL (-T) ws).map (fun x => -x) else posL T ws
structure WOk (ws : List Int) : Prop where
  nn : ∀ w ∈ ws, 0 ≤ w
  pos : 0 < ws.sum
theorem qL_len (T : Int) (ws : List Int) : (qL T ws).length = ws.length := by simp [qL]
theorem rL_len (T : Int) (ws : List Int) : (rL T ws).length = ws.length := by simp [rL]
theorem posL_len (T : Int) (ws : List Int) : (posL T ws).length = ws.length := by simp [posL]
theorem splL_len (T : Int) (ws : List Int) : (splL T ws).length = ws.length := by unfold splL; split <;> simp [posL]
theorem qL_at {T : Int} {ws : List Int} {i : Nat} (h : i < ws.length) : at0 (qL T ws) i = (T * at0 ws i).fdiv ws.sum := at0_some (by rw [qL, List.getElem?_map, at0_lt h]; rfl)
theorem rL_at {T : Int} {ws : List Int} {i : Nat} (h : i < ws.length) : at0 (rL T ws) i = (T * at0 ws i).fmod ws.sum := at0_some (by rw [rL, List.getElem?_map, at0_lt h]; rfl)
theorem posL_at {T : Int} {ws : List Int} {i : Nat} (h : i < ws.length) : at0 (posL T ws) i = (T * at0 ws i).fdiv ws.sum + bon T ws i := at0_some (by rw [posL, List.getElem?_map, List.getElem?_range h]; show some (at0 (qL T ws) i + bon T ws i) = _; rw [qL_at h])
theorem sum_map_neg (l : List Int) : (l.map (fun x => -x)).sum = -l.sum := by
  induction l with
  | nil => rfl
  | cons x l ih => rw [List.map_cons, List.sum_cons, List.sum_cons, ih]; omega
theorem sum_map_add {α : Type} (f g : α → Int) (l : List α) : (l.map (fun x => f x + g x)).sum = (l.map f).sum + (l.map g).sum := by
  induction l with
  | nil => rfl
  | cons x l ih => simp only [List.map_cons, List.sum_cons, ih]; omega
theorem sum_map_mul {α : Type} (f : α → Int) (S : Int) (l : List α) : (l.map (fun x => S * f x)).sum = S * (l.map f).sum := by
  induction l with
  | nil => simp
  | cons x l ih => simp only [List.map_cons, List.sum_cons, ih, Int.mul_add]
theorem sum_count {α : Type} (p : α → Prop) [DecidablePred p] (l : List α) : (l.map (fun x => if p x then (1 : Int) else 0)).sum = (l.countP (fun x => decide (p x)) : Int) := by
  induction l with
  | nil => rfl
  | cons x l ih =>
    rw [List.map_cons, List.sum_cons, ih, List.countP_cons]
    by_cases h : p x <;> simp [h] <;> omega
theorem fdm (a S : Int) : S * a.fdiv S + a.fmod S = a := Int.mul_fdiv_add_fmod a S
theorem fmod_bounds (a : Int) {S : Int} (h : 0 < S) : 0 ≤ a.fmod S ∧ a.fmod S < S := ⟨Int.fmod_nonneg_of_pos a h, Int.fmod_lt_of_pos a h⟩
theorem rest_sum (T : Int) {ws : List Int} : (rL T ws).sum = ws.sum * mis T ws := by
  have h : ws.sum * (qL T ws).sum + (rL T ws).sum = T * ws.sum := by
    unfold qL rL
    rw [← sum_map_mul, ← sum_map_add]
    rw [List.map_congr_left (f := fun x => ws.sum * (T * x).fdiv ws.sum + (T * x).fmod ws.sum) (g := fun w => T * id w) (fun w _ => fdm _ _), sum_map_mul, List.map_id]
  unfold mis
  rw [Int.mul_sub, Int.mul_comm ws.sum T]
  omega
theorem rest_bounds (T : Int) {ws : List Int} (h : WOk ws) : ∀ x ∈ rL T ws, 0 ≤ x ∧ x < ws.sum := by
  intro x hx
  obtain ⟨w, _, rfl⟩ := List.mem_map.1 hx
  exact fmod_bounds _ h.pos
theorem sum_le_count {S : Int} (_hS : 0 < S) (l : List Int) (h : ∀ x ∈ l, 0 ≤ x ∧ x < S) : 0 ≤ l.sum ∧ l.sum ≤ S * (l.countP (fun x => decide (0 < x)) : Int) ∧ (0 < l.countP (fun x => decide (0 < x)) → l.sum < S * (l.countP (fun x => decide (0 < x)) : Int)) := by
  induction l with
  | nil => simp
  | cons x l ih =>
    obtain ⟨h1, h2, h3⟩ := ih (fun y hy => h y (by simp [hy]))
    have hx := h x (by simp)
    rw [List.sum_cons, List.countP_cons]
    generalize l.countP (fun x => decide (0 < x)) = c at *
    by_cases h0 : 0 < x
    · simp only [h0, decide_true, if_true]
      have e : S * ((c + 1 : Nat) : Int) = S * (c : Int) + S := by rw [Int.natCast_add, Int.mul_add]; simp
      rw [e]
      exact ⟨by omega, by omega, fun _ => by omega⟩
    · have : x = 0 := by omega
      subst this
      simp only [h0, decide_false]
      simp only [Bool.false_eq_true, if_false, Nat.add_zero, Int.zero_add]
      exact ⟨h1, h2, h3⟩
/-- how much is missing: at least nothing, and at most as many as have a rest -/
theorem mis_bounds (T : Int) {ws : List Int} (h : WOk ws) : 0 ≤ mis T ws ∧ mis T ws ≤ ((rL T ws).countP (fun x => decide (0 < x)) : Int) := by
  obtain ⟨h1, h2, _⟩ := sum_le_count h.pos (rL T ws) (rest_bounds T h)
  rw [rest_sum] at h1 h2
  have hp := h.pos
  constructor
  · rcases lt_ge (mis T ws) 0 with hm | hm
    · have := Int.mul_neg_of_pos_of_neg hp hm
      omega
    · exact hm
  · exact Int.le_of_mul_le_mul_left h2 hp
theorem mis_le (T : Int) {ws : List Int} (h : WOk ws) : 0 ≤ mis T ws ∧ mis T ws ≤ (ws.length : Int) := by
  have := mis_bounds T h
  have h2 := List.countP_le_length (p := fun x => decide ((0 : Int) < x)) (l := rL T ws)
  rw [rL_len] at h2
  omega
theorem count_at0 (r : List Int) (p : Int → Bool) : (List.range r.length).countP (fun k => p (at0 r k)) = r.countP p := by
  have := congrArg (List.countP p) (map_at0 r)
  rw [List.countP_map] at this
  exact this
/-- without a rest there is no further unit -/
theorem bon_zero (T : Int) {ws : List Int} (h : WOk ws) {i : Nat} (h0 : at0 (rL T ws) i = 0) : bon T ws i = 0 := by
  have h1 := mis_bounds T h
  have h2 : (rL T ws).countP (fun x => decide (0 < x)) ≤ rk (rL T ws) i := by
    rw [← count_at0]
    unfold rk
    apply List.countP_mono_left
    intro k _ hk
    rw [beats_iff, h0]
    left
    simpa using hk
  unfold bon
  rw [if_neg (by omega)]
theorem bon_cases (T : Int) (ws : List Int) (i : Nat) : bon T ws i = 0 ∨ bon T ws i = 1 := by unfold bon; split <;> simp
theorem posL_sum (T : Int) {ws : List Int} (h : WOk ws) : (posL T ws).sum = T := by
  unfold posL
  have e := map_at0 (qL T ws)
  rw [qL_len] at e
  have hm := mis_le T h
  rw [sum_map_add (at0 (qL T ws)) (bon T ws), e]
  have e2 : ((List.range ws.length).map (bon T ws)).sum = mis T ws := by
    have e3 : (List.range ws.length).map (bon T ws) = (List.range (rL T ws).length).map (fun i => if rk (rL T ws) i < (mis T ws).toNat then (1 : Int) else 0) := by
      rw [rL_len]
      apply List.map_congr_left
      intro i _
      unfold bon
      by_cases hc : (rk (rL T ws) i : Int) < mis T ws
      · rw [if_pos hc, if_pos (by omega)]
      · rw [if_neg hc, if_neg (by omega)]
    rw [e3, sum_count, rk_count (by rw [rL_len]; omega)]
    omega
  rw [e2]
  unfold mis
  omega
theorem posL_near (T : Int) {ws : List Int} (h : WOk ws) {i : Nat} (hi : i < ws.length) : -ws.sum < ws.sum * at0 (posL T ws) i - T * at0 ws i ∧ ws.sum * at0 (posL T ws) i - T * at0 ws i < ws.sum := by
  rw [posL_at hi, Int.mul_add]
  have e := fdm (T * at0 ws i) ws.sum
  have hb := fmod_bounds (T * at0 ws i) h.pos
  have hz := bon_zero T h (i := i)
  rw [rL_at hi] at hz
  rcases bon_cases T ws i with hc | hc
  · rw [hc, Int.mul_zero]; omega
  · have : (T * at0 ws i).fmod ws.sum ≠ 0 := fun e => by have := hz e; omega
    rw [hc, Int.mul_one]
    omega
theorem splL_sum (T : Int) {ws : List Int} (h : WOk ws) : (splL T ws).sum = T := by
  unfold splL
  split
  · rw [sum_map_neg, posL_sum _ h]; omega
  · exact posL_sum _ h
theorem at0_neg (l : List Int) (i : Nat) : at0 (l.map (fun x => -x)) i = -at0 l i := by
  by_cases h : i < l.length
  · exact at0_some (by rw [List.getElem?_map, at0_lt h]; rfl)
  · unfold at0
    rw [List.getD_eq_getElem?_getD, List.getElem?_eq_none (by simp; omega), List.getD_eq_getElem?_getD, List.getElem?_eq_none (by omega)]
    rfl
theorem splL_near (T : Int) {ws : List Int} (h : WOk ws) {i : Nat} (hi : i < ws.length) : -ws.sum < ws.sum * at0 (splL T ws) i - T * at0 ws i ∧ ws.sum * at0 (splL T ws) i - T * at0 ws i < ws.sum := by
  unfold splL
  split
  · rw [at0_neg]
    have := posL_near (-T) h hi
    rw [Int.neg_mul] at this
    rw [Int.mul_neg]
    omega
  · exact posL_near T h hi
theorem posL_zero (T : Int) {ws : List Int} (h : WOk ws) {i : Nat} (hi : i < ws.length) (h0 : at0 ws i = 0) : at0 (posL T ws) i = 0 := by
  rw [posL_at hi, bon_zero T h (by rw [rL_at hi, h0, Int.mul_zero, Int.zero_fmod]), h0, Int.mul_zero, Int.zero_fdiv]
  rfl
theorem splL_zero (T : Int) {ws : List Int} (h : WOk ws) {i : Nat} (hi : i < ws.length) (h0 : at0 ws i = 0) : at0 (splL T ws) i = 0 := by
  unfold splL
  split
  · rw [at0_neg, posL_zero _ h hi h0]; rfl
  · exact posL_zero _ h hi h0
theorem fdiv_nn {a S : Int} (ha : 0 ≤ a) (hS : 0 < S) : 0 ≤ a.fdiv S := by
  have h1 := fdm a S
  have h2 := fmod_bounds a hS
  rcases lt_ge (a.fdiv S) 0 with h | h
  · have h3 : S * a.fdiv S ≤ S * (-1) := Int.mul_le_mul_of_nonneg_left (by omega) (by omega)
    omega
  · exact h
theorem fdiv_mono {a b S : Int} (hab : a ≤ b) (hS : 0 < S) : a.fdiv S ≤ b.fdiv S := by
  have h1 := fdm a S
  have h2 := fmod_bounds a hS
  have h3 := fdm b S
  have h4 := fmod_bounds b hS
  rcases lt_ge (b.fdiv S) (a.fdiv S) with h | h
  · have h5 : S * (b.fdiv S + 1) ≤ S * a.fdiv S := Int.mul_le_mul_of_nonneg_left (by omega) (by omega)
    rw [Int.mul_add, Int.mul_one] at h5
    omega
  · exact h
theorem posL_nn {T : Int} {ws : List Int} (h : WOk ws) (hT : 0 ≤ T) {i : Nat} (hi : i < ws.length) : 0 ≤ at0 (posL T ws) i := by
  rw [posL_at hi]
  have h1 := fdiv_nn (Int.mul_nonneg hT (h.nn _ (List.mem_of_getElem? (at0_lt hi)))) h.pos
  rcases bon_cases T ws i with e | e <;> omega
/-- of two parts, that of the greater weight is not less; with equal weights they differ by at most 1, and the first one is not less -/
theorem posL_order {T : Int} {ws : List Int} (h : WOk ws) (hT : 0 ≤ T) {i k : Nat} (hi : i < ws.length) (hk : k < ws.length) :
    (at0 ws k < at0 ws i → at0 (posL T ws) k ≤ at0 (posL T ws) i) ∧ (at0 ws i = at0 ws k → i < k → at0 (posL T ws) k ≤ at0 (posL T ws) i ∧ at0 (posL T ws) i - at0 (posL T ws) k ≤ 1) := by
  have hp := h.pos
  have e1 := fdm (T * at0 ws i) ws.sum
  have b1 := fmod_bounds (T * at0 ws i) hp
  have e2 := fdm (T * at0 ws k) ws.sum
  have b2 := fmod_bounds (T * at0 ws k) hp
  have c1 := bon_cases T ws i
  have c2 := bon_cases T ws k
  rw [posL_at hi, posL_at hk]
  have mono : beats (rL T ws) i k = true → bon T ws k ≤ bon T ws i := by
    intro hb
    have := (rk_beats (r := rL T ws) (by rw [rL_len]; exact hi) (by rw [rL_len]; exact hk)).2 hb
    unfold bon
    by_cases hc : (rk (rL T ws) k : Int) < mis T ws
    · rw [if_pos hc, if_pos (by omega)]; omega
    · rw [if_neg hc]; split <;> omega
  constructor
  · intro hw
    rcases lt_ge 0 T with hT0 | hT0
    · have hlt : T * at0 ws k < T * at0 ws i := Int.mul_lt_mul_of_pos_left hw hT0
      have hq := fdiv_mono (Int.le_of_lt hlt) hp
      by_cases he : (T * at0 ws k).fdiv ws.sum = (T * at0 ws i).fdiv ws.sum
      · rw [he] at e2
        have hb : beats (rL T ws) i k = true := by
          rw [beats_iff, rL_at hi, rL_at hk]
          left
          omega
        have := mono hb
        omega
      · omega
    · have : T = 0 := by omega
      subst this
      have z1 := bon_zero 0 h (i := i) (by rw [rL_at hi, Int.zero_mul, Int.zero_fmod])
      have z2 := bon_zero 0 h (i := k) (by rw [rL_at hk, Int.zero_mul, Int.zero_fmod])
      rw [z1, z2]
      simp
  · intro hw hik
    have hb : beats (rL T ws) i k = true := by
      rw [beats_iff, rL_at hi, rL_at hk, hw]
      right
      exact ⟨rfl, hik⟩
    have := mono hb
    rw [hw]
    omega
/-! beginnings -/
def runQ (T : Int) (ws : List Int) (k : Nat) : Int := (T * (ws.take k).sum).fdiv ws.sum
def runL (T : Int) (ws : List Int) (n : Nat) : List Int := (List.range n).map fun k => runQ T ws (k + 1) - runQ T ws k
theorem runL_len (T : Int) (ws : List Int) (n : Nat) : (runL T ws n).length = n := by simp [runL]
theorem runL_succ (T : Int) (ws : List Int) (k : Nat) : runL T ws (k + 1) = runL T ws k ++ [runQ T ws (k + 1) - runQ T ws k] := by unfold runL; rw [List.range_succ, List.map_append]; rfl
theorem runQ_zero (T : Int) (ws : List Int) : runQ T ws 0 = 0 := by unfold runQ; simp
theorem runL_sum (T : Int) (ws : List Int) (k : Nat) : (runL T ws k).sum = runQ T ws k := by
  induction k with
  | zero => rw [runQ_zero]; rfl
  | succ k ih => rw [runL_succ, List.sum_append, ih, List.sum_singleton]; omega
theorem runQ_all (T : Int) {ws : List Int} (h : WOk ws) : runQ T ws ws.length = T := by
  unfold runQ
  rw [List.take_length]
  exact Int.mul_fdiv_cancel _ (by have := h.pos; omega)
theorem take_sum_succ (ws : List Int) {k : Nat} (hk : k < ws.length) : (ws.take (k + 1)).sum = (ws.take k).sum + at0 ws k := by
  rw [List.take_add_one, at0_lt hk, List.sum_append]
  simp
theorem runL_at {T : Int} {ws : List Int} {n k : Nat} (h : k < n) : at0 (runL T ws n) k = runQ T ws (k + 1) - runQ T ws k := at0_some (by rw [runL, List.getElem?_map, List.getElem?_range h]; rfl)
theorem runL_near (T : Int) {ws : List Int} (h : WOk ws) {i : Nat} (hi : i < ws.length) : -ws.sum < ws.sum * at0 (runL T ws ws.length) i - T * at0 ws i ∧ ws.sum * at0 (runL T ws ws.length) i - T * at0 ws i < ws.sum := by
  rw [runL_at hi]
  unfold runQ
  rw [take_sum_succ ws hi, Int.mul_sub]
  have e1 := fdm (T * ((ws.take i).sum + at0 ws i)) ws.sum
  have b1 := fmod_bounds (T * ((ws.take i).sum + at0 ws i)) h.pos
  have e2 := fdm (T * (ws.take i).sum) ws.sum
  have b2 := fmod_bounds (T * (ws.take i).sum) h.pos
  have e3 : T * ((ws.take i).sum + at0 ws i) = T * (ws.take i).sum + T * at0 ws i := Int.mul_add _ _ _
  omega
theorem runL_zero (T : Int) {ws : List Int} {i : Nat} (hi : i < ws.length) (h0 : at0 ws i = 0) : at0 (runL T ws ws.length) i = 0 := by
  rw [runL_at hi]
  unfold runQ
  rw [take_sum_succ ws hi, h0, Int.add_zero]
  omega
theorem runL_take (T : Int) (ws : List Int) {n k : Nat} (h : k ≤ n) : (runL T ws n).take k = runL T ws k := by
  unfold runL
  rw [← List.map_take, List.take_range, Nat.min_eq_left h]
/-! the reference: the greatest rest, again and again -/
def bst (f : Nat → Int) : Nat → Nat
  | 0 => 0
  | k + 1 => if f (bst f k) < f (k + 1) then k + 1 else bst f k
theorem bst_ok (f : Nat → Int) (k : Nat) : bst f k ≤ k ∧ (∀ i, i ≤ k → f i ≤ f (bst f k)) ∧ (∀ i, i < bst f k → f i < f (bst f k)) := by
  induction k with
  | zero => exact ⟨Nat.le_refl _, fun i hi => by have : i = 0 := by omega
                                                 subst this; exact Int.le_refl _, fun i hi => by unfold bst at hi; omega⟩
  | succ k ih =>
    obtain ⟨h1, h2, h3⟩ := ih
    unfold bst
    split
    · rename_i hlt
      refine ⟨Nat.le_refl _, fun i hi => ?_, fun i hi => ?_⟩
      · by_cases e : i = k + 1
        · subst e; exact Int.le_refl _
        · have := h2 i (by omega); omega
      · have := h2 i (by omega); omega
    · rename_i hlt
      refine ⟨by omega, fun i hi => ?_, h3⟩
      by_cases e : i = k + 1
      · subst e; omega
      · exact h2 i (by omega)
/-- what is left of the rests behind t steps -/
def lft (r : List Int) (S : Int) (t : Nat) (i : Nat) : Int := at0 r i - if rk r i < t then S else 0
theorem bst_rk {r : List Int} {S : Int} (hb : ∀ x ∈ r, 0 ≤ x ∧ x < S) {n t : Nat} (hn : r.length = n + 1) (ht : t < r.length) : rk r (bst (lft r S t) n) = t := by
  obtain ⟨h1, h2, h3⟩ := bst_ok (lft r S t) n
  obtain ⟨i, hi, e⟩ := rk_ex ht
  generalize bst (lft r S t) n = b at *
  have hbl : b < r.length := by omega
  have q1 := hb _ (List.mem_of_getElem? (at0_lt hi))
  have q2 := hb _ (List.mem_of_getElem? (at0_lt hbl))
  have l1 := h2 i (by omega)
  have li : lft r S t i = at0 r i := by unfold lft; rw [if_neg (by omega)]; omega
  rw [li] at l1
  rcases Nat.lt_trichotomy (rk r b) t with h | h | h
  · have lb : lft r S t b = at0 r b - S := by unfold lft; rw [if_pos h]
    rw [lb] at l1
    omega
  · exact h
  · have lb : lft r S t b = at0 r b := by unfold lft; rw [if_neg (by omega)]; omega
    rw [lb] at l1
    have hbt := (rk_beats hi hbl).1 (by omega)
    rw [beats_iff] at hbt
    rcases hbt with hbt | ⟨hbt, hlt⟩
    · omega
    · have := h3 i hlt
      rw [li, lb] at this
      omega
theorem lft_succ {r : List Int} {S : Int} (hb : ∀ x ∈ r, 0 ≤ x ∧ x < S) {n t : Nat} (hn : r.length = n + 1) (ht : t < r.length) {i : Nat} (hi : i < r.length) :
    lft r S (t + 1) i = if i = bst (lft r S t) n then lft r S t i - S else lft r S t i := by
  have hk := bst_rk hb hn ht
  have hbl : bst (lft r S t) n < r.length := by have := (bst_ok (lft r S t) n).1; omega
  by_cases e : i = bst (lft r S t) n
  · rw [if_pos e]
    have h1 : rk r i = t := by rw [e]; exact hk
    unfold lft
    rw [if_pos (by omega), if_neg (by omega)]
    omega
  · rw [if_neg e]
    have h1 : rk r i ≠ t := fun h => e (rk_inj hi hbl (by rw [hk]; exact h))
    unfold lft
    by_cases h2 : rk r i < t
    · rw [if_pos (by omega), if_pos h2]
    · rw [if_neg (by omega), if_neg h2]
end SP
