/- Attribution: exchanged sectors, weights after a period, linked periods, amounts: the plain laws. No condition. -/
import Derived.Test.YtgagjpjlnlandaaGreatDoorAs
namespace Go.Proofs.YtgagjpjlnlandaaGreatDoor
open Go.RowKit Go.Shelf Dec QQ

/-- two elements exchanged -/
def swapL {α : Type} (l : List α) (i j : Nat) : List α := match l[i]?, l[j]? with | some x, some y => (l.set i y).set j x | _, _ => l
theorem swapL_at {α : Type} {l : List α} {i j : Nat} {x y : α} (hi : l[i]? = some x) (hj : l[j]? = some y) : swapL l i j = (l.set i y).set j x := by unfold swapL; rw [hi, hj]
theorem swapL_len {α : Type} (l : List α) (i j : Nat) : (swapL l i j).length = l.length := by
  unfold swapL
  split <;> simp
theorem swapL_perm {α : Type} {l : List α} {i j : Nat} (hi : i < l.length) (hj : j < l.length) : (swapL l i j).Perm l := by
  rw [swapL_at (List.getElem?_eq_getElem hi) (List.getElem?_eq_getElem hj)]
  exact List.set_set_perm hi hj
theorem swapL_map {α β : Type} (f : α → β) (l : List α) (i j : Nat) : swapL (l.map f) i j = (swapL l i j).map f := by
  unfold swapL
  rw [List.getElem?_map, List.getElem?_map]
  cases l[i]? with
  | none => rfl
  | some x =>
    cases l[j]? with
    | none => rfl
    | some y => simp [List.map_set]
theorem swapL_twice {α : Type} (l : List α) (i j : Nat) : swapL (swapL l i j) i j = l := by
  by_cases hi : i < l.length
  · by_cases hj : j < l.length
    · obtain ⟨x, hx⟩ : ∃ x, l[i]? = some x := ⟨_, List.getElem?_eq_getElem hi⟩
      obtain ⟨y, hy⟩ : ∃ y, l[j]? = some y := ⟨_, List.getElem?_eq_getElem hj⟩
      have h1 : swapL l i j = (l.set i y).set j x := swapL_at hx hy
      have hi2 : ((l.set i y).set j x)[i]? = some y := by
        rw [List.getElem?_set]
        split
        · rename_i e; subst e; rw [hx] at hy; injection hy with hy; subst hy; simp [hi]
        · rw [List.getElem?_set]; simp [hi]
      have hj2 : ((l.set i y).set j x)[j]? = some x := by
        rw [List.getElem?_set]; simp [hj]
      rw [h1, swapL_at hi2 hj2]
      apply List.ext_getElem?
      intro k
      simp only [List.getElem?_set, List.length_set]
      by_cases ek : j = k
      · subst ek; rw [hy]; simp [hj]
      · by_cases ei : i = k
        · subst ei; rw [hx]; simp [ek, hi]
        · simp [ek, ei]
    · have h1 : swapL l i j = l := by
        unfold swapL; rw [List.getElem?_eq_none (by omega : l.length ≤ j)]; cases l[i]? <;> rfl
      rw [h1, h1]
  · have h1 : swapL l i j = l := by
      unfold swapL; rw [List.getElem?_eq_none (by omega : l.length ≤ i)]
    rw [h1, h1]
theorem apart_nodup {l : List SecS} : (∀ (i j : Nat) (s t : SecS), i < j → l[i]? = some s → l[j]? = some t → s.nm ≠ t.nm) ↔ (l.map SecS.nm).Nodup := by
  rw [List.nodup_iff_pairwise_ne, List.pairwise_map, List.pairwise_iff_getElem]
  constructor
  · intro h i j hi hj hij
    exact h i j _ _ hij (List.getElem?_eq_getElem hi) (List.getElem?_eq_getElem hj)
  · intro h i j s t hij hs ht
    obtain ⟨h1, rfl⟩ := List.getElem?_eq_some_iff.1 hs
    obtain ⟨h2, rfl⟩ := List.getElem?_eq_some_iff.1 ht
    exact h i j h1 h2 hij
theorem OkS.perm {l m : List SecS} (h : OkS l) (p : m.Perm l) : OkS m :=
  ⟨by rw [p.length_eq]; exact h.pos, by rw [p.length_eq]; exact h.few, fun s hs => h.names s (p.mem_iff.1 hs),
   apart_nodup.2 ((p.map SecS.nm).nodup_iff.2 (apart_nodup.1 h.apart)), fun s hs => h.can s (p.mem_iff.1 hs), by rw [sumQ_perm p]; exact h.w1, by rw [sumQ_perm p]; exact h.v1⟩
/-- exchanging sectors exchanges their contributions -/
theorem parts_swap {l : List SecS} {i j : Nat} (hi : i < l.length) (hj : j < l.length) : swapL (partsL (swapL l i j)) i j = partsL l := by
  unfold partsL
  rw [← swapL_map, swapL_twice]
  have : benQ (swapL l i j) = benQ l := sumQ_perm (swapL_perm hi hj)
  rw [this]
theorem swap_ok {l : List SecS} {i j : Nat} (hi : i < l.length) (hj : j < l.length) : OkS (swapL l i j) ↔ OkS l :=
  ⟨fun h => h.perm (swapL_perm hi hj).symm, fun h => h.perm (swapL_perm hi hj)⟩

/-- the sector of numbers -/
def mkS (nm : ByteArray) (w r v b : Rat) : SecS := ⟨nm, frN w, frD w, frN r, frD r, frN v, frD v, frN b, frD b⟩
theorem mkS_q (nm : ByteArray) (w r v b : Rat) : (mkS nm w r v b).w = w ∧ (mkS nm w r v b).r = r ∧ (mkS nm w r v b).v = v ∧ (mkS nm w r v b).b = b := ⟨ratV_fr w, ratV_fr r, ratV_fr v, ratV_fr b⟩
theorem mkS_can (nm : ByteArray) (w r v b : Rat) : (mkS nm w r v b).can = true := by simp [SecS.can, mkS, canB_fr]
theorem mkS_le {nm : ByteArray} {w r v b : Rat} {k : Nat} (h0 : nm.size ≤ 100000) (h1 : FitQ k w) (h2 : FitQ k r) (h3 : FitQ k v) (h4 : FitQ k b) : (mkS nm w r v b).le (k + 1) :=
  ⟨h0, (FitQ.sizes h1).1, (FitQ.sizes h1).2, (FitQ.sizes h2).1, (FitQ.sizes h2).2, (FitQ.sizes h3).1, (FitQ.sizes h3).2, (FitQ.sizes h4).1, (FitQ.sizes h4).2⟩
/-- the growths -/
def ownG (l : List SecS) : Rat := sumQ (fun s => s.w * (1 + s.r)) l
def benG (l : List SecS) : Rat := sumQ (fun s => s.v * (1 + s.b)) l
theorem ownG_eq {l : List SecS} (h : OkS l) : ownG l = 1 + ownQ l := own_return (w := SecS.w) (r := SecS.r) h.w1
theorem benG_eq {l : List SecS} (h : OkS l) : benG l = 1 + benQ l := own_return (w := SecS.v) (r := SecS.b) h.v1
def driftS (O B : Rat) (s : SecS) : SecS := mkS s.nm (s.w * (1 + s.r) / O) 0 (s.v * (1 + s.b) / B) 0
def driftL (l : List SecS) : List SecS := l.map (driftS (ownG l) (benG l))
theorem drift_ok {l : List SecS} (h : OkS l) (h1 : ownG l ≠ 0) (h2 : benG l ≠ 0) : OkS (driftL l) := by
  have e1 : (driftL l).map SecS.nm = l.map SecS.nm := by
    unfold driftL
    rw [List.map_map]
    rfl
  refine ⟨by simp [driftL]; exact h.pos, by simp [driftL]; exact h.few, ?_, apart_nodup.2 (by rw [e1]; exact apart_nodup.1 h.apart), ?_, ?_, ?_⟩
  · intro s hs
    obtain ⟨t, ht, rfl⟩ := List.mem_map.1 hs
    exact h.names t ht
  · intro s hs
    obtain ⟨t, ht, rfl⟩ := List.mem_map.1 hs
    exact mkS_can _ _ _ _ _
  · unfold driftL
    rw [sumQ_map, ← drift_sum (l := l) (w := SecS.w) (r := SecS.r) rfl h1]
    exact sumQ_congr fun a _ => (mkS_q _ _ _ _ _).1
  · unfold driftL
    rw [sumQ_map, ← drift_sum (l := l) (w := SecS.v) (r := SecS.b) rfl h2]
    exact sumQ_congr fun a _ => (mkS_q _ _ _ _ _).2.2.1
/-- the period after: the weights of the one, the returns of others -/
def nextL (x m : List SecS) : List SecS := (x.zip m).map fun p => ⟨p.1.nm, p.1.wn, p.1.wd, p.2.rn, p.2.rd, p.1.vn, p.1.vd, p.2.bn, p.2.bd⟩
theorem nextL_len {x m : List SecS} (h : x.length ≤ m.length) : (nextL x m).length = x.length := by
  simp [nextL]; omega
theorem zip_fst {α β γ : Type} (f : α → γ) : ∀ {x : List α} {m : List β}, x.length ≤ m.length → (x.zip m).map (fun p => f p.1) = x.map f
  | [], _, _ => rfl
  | a :: x, [], h => by simp at h
  | a :: x, b :: m, h => by
    simp only [List.zip_cons_cons, List.map_cons]
    rw [zip_fst f (by simpa using h)]
theorem sum_zip {α β : Type} (f : α → Rat) {x : List α} {m : List β} (h : x.length ≤ m.length) : sumQ (fun p : α × β => f p.1) (x.zip m) = sumQ f x := by
  have e := zip_fst f h
  have : ∀ {γ : Type} (g : γ → Rat) (l : List γ), sumQ g l = sumQ id (l.map g) := fun g l => by rw [sumQ_map]; rfl
  rw [this, e, ← this]
theorem next_ok {x m : List SecS} (hx : OkS x) (hm : OkS m) (h : x.length ≤ m.length) : OkS (nextL x m) := by
  have e1 : (nextL x m).map SecS.nm = x.map SecS.nm := by
    unfold nextL
    rw [List.map_map]
    exact zip_fst SecS.nm h
  refine ⟨by rw [nextL_len h]; exact hx.pos, by rw [nextL_len h]; exact hx.few, ?_, apart_nodup.2 (by rw [e1]; exact apart_nodup.1 hx.apart), ?_, ?_, ?_⟩
  · intro s hs
    obtain ⟨p, hp, rfl⟩ := List.mem_map.1 hs
    exact hx.names p.1 (List.of_mem_zip hp).1
  · intro s hs
    obtain ⟨p, hp, rfl⟩ := List.mem_map.1 hs
    have c1 := hx.can p.1 (List.of_mem_zip hp).1
    have c2 := hm.can p.2 (List.of_mem_zip hp).2
    unfold SecS.can at *
    simp only [Bool.and_eq_true] at *
    exact ⟨⟨⟨c1.1.1.1, c2.1.1.2⟩, c1.1.2⟩, c2.2⟩
  · unfold nextL
    rw [sumQ_map]
    exact (sum_zip SecS.w h).trans hx.w1
  · unfold nextL
    rw [sumQ_map]
    exact (sum_zip SecS.v h).trans hx.v1
theorem zip_map_fst {α β γ : Type} (f : α → γ) (l : List α) (m : List β) : (l.map f).zip m = (l.zip m).map (fun p => (f p.1, p.2)) := by
  induction l generalizing m with
  | nil => rfl
  | cons a l ih =>
    cases m with
    | nil => rfl
    | cons b m => simp [ih]
/-- without trading, the growth over two periods is that of the sectors -/
theorem drift_law {l m : List SecS} (h : OkS l) (h1 : ownG l ≠ 0) (hm : l.length ≤ m.length) :
    (1 + ownQ l) * (1 + ownQ (nextL (driftL l) m)) = sumQ (fun p : SecS × SecS => p.1.w * ((1 + p.1.r) * (1 + p.2.r))) (l.zip m) := by
  have e1 : ownQ (nextL (driftL l) m) = sumQ (fun p : SecS × SecS => p.1.w * (1 + p.1.r) / ownG l * p.2.r) (l.zip m) := by
    unfold ownQ nextL driftL
    rw [sumQ_map, zip_map_fst, sumQ_map]
    exact sumQ_congr fun p _ => by
      show (driftS (ownG l) (benG l) p.1).w * p.2.r = _
      rw [show (driftS (ownG l) (benG l) p.1).w = p.1.w * (1 + p.1.r) / ownG l from (mkS_q _ _ _ _ _).1]
  have hw : sumQ (fun p : SecS × SecS => p.1.w) (l.zip m) = 1 := (sum_zip SecS.w hm).trans h.w1
  have hO : sumQ (fun p : SecS × SecS => p.1.w * (1 + p.1.r)) (l.zip m) = ownG l := sum_zip (fun s : SecS => s.w * (1 + s.r)) hm
  have hq : sumQ (fun p : SecS × SecS => p.1.w * p.1.r) (l.zip m) = ownQ l := sum_zip (fun s : SecS => s.w * s.r) hm
  have := drift_two (l := l.zip m) (w := fun p => p.1.w) (r := fun p => p.1.r) (m := fun p => p.2.r) (O := ownG l) hw hO h1
  rw [hq] at this
  rw [e1]
  exact this

/-- sums of whole numbers: what the parts are when each beginning is rounded down -/
def amtL (T : Rat) (A : Int) (l : List PrtS) (k : Nat) : Int := ((A : Rat) * sumQ PrtS.all (l.take k) / T).floor
theorem amt_all {T : Rat} {A : Int} {l : List PrtS} (h : sumQ PrtS.all l = T) (h0 : T ≠ 0) : amtL T A l l.length = A := by
  unfold amtL
  rw [List.take_of_length_le (Nat.le_refl _), h]
  have : (A : Rat) * T / T = A := by rw [Rat.div_def, Rat.mul_assoc, Rat.mul_inv_cancel _ h0, Rat.mul_one]
  rw [this, Rat.floor_intCast]
end Go.Proofs.YtgagjpjlnlandaaGreatDoor
