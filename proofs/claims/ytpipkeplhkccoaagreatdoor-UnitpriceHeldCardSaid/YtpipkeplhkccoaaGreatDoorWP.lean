/- Allocation: the plain law: errors, parts, sizes. No condition. -/
import Derived.Test.YtpipkeplhkccoaaGreatDoorOwn
import Derived.Test.YtpipkeplhkccoaaGreatDoorSP
namespace Go.Proofs.YtpipkeplhkccoaaGreatDoor
open Go.RowKit Go.Shelf Dec QQ SP

def iv (ws : List ByteArray) : List Int := ws.map valS
theorem iv_len (ws : List ByteArray) : (iv ws).length = ws.length := by simp [iv]
theorem iv_at {ws : List ByteArray} {i : Nat} {s : ByteArray} (h : ws[i]? = some s) : at0 (iv ws) i = valS s := at0_some (by rw [iv, List.getElem?_map, h]; rfl)
theorem iv_take (ws : List ByteArray) (k : Nat) : iv (ws.take k) = (iv ws).take k := by unfold iv; rw [List.map_take]
theorem iv_sum_succ {ws : List ByteArray} {k : Nat} {s : ByteArray} (h : ws[k]? = some s) : ((iv ws).take (k + 1)).sum = ((iv ws).take k).sum + valS s := by
  rw [take_sum_succ _ (by rw [iv_len]; exact (List.getElem?_eq_some_iff.1 h).1), iv_at h]
def wbad (s : ByteArray) : Bool := (chk s != 0) || decide (valS s < 0)
theorem wbad_false {s : ByteArray} : wbad s = false ↔ chk s = 0 ∧ 0 ≤ valS s := by
  unfold wbad
  simp
/-- why a total or weights are not valid -/
def alE (t : ByteArray) (ws : List ByteArray) : Int := if ws.length = 0 then 11 else if 1000 < ws.length then 4 else if chk t ≠ 0 ∨ ws.any wbad = true then 1 else if (iv ws).sum = 0 then 10 else 0
structure AlOk (t : ByteArray) (ws : List ByteArray) : Prop where
  len0 : 0 < ws.length
  len : ws.length ≤ 1000
  ct : chk t = 0
  cw : ∀ w ∈ ws, chk w = 0 ∧ 0 ≤ valS w
  ok : WOk (iv ws)
theorem sum_nn {l : List Int} (h : ∀ x ∈ l, 0 ≤ x) : 0 ≤ l.sum := by
  induction l with
  | nil => simp
  | cons x l ih => rw [List.sum_cons]; have := ih (fun y hy => h y (by simp [hy])); have := h x (by simp); omega
theorem alE_zero {t : ByteArray} {ws : List ByteArray} : alE t ws = 0 ↔ AlOk t ws := by
  constructor
  · intro h
    unfold alE at h
    split at h
    · cases h
    · rename_i h1
      split at h
      · cases h
      · rename_i h2
        split at h
        · cases h
        · rename_i h3
          split at h
          · cases h
          · rename_i h4
            rw [not_or, Decidable.not_not] at h3
            have hw : ∀ w ∈ ws, chk w = 0 ∧ 0 ≤ valS w := fun w hw => wbad_false.1 (by
              have := h3.2
              rw [Bool.not_eq_true, List.any_eq_false] at this
              simpa using this w hw)
            have hn : ∀ x ∈ iv ws, 0 ≤ x := fun x hx => by
              obtain ⟨w, hw', rfl⟩ := List.mem_map.1 hx
              exact (hw w hw').2
            exact ⟨by omega, by omega, h3.1, hw, hn, by have := sum_nn hn; omega⟩
  · intro h
    unfold alE
    rw [if_neg (by have := h.len0; omega), if_neg (by have := h.len; omega), if_neg, if_neg]
    · have := h.ok.pos; omega
    · rw [not_or, Decidable.not_not]
      refine ⟨h.ct, ?_⟩
      rw [Bool.not_eq_true, List.any_eq_false]
      intro w hw
      rw [wbad_false.2 (h.cw w hw)]
      decide
def alS (t : ByteArray) (ws : List ByteArray) : List Int := if alE t ws = 0 then splL (valS t) (iv ws) else []
def alR (t : ByteArray) (ws : List ByteArray) : List Int := if alE t ws = 0 then runL (valS t) (iv ws) ws.length else []
def idL (T : Int) (ws : List Int) : List Rat := ws.map fun w => rat (T * w) ws.sum
def alI (t : ByteArray) (ws : List ByteArray) : List Rat := if alE t ws = 0 then idL (valS t) (iv ws) else []
theorem idL_len (T : Int) (ws : List Int) : (idL T ws).length = ws.length := by simp [idL]
theorem idL_at {T : Int} {ws : List Int} {i : Nat} (h : i < ws.length) : (idL T ws)[i]? = some (rat (T * at0 ws i) ws.sum) := by rw [idL, List.getElem?_map, at0_lt h]; rfl
/-! sizes -/
structure FewW (k : Nat) (t : ByteArray) (ws : List ByteArray) : Prop where
  t : t.size ≤ k
  w : ∀ s ∈ ws, s.size ≤ k
  n : ws.length ≤ 12
theorem sum_abs {K : Nat} {l : List Int} (h : ∀ x ∈ l, Fit K x) : l.sum.natAbs ≤ l.length * 10 ^ K := by
  induction l with
  | nil => simp
  | cons x l ih =>
    have h1 := ih (fun y hy => h y (by simp [hy]))
    have h2 : x.natAbs < 10 ^ K := h x (by simp)
    rw [List.sum_cons, List.length_cons, Nat.add_mul, Nat.one_mul]
    have := Int.natAbs_add_le x l.sum
    omega
theorem sum_fit {K : Nat} {l : List Int} (h : ∀ x ∈ l, Fit K x) (hn : l.length ≤ 12) : Fit (K + 2) l.sum := by
  have h1 := sum_abs h
  have h2 : l.length * 10 ^ K ≤ 12 * 10 ^ K := Nat.mul_le_mul_right _ hn
  have h3 : (10 : Nat) ^ (K + 2) = 10 ^ K * 100 := by rw [Nat.pow_add]
  have h4 : 0 < (10 : Nat) ^ K := Nat.pow_pos (by omega)
  show _ < _
  omega
theorem iv_fit {k : Nat} {ws : List ByteArray} (h : ∀ s ∈ ws, s.size ≤ k) : ∀ x ∈ iv ws, Fit k x := by
  intro x hx
  obtain ⟨s, hs, rfl⟩ := List.mem_map.1 hx
  exact Fit.val (h s hs)
theorem take_fit {k m : Nat} {ws : List ByteArray} (h : ∀ s ∈ ws, s.size ≤ k) (hn : ws.length ≤ 12) : Fit (k + 2) ((iv ws).take m).sum :=
  sum_fit (fun x hx => iv_fit h x (List.mem_of_mem_take hx)) (by rw [List.length_take, iv_len]; omega)
theorem whole_fit {k : Nat} {ws : List ByteArray} (h : ∀ s ∈ ws, s.size ≤ k) (hn : ws.length ≤ 12) : Fit (k + 2) (iv ws).sum := by
  have := take_fit (m := ws.length) h hn
  rwa [List.take_of_length_le (by rw [iv_len]; omega)] at this
end Go.Proofs.YtpipkeplhkccoaaGreatDoor
