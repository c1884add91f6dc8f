/- Fees: the plain law of FeeSteps: a run is that over a beginning and that from there on. No condition. -/
import Derived.Test.YticfdeaphiifeaaGreatDoorDh
import Derived.Test.YticfdeaphiifeaaGreatDoorFpl
import Derived.Test.YticfdeaphiifeaaGreatDoorGr
namespace Go.Proofs.YticfdeaphiifeaaGreatDoor
open Go.RowKit Go.Shelf Dec QQ
theorem run_zero {T : TermS} {u kn kd : ByteArray} {l : List PtS} (h : runE T u kn kd l = 0) : termE T = 0 ∧ cntE u kn kd = 0 ∧ serE l = 0 := by
 unfold runE at h
 split at h
 ·cases h
 ·rename_i h1
  split at h
  ·rename_i h2; exact absurd h h2
  ·rename_i h2
   exact ⟨Decidable.of_not_not h1, Decidable.of_not_not h2, h⟩
theorem runsIn {T : TermS} {u kn kd : ByteArray} {l : List PtS} (h1 : termE T = 0) (h2 : cntE u kn kd = 0) (h3 : serE l = 0) : runE T u kn kd l = 0 := by
 unfold runE
 rw [if_neg (by simpa using h1), if_neg (by simpa using h2), h3]
theorem chkF_frS (q : Rat) : chkF (frN q) (frD q) = 0 := by
 have := canB_fr q
 unfold canB at this
 exact eq_of_beq this
theorem mark_nn {T : TermS} {u : Int} {mk : Rat} {l : List PtS} (h : 0 ≤ mk) : ∀ k, 0 ≤ markK T u mk l k := by
 intro k
 induction k with
 | zero => exact h
 | succ k ih =>
  unfold markK
  split
  ·exact Rat.le_trans ih (pf_mark _ _ _ _).1
  ·exact ih
theorem cnt_in {u : ByteArray} {q : Rat} (h1 : chk u = 0) (h2 : 0 < valS u) (h3 : 0 ≤ q) : cntE u (frN q) (frD q) = 0 := by
 unfold cntE
 rw [if_neg (by rw [h1, chkF_frS]; simp), ratV_fr, if_neg (by rw [not_or]; exact ⟨by omega, Rat.not_lt.2 h3⟩)]
theorem cnt_mark {T : TermS} {u kn kd : ByteArray} {l : List PtS} (h : cntE u kn kd = 0) (k : Nat) : cntE u (frN (markK T (valS u) (ratV kn kd) l k)) (frD (markK T (valS u) (ratV kn kd) l k)) = 0 := by
 obtain ⟨c1, _, c3, c4⟩ := cnt_zero h
 exact cnt_in c1 c3 (mark_nn c4 k)
theorem steps_first {T : TermS} {u kn kd : ByteArray} {l : List PtS} (h : runE T u kn kd l = 0) {k : Nat} (hk : k < l.length) :
  runE T u kn kd (l.take (k + 1)) = 0 ∧ runL T u kn kd (l.take (k + 1)) = chsL T (valS u) (ratV kn kd) l k := by
 obtain ⟨h1, h2, h3⟩ := run_zero h
 have e := runsIn h1 h2 (ser_take h3 k)
 refine ⟨e, (if_pos e).trans ?_⟩
 rw [List.length_take, Nat.min_eq_left (by omega), Nat.add_sub_cancel, chsL_take]
theorem steps_second {T : TermS} {u kn kd : ByteArray} {l : List PtS} (h : runE T u kn kd l = 0) {k : Nat} (hk : k < l.length) :
  runE T u (frN (markK T (valS u) (ratV kn kd) l k)) (frD (markK T (valS u) (ratV kn kd) l k)) (l.drop k) = 0 ∧
  chsL T (valS u) (ratV kn kd) l k ++ runL T u (frN (markK T (valS u) (ratV kn kd) l k)) (frD (markK T (valS u) (ratV kn kd) l k)) (l.drop k) = chsL T (valS u) (ratV kn kd) l (l.length - 1) ∧
  (runL T u (frN (markK T (valS u) (ratV kn kd) l k)) (frD (markK T (valS u) (ratV kn kd) l k)) (l.drop k)).length = l.length - 1 - k := by
 obtain ⟨h1, h2, h3⟩ := run_zero h
 have e := runsIn (T := T) h1 (cnt_mark (T := T) (l := l) h2 k) (ser_drop h3 hk)
 have el : runL T u (frN (markK T (valS u) (ratV kn kd) l k)) (frD (markK T (valS u) (ratV kn kd) l k)) (l.drop k) = chsL T (valS u) (markK T (valS u) (ratV kn kd) l k) (l.drop k) (l.length - 1 - k) := by
  refine (if_pos e).trans ?_
  rw [ratV_fr, List.length_drop, show l.length - k - 1 = l.length - 1 - k by omega]
 refine ⟨e, ?_, ?_⟩
 ·rw [el, chsL_split, show k + (l.length - 1 - k) = l.length - 1 by omega]
 ·rw [el, chsL_len]
theorem steps_fees {T : TermS} {u kn kd : ByteArray} {l : List PtS} (h : runE T u kn kd l = 0) {i : Nat} {o p : PtS} (ho : l[i]? = some o) (hp : l[i + 1]? = some p) {M : Rat} (hM : markK T (valS u) (ratV kn kd) l i = M) :
  manE T o.v o.day p.day = 0 ∧ manR T o.v o.day p.day = canS (mgI (valS o.v) T.m T.cnt o.day p.day) ∧
  pfE T (canS (valS p.v - mgI (valS o.v) T.m T.cnt o.day p.day)) u (frN M) (frD M) = 0 ∧
  pfR T (canS (valS p.v - mgI (valS o.v) T.m T.cnt o.day p.day)) u (frN M) (frD M) = canS (pfI (valS p.v - mgI (valS o.v) T.m T.cnt o.day p.day) T.p (valS u) M) ∧
  pfQ T (canS (valS p.v - mgI (valS o.v) T.m T.cnt o.day p.day)) u (frN M) (frD M) = markK T (valS u) (ratV kn kd) l (i + 1) ∧
  chK T (valS u) (ratV kn kd) l i = ⟨p.day, canS (mgI (valS o.v) T.m T.cnt o.day p.day), canS (pfI (valS p.v - mgI (valS o.v) T.m T.cnt o.day p.day) T.p (valS u) M), frN (markK T (valS u) (ratV kn kd) l (i + 1)), frD (markK T (valS u) (ratV kn kd) l (i + 1))⟩ := by
 obtain ⟨h1, h2, h3⟩ := run_zero h
 obtain ⟨d1, d2, v1, v2, lt⟩ := ser_pair h3 ho hp
 have m0 := man_in h1 v1 d1 d2 (Int.le_of_lt lt)
 have hc := cnt_mark (T := T) (l := l) h2 i
 rw [hM] at hc
 have p0 : pfE T (canS (valS p.v - mgI (valS o.v) T.m T.cnt o.day p.day)) u (frN M) (frD M) = 0 := pf_in h1 (chk_can _) hc
 have st := markK_step (T := T) (u := valS u) (mk := ratV kn kd) ho hp
 rw [hM] at st
 refine ⟨m0, if_pos m0, p0, (if_pos p0).trans ?_, (if_pos p0).trans ?_, ?_⟩
 ·rw [valS_canS, ratV_fr]
 ·rw [valS_canS, ratV_fr, st]
 ·rw [chK_at ho hp, hM, st]
  rfl
end Go.Proofs.YticfdeaphiifeaaGreatDoor
