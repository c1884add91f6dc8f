/- Integer: divide, the short cases: a dividend that is less; a divisor of one group. Conditions: lengths below 2^38. -/
import Derived.Test.YtonopbelbehheaaGreatDoorTimes
import Derived.Test.YtonopbelbehheaaGreatDoorSingle
namespace Go.Proofs.YtonopbelbehheaaGreatDoor
open Go.RowKit Dec

/-- a slice that reads as the groups of n -/
def MagS (w : World) (A : Option Addr) (c n : Nat) : Prop := Mg .u64 w w.heap.size A (mag n) ∧ (mag n).length ≤ c ∧ c ≤ 9223372036854775807
theorem MagS.up {w w' : World} {A : Option Addr} {c n : Nat} (h : MagS w A c n) (hb : Below w.heap.size w w') : MagS w' A c n := ⟨h.1.up hb, h.2⟩
theorem MagS.drewN {w : World} {A : Option Addr} {c n : Nat} (h : MagS w A c n) (k : Nat) : MagS (w.drewN k) A c n := h
/-- what divide hands back -/
def DivRet (a b : Nat) (w : World) (e : Ending) (w' : World) : Prop :=
  ∃ A c A' c', e = .returned (.tuple #[.slice A (mag (a / b)).length c, .slice A' (mag (a % b)).length c']) ∧ MagS w' A c (a / b) ∧ MagS w' A' c' (a % b) ∧ Below w.heap.size w w'

set_option maxRecDepth 1000000 in
set_option maxHeartbeats 2000000 in
theorem divide_less (A A' : Option Addr) (c c' : Nat) (a b : Nat) (w : World) (hc : MagS w A c a) (hc' : MagS w A' c' b) (hm : (mag a).length ≤ 274877906944) (hm' : (mag b).length ≤ 274877906944) (hlt : a < b) :
    Calls Tryz.prog 71 #[.slice A (mag a).length c, .slice A' (mag b).length c'] w (DivRet a b w) := by
  have Hc := Lib.hid hc
  have Hc' := Lib.hid hc'
  clear hc hc'
  have HD : Hid (a / b = 0 ∧ a % b = a) := ⟨Nat.div_eq_of_lt hlt, Nat.mod_eq_of_lt hlt⟩
  have Hlt := Lib.hid hlt
  clear hlt
  go_enter Tryz.func71, Tryz.ntmps71
  go_wp2_with fail
  refine (compare_any A A' c c' a b w Hc.out.1 Hc'.out.1 (by omega) (by omega)).mono ?_
  rintro e w1 ⟨r, rfl, hr, hr1, hr2, nn, rfl⟩
  have q : decide (r < 0) = true := decide_eq_true (hr.1.2 Hlt.out)
  clear hr
  go_wp2_with fail
  go_ret2
  refine ⟨none, 0, A, c, ret_two (val_slice (by rw [HD.out.1]; rfl)) (val_slice (by rw [HD.out.2])), ?_, ?_, ?_⟩
  · rw [HD.out.1]; exact ⟨Mg.nil _ _ _ _, Nat.le_refl _, by omega⟩
  · rw [HD.out.2]; exact Hc.out
  · exact below_drewN _ _ _

theorem mag_one {n : Nat} (h0 : n ≠ 0) (h : n < BB) : mag n = [n] := by rw [mag_pos h0, Nat.mod_eq_of_lt h, Nat.div_eq_of_lt h, mag_zero]
theorem mag_len_one {n : Nat} (h : (mag n).length = 1) : mag n = [n] ∧ n ≠ 0 ∧ n < BB := by
  have h1 : n < BB ^ 1 := mag_len_lt.1 (by omega)
  have h0 : n ≠ 0 := by rintro rfl; simp [mag_zero] at h
  rw [Nat.pow_one] at h1
  exact ⟨mag_one h0 h1, h0, h1⟩
theorem mg_new (w : World) (l : List Nat) : Mg .u64 (w.alloc (.cells (l.map (gvK .u64)).toArray 94)) (w.heap.size + 1) (some ⟨w.heap.size, 0, none⟩) l := by
  have h : Bk .u64 94 (w.alloc (.cells (l.map (gvK .u64)).toArray 94)) w.heap.size l := heap_new w _
  have := h.mg l.length
  rw [List.take_of_length_le (Nat.le_refl _)] at this
  rwa [World.size_alloc] at this

set_option maxRecDepth 1000000 in
set_option maxHeartbeats 2000000 in
theorem divide_one (A A' : Option Addr) (c c' : Nat) (a b : Nat) (w : World) (hc : MagS w A c a) (hc' : MagS w A' c' b) (hm : (mag a).length ≤ 274877906944) (hm' : (mag b).length = 1) (hle : b ≤ a) :
    Calls Tryz.prog 71 #[.slice A (mag a).length c, .slice A' (mag b).length c'] w (DivRet a b w) := by
  obtain ⟨e1, hb0, hbB⟩ := mag_len_one hm'
  have Hc := Lib.hid hc
  have Hc' := Lib.hid hc'
  clear hc hc'
  have Hle := Lib.hid hle
  have H1 := Lib.hid hm'
  have HE := Lib.hid e1
  clear hle hm' e1
  obtain ⟨b1, o1, hA, hB, h1⟩ := Hc'.out.1 0 b (by rw [HE.out]; rfl)
  subst hA
  rw [Nat.add_zero] at h1
  go_enter Tryz.func71, Tryz.ntmps71
  go_wp2_with fail
  refine (compare_any A _ c c' a b w Hc.out.1 Hc'.out.1 (by omega) (by rw [H1.out]; omega)).mono ?_
  rintro e w1 ⟨r, rfl, hr, hr1, hr2, nn, rfl⟩
  have q : decide (r < 0) = false := decide_eq_false (fun h => by have := hr.1.1 h; have := Hle.out; omega)
  clear hr
  have q2 : (((mag b).length : Int) == 1) = true := by rw [H1.out]; rfl
  have q3 : (0 : Int) < (mag b).length := by rw [H1.out]; decide
  have q4 : 0 < (mag b).length := by rw [H1.out]; decide
  go_wp2_with fail
  refine (single_any A c a b (w.drewN nn) Hc.out.1 (by omega) (by omega) (by unfold BB at hbB; omega)).mono ?_
  rintro e w2 ⟨A2, c2, rfl, hm2, hl2, hc2, hb2⟩
  have HM2 := Lib.hid hm2
  have HB2 : Hid (Below w.heap.size w w2) := (below_drewN _ _ nn).trans hb2
  clear hm2 hb2
  have hr : a % b < b := Nat.mod_lt _ (by omega)
  go_wp2_with fail
  refine (cut_any (some ⟨w2.heap.size, 0, none⟩) 1 [a % b] _ ?_ ?_ (Nat.le_refl _) (by omega)).mono ?_
  · intro g hg; simp at hg; subst hg; exact Nat.lt_trans hr hbB
  · have := mg_new w2 [a % b]
    rw [World.size_alloc]
    exact this
  rintro e w3 ⟨rfl, rfl⟩
  go_wp2_with fail
  go_ret2
  have hcut : cutL [a % b] = mag (a % b) := by unfold cutL; simp [mval]
  have hs : Small [a % b] := by intro g hg; simp at hg; subst hg; exact Nat.lt_trans hr hbB
  have hb3 : Below w2.heap.size w2 (w2.alloc (.cells #[.int .u64 ((a : Int) % b)] 94)) := (Below.refl _ _).alloc (Nat.le_refl _) _
  obtain ⟨k, hk, e⟩ := cut_pre _ hs
  refine ⟨A2, c2, _, 1, ret_two rfl (val_slice (by rw [hcut])), ⟨HM2.out.up hb3, hl2, hc2⟩, ⟨?_, ?_, by omega⟩, HB2.out.trans (hb3.mono HB2.out.size)⟩
  · rw [← hcut, e]
    have := (mg_new w2 [a % b]).take k
    rw [World.size_alloc]
    exact this
  · rw [← hcut, e, List.length_take]; simp; omega
theorem times_own' (A A' : Option Addr) (c c' n n' : Nat) (a b : Nat) (w : World) (hn : (mag a).length = n) (hn' : (mag b).length = n') (hc : Mg .u64 w w.heap.size A (mag a)) (hc' : Mg .u64 w w.heap.size A' (mag b)) (hm : n ≤ 549755813888) (hm' : n' ≤ 549755813888) :
    Calls Tryz.prog 83 #[.slice A n c, .slice A' n' c'] w (OwRet (mag (a * b)) w) := by
  subst hn hn'
  exact times_own A A' c c' a b w hc hc' hm hm'
theorem own_ow' {K : IntKind} {T : TypeId} {w : World} {base n : Nat} {l : List Nat} {v : Value} (h : w.ownsRow base T 1 v n (l.map (gvK K))) (hn : l.length = n) : ∃ A c, v = .slice A n c ∧ Ow K T w base A c l := by
  subst hn
  exact own_ow h
theorem scale_at {v : Nat} (hv : 0 < v) (hvb : v < 1000000000) : ∃ s : Nat, s = BB / (v + 1) ∧ ((1000000000 : Int) / ((v : Int) + 1)) = (s : Int) ∧ 0 < s ∧ s < 1000000000 ∧ mag s = [s] := by
  have h1 := scale_pos (v := v) hvb
  have h2 : BB / (v + 1) < BB := Nat.div_lt_self BB_pos (by omega)
  exact ⟨_, rfl, rfl, h1, h2, mag_one (by omega) h2⟩
/-- what the rounds of the long division keep: al the rest, ql the quotient, from place j on -/
structure DivIs (w : World) (lb : List Nat) (N k T D ga gb gq c3 c4 j : Nat) (al ql : List Nat) (wr : World) : Prop where
  len : al.length = N + 2
  small : Small al
  sum : mval al + mval ql * D = T
  low : mval (al.drop j) < D
  qlen : ql.length = N - k
  qsmall : Small ql
  qz : ∀ t, t < j → ql[t]? = some 0
  oa : Ow .u64 94 wr w.heap.size (some ⟨ga, 0, none⟩) c3 al
  ob : Ow .u64 94 wr w.heap.size (some ⟨gb, 0, none⟩) c4 lb
  oq : Ow .u64 94 wr w.heap.size (some ⟨gq, 0, none⟩) (N - k) ql
  below : Below w.heap.size w wr

theorem div_start {w W : World} {la lb : List Nat} {N k T D ga gb gq c3 c4 : Nat} (hla : mag T = la) (hN : la.length = N) (hk : k + 2 ≤ N) (hD : BB ^ (k + 1) ≤ D)
    (oa : Ow .u64 94 W w.heap.size (some ⟨ga, 0, none⟩) c3 (la ++ [0, 0])) (ob : Ow .u64 94 W w.heap.size (some ⟨gb, 0, none⟩) c4 lb)
    (oq : Ow .u64 94 W w.heap.size (some ⟨gq, 0, none⟩) (N - k) (List.replicate (N - k) 0)) (hb : Below w.heap.size w W) :
    DivIs w lb N k T D ga gb gq c3 c4 (N - k) (la ++ [0, 0]) (List.replicate (N - k) 0) W := by
  subst hla hN
  have hs := mag_small T
  refine ⟨by simp, ?_, ?_, ?_, by simp, ?_, fun t ht => by rw [List.getElem?_replicate, if_pos ht], oa, ob, oq, hb⟩
  · intro g hg
    rcases List.mem_append.1 hg with hg | hg
    · exact hs g hg
    · simp at hg; subst hg; exact BB_pos
  · rw [mval_append, mval_mag, mval_zeros]; simp [mval]
  · rw [List.drop_append_of_le_length (by omega), mval_append]
    have h1 := mval_lt _ (hs.drop ((mag T).length - k))
    rw [List.length_drop, show (mag T).length - ((mag T).length - k) = k by omega] at h1
    have h2 : BB ^ k ≤ BB ^ (k + 1) := Nat.pow_le_pow_right BB_pos (by omega)
    simp only [mval, Nat.mul_zero, Nat.add_zero]
    omega
  · intro g hg; rw [List.eq_of_mem_replicate hg]; exact BB_pos

theorem DivIs.drewN {w wr : World} {lb al ql : List Nat} {N k T D ga gb gq c3 c4 j : Nat} (h : DivIs w lb N k T D ga gb gq c3 c4 j al ql wr) (n : Nat) : DivIs w lb N k T D ga gb gq c3 c4 j al ql (wr.drewN n) :=
  ⟨h.len, h.small, h.sum, h.low, h.qlen, h.qsmall, h.qz, h.oa.drewN n, h.ob.drewN n, h.oq.drewN n, h.below.trans (below_drewN _ _ n)⟩
/-- what the rounds of the subtraction keep -/
structure SubIs (w : World) (lb al ql : List Nat) (N k ga gb gq c3 c4 i g j cy : Nat) (o : List Nat) (wr : World) : Prop where
  small : Small o
  sum : mval o + g * mval (lb.take j) * BB ^ i = mval al + cy * BB ^ (i + j)
  alike : Dec.Alike i al o
  same : ∀ t, i + j ≤ t → o[t]? = al[t]?
  oa : Ow .u64 94 wr w.heap.size (some ⟨ga, 0, none⟩) c3 o
  ob : Ow .u64 94 wr w.heap.size (some ⟨gb, 0, none⟩) c4 lb
  oq : Ow .u64 94 wr w.heap.size (some ⟨gq, 0, none⟩) (N - k) ql
  below : Below w.heap.size w wr
theorem DivIs.sub {w wr : World} {lb al ql : List Nat} {N k T D ga gb gq c3 c4 j : Nat} (h : DivIs w lb N k T D ga gb gq c3 c4 j al ql wr) (i g : Nat) : SubIs w lb al ql N k ga gb gq c3 c4 i g 0 0 al wr :=
  ⟨h.small, by simp [mval], Dec.Alike.refl _ _, fun _ _ => rfl, h.oa, h.ob, h.oq, h.below⟩
theorem SubIs.next {w wr W : World} {lb al ql o : List Nat} {N k ga gb gq c3 c4 i g j cy cy' v : Nat} (h : SubIs w lb al ql N k ga gb gq c3 c4 i g j cy o wr) (hv : v < BB)
    (hs : mval (o.set (i + j) v) + g * mval (lb.take (j + 1)) * BB ^ i = mval al + cy' * BB ^ (i + (j + 1)))
    (oa : Ow .u64 94 W w.heap.size (some ⟨ga, 0, none⟩) c3 (o.set (i + j) v)) (ob : Ow .u64 94 W w.heap.size (some ⟨gb, 0, none⟩) c4 lb)
    (oq : Ow .u64 94 W w.heap.size (some ⟨gq, 0, none⟩) (N - k) ql) (hb : Below w.heap.size w W) : SubIs w lb al ql N k ga gb gq c3 c4 i g (j + 1) cy' (o.set (i + j) v) W :=
  ⟨h.small.set _ hv, hs, h.alike.set (Nat.le_add_right _ _), fun t ht => by rw [List.getElem?_set_ne (by omega)]; exact h.same t (by omega), oa, ob, oq, hb⟩
/-- what the rounds of the adding back keep -/
structure AddIs (w : World) (lb o0 ql : List Nat) (N k ga gb gq c3 c4 i j cy : Nat) (o : List Nat) (wr : World) : Prop where
  small : Small o
  sum : mval o + cy * BB ^ (i + j) = mval o0 + mval (lb.take j) * BB ^ i
  alike : Dec.Alike i o0 o
  same : ∀ t, i + j ≤ t → o[t]? = o0[t]?
  oa : Ow .u64 94 wr w.heap.size (some ⟨ga, 0, none⟩) c3 o
  ob : Ow .u64 94 wr w.heap.size (some ⟨gb, 0, none⟩) c4 lb
  oq : Ow .u64 94 wr w.heap.size (some ⟨gq, 0, none⟩) (N - k) ql
  below : Below w.heap.size w wr
theorem SubIs.add {w wr : World} {lb al ql o : List Nat} {N k ga gb gq c3 c4 i g j cy : Nat} (h : SubIs w lb al ql N k ga gb gq c3 c4 i g j cy o wr) : AddIs w lb o ql N k ga gb gq c3 c4 i 0 0 o wr :=
  ⟨h.small, by simp [mval], Dec.Alike.refl _ _, fun _ _ => rfl, h.oa, h.ob, h.oq, h.below⟩
theorem AddIs.next {w wr W : World} {lb o0 ql o : List Nat} {N k ga gb gq c3 c4 i j cy cy' v : Nat} (h : AddIs w lb o0 ql N k ga gb gq c3 c4 i j cy o wr) (hv : v < BB)
    (hs : mval (o.set (i + j) v) + cy' * BB ^ (i + (j + 1)) = mval o0 + mval (lb.take (j + 1)) * BB ^ i)
    (oa : Ow .u64 94 W w.heap.size (some ⟨ga, 0, none⟩) c3 (o.set (i + j) v)) (ob : Ow .u64 94 W w.heap.size (some ⟨gb, 0, none⟩) c4 lb)
    (oq : Ow .u64 94 W w.heap.size (some ⟨gq, 0, none⟩) (N - k) ql) (hb : Below w.heap.size w W) : AddIs w lb o0 ql N k ga gb gq c3 c4 i (j + 1) cy' (o.set (i + j) v) W :=
  ⟨h.small.set _ hv, hs, h.alike.set (Nat.le_add_right _ _), fun t ht => by rw [List.getElem?_set_ne (by omega)]; exact h.same t (by omega), oa, ob, oq, hb⟩
/-- a group more of the quotient -/
theorem DivIs.next {w wr W : World} {lb al ql o : List Nat} {N k T D ga gb gq c3 c4 i g : Nat} (h : DivIs w lb N k T D ga gb gq c3 c4 (i + 1) al ql wr) (hi : i < N - k) (hD : 0 < D) (hgB : g < BB) (ho : Small o) (hal : Dec.Alike i al o)
    (hg : g = mval (al.drop i) / D) (hr : mval (o.drop i) = mval (al.drop i) % D)
    (oa : Ow .u64 94 W w.heap.size (some ⟨ga, 0, none⟩) c3 o) (ob : Ow .u64 94 W w.heap.size (some ⟨gb, 0, none⟩) c4 lb)
    (oq : Ow .u64 94 W w.heap.size (some ⟨gq, 0, none⟩) (N - k) (ql.set i g)) (hb : Below w.heap.size w W) : DivIs w lb N k T D ga gb gq c3 c4 i o (ql.set i g) W :=
  ⟨hal.1.trans h.len, ho, quot_keep hal (by rw [h.len]; omega) (h.qz i (by omega)) h.sum hg hr, by rw [hr]; exact Nat.mod_lt _ hD, by rw [List.length_set]; exact h.qlen, h.qsmall.set _ hgB,
    fun t ht => by rw [List.getElem?_set_ne (by omega)]; exact h.qz t (by omega), oa, ob, oq, hb⟩
theorem ow_cell {w : World} {base g c : Nat} {l : List Nat} (h : Ow .u64 94 w base (some ⟨g, 0, none⟩) c l) {i n : Nat} (hi : l[i]? = some n) : w.cell? ⟨g, i, none⟩ = some (.int .u64 n) ∧ w.frozen? ⟨g, i, none⟩ = false ∧ base ≤ g := by
  obtain ⟨g', e, h1, _, h2, h3⟩ := h.at hi
  injection e with e
  injection e with e
  subst e
  exact ⟨h2, h3, h1⟩

end Go.Proofs.YtonopbelbehheaaGreatDoor
