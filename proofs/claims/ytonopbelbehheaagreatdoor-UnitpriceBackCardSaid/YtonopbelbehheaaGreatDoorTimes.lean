/- Integer: the contract of times. Conditions: lengths below 2^39. -/
import Derived.Test.YtonopbelbehheaaGreatDoorIntM
namespace Go.Proofs.YtonopbelbehheaaGreatDoor
open Go.RowKit Dec

/-- what the rows of times keep -/
def TimesIs (w : World) (l m : List Nat) (i : Nat) (o : List Nat) (wr : World) : Prop :=
  o.length = l.length + m.length ∧ Small o ∧ mval o = mval (l.take i) * mval m ∧ (∀ t, i + m.length ≤ t → t < o.length → o[t]? = some 0) ∧ Ow .u64 94 wr w.heap.size (some ⟨w.heap.size, 0, none⟩) (l.length + m.length) o ∧ Below w.heap.size w wr
/-- what the rounds of a row keep -/
def RowIs (w : World) (m O : List Nat) (n i x k cy : Nat) (o : List Nat) (wr : World) : Prop :=
  o.length = n ∧ Small o ∧ mval o + cy * BB ^ (i + k) = mval O + x * mval (m.take k) * BB ^ i ∧ (∀ t, i + k ≤ t → o[t]? = O[t]?) ∧ Ow .u64 94 wr w.heap.size (some ⟨w.heap.size, 0, none⟩) n o ∧ Below w.heap.size w wr
theorem row_rel {w wr W : World} {m O o : List Nat} {n i x k cy y z : Nat} (h : RowIs w m O n i x k cy o wr) (hz : o[i + k]? = some z) (hy : m[k]? = some y)
    (hB : Ow .u64 94 W w.heap.size (some ⟨w.heap.size, 0, none⟩) n (o.set (i + k) ((cy + (z + x * y)) % BB))) (hb : Below w.heap.size w W) :
    RowIs w m O n i x (k + 1) ((cy + (z + x * y)) / BB) (o.set (i + k) ((cy + (z + x * y)) % BB)) W := by
  obtain ⟨h1, h2, h3, h4, h5, h6⟩ := h
  refine ⟨by rw [List.length_set]; exact h1, h2.set _ (Nat.mod_lt _ BB_pos), times_keep hz (by rw [hy]; rfl) h3, ?_, hB, hb⟩
  intro t ht
  rw [List.getElem?_set_ne (by omega)]
  exact h4 t (by omega)
theorem times_start {w W : World} {l m : List Nat} (hO : Ow .u64 94 W w.heap.size (some ⟨w.heap.size, 0, none⟩) (l.length + m.length) (List.replicate (l.length + m.length) 0)) (hb : Below w.heap.size w W) :
    TimesIs w l m 0 (List.replicate (l.length + m.length) 0) W := by
  refine ⟨by simp, ?_, by simp [mval_zeros, mval], ?_, hO, hb⟩
  · intro g hg; rw [List.eq_of_mem_replicate hg]; exact BB_pos
  · intro t _ ht; rw [List.getElem?_replicate, if_pos (by simpa using ht)]
theorem times_next {w wr W : World} {l m O o : List Nat} {i x cy : Nat} (hT : ∃ wo, TimesIs w l m i O wo) (hx : l[i]? = some x) (h : RowIs w m O (l.length + m.length) i x m.length cy o wr) (hcy : cy < BB)
    (hz : o[i + m.length]? = some 0) (hB : Ow .u64 94 W w.heap.size (some ⟨w.heap.size, 0, none⟩) (l.length + m.length) (o.set (i + m.length) (0 + cy))) (hb : Below w.heap.size w W) :
    TimesIs w l m (i + 1) (o.set (i + m.length) (0 + cy)) W := by
  obtain ⟨wo, t1, t2, t3, t4, t5, t6⟩ := hT
  obtain ⟨h1, h2, h3, h4, h5, h6⟩ := h
  rw [List.take_of_length_le (Nat.le_refl _)] at h3
  refine ⟨by rw [List.length_set]; exact h1, h2.set _ (by omega), times_row hz hx h3 t3, ?_, hB, hb⟩
  intro t ht htl
  rw [List.length_set] at htl
  rw [List.getElem?_set_ne (by omega), h4 t (by omega)]
  exact t4 t (by omega) (by omega)
theorem times_skip {w wr : World} {l m O o : List Nat} {i x cy : Nat} (hT : ∃ wo, TimesIs w l m i O wo) (hm : m = []) (h : RowIs w m O (l.length + m.length) i x m.length cy o wr) (hcy : cy = 0) : TimesIs w l m (i + 1) o wr := by
  obtain ⟨wo, t1, t2, t3, t4, t5, t6⟩ := hT
  obtain ⟨h1, h2, h3, h4, h5, h6⟩ := h
  subst hm hcy
  simp [mval] at h3 t3
  refine ⟨h1, h2, by simp [mval]; omega, ?_, h5, h6⟩
  intro t ht htl
  rw [h4 t (by simp at ht ⊢; omega)]
  exact t4 t (by omega) (by omega)

set_option maxRecDepth 100000 in
set_option maxHeartbeats 2000000 in
theorem times_own (A A' : Option Addr) (c c' : Nat) (a b : Nat) (w : World) (hc : Mg .u64 w w.heap.size A (mag a)) (hc' : Mg .u64 w w.heap.size A' (mag b)) (hm : (mag a).length ≤ 549755813888) (hm' : (mag b).length ≤ 549755813888) :
    Calls Tryz.prog 83 #[.slice A (mag a).length c, .slice A' (mag b).length c'] w (OwRet (mag (a * b)) w) := by
  obtain ⟨l, hl⟩ : ∃ l, mag a = l := ⟨_, rfl⟩
  obtain ⟨m, hmm⟩ : ∃ m, mag b = m := ⟨_, rfl⟩
  rw [hl] at hc hm ⊢
  rw [hmm] at hc' hm' ⊢
  have Hc := Lib.hid hc
  have Hc' := Lib.hid hc'
  clear hc hc'
  have Hl := Lib.hid hl
  have Hmm := Lib.hid hmm
  clear hl hmm
  have HV : Hid (mval l = a) := by show mval l = a; rw [← Hl.out]; exact mval_mag a
  have HVM : Hid (mval m = b) := by show mval m = b; rw [← Hmm.out]; exact mval_mag b
  have HLS : Hid (Small l) := by show Small l; rw [← Hl.out]; exact mag_small a
  have HMS : Hid (Small m) := by show Small m; rw [← Hmm.out]; exact mag_small b
  have hmk : ∀ u : World, (Instr.makeSlice 87 (.int .i64 ((l.length : Int) + m.length)) (.int .i64 ((l.length : Int) + m.length))).run Tryz.prog u = .ok (.slice (some ⟨u.heap.size, 0, none⟩) (l.length + m.length) (l.length + m.length)) (u.alloc (.cells ((List.replicate (l.length + m.length) 0).map (gvK .u64)).toArray 94)) := fun u => by
    have := run_makeU (l.length + m.length) (l.length + m.length) (Nat.le_refl _) (by omega) u
    rwa [Int.natCast_add] at this
  obtain ⟨z, hz⟩ : ∃ z, z = (List.replicate (l.length + m.length) 0).map (gvK .u64) := ⟨_, rfl⟩
  rw [← hz] at hmk
  have HS : Hid (TimesIs w l m 0 (List.replicate (l.length + m.length) 0) (w.alloc (.cells z.toArray 94))) := by
    refine times_start ?_ ((Below.refl _ _).alloc (Nat.le_refl _) _)
    have := Ow.new w .u64 94 (List.replicate (l.length + m.length) 0) (by unfold maxLen; simp; omega)
    rw [← hz, List.length_replicate] at this
    exact this
  clear hz
  go_enter Tryz.func83, Tryz.ntmps83
  go_wp2_with fail
  clear hmk
  go_loopw [19] (fun s wr => ∃ (i : Nat) (o : List Nat), i ≤ l.length ∧ s = .int .i64 (i : Int) ∧ Hid (TimesIs w l m i o wr)) (fun s _ => (l.length - intOf s).toNat)
  case atStart => exact ⟨0, _, by omega, rfl, HS.out⟩
  case round =>
    obtain ⟨i, O, hi, rfl, H⟩ := hrel
    clear HS
    by_cases hil : i = l.length
    · subst hil
      have HE : Hid (mval O = a * b) := by show _ = _; rw [H.out.2.2.1, List.take_of_length_le (Nat.le_refl _), HV.out, HVM.out]
      have Hlo := Lib.hid H.out.1
      go_wp2_with fail
      rw [← Hlo.out]
      refine (cut_any _ _ O wr H.out.2.1 H.out.2.2.2.2.1.mg.1 (by rw [Hlo.out]; exact Nat.le_refl _) (by rw [Hlo.out]; omega)).mono ?_
      rintro e w3 ⟨rfl, rfl⟩
      go_wp2_with fail
      go_ret
      exact ow_ret (by rw [Hlo.out]; exact H.out.2.2.2.2.1) H.out.2.1 HE.out H.out.2.2.2.2.2
    · have hil' : i < l.length := by omega
      clear hil
      obtain ⟨x, hx⟩ : ∃ x, l[i]? = some x := some_at l i hil'
      have hxb : x < 1000000000 := HLS.out.at hx
      obtain ⟨b1, o1, hA, hB, h1⟩ := Hc.out i x hx
      subst hA
      have HX := Lib.hid hx
      clear hx
      have hd1 : wr.cell? ⟨b1, o1 + i, none⟩ = some (.int .u64 x) := (H.out.2.2.2.2.2.cell (p := ⟨b1, o1 + i, none⟩) hB).trans h1
      clear h1
      go_wp2_with fail
      obtain ⟨wo, rfl⟩ : ∃ wo : World, wo = wr := ⟨_, rfl⟩
      go_loopw [26, 8] (fun s t wr => ∃ (k cy : Nat) (o : List Nat), k ≤ m.length ∧ s = .int .i64 (k : Int) ∧ t = .int .u64 (cy : Int) ∧ cy < 1000000000 ∧ (m.length = 0 → cy = 0) ∧ Hid (RowIs w m O (l.length + m.length) i x k cy o wr)) (fun s _ _ => (m.length - intOf s).toNat)
      case atStart => exact ⟨0, 0, O, by omega, rfl, rfl, by omega, fun _ => rfl, H.out.1, H.out.2.1, by simp [mval], fun _ _ => rfl, H.out.2.2.2.2.1, H.out.2.2.2.2.2⟩
      case round =>
        obtain ⟨k, cy, o, hk, rfl, rfl, hcy, hcz, R⟩ := hrel
        have Hcz := Lib.hid hcz
        clear hcz
        by_cases hkm : k = m.length
        · subst hkm
          by_cases hm0 : m.length = 0
          · have q : decide ((0 : Int) < m.length) = false := decide_eq_false (by omega)
            go_wp2_with fail
            go_roundw
            case rel => exact ⟨i + 1, o, by omega, by go_num, times_skip ⟨_, H.out⟩ (List.eq_nil_of_length_eq_zero hm0) R.out (Hcz.out hm0)⟩
            case measure => simp [intOf]; omega
          · have q : decide ((0 : Int) < m.length) = true := decide_eq_true (by omega)
            have hz : o[i + m.length]? = some 0 := by rw [R.out.2.2.2.1 _ (Nat.le_refl _)]; exact H.out.2.2.2.1 _ (Nat.le_refl _) (by rw [H.out.1]; omega)
            obtain ⟨g, hA3, hg, hg2, hcell, hfz⟩ := R.out.2.2.2.2.1.at hz
            obtain rfl : g = w.heap.size := by injection hA3 with e; injection e with e; exact e.symm
            have HZ := Lib.hid hz
            clear hz hA3
            go_wp2_with fail
            go_roundw
            case rel =>
              refine ⟨i + 1, o.set (i + m.length) (0 + cy), by omega, by go_num, times_next ⟨_, H.out⟩ HX.out R.out hcy HZ.out ?_ (R.out.2.2.2.2.2.setCell (Nat.le_refl _) _)⟩
              have := R.out.2.2.2.2.1.set (i + m.length) (0 + cy)
              rwa [show ((0 + cy : Nat) : Int) = cy by omega] at this
            case measure => simp [intOf]; omega
        · have hkm' : k < m.length := by omega
          clear hkm
          obtain ⟨y, hy⟩ := some_at m k hkm'
          have hyb : y < 1000000000 := HMS.out.at hy
          obtain ⟨b2, o2, hA2, hB2, h2⟩ := Hc'.out k y hy
          subst hA2
          have HY := Lib.hid hy
          clear hy
          have hd2 : wr.cell? ⟨b2, o2 + k, none⟩ = some (.int .u64 y) := (R.out.2.2.2.2.2.cell (p := ⟨b2, o2 + k, none⟩) hB2).trans h2
          clear h2
          obtain ⟨z, hz⟩ := some_at o (i + k) (by rw [R.out.1]; omega)
          have hzb : z < 1000000000 := R.out.2.1.at hz
          obtain ⟨g, hA3, hg, hg2, hcell, hfz⟩ := R.out.2.2.2.2.1.at hz
          obtain rfl : g = w.heap.size := by injection hA3 with e; injection e with e; exact e.symm
          have HZ := Lib.hid hz
          clear hz hA3
          have hp := (times_bound hcy hzb hxb hyb).1
          have hp1 : (x : Int) * y ≤ 999999998000000001 := by have := Int.ofNat_le.2 hp; rwa [Int.natCast_mul] at this
          have hp0 : (0 : Int) ≤ (x : Int) * y := Int.mul_nonneg (by omega) (by omega)
          clear hp
          go_wp2_with fail
          go_roundw
          case rel =>
            refine ⟨k + 1, (cy + (z + x * y)) / BB, o.set (i + k) ((cy + (z + x * y)) % BB), by omega, by go_num, rfl, (times_bound hcy hzb hxb hyb).2, fun h => by omega, row_rel R.out HZ.out HY.out ?_ (R.out.2.2.2.2.2.setCell (Nat.le_refl _) _)⟩
            have := R.out.2.2.2.2.1.set (i + k) ((cy + (z + x * y)) % BB)
            exact this
          case measure => simp [intOf]; omega
theorem times_any (A A' : Option Addr) (c c' : Nat) (a b : Nat) (w : World) (hc : Mg .u64 w w.heap.size A (mag a)) (hc' : Mg .u64 w w.heap.size A' (mag b)) (hm : (mag a).length ≤ 549755813888) (hm' : (mag b).length ≤ 549755813888) :
    Calls Tryz.prog 83 #[.slice A (mag a).length c, .slice A' (mag b).length c'] w (MagRet (a * b) w) :=
  (times_own A A' c c' a b w hc hc' hm hm').mono fun _ _ h => h.mag
end Go.Proofs.YtonopbelbehheaaGreatDoor
