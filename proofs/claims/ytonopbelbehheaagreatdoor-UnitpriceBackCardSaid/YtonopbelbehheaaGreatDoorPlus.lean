/- Integer: the contract of plus. Conditions: lengths below 2^40. -/
import Derived.Test.YtonopbelbehheaaGreatDoorIntM
namespace Go.Proofs.YtonopbelbehheaaGreatDoor
open Go.RowKit Dec

/-- what the loop of plus keeps -/
def PlusIs (w : World) (l m : List Nat) (k cy : Nat) (o : List Nat) (wr : World) : Prop :=
  o.length = l.length ∧ Small o ∧ mval o + cy * BB ^ k = mval l + mval (m.take k) ∧ (∀ t, k ≤ t → o[t]? = l[t]?) ∧ Bk .u64 94 wr w.heap.size (o ++ [0]) ∧ Below w.heap.size w wr
theorem plus_rel {w wr W : World} {l m o : List Nat} {k cy x y : Nat} (h : PlusIs w l m k cy o wr) (hx : o[k]? = some x) (hy : m[k]?.getD 0 = y) (hk : k < l.length)
    (hB : Bk .u64 94 W w.heap.size ((o ++ [0]).set k ((x + cy + y) % BB))) (hb : Below w.heap.size w W) : PlusIs w l m (k + 1) ((x + cy + y) / BB) (o.set k ((x + cy + y) % BB)) W := by
  obtain ⟨h1, h2, h3, h4, h5, h6⟩ := h
  refine ⟨by rw [List.length_set]; exact h1, h2.set _ (Nat.mod_lt _ BB_pos), plus_keep hx hy h3, ?_, ?_, hb⟩
  · intro t ht
    rw [List.getElem?_set_ne (by omega)]
    exact h4 t (by omega)
  · rw [List.set_append_left _ _ (by omega)] at hB
    exact hB
theorem plus_low {a b : Nat} {l : List Nat} (hl : mag a = l) : l = [] ∨ BB ^ (l.length - 1) ≤ a + b := by
  by_cases h : l = []
  · exact .inl h
  · right
    have hp : 0 < l.length := List.length_pos_iff.2 h
    have : ¬ a < BB ^ (l.length - 1) := fun hh => by have := mag_len_lt.2 hh; rw [hl] at this; omega
    omega
theorem plus_end0 {w wr : World} {a b : Nat} {l m o : List Nat} (hl : mag a = l) (hm : mag b = m) (hle : m.length ≤ l.length) (h : PlusIs w l m l.length 0 o wr) : o = mag (a + b) := by
  obtain ⟨h1, h2, h3, h4, h5, h6⟩ := h
  have e : mval o = a + b := by
    rw [List.take_of_length_le hle, ← hl, ← hm, mval_mag, mval_mag] at h3; omega
  rw [← e]
  refine (mag_of_len o h2 ?_).symm
  rcases plus_low (b := b) hl with h | h
  · left; rw [h] at h1; exact List.eq_nil_of_length_eq_zero h1
  · right; rw [h1, e]; exact h
theorem plus_end1 {w wr : World} {a b : Nat} {l m o : List Nat} (hl : mag a = l) (hm : mag b = m) (hle : m.length ≤ l.length) (h : PlusIs w l m l.length 1 o wr) : o ++ [1] = mag (a + b) := by
  obtain ⟨h1, h2, h3, h4, h5, h6⟩ := h
  have e : mval (o ++ [1]) = a + b := by
    rw [List.take_of_length_le hle, ← hl, ← hm, mval_mag, mval_mag] at h3
    rw [mval_append, h1, ← hl]
    simp only [mval]
    omega
  rw [← e]
  refine (mag_mval _ ?_ (by simp)).symm
  intro g hg
  rcases List.mem_append.1 hg with hg | hg
  · exact h2 g hg
  · simp at hg; subst hg; decide

set_option maxRecDepth 100000 in
set_option maxHeartbeats 2000000 in
/-- plus, the first one being not shorter -/
theorem plus_ge (A A' : Option Addr) (c c' : Nat) (a b : Nat) (w : World) (hc : Mg .u64 w w.heap.size A (mag a)) (hc' : Mg .u64 w w.heap.size A' (mag b)) (hm : (mag a).length ≤ 1099511627776) (hle : (mag b).length ≤ (mag a).length) :
    Calls Tryz.prog 72 #[.slice A (mag a).length c, .slice A' (mag b).length c'] w (OwRet (mag (a + b)) w) := by
  obtain ⟨l, hl⟩ : ∃ l, mag a = l := ⟨_, rfl⟩
  obtain ⟨m, hmm⟩ : ∃ m, mag b = m := ⟨_, rfl⟩
  rw [hl] at hc hm hle ⊢
  rw [hmm] at hc' hle ⊢
  have Hc := Lib.hid hc
  have Hc' := Lib.hid hc'
  clear hc hc'
  have k0 : decide ((l.length : Int) < m.length) = false := by simp; omega
  have hmk : ∀ u : World, (Instr.makeSlice 87 (.int .i64 (l.length : Int)) (.int .i64 ((l.length : Int) + 1))).run Tryz.prog u = .ok (.slice (some ⟨u.heap.size, 0, none⟩) l.length (l.length + 1)) (u.alloc (.cells ((List.replicate (l.length + 1) 0).map (gvK .u64)).toArray 94)) := fun u => run_makeU l.length (l.length + 1) (by omega) (by omega) u
  obtain ⟨cs, hcs⟩ : ∃ cs, cs = l.map (gvK .u64) := ⟨_, rfl⟩
  obtain ⟨z, hz⟩ : ∃ z, z = (List.replicate (l.length + 1) 0).map (gvK .u64) := ⟨_, rfl⟩
  rw [← hz] at hmk
  have Hcs := Lib.hid hcs
  have Hz := Lib.hid hz
  clear hcs hz
  have Hl := Lib.hid hl
  have Hmm := Lib.hid hmm
  clear hl hmm
  have F1 : Hid ((w.alloc (.cells z.toArray 94)).heap[w.heap.size]? = some (.cells z.toArray 94 (0, 0))) := by
    exact heap_new w _
  have F2 : Hid (cs.length = Nat.min l.length l.length) := by show _ = _; rw [Hcs.out]; simp
  have F3 : Hid (0 < cs.length → some (⟨w.heap.size, 0, none⟩ : Addr) = some ⟨w.heap.size, 0, none⟩ ∧ ∃ ad, A = some ad ∧ ∀ j v, cs[j]? = some v → (w.alloc (.cells z.toArray 94)).cell? (ad.add j) = some v) := by
    intro h0
    rw [Hcs.out] at h0 ⊢
    simp only [List.length_map] at h0
    obtain ⟨x, hx⟩ : ∃ x, l[0]? = some x := ⟨l[0], by simp⟩
    obtain ⟨b0, o0, hA, -, -⟩ := Hc.out 0 x hx
    refine ⟨rfl, ⟨b0, o0, none⟩, hA, fun j v hv => ?_⟩
    rw [List.getElem?_map, Option.map_eq_some_iff] at hv
    obtain ⟨y, hy, rfl⟩ := hv
    obtain ⟨b1, o1, hA1, -, h1⟩ := (Hc.out.below ((Below.refl w.heap.size w).alloc (Nat.le_refl _) (.cells z.toArray 94))) j y hy
    rw [hA] at hA1
    injection hA1 with hA1
    injection hA1 with e1 e2
    subst e1 e2
    rw [show (⟨b0, o0, none⟩ : Addr).add j = ⟨b0, o0 + j, none⟩ from addr_add b0 o0 j]
    exact h1
  have F4 : Hid (0 + cs.length ≤ z.length) := by show _ ≤ _; rw [Hcs.out, Hz.out]; simp
  have F5 : Hid (∀ v ∈ cs, v.oneCell' = true) := by
    intro v hv
    rw [Hcs.out] at hv
    obtain ⟨x, -, rfl⟩ := List.mem_map.1 hv
    rfl
  have F6 : Hid (Below w.heap.size w (w.alloc (.cells z.toArray 94))) := (Below.refl w.heap.size w).alloc (Nat.le_refl _) _
  have F7 : Hid (splice z 0 cs = (l ++ [0]).map (gvK .u64)) := by
    show _ = _
    rw [Hcs.out, Hz.out]
    simp [splice]
  go_enter Tryz.func72, Tryz.ntmps72
  go_wp2_with (show wpList _ _ _ (⟨some 23, _, _, _, _, _⟩ :: _) _ _; go_loud (refine wpList_copy_splice rfl (.tmp 21) (.tmp 22) 87 87 rfl 94 (by kernel_rfl) sizeU (some ⟨w.heap.size, 0, none⟩) A l.length (l.length + 1) l.length c (by go_simp) (by go_simp) w.heap.size 0 z 94 F1.out cs F2.out F3.out F4.out F5.out w.heap.size w F6.out (Nat.le_refl _) ?_); intro w2 hg2 hb2)
  have HB : Hid (Bk .u64 94 w2 w.heap.size (l ++ [0])) := by
    show Bk .u64 94 _ _ _
    unfold Bk
    rw [hg2.out, F7.out]
  have HBW := Lib.hid hb2
  clear hg2 hb2 F1 F2 F3 F4 F5 F6 F7 hmk Hcs Hz
  have HV : Hid (mval l = a) := by show mval l = a; rw [← Hl.out]; exact mval_mag a
  have HVM : Hid (mval m = b) := by show mval m = b; rw [← Hmm.out]; exact mval_mag b
  have HLS : Hid (Small l) := by show Small l; rw [← Hl.out]; exact mag_small a
  have HMS : Hid (Small m) := by show Small m; rw [← Hmm.out]; exact mag_small b
  go_loopw [26, 6] (fun s t wr => ∃ (k cy : Nat) (o : List Nat), k ≤ l.length ∧ s = .int .i64 (k : Int) ∧ t = .int .u64 (cy : Int) ∧ cy ≤ 1 ∧ Hid (PlusIs w l m k cy o wr)) (fun s _ _ => (l.length - intOf s).toNat)
  case atStart => exact ⟨0, 0, l, by omega, rfl, rfl, by omega, rfl, HLS.out, by simp [mval], fun _ _ => rfl, HB.out, HBW.out⟩
  case round =>
    obtain ⟨k, cy, o, hk, rfl, rfl, hcy, H⟩ := hrel
    by_cases hkl : k = l.length
    · subst hkl
      by_cases hc0 : cy = 0
      · subst hc0
        go_wp2_with fail
        go_ret
        have e := plus_end0 Hl.out Hmm.out hle H.out
        refine ⟨some ⟨w.heap.size, 0, none⟩, l.length + 1, ret_slice ?_, ?_, H.out.2.2.2.2.2⟩
        · rw [← e, H.out.1]
        · rw [← e]
          have := H.out.2.2.2.2.1.own (base := w.heap.size) (Nat.le_refl _) (by rw [List.length_append, H.out.1]; unfold maxLen; simp; omega)
          rw [List.length_append, H.out.1] at this
          unfold Ow
          rw [H.out.1]
          exact this
      · obtain rfl : cy = 1 := by omega
        clear hc0
        have HOW : Hid (wr.ownsRow w.heap.size 94 1 (.slice (some ⟨w.heap.size, 0, none⟩) l.length (l.length + 1)) l.length (o.map (gvK .u64))) := by
          have := H.out.2.2.2.2.1.own (base := w.heap.size) (Nat.le_refl _) (by rw [List.length_append, H.out.1]; unfold maxLen; simp; omega)
          rw [List.length_append, H.out.1] at this
          exact this
        have hsz : w.heap.size < wr.heap.size := H.out.2.2.2.2.1.lt
        obtain ⟨i0, hi, hz0, hz1, hz2⟩ := info_parts infoU
        have Hi := Lib.hid hi
        have Hz0 := Lib.hid hz0
        have Hz1 := Lib.hid hz1
        have Hz2 := Lib.hid hz2
        clear hi hz0 hz1 hz2
        go_wp2_with (at_builtin; refine wpList_append_any _ rfl (.tmp 64) (.tmp 66) 87 rfl w.heap.size 94 i0 (.int .u64 0) 1 8 (by kernel_rfl) Hi.out Hz0.out Hz1.out Hz2.out rfl (by omega) _ l.length (o.map (gvK .u64)) rfl (HOW.out.alloc _) (wr.heap.size + 1) (some ⟨wr.heap.size, 0, none⟩) 1 1 [.int .u64 1] rfl (reads_one wr _ _) (gvK_one [1]) (by unfold maxLen; omega) (by omega) (by simp; omega) ?_; intro v3 w3 hown3 hg3 _; have HO3 := Lib.hid hown3; have HG3 := Lib.hid hg3; clear hown3 hg3)
        go_ret
        have e := plus_end1 Hl.out Hmm.out hle H.out
        have hb3 : Below w.heap.size w w3 := (H.out.2.2.2.2.2.alloc (by omega) _).grown HG3.out (by simp; omega) (own_ge HOW.out)
        have ho : w3.ownsRow w.heap.size 94 1 v3 (o ++ [1]).length ((o ++ [1]).map (gvK .u64)) := by
          have := HO3.out
          rw [List.length_append, H.out.1, List.map_append]
          exact this
        obtain ⟨A3, c3, rfl, ho3⟩ := own_ow ho
        rw [e] at ho3
        exact ⟨A3, c3, ret_slice (by rw [e]), ho3, hb3⟩
    · have hkl' : k < l.length := by omega
      clear hkl
      obtain ⟨x, hx⟩ : ∃ x, l[k]? = some x := some_at l k hkl'
      have hxb : x < 1000000000 := HLS.out.at hx
      have HX : Hid (o[k]? = some x) := by show _ = _; rw [H.out.2.2.2.1 k (Nat.le_refl _)]; exact hx
      clear hx
      have hcell : wr.cell? ⟨w.heap.size, k, none⟩ = some (.int .u64 x) := H.out.2.2.2.2.1.cell (by rw [List.getElem?_append_left (by rw [H.out.1]; exact hkl')]; exact HX.out)
      have hfz : wr.frozen? ⟨w.heap.size, k, none⟩ = false := H.out.2.2.2.2.1.frozen k
      have g1 : Hid (Bk .u64 94 (wr.setCell ⟨w.heap.size, k, none⟩ (.int .u64 ((x : Int) + cy))) w.heap.size ((o ++ [0]).set k (x + cy))) := H.out.2.2.2.2.1.set k (x + cy)
      have g2 : Hid (Below w.heap.size w (wr.setCell ⟨w.heap.size, k, none⟩ (.int .u64 ((x : Int) + cy)))) := H.out.2.2.2.2.2.setCell (Nat.le_refl _) _
      by_cases hkm : k < m.length
      · have q : decide ((k : Int) < m.length) = true := by simp; omega
        obtain ⟨y, hy⟩ := some_at m k hkm
        have hyb : y < 1000000000 := HMS.out.at hy
        obtain ⟨b1, o1, hA, hB, h1⟩ := Hc'.out k y hy
        subst hA
        have HY := Lib.hid hy
        clear hy
        go_wp2_with fail
        generalize wr.setCell ⟨w.heap.size, k, none⟩ (.int .u64 ((x : Int) + cy)) = W1 at *
        have hc1 : W1.cell? ⟨w.heap.size, k, none⟩ = some (.int .u64 ((x : Int) + cy)) := g1.out.cell (n := x + cy) (by rw [List.getElem?_set_self (by simp [H.out.1]; omega)])
        have hf1 : W1.frozen? ⟨w.heap.size, k, none⟩ = false := g1.out.frozen k
        have hd1 : W1.cell? ⟨b1, o1 + k, none⟩ = some (.int .u64 y) := (g2.out.cell (p := ⟨b1, o1 + k, none⟩) hB).trans h1
        clear h1 hcell hfz
        go_still_tail 10, (by kernel_rfl)
        go_wp2_with fail
        go_roundw
        case rel =>
          refine ⟨k + 1, (x + cy + y) / BB, o.set k ((x + cy + y) % BB), by omega, by go_num, rfl, by unfold BB; omega, plus_rel H.out HX.out (by rw [HY.out]; rfl) hkl' ?_ ?_⟩
          · have := (g1.out.set k (x + cy + y)).set k ((x + cy + y) % BB)
            rw [List.set_set, List.set_set] at this
            exact this
          · exact ((g2.out.setCell (Nat.le_refl _) _).setCell (Nat.le_refl _) _).drew
        case measure => simp [intOf]; omega
      · have q : decide ((k : Int) < m.length) = false := by simp; omega
        go_wp2_with fail
        go_roundw
        case rel =>
          refine ⟨k + 1, (x + cy + 0) / BB, o.set k ((x + cy + 0) % BB), by omega, by go_num, rfl, by unfold BB; omega, plus_rel H.out HX.out (by rw [List.getElem?_eq_none (by omega)]; rfl) hkl' ?_ ?_⟩
          · have := g1.out.set k ((x + cy + 0) % BB)
            rw [List.set_set] at this
            exact this
          · exact g2.out.setCell (Nat.le_refl _) _
        case measure => simp [intOf]; omega
set_option maxRecDepth 100000 in
set_option maxHeartbeats 2000000 in
/-- plus, the first one being shorter -/
theorem plus_lt (A A' : Option Addr) (c c' : Nat) (a b : Nat) (w : World) (hc : Mg .u64 w w.heap.size A (mag a)) (hc' : Mg .u64 w w.heap.size A' (mag b)) (hm : (mag a).length ≤ 1099511627776) (hlt : (mag b).length < (mag a).length) :
    Calls Tryz.prog 72 #[.slice A' (mag b).length c', .slice A (mag a).length c] w (OwRet (mag (a + b)) w) := by
  obtain ⟨l, hl⟩ : ∃ l, mag a = l := ⟨_, rfl⟩
  obtain ⟨m, hmm⟩ : ∃ m, mag b = m := ⟨_, rfl⟩
  have hle : (mag b).length ≤ (mag a).length := by omega
  rw [hl] at hc hm hle hlt ⊢
  rw [hmm] at hc' hle hlt ⊢
  have Hc := Lib.hid hc
  have Hc' := Lib.hid hc'
  clear hc hc'
  have k0 : decide ((m.length : Int) < l.length) = true := by simp; omega

  have hmk : ∀ u : World, (Instr.makeSlice 87 (.int .i64 (l.length : Int)) (.int .i64 ((l.length : Int) + 1))).run Tryz.prog u = .ok (.slice (some ⟨u.heap.size, 0, none⟩) l.length (l.length + 1)) (u.alloc (.cells ((List.replicate (l.length + 1) 0).map (gvK .u64)).toArray 94)) := fun u => run_makeU l.length (l.length + 1) (by omega) (by omega) u
  obtain ⟨cs, hcs⟩ : ∃ cs, cs = l.map (gvK .u64) := ⟨_, rfl⟩
  obtain ⟨z, hz⟩ : ∃ z, z = (List.replicate (l.length + 1) 0).map (gvK .u64) := ⟨_, rfl⟩
  rw [← hz] at hmk
  have Hcs := Lib.hid hcs
  have Hz := Lib.hid hz
  clear hcs hz
  have Hl := Lib.hid hl
  have Hmm := Lib.hid hmm
  clear hl hmm
  have F1 : Hid ((w.alloc (.cells z.toArray 94)).heap[w.heap.size]? = some (.cells z.toArray 94 (0, 0))) := by
    exact heap_new w _
  have F2 : Hid (cs.length = Nat.min l.length l.length) := by show _ = _; rw [Hcs.out]; simp
  have F3 : Hid (0 < cs.length → some (⟨w.heap.size, 0, none⟩ : Addr) = some ⟨w.heap.size, 0, none⟩ ∧ ∃ ad, A = some ad ∧ ∀ j v, cs[j]? = some v → (w.alloc (.cells z.toArray 94)).cell? (ad.add j) = some v) := by
    intro h0
    rw [Hcs.out] at h0 ⊢
    simp only [List.length_map] at h0
    obtain ⟨x, hx⟩ : ∃ x, l[0]? = some x := ⟨l[0], by simp⟩
    obtain ⟨b0, o0, hA, -, -⟩ := Hc.out 0 x hx
    refine ⟨rfl, ⟨b0, o0, none⟩, hA, fun j v hv => ?_⟩
    rw [List.getElem?_map, Option.map_eq_some_iff] at hv
    obtain ⟨y, hy, rfl⟩ := hv
    obtain ⟨b1, o1, hA1, -, h1⟩ := (Hc.out.below ((Below.refl w.heap.size w).alloc (Nat.le_refl _) (.cells z.toArray 94))) j y hy
    rw [hA] at hA1
    injection hA1 with hA1
    injection hA1 with e1 e2
    subst e1 e2
    rw [show (⟨b0, o0, none⟩ : Addr).add j = ⟨b0, o0 + j, none⟩ from addr_add b0 o0 j]
    exact h1
  have F4 : Hid (0 + cs.length ≤ z.length) := by show _ ≤ _; rw [Hcs.out, Hz.out]; simp
  have F5 : Hid (∀ v ∈ cs, v.oneCell' = true) := by
    intro v hv
    rw [Hcs.out] at hv
    obtain ⟨x, -, rfl⟩ := List.mem_map.1 hv
    rfl
  have F6 : Hid (Below w.heap.size w (w.alloc (.cells z.toArray 94))) := (Below.refl w.heap.size w).alloc (Nat.le_refl _) _
  have F7 : Hid (splice z 0 cs = (l ++ [0]).map (gvK .u64)) := by
    show _ = _
    rw [Hcs.out, Hz.out]
    simp [splice]
  go_enter Tryz.func72, Tryz.ntmps72
  go_wp2_with (show wpList _ _ _ (⟨some 23, _, _, _, _, _⟩ :: _) _ _; go_loud (refine wpList_copy_splice rfl (.tmp 21) (.tmp 22) 87 87 rfl 94 (by kernel_rfl) sizeU (some ⟨w.heap.size, 0, none⟩) A l.length (l.length + 1) l.length c (by go_simp) (by go_simp) w.heap.size 0 z 94 F1.out cs F2.out F3.out F4.out F5.out w.heap.size w F6.out (Nat.le_refl _) ?_); intro w2 hg2 hb2)
  have HB : Hid (Bk .u64 94 w2 w.heap.size (l ++ [0])) := by
    show Bk .u64 94 _ _ _
    unfold Bk
    rw [hg2.out, F7.out]
  have HBW := Lib.hid hb2
  clear hg2 hb2 F1 F2 F3 F4 F5 F6 F7 hmk Hcs Hz
  have HV : Hid (mval l = a) := by show mval l = a; rw [← Hl.out]; exact mval_mag a
  have HVM : Hid (mval m = b) := by show mval m = b; rw [← Hmm.out]; exact mval_mag b
  have HLS : Hid (Small l) := by show Small l; rw [← Hl.out]; exact mag_small a
  have HMS : Hid (Small m) := by show Small m; rw [← Hmm.out]; exact mag_small b
  go_loopw [26, 6] (fun s t wr => ∃ (k cy : Nat) (o : List Nat), k ≤ l.length ∧ s = .int .i64 (k : Int) ∧ t = .int .u64 (cy : Int) ∧ cy ≤ 1 ∧ Hid (PlusIs w l m k cy o wr)) (fun s _ _ => (l.length - intOf s).toNat)
  case atStart => exact ⟨0, 0, l, by omega, rfl, rfl, by omega, rfl, HLS.out, by simp [mval], fun _ _ => rfl, HB.out, HBW.out⟩
  case round =>
    obtain ⟨k, cy, o, hk, rfl, rfl, hcy, H⟩ := hrel
    by_cases hkl : k = l.length
    · subst hkl
      by_cases hc0 : cy = 0
      · subst hc0
        go_wp2_with fail
        go_ret
        have e := plus_end0 Hl.out Hmm.out hle H.out
        refine ⟨some ⟨w.heap.size, 0, none⟩, l.length + 1, ret_slice ?_, ?_, H.out.2.2.2.2.2⟩
        · rw [← e, H.out.1]
        · rw [← e]
          have := H.out.2.2.2.2.1.own (base := w.heap.size) (Nat.le_refl _) (by rw [List.length_append, H.out.1]; unfold maxLen; simp; omega)
          rw [List.length_append, H.out.1] at this
          unfold Ow
          rw [H.out.1]
          exact this
      · obtain rfl : cy = 1 := by omega
        clear hc0
        have HOW : Hid (wr.ownsRow w.heap.size 94 1 (.slice (some ⟨w.heap.size, 0, none⟩) l.length (l.length + 1)) l.length (o.map (gvK .u64))) := by
          have := H.out.2.2.2.2.1.own (base := w.heap.size) (Nat.le_refl _) (by rw [List.length_append, H.out.1]; unfold maxLen; simp; omega)
          rw [List.length_append, H.out.1] at this
          exact this
        have hsz : w.heap.size < wr.heap.size := H.out.2.2.2.2.1.lt
        obtain ⟨i0, hi, hz0, hz1, hz2⟩ := info_parts infoU
        have Hi := Lib.hid hi
        have Hz0 := Lib.hid hz0
        have Hz1 := Lib.hid hz1
        have Hz2 := Lib.hid hz2
        clear hi hz0 hz1 hz2
        go_wp2_with (at_builtin; refine wpList_append_any _ rfl (.tmp 64) (.tmp 66) 87 rfl w.heap.size 94 i0 (.int .u64 0) 1 8 (by kernel_rfl) Hi.out Hz0.out Hz1.out Hz2.out rfl (by omega) _ l.length (o.map (gvK .u64)) rfl (HOW.out.alloc _) (wr.heap.size + 1) (some ⟨wr.heap.size, 0, none⟩) 1 1 [.int .u64 1] rfl (reads_one wr _ _) (gvK_one [1]) (by unfold maxLen; omega) (by omega) (by simp; omega) ?_; intro v3 w3 hown3 hg3 _; have HO3 := Lib.hid hown3; have HG3 := Lib.hid hg3; clear hown3 hg3)
        go_ret
        have e := plus_end1 Hl.out Hmm.out hle H.out
        have hb3 : Below w.heap.size w w3 := (H.out.2.2.2.2.2.alloc (by omega) _).grown HG3.out (by simp; omega) (own_ge HOW.out)
        have ho : w3.ownsRow w.heap.size 94 1 v3 (o ++ [1]).length ((o ++ [1]).map (gvK .u64)) := by
          have := HO3.out
          rw [List.length_append, H.out.1, List.map_append]
          exact this
        obtain ⟨A3, c3, rfl, ho3⟩ := own_ow ho
        rw [e] at ho3
        exact ⟨A3, c3, ret_slice (by rw [e]), ho3, hb3⟩
    · have hkl' : k < l.length := by omega
      clear hkl
      obtain ⟨x, hx⟩ : ∃ x, l[k]? = some x := some_at l k hkl'
      have hxb : x < 1000000000 := HLS.out.at hx
      have HX : Hid (o[k]? = some x) := by show _ = _; rw [H.out.2.2.2.1 k (Nat.le_refl _)]; exact hx
      clear hx
      have hcell : wr.cell? ⟨w.heap.size, k, none⟩ = some (.int .u64 x) := H.out.2.2.2.2.1.cell (by rw [List.getElem?_append_left (by rw [H.out.1]; exact hkl')]; exact HX.out)
      have hfz : wr.frozen? ⟨w.heap.size, k, none⟩ = false := H.out.2.2.2.2.1.frozen k
      have g1 : Hid (Bk .u64 94 (wr.setCell ⟨w.heap.size, k, none⟩ (.int .u64 ((x : Int) + cy))) w.heap.size ((o ++ [0]).set k (x + cy))) := H.out.2.2.2.2.1.set k (x + cy)
      have g2 : Hid (Below w.heap.size w (wr.setCell ⟨w.heap.size, k, none⟩ (.int .u64 ((x : Int) + cy)))) := H.out.2.2.2.2.2.setCell (Nat.le_refl _) _
      by_cases hkm : k < m.length
      · have q : decide ((k : Int) < m.length) = true := by simp; omega
        obtain ⟨y, hy⟩ := some_at m k hkm
        have hyb : y < 1000000000 := HMS.out.at hy
        obtain ⟨b1, o1, hA, hB, h1⟩ := Hc'.out k y hy
        subst hA
        have HY := Lib.hid hy
        clear hy
        go_wp2_with fail
        generalize wr.setCell ⟨w.heap.size, k, none⟩ (.int .u64 ((x : Int) + cy)) = W1 at *
        have hc1 : W1.cell? ⟨w.heap.size, k, none⟩ = some (.int .u64 ((x : Int) + cy)) := g1.out.cell (n := x + cy) (by rw [List.getElem?_set_self (by simp [H.out.1]; omega)])
        have hf1 : W1.frozen? ⟨w.heap.size, k, none⟩ = false := g1.out.frozen k
        have hd1 : W1.cell? ⟨b1, o1 + k, none⟩ = some (.int .u64 y) := (g2.out.cell (p := ⟨b1, o1 + k, none⟩) hB).trans h1
        clear h1 hcell hfz
        go_still_tail 10, (by kernel_rfl)
        go_wp2_with fail
        go_roundw
        case rel =>
          refine ⟨k + 1, (x + cy + y) / BB, o.set k ((x + cy + y) % BB), by omega, by go_num, rfl, by unfold BB; omega, plus_rel H.out HX.out (by rw [HY.out]; rfl) hkl' ?_ ?_⟩
          · have := (g1.out.set k (x + cy + y)).set k ((x + cy + y) % BB)
            rw [List.set_set, List.set_set] at this
            exact this
          · exact ((g2.out.setCell (Nat.le_refl _) _).setCell (Nat.le_refl _) _).drew
        case measure => simp [intOf]; omega
      · have q : decide ((k : Int) < m.length) = false := by simp; omega
        go_wp2_with fail
        go_roundw
        case rel =>
          refine ⟨k + 1, (x + cy + 0) / BB, o.set k ((x + cy + 0) % BB), by omega, by go_num, rfl, by unfold BB; omega, plus_rel H.out HX.out (by rw [List.getElem?_eq_none (by omega)]; rfl) hkl' ?_ ?_⟩
          · have := g1.out.set k ((x + cy + 0) % BB)
            rw [List.set_set] at this
            exact this
          · exact g2.out.setCell (Nat.le_refl _) _
        case measure => simp [intOf]; omega
theorem plus_any (A A' : Option Addr) (c c' : Nat) (a b : Nat) (w : World) (hc : Mg .u64 w w.heap.size A (mag a)) (hc' : Mg .u64 w w.heap.size A' (mag b)) (hm : (mag a).length ≤ 1099511627776) (hm' : (mag b).length ≤ 1099511627776) :
    Calls Tryz.prog 72 #[.slice A (mag a).length c, .slice A' (mag b).length c'] w (OwRet (mag (a + b)) w) := by
  by_cases h : (mag b).length ≤ (mag a).length
  · exact plus_ge A A' c c' a b w hc hc' hm h
  · rw [Nat.add_comm a b]
    exact plus_lt A' A c' c b a w hc' hc hm' (by omega)
end Go.Proofs.YtonopbelbehheaaGreatDoor
