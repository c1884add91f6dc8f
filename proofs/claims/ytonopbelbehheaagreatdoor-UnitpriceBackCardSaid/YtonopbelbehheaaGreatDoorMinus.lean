/- Integer: the contracts of slices.Clone at magnitudes and of minus. Conditions: lengths below 2^40. -/
import Derived.Test.YtonopbelbehheaaGreatDoorIntM
import Derived.WalkSpells
namespace Go.Proofs.YtonopbelbehheaaGreatDoor
open Go.RowKit Dec

set_option maxHeartbeats 1000000 in
theorem clone_any (A : Option Addr) (c : Nat) (l : List Nat) (w : World) (hc : Mg .u64 w w.heap.size A l) (hm : l.length ≤ 1099511627776) :
    Calls Tryz.prog 136 #[.slice A l.length c] w (OwRet l w) := by
  have Hc := Lib.hid hc
  clear hc
  cases A with
  | none =>
    have hl : l = [] := by
      cases l with
      | nil => rfl
      | cons g l => obtain ⟨b, o, h, _⟩ := Hc.out 0 g rfl; cases h
    subst hl
    have k : ∀ u : World, (binOp .eql 87 (.slice none 0 c) (.slice none 0 0)).run Tryz.prog u = .ok (.bool true) u := fun u => Lib.run_eql_slice_nil u _ 94 none _ _ _ _ (by kernel_rfl)
    go_enter Tryz.func136, Tryz.ntmps136
    go_wp2_with fail
    go_ret
    exact ⟨none, 0, rfl, ⟨rfl, .inl ⟨rfl, rfl⟩⟩, Below.refl _ _⟩
  | some ad =>
    have k : ∀ u : World, (binOp .eql 87 (.slice (some ad) l.length c) (.slice none 0 0)).run Tryz.prog u = .ok (.bool false) u := fun u => Lib.run_eql_slice_nil u _ 94 (some ad) _ _ _ _ (by kernel_rfl)
    obtain ⟨i0, hi, hz0, hz1, hz2⟩ := info_parts infoU
    have Hi := Lib.hid hi
    have Hz0 := Lib.hid hz0
    have Hz1 := Lib.hid hz1
    have Hz2 := Lib.hid hz2
    clear hi hz0 hz1 hz2
    have HR := Lib.hid (Hc.out.reads.alloc (Nat.le_refl _) (.cells #[] 94))
    have HO := Lib.hid (Ow.new w .u64 94 [] (by simp))
    go_enter Tryz.func136, Tryz.ntmps136
    go_wp2_with (at_builtin; refine wpList_append_any _ rfl (.tmp 5) (.tmp 6) 87 rfl w.heap.size 94 i0 (.int .u64 0) 1 8 (by kernel_rfl) Hi.out Hz0.out Hz1.out Hz2.out rfl (by omega) (.slice (some ⟨w.heap.size, 0, none⟩) 0 0) 0 [] rfl HO.out w.heap.size (some ad) l.length c (l.map (gvK .u64)) rfl HR.out (gvK_one l) (by unfold maxLen; omega) (by omega) (by simp) ?_; intro v3 w3 hown3 hg3 _; have HO3 := Lib.hid hown3; have HG3 := Lib.hid hg3; clear hown3 hg3)
    go_ret
    have hb3 : Below w.heap.size w w3 := ((Below.refl _ _).alloc (Nat.le_refl _) _).grown HG3.out (by simp) (fun k hk => by simp [Value.ownBlock] at hk; omega)
    have ho := HO3.out
    rw [Nat.zero_add, List.nil_append] at ho
    obtain ⟨A3, c3, rfl, h3⟩ := own_ow ho
    exact ⟨A3, c3, rfl, h3, hb3⟩

/-- what the loop of minus keeps -/
def MinusIs (w : World) (l m : List Nat) (k cy : Nat) (o : List Nat) (A : Option Addr) (c : Nat) (wr : World) : Prop :=
  o.length = l.length ∧ Small o ∧ mval o + mval (m.take k) = mval l + cy * BB ^ k ∧ (∀ t, k ≤ t → o[t]? = l[t]?) ∧ Ow .u64 94 wr w.heap.size A c o ∧ Below w.heap.size w wr
theorem minus_rel {w wr W : World} {l m o : List Nat} {k cy cy' v : Nat} {A : Option Addr} {c : Nat} (h : MinusIs w l m k cy o A c wr) (hv : v < BB)
    (hk : mval (o.set k v) + mval (m.take (k + 1)) = mval l + cy' * BB ^ (k + 1)) (hB : Ow .u64 94 W w.heap.size A c (o.set k v)) (hb : Below w.heap.size w W) : MinusIs w l m (k + 1) cy' (o.set k v) A c W := by
  obtain ⟨h1, h2, h3, h4, h5, h6⟩ := h
  refine ⟨by rw [List.length_set]; exact h1, h2.set _ hv, hk, ?_, hB, hb⟩
  intro t ht
  rw [List.getElem?_set_ne (by omega)]
  exact h4 t (by omega)

set_option maxRecDepth 100000 in
set_option maxHeartbeats 2000000 in
theorem minus_any (A A' : Option Addr) (c c' : Nat) (a b : Nat) (w : World) (hc : Mg .u64 w w.heap.size A (mag a)) (hc' : Mg .u64 w w.heap.size A' (mag b)) (hm : (mag a).length ≤ 1099511627776) (hle : b ≤ a) :
    Calls Tryz.prog 73 #[.slice A (mag a).length c, .slice A' (mag b).length c'] w (OwRet (mag (a - b)) w) := by
  have hlen : (mag b).length ≤ (mag a).length := by
    rcases Nat.lt_or_ge (mag a).length (mag b).length with h | h
    · have := cmp_len h; omega
    · exact h
  obtain ⟨l, hl⟩ : ∃ l, mag a = l := ⟨_, rfl⟩
  obtain ⟨m, hmm⟩ : ∃ m, mag b = m := ⟨_, rfl⟩
  rw [hl] at hc hm hlen ⊢
  rw [hmm] at hc' hlen ⊢
  have Hc := Lib.hid hc
  have Hc' := Lib.hid hc'
  clear hc hc'
  have Hl := Lib.hid hl
  have Hmm := Lib.hid hmm
  have Hle := Lib.hid hle
  clear hl hmm hle
  have HV : Hid (mval l = a) := by show mval l = a; rw [← Hl.out]; exact mval_mag a
  have HVM : Hid (mval m = b) := by show mval m = b; rw [← Hmm.out]; exact mval_mag b
  have HLS : Hid (Small l) := by show Small l; rw [← Hl.out]; exact mag_small a
  have HMS : Hid (Small m) := by show Small m; rw [← Hmm.out]; exact mag_small b
  go_enter Tryz.func73, Tryz.ntmps73
  go_wp2_with fail
  refine (clone_any A c l w Hc.out hm).mono ?_
  rintro e w2 ⟨A2, c2, rfl, ho2, hb2⟩
  have HO2 := Lib.hid ho2
  have HB2 := Lib.hid hb2
  clear ho2 hb2
  go_wp2_with fail
  go_loopw [13, 6] (fun s t wr => ∃ (k cy : Nat) (o : List Nat), k ≤ l.length ∧ s = .int .i64 (k : Int) ∧ t = .int .u64 (cy : Int) ∧ cy ≤ 1 ∧ Hid (MinusIs w l m k cy o A2 c2 wr)) (fun s _ _ => (l.length - intOf s).toNat)
  case atStart => exact ⟨0, 0, l, by omega, rfl, rfl, by omega, rfl, HLS.out, by simp [mval], fun _ _ => rfl, HO2.out, HB2.out⟩
  case round =>
    obtain ⟨k, cy, o, hk, rfl, rfl, hcy, H⟩ := hrel
    by_cases hkl : k = l.length
    · subst hkl
      have HE : Hid (mval o = a - b) := minus_end H.out.2.1 H.out.1 (by have := H.out.2.2.1; rw [List.take_of_length_le hlen, HV.out, HVM.out] at this; exact this) Hle.out hcy
      have Hlo := Lib.hid H.out.1
      go_wp2_with fail
      rw [← Hlo.out]
      refine (cut_any A2 c2 o wr H.out.2.1 H.out.2.2.2.2.1.mg.1 H.out.2.2.2.2.1.mg.2.1 H.out.2.2.2.2.1.mg.2.2).mono ?_
      rintro e w3 ⟨rfl, rfl⟩
      go_wp2_with fail
      go_ret
      exact ow_ret H.out.2.2.2.2.1 H.out.2.1 HE.out H.out.2.2.2.2.2
    · have hkl' : k < l.length := by omega
      clear hkl
      obtain ⟨x, hx⟩ : ∃ x, l[k]? = some x := some_at l k hkl'
      have hxb : x < 1000000000 := HLS.out.at hx
      have HX : Hid (o[k]? = some x) := by show _ = _; rw [H.out.2.2.2.1 k (Nat.le_refl _)]; exact hx
      clear hx
      obtain ⟨g, hA, hg, hg2, hcell, hfz⟩ := H.out.2.2.2.2.1.at HX.out
      subst hA
      by_cases hkm : k < m.length
      · have q : decide ((k : Int) < m.length) = true := by simp; omega
        obtain ⟨y, hy⟩ := some_at m k hkm
        have hyb : y < 1000000000 := HMS.out.at hy
        obtain ⟨b1, o1, hA, hB, h1⟩ := Hc'.out k y hy
        subst hA
        have HY := Lib.hid hy
        clear hy
        have hd1 : wr.cell? ⟨b1, o1 + k, none⟩ = some (.int .u64 y) := (H.out.2.2.2.2.2.cell (p := ⟨b1, o1 + k, none⟩) hB).trans h1
        clear h1
        by_cases hlt : x < cy + y
        · go_wp2_with fail
          go_roundw
          case rel =>
            have e : ((x + BB - (cy + y) : Nat) : Int) = (x : Int) + 1000000000 - (cy + y) := by unfold BB; omega
            refine ⟨k + 1, 1, o.set k (x + BB - (cy + y)), by omega, by go_num, rfl, by omega, minus_rel H.out (by unfold BB; omega) (minus_keep1 HX.out (by rw [HY.out]; rfl) H.out.2.2.1 (by unfold BB; omega)) ?_ ((H.out.2.2.2.2.2.setCell hg _).setCell hg _)⟩
            have := (H.out.2.2.2.2.1.set k (x + BB)).set k (x + BB - (cy + y))
            rw [List.set_set, e] at this
            exact this
          case measure => simp [intOf]; omega
        · go_wp2_with fail
          go_roundw
          case rel =>
            have e : ((x - (cy + y) : Nat) : Int) = (x : Int) - (cy + y) := by omega
            refine ⟨k + 1, 0, o.set k (x - (cy + y)), by omega, by go_num, rfl, by omega, minus_rel H.out (by unfold BB; omega) (minus_keep0 HX.out (by rw [HY.out]; rfl) H.out.2.2.1 (by omega)) ?_ (H.out.2.2.2.2.2.setCell hg _)⟩
            have := H.out.2.2.2.2.1.set k (x - (cy + y))
            rw [e] at this
            exact this
          case measure => simp [intOf]; omega
      · have q : decide ((k : Int) < m.length) = false := by simp; omega
        by_cases hlt : x < cy
        · go_wp2_with fail
          go_roundw
          case rel =>
            have e : ((x + BB - (cy + 0) : Nat) : Int) = (x : Int) + 1000000000 - cy := by unfold BB; omega
            refine ⟨k + 1, 1, o.set k (x + BB - (cy + 0)), by omega, by go_num, rfl, by omega, minus_rel H.out (by unfold BB; omega) (minus_keep1 HX.out (by rw [List.getElem?_eq_none (by omega)]; rfl) H.out.2.2.1 (by unfold BB; omega)) ?_ ((H.out.2.2.2.2.2.setCell hg _).setCell hg _)⟩
            have := (H.out.2.2.2.2.1.set k (x + BB)).set k (x + BB - (cy + 0))
            rw [List.set_set, e] at this
            exact this
          case measure => simp [intOf]; omega
        · go_wp2_with fail
          go_roundw
          case rel =>
            have e : ((x - (cy + 0) : Nat) : Int) = (x : Int) - cy := by omega
            refine ⟨k + 1, 0, o.set k (x - (cy + 0)), by omega, by go_num, rfl, by omega, minus_rel H.out (by unfold BB; omega) (minus_keep0 HX.out (by rw [List.getElem?_eq_none (by omega)]; rfl) H.out.2.2.1 (by omega)) ?_ (H.out.2.2.2.2.2.setCell hg _)⟩
            have := H.out.2.2.2.2.1.set k (x - (cy + 0))
            rw [e] at this
            exact this
          case measure => simp [intOf]; omega
end Go.Proofs.YtonopbelbehheaaGreatDoor
