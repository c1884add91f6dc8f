/- Period: AG; for every input. -/
import Derived.Test.YtopnhhgcoiomhaaAC
import Derived.Test.YtopnhhgcoiomhaaRows
import Derived.WalkKit
import Derived.ProofKit
import Derived.OpenShut
import Derived.WalkLawsBesides
import Derived.Deep.QuietTactic
import Derived.Deep.LoopGhost
import Derived.Deep.RegionWith
import Derived.BigQuiet
import Derived.Lib.Hide
import Derived.Lib.SmallJoins
import Derived.Deep.RegionHeld3
namespace Go.Proofs.Ytopnhhgcoiomhaa
open Go.RowKit
theorem chk_of_good {l : List (Int × Int)} (h : Good l) : chk l = 0 := by
  refine chk_end l h.len (fun j hj => ?_)
  obtain ⟨x, hx⟩ : ∃ x, l[j]? = some x := ⟨l[j], by simp [hj]⟩
  have h1 := h.one j x hx
  cases j with
  | zero => exact bad_0 (d := x.1) (n := x.2) hx (by omega) (by omega)
  | succ j =>
    obtain ⟨y, hy⟩ : ∃ y, l[j]? = some y := ⟨l[j], by simp [show j < l.length by omega]⟩
    have h2 := h.two j y x hy hx
    rw [bad_8 (d := x.1) (n := x.2) (d' := y.1) (n' := y.2) hx hy (by omega) (by omega), if_neg (by omega)]
theorem take_get {l : List (Int × Int)} {k i : Nat} {x : Int × Int} (h : (l.take k)[i]? = some x) : l[i]? = some x ∧ i < k := by
  rw [List.getElem?_take] at h
  by_cases hi : i < k
  · rw [if_pos hi] at h; exact ⟨h, hi⟩
  · rw [if_neg hi] at h; cases h
theorem Good.take {l : List (Int × Int)} (h : Good l) (k : Nat) : Good (l.take k) :=
  ⟨by have := h.len; simp; omega, fun i x hx => h.one i x (take_get hx).1, fun i x y hx hy => h.two i x y (take_get hx).1 (take_get hy).1⟩
theorem dayAt_take {l : List (Int × Int)} {k j : Nat} (hj : j ≤ k) : dayAt (l.take k) j = dayAt l j := by
  cases j with
  | zero => rfl
  | succ j => simp [dayAt, List.getD, show j < k by omega]
theorem cnt_take (l : List (Int × Int)) (kn : Int) : ∀ k, cnt (l.take k) kn ≤ cnt l kn := by
  unfold cnt
  induction l with
  | nil => intro k; simp
  | cons a l ih =>
    intro k
    cases k with
    | zero => simp
    | succ k => by_cases ha : a.2 < kn <;> simp [ha, ih]
theorem opW_take {l : List (Int × Int)} (h : Good l) (k : Nat) (kn : Int) : opW (l.take k) kn ≤ opW l kn := by
  rw [opW_eq h, opW_eq (h.take k), dayAt_take (Nat.le_trans (cnt_le _ _) (by simp; omega))]
  exact dayAt_mono h _ _ (cnt_take l kn k) (cnt_le _ _)
theorem addE_take {l : List (Int × Int)} (h : Good l) {j : Nat} {x : Int × Int} (hx : l[j]? = some x) : addE (l.take j) x = 0 ∧ l.take j ++ [x] = l.take (j + 1) := by
  have e : l.take j ++ [x] = l.take (j + 1) := by rw [List.take_add_one, hx]; rfl
  refine ⟨?_, e⟩
  unfold addE
  rw [chk_of_good (h.take j), e, chk_of_good (h.take (j + 1))]
  simp
theorem Cl.take {w : World} {B : Nat} {A : Option Addr} {l : List (Int × Int)} (h : Cl w B A l) (k : Nat) : Cl w B A (l.take k) := fun i x hx => h i x (take_get hx).1

theorem add_good {l : List (Int × Int)} (h : Good l) {j : Nat} {x : Int × Int} (hx : l[j]? = some x) (A : Option Addr) (c : Nat) (w : World) (hc : Cl w w.heap.size A (l.take j)) :
    Calls Try.prog 15 #[.slice A j c, .agg #[.int .i64 x.1, .int .i64 x.2]] w fun e w' => ∃ A' c', e = .returned (.tuple #[.slice A' (j + 1) c', .int .i64 0]) ∧ Cl w' w'.heap.size A' (l.take (j + 1)) ∧ Below w.heap.size w w' := by
  have hj : j < l.length := (List.getElem?_eq_some_iff.1 hx).1
  have hlen := h.len
  have e1 : (l.take j).length = j := by simp; omega
  have := Add_any A c (l.take j) x w hc (by rw [e1]; omega)
  rw [e1] at this
  refine this.mono ?_
  intro e w' hh
  obtain ⟨A', c', rfl, hc', hb⟩ := handed_cl hh
  obtain ⟨e0, e2⟩ := addE_take h hx
  have e3 : lst (addE (l.take j) x) (l.take j ++ [x]) = l.take (j + 1) := by rw [e2]; simp [lst, e0]
  rw [e3] at hc' ⊢
  have e4 : (l.take (j + 1)).length = j + 1 := by simp; omega
  rw [e4, e0]
  exact ⟨A', c', rfl, hc', hb⟩

/-- the slice holds the first n closings -/
def AllIs (l : List (Int × Int)) (n : Nat) (v : Value) (w : World) : Prop := ∃ A c, v = .slice A n c ∧ Cl w w.heap.size A (l.take n)

set_option maxRecDepth 100000 in
set_option maxHeartbeats 4000000 in
theorem begin_fine (A : Option Addr) (c : Nat) (l : List (Int × Int)) (kn a : Int) (w : World) (hc : Cl w w.heap.size A l) (hcap : l.length ≤ c) (_hcm : c ≤ 9223372036854775807)
    (hf : fineB l = true) (hk : 0 ≤ kn) (h8 : l.length ≤ 8) (ha0 : 0 ≤ a) (ha1 : a ≤ 255) :
    Calls Try.prog 6 #[.slice A l.length c, .int .i64 kn, .int .u8 a] w fun e w' => e = .returned (.bool true) ∧ Below w.heap.size w w' := by
  obtain ⟨h0, hg⟩ := fine_good hf
  have hm : l.length ≤ 9223372036854775807 := by omega
  have hF := fine_any A c l w hc hm
  rw [hf] at hF
  have HF := Lib.hid hF
  have H0 := Lib.hid h0
  have HG := Lib.hid hg
  have Hc := Lib.hid hc
  clear hF hc h0 hf hg
  have k0 : decide (kn < 0) = false := by simp; omega
  have k1 : decide ((8 : Int) < l.length) = false := by simp; omega
  obtain ⟨k, hkk⟩ : ∃ k : Nat, a.toNat % (l.length + 1) = k := ⟨_, rfl⟩
  have hkl : k ≤ l.length := by have := Nat.mod_lt a.toNat (show 0 < l.length + 1 by omega); omega
  have HK : Hid (a % ((l.length : Int) + 1) = k) := by
    show a % ((l.length : Int) + 1) = k
    rw [← hkk]
    obtain ⟨n, rfl⟩ := Int.eq_ofNat_of_zero_le ha0
    simp
  clear hkk
  obtain ⟨o1, ho1⟩ : ∃ v, opW (l.take k) kn = v := ⟨_, rfl⟩
  obtain ⟨o2, ho2⟩ : ∃ v, opW l kn = v := ⟨_, rfl⟩
  have hle := opW_take HG.out k kn
  rw [ho1, ho2] at hle
  have t1 : decide (o2 < o1) = false := by simp; omega
  have e1 : (l.take k).length = k := by simp; omega
  have C1 := fun W (h : Cl W W.heap.size A l) => open_good (chk_of_good (HG.out.take k)) A c kn hk W (h.take k) (by rw [e1]; omega) o1 ho1
  have C2 := fun W (h : Cl W W.heap.size A l) => open_good H0.out A c kn hk W h hm o2 ho2
  have C3 := fun W (h : Cl W W.heap.size A l) => Check_any A c (l.take k) W (h.take k) (by rw [e1]; omega)
  rw [chk_of_good (HG.out.take k)] at C3
  rw [e1] at C1 C3
  have D1 := Lib.hid C1
  have D2 := Lib.hid C2
  have D3 := Lib.hid C3
  clear C1 C2 C3 ho1 ho2 e1
  go_enter Try.func6, Try.ntmps6
  go_wp2_with fail
  refine HF.out.mono ?_
  rintro e w1 ⟨rfl, hb1⟩
  have Hc1 := Lib.hid (Hc.out.up hb1)
  have hmod := HK.out
  go_wp2_with fail
  rw [hmod]
  clear hmod
  refine (D1.out _ Hc1.out).mono ?_
  rintro e w2 ⟨rfl, hb2⟩
  have Hc2 := Lib.hid (Hc1.out.up hb2)
  have hB2 := hb1.trans (hb2.mono hb1.size)
  go_wp2_with fail
  refine (D2.out _ Hc2.out).mono ?_
  rintro e w3 ⟨rfl, hb3⟩
  have Hc3 := Lib.hid (Hc2.out.up hb3)
  have hB3 := hB2.trans (hb3.mono hB2.size)
  go_wp2_with fail
  refine (D3.out _ Hc3.out).mono ?_
  rintro e w4 ⟨rfl, hb4⟩
  have Hc4 := Lib.hid (Hc3.out.up hb4)
  have hB4 := hB3.trans (hb4.mono hB3.size)
  clear D1 D2 D3 hb1 hb2 hb3 hb4 hB2 hB3 Hc1 Hc2 Hc3 HF HK
  by_cases hck : c = k
  · have hke0 : l.length - k = 0 := by omega
    obtain rfl := hck
    go_wp2_with fail
    go_loopw [12, 75] (fun v j wr => ∃ i : Nat, i ≤ l.length - c ∧ j = .int .i64 i ∧ AllIs l (c + i) v wr ∧ Below w4.heap.size w4 wr) (fun _ j _ => l.length - c - (intOf j).toNat)
    case atStart => exact ⟨0, by omega, rfl, ⟨_, _, rfl, Hc4.out.take c⟩, Below.refl _ _⟩
    case round =>
      obtain ⟨i, hi, rfl, ⟨A', c', rfl, hcl⟩, hb⟩ := hrel
      have hB := hB4.trans (hb.mono hB4.size)
      have HCl := Lib.hid hcl
      clear hcl
      by_cases hlt : i < l.length - c
      · exfalso; omega
      · have hke := Lib.hid (show c + i = l.length by omega)
        have hq := equal_same A' A c' c l wr (by have := HCl.out; rwa [hke.out, List.take_length] at this) (Hc4.out.up hb) hm
        rw [← hke.out] at hq
        have HQ := Lib.hid hq
        clear hq
        go_wp2_with fail
        rw [← hke.out]
        refine HQ.out.mono ?_
        rintro e w7 ⟨rfl, n7, rfl⟩
        go_wp2_with fail
        refine (awake_any _).mono ?_
        rintro e w9 ⟨rfl, hb9⟩
        have hB8 := below_drewN hB n7
        have hB9 := hB8.trans (hb9.mono hB8.size)
        go_wp2_with fail
        go_ret
        exact ⟨rfl, hB9⟩
  · go_wp2_with fail
    generalize hR : Option.map (fun x : Addr => x.add (k * 2)) A = R
    have HRR := Lib.hid hR
    clear hR
    go_loopw [12, 75] (fun v j wr => ∃ i : Nat, i ≤ l.length - k ∧ j = .int .i64 i ∧ AllIs l (k + i) v wr ∧ Below w4.heap.size w4 wr) (fun _ j _ => l.length - k - (intOf j).toNat)
    case atStart => exact ⟨0, by omega, rfl, ⟨_, _, rfl, Hc4.out.take k⟩, Below.refl _ _⟩
    case round =>
      obtain ⟨i, hi, rfl, ⟨A', c', rfl, hcl⟩, hb⟩ := hrel
      have hB := hB4.trans (hb.mono hB4.size)
      have HCl := Lib.hid hcl
      clear hcl
      by_cases hlt : i < l.length - k
      · obtain ⟨x, hx⟩ : ∃ x, l[k + i]? = some x := ⟨l[k + i]'(by omega), by simp⟩
        obtain ⟨b, o, hA', hBl, g1, g2⟩ := (Hc4.out.below hb) (k + i) _ hx
        have hR := HRR.out
        rw [hA'] at hR
        simp only [Option.map_some, Go.WideShapes.add_plain] at hR
        subst hR
        clear hA'
        rw [show o + (k + i) * 2 = o + k * 2 + i * 2 by omega] at g1 g2
        have hbl : b < wr.heap.size := Nat.lt_of_lt_of_le hBl hb.size
        have HX := Lib.hid hx
        clear hx
        go_wp2_with fail
        refine (add_good HG.out HX.out A' c' _ (HCl.out.up ((Below.refl _ wr).alloc (Nat.le_refl _) _))).mono ?_
        rintro e w6 ⟨A6, c6, rfl, hc6, hb6⟩
        have HC6 := Lib.hid hc6
        clear hc6
        go_wp2_with fail
        go_roundw
        case rel => exact ⟨i + 1, by omega, by go_num, ⟨A6, c6, rfl, HC6.out⟩, (hb.alloc hb.size _).trans (hb6.mono (by have := hb.size; simp; omega))⟩
        case measure => simp [intOf]; omega
      · have hke := Lib.hid (show k + i = l.length by omega)
        have hq := equal_same A' A c' c l wr (by have := HCl.out; rwa [hke.out, List.take_length] at this) (Hc4.out.up hb) hm
        rw [← hke.out] at hq
        have HQ := Lib.hid hq
        clear hq
        go_wp2_with fail
        rw [← hke.out]
        refine HQ.out.mono ?_
        rintro e w7 ⟨rfl, n7, rfl⟩
        go_wp2_with fail
        refine (awake_any _).mono ?_
        rintro e w9 ⟨rfl, hb9⟩
        have hB8 := below_drewN hB n7
        have hB9 := hB8.trans (hb9.mono hB8.size)
        go_wp2_with fail
        go_ret
        exact ⟨rfl, hB9⟩

set_option maxHeartbeats 2000000 in
theorem beginnings_any (A : Option Addr) (c : Nat) (l : List (Int × Int)) (kn a : Int) (w : World) (hc : Cl w w.heap.size A l) (hm : l.length ≤ 9223372036854775807) (hcap : l.length ≤ c) (hcm : c ≤ 9223372036854775807) (ha0 : 0 ≤ a) (ha1 : a ≤ 255) :
    Calls Try.prog 6 #[.slice A l.length c, .int .i64 kn, .int .u8 a] w fun e w' => e = .returned (.bool true) ∧ Below w.heap.size w w' := by
  by_cases hall : fineB l = true ∧ 0 ≤ kn ∧ l.length ≤ 8
  · exact begin_fine A c l kn a w hc hcap hcm hall.1 hall.2.1 hall.2.2 ha0 ha1
  have hb0 : Below w.heap.size w w := Below.refl _ _
  obtain ⟨f, hf⟩ : ∃ f, fineB l = f := ⟨_, rfl⟩
  have hF := fine_any A c l _ hc hm
  rw [hf] at hF hall
  have HF := Lib.hid hF
  clear hF hc hf
  have h3 : f = false ∨ f = true ∧ (kn < 0 ∨ ¬ kn < 0 ∧ 8 < l.length) := by
    cases f
    · exact .inl rfl
    refine .inr ⟨rfl, ?_⟩
    by_cases b : kn < 0
    · exact .inl b
    exact .inr ⟨b, Nat.not_le.1 fun hn => hall ⟨rfl, by omega, hn⟩⟩
  clear hall
  rcases h3 with rfl | ⟨rfl, b | ⟨b, b'⟩⟩
  · go_enter Try.func6, Try.ntmps6
    go_wp2_with fail
    refine HF.out.mono ?_
    rintro e w1 ⟨rfl, hb1⟩
    go_wp2_with fail
    refine (awake_any w1).mono ?_
    rintro e w7 ⟨rfl, hb7⟩
    have hB1 := hb0.trans (hb1.mono hb0.size)
    have hB7 := hB1.trans (hb7.mono hB1.size)
    go_wp2_with fail
    go_ret
    exact ⟨rfl, hB7⟩
  · have k1 : decide (kn < 0) = true := by simp; omega
    go_enter Try.func6, Try.ntmps6
    go_wp2_with fail
    refine HF.out.mono ?_
    rintro e w1 ⟨rfl, hb1⟩
    go_wp2_with fail
    refine (awake_any w1).mono ?_
    rintro e w7 ⟨rfl, hb7⟩
    have hB1 := hb0.trans (hb1.mono hb0.size)
    have hB7 := hB1.trans (hb7.mono hB1.size)
    go_wp2_with fail
    go_ret
    exact ⟨rfl, hB7⟩
  · have k1 : decide (kn < 0) = false := by simp; omega
    have k2 : decide ((8 : Int) < l.length) = true := by simp; omega
    go_enter Try.func6, Try.ntmps6
    go_wp2_with fail
    refine HF.out.mono ?_
    rintro e w1 ⟨rfl, hb1⟩
    go_wp2_with fail
    refine (awake_any w1).mono ?_
    rintro e w7 ⟨rfl, hb7⟩
    have hB1 := hb0.trans (hb1.mono hb0.size)
    have hB7 := hB1.trans (hb7.mono hB1.size)
    go_wp2_with fail
    go_ret
    exact ⟨rfl, hB7⟩
end Go.Proofs.Ytopnhhgcoiomhaa
