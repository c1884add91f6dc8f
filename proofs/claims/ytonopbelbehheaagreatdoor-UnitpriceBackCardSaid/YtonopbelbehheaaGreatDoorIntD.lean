/- Integer: how a slice of groups reads; contracts of cut and compare. Conditions: lengths below 2^62. -/
import Derived.Test.YtonopbelbehheaaGreatDoorIntC
import Derived.Test.YtonopbelbehheaaGreatDoorProg
import Derived.WalkKit
import Derived.WalkLawsBesides
import Derived.Deep.QuietTactic
import Derived.Deep.LoopGhost
import Derived.BigQuiet
import Derived.Lib.Hide
namespace Go.Proofs.YtonopbelbehheaaGreatDoor
open Go.RowKit Dec

/-- a slice of groups (integers of kind K) reads as a list -/
def Mg (K : IntKind) (w : World) (B : Nat) (A : Option Addr) (l : List Nat) : Prop :=
  ∀ (i : Nat) (g : Nat), l[i]? = some g → ∃ b o, A = some ⟨b, o, none⟩ ∧ b < B ∧ w.cell? ⟨b, o + i, none⟩ = some (.int K g)
section
variable {K : IntKind} {w w' : World} {B B' : Nat} {A : Option Addr} {l : List Nat}
theorem Mg.below (h : Mg K w B A l) (hb : Below B w w') : Mg K w' B A l := by
  intro i g hg
  obtain ⟨b, o, hA, hB, h1⟩ := h i g hg
  exact ⟨b, o, hA, hB, (hb.cell (p := ⟨b, o + i, none⟩) hB).trans h1⟩
theorem Mg.mono (h : Mg K w B A l) (hb : B ≤ B') : Mg K w B' A l := by
  intro i g hg
  obtain ⟨b, o, hA, hB, h1⟩ := h i g hg
  exact ⟨b, o, hA, by omega, h1⟩
theorem Mg.up (h : Mg K w w.heap.size A l) (hb : Below w.heap.size w w') : Mg K w' w'.heap.size A l := (h.below hb).mono hb.size
theorem Mg.take (h : Mg K w B A l) (k : Nat) : Mg K w B A (l.take k) := by
  intro i g hg
  rw [List.getElem?_take] at hg
  by_cases hi : i < k
  · rw [if_pos hi] at hg; exact h i g hg
  · rw [if_neg hi] at hg; cases hg
theorem Mg.nil (K : IntKind) (w : World) (B : Nat) (A : Option Addr) : Mg K w B A [] := fun i g h => by simp at h
theorem Mg.drewN (h : Mg K w B A l) (n : Nat) : Mg K (w.drewN n) B A l := h
end
theorem below_drewN (B : Nat) (w : World) (n : Nat) : Below B w (w.drewN n) := ⟨rfl, rfl, rfl, Nat.le_refl _, fun _ _ => rfl⟩
theorem ret_two {v v' u u' : Value} (h : v = v') (h2 : u = u') : Ending.returned (.tuple #[v, u]) = .returned (.tuple #[v', u']) := by rw [h, h2]
theorem val_slice {A : Option Addr} {n m c : Nat} (h : n = m) : Value.slice A n c = .slice A m c := by rw [h]
theorem ret_int {k : IntKind} {a b : Int} (h : a = b) : Ending.returned (.int k a) = .returned (.int k b) := by rw [h]
theorem ret_slice {A : Option Addr} {n m c : Nat} (h : n = m) : Ending.returned (.slice A n c) = .returned (.slice A m c) := by rw [h]

set_option maxHeartbeats 1000000 in
/-- cut: the same slice, up to the last group that is not 0 -/
theorem cut_any (A : Option Addr) (c : Nat) (l : List Nat) (w : World) (hl : Small l) (hc : Mg .u64 w w.heap.size A l) (hcap : l.length ≤ c) (hcm : c ≤ 9223372036854775807) :
    Calls Tryz.prog 135 #[.slice A l.length c] w fun e w' => e = .returned (.slice A (cutL l).length c) ∧ w = w' := by
  have HL := Lib.hid hl
  have Hc := Lib.hid hc
  clear hl hc
  go_enter Tryz.func135, Tryz.ntmps135
  go_wp2
  go_loop [0] (fun s => ∃ k : Nat, k ≤ l.length ∧ s = .slice A k c ∧ Hid (∀ i, k ≤ i → i < l.length → l[i]? = some 0)) (fun s => match s with | .slice _ n _ => n | _ => 0)
  case atStart => exact ⟨l.length, by omega, rfl, fun i h1 h2 => by omega⟩
  case round =>
    obtain ⟨k, hk, rfl, H⟩ := hrel
    by_cases hk0 : k = 0
    · subst hk0
      go_wp2
      go_ret
      refine ⟨ret_slice ?_, rfl⟩
      rw [← cut_take l HL.out 0 (by omega) H.out (.inl rfl)]; rfl
    · obtain ⟨k, rfl⟩ : ∃ j, k = j + 1 := ⟨k - 1, by omega⟩
      obtain ⟨g, hg⟩ : ∃ g, l[k]? = some g := ⟨l[k]'(by omega), by simp⟩
      obtain ⟨b, o, hA, hB, h1⟩ := Hc.out k g hg
      subst hA
      have HGg := Lib.hid hg
      clear hg hk0
      by_cases hz : g = 0
      · subst hz
        go_wp2
        go_round
        case rel =>
          refine ⟨k, by omega, rfl, ?_⟩
          intro i h1 h2
          by_cases e : i = k
          · subst e; exact HGg.out
          · exact H.out i (by omega) h2
        case measure => simp
      · have hz' : ((g : Int) == 0) = false := by simp; omega
        go_wp2
        go_ret
        refine ⟨ret_slice ?_, rfl⟩
        rw [← cut_take l HL.out (k + 1) (by omega) H.out (.inr (by rw [Nat.add_sub_cancel, HGg.out]; intro e; cases e; exact hz rfl))]
        simp; omega

/-- what compare hands back -/
def CmpRet (a b : Nat) (w : World) (e : Ending) (w' : World) : Prop := ∃ r : Int, e = .returned (.int .i64 r) ∧ CmpIs r a b ∧ -4611686018427387904 ≤ r ∧ r ≤ 4611686018427387904 ∧ ∃ n, w' = w.drewN n

set_option maxHeartbeats 1000000 in
theorem compare_any (A A' : Option Addr) (c c' : Nat) (a b : Nat) (w : World) (hc : Mg .u64 w w.heap.size A (mag a)) (hc' : Mg .u64 w w.heap.size A' (mag b)) (hm : (mag a).length ≤ 4611686018427387904) (hm' : (mag b).length ≤ 4611686018427387904) :
    Calls Tryz.prog 88 #[.slice A (mag a).length c, .slice A' (mag b).length c'] w (CmpRet a b w) := by
  have Hc := Lib.hid hc
  have Hc' := Lib.hid hc'
  clear hc hc'
  obtain ⟨l, hl⟩ : ∃ l, mag a = l := ⟨_, rfl⟩
  obtain ⟨m, hmm⟩ : ∃ m, mag b = m := ⟨_, rfl⟩
  have HLS : Hid (Small l) := by show Small l; rw [← hl]; exact mag_small a
  have HMS : Hid (Small m) := by show Small m; rw [← hmm]; exact mag_small b
  have HVL : Hid (mval l = a) := by show mval l = a; rw [← hl]; exact mval_mag a
  have HVM : Hid (mval m = b) := by show mval m = b; rw [← hmm]; exact mval_mag b
  have HCL : Hid (l.length < m.length → a < b) := by show l.length < m.length → a < b; rw [← hl, ← hmm]; exact cmp_len
  have HCM : Hid (m.length < l.length → b < a) := by show m.length < l.length → b < a; rw [← hl, ← hmm]; exact cmp_len
  rw [hl] at Hc hm ⊢
  rw [hmm] at Hc' hm' ⊢
  clear hl hmm
  by_cases hlen : l.length = m.length
  · have hne : ((l.length : Int) != m.length) = false := by simp; omega
    have HN := Lib.hid hlen
    have hle : l.length ≤ m.length := by omega
    clear hlen
    go_enter Tryz.func88, Tryz.ntmps88
    go_wp2
    go_loopw [5] (fun s wr => ∃ k nn : Nat, k ≤ l.length ∧ s = .int .i64 ((k : Int) - 1) ∧ Hid (∀ j, k ≤ j → l[j]? = m[j]?) ∧ wr = w.drewN nn) (fun s _ => (intOf s + 1).toNat)
    case atStart => exact ⟨l.length, 0, by omega, rfl, fun j hj => by rw [List.getElem?_eq_none hj, List.getElem?_eq_none (by have := HN.out; omega)], rfl⟩
    case round =>
      obtain ⟨k, nn, hk, rfl, H, rfl⟩ := hrel
      by_cases hk0 : k = 0
      · subst hk0
        have HE : Hid (a = b) := by
          show a = b
          have e : l = m := List.ext_getElem? (fun j => H.out j (by omega))
          rw [← HVL.out, ← HVM.out, e]
        go_wp2
        go_ret
        exact ⟨0, rfl, ⟨by simp [HE.out], by simp [HE.out]⟩, by omega, by omega, nn, rfl⟩
      · obtain ⟨k, rfl⟩ : ∃ j, k = j + 1 := ⟨k - 1, by omega⟩
        obtain ⟨x, hx⟩ : ∃ g, l[k]? = some g := ⟨l[k]'(by omega), by simp⟩
        obtain ⟨y, hy⟩ : ∃ g, m[k]? = some g := ⟨m[k]'(by omega), by simp⟩
        obtain ⟨b1, o1, hA, hB, h1⟩ := Hc.out k x hx
        obtain ⟨b2, o2, hA', hB', h2⟩ := Hc'.out k y hy
        subst hA hA'
        have HX := Lib.hid hx
        have HY := Lib.hid hy
        clear hx hy hk0
        by_cases hlt : x < y
        · have q : decide ((x : Int) < y) = true := by simp; omega
          have HT := Lib.hid (mval_top HLS.out HN.out k x y HX.out HY.out hlt (fun j hj => H.out j (by omega)))
          go_wp2
          go_quiet (fail)
          go_wp2
          go_ret
          have hab : a < b := by rw [← HVL.out, ← HVM.out]; exact HT.out
          exact ⟨-1, rfl, ⟨by simp [hab], by simp; omega⟩, by omega, by omega, _, World.drewN_drewN _ _ _⟩
        · have q : decide ((x : Int) < y) = false := by simp; omega
          by_cases hgt : y < x
          · have q2 : decide ((y : Int) < x) = true := by simp; omega
            have HT := Lib.hid (mval_top HMS.out HN.out.symm k y x HY.out HX.out hgt (fun j hj => (H.out j (by omega)).symm))
            go_wp2
            go_quiet (fail)
            go_wp2
            go_quiet (fail)
            go_wp2
            go_ret
            have hab : b < a := by rw [← HVL.out, ← HVM.out]; exact HT.out
            exact ⟨1, rfl, ⟨by simp; omega, by simp; omega⟩, by omega, by omega, _, by rw [World.drewN_drewN, World.drewN_drewN]⟩
          · have q2 : decide ((y : Int) < x) = false := by simp; omega
            have HXY := Lib.hid (show x = y by omega)
            go_wp2
            go_quiet (fail)
            go_wp2
            go_quiet (fail)
            go_wp2
            go_roundw
            case rel =>
              refine ⟨k, _, by omega, by go_num, ?_, rfl⟩
              intro j hj
              by_cases e : j = k
              · subst e; rw [HX.out, HY.out, HXY.out]
              · exact H.out j (by omega)
            case measure => simp [intOf]
  · have hne : ((l.length : Int) != m.length) = true := by simp; omega
    go_enter Tryz.func88, Tryz.ntmps88
    go_wp2
    go_ret
    refine ⟨(l.length : Int) - m.length, rfl, ?_, by omega, by omega, 0, rfl⟩
    have h1 := HCL.out
    have h2 := HCM.out
    unfold CmpIs
    omega
end Go.Proofs.YtonopbelbehheaaGreatDoor
