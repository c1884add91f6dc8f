/- Period: R; for every input. -/
import Derived.Test.YtopnhhgcoiomhaaJ
import Derived.Test.YtopnhhgcoiomhaaRows
import Derived.WalkKit
import Derived.ProofKit
import Derived.OpenShut
import Derived.WalkLawsBesides
import Derived.Deep.QuietTactic
import Derived.Deep.LoopGhost
import Derived.Deep.RegionWith
import Derived.BigQuiet
import Derived.Lib.Hide
namespace Go.Proofs.Ytopnhhgcoiomhaa
open Go.RowKit
/-- how many closings lie before a day -/
def fnd (l : List (Int × Int)) (d : Int) : Nat := (l.takeWhile (fun x => decide (x.1 < d))).length

theorem fnd_is {l : List (Int × Int)} {d : Int} {k : Nat} (hk : k ≤ l.length) (h1 : ∀ (j : Nat) (x : Int × Int), j < k → l[j]? = some x → x.1 < d) (h2 : ∀ x : Int × Int, l[k]? = some x → d ≤ x.1) : fnd l d = k := by
  unfold fnd
  induction l generalizing k with
  | nil => simp at hk; simp [hk]
  | cons a l ih =>
    cases k with
    | zero =>
      have := h2 a rfl
      rw [List.takeWhile_cons, if_neg (by simp; omega)]; rfl
    | succ k =>
      have := h1 0 a (by omega) rfl
      rw [List.takeWhile_cons, if_pos (by simp; omega)]
      simp only [List.length_cons]
      rw [ih (k := k) (by simpa using hk) (fun j x hj hx => h1 (j + 1) x (by omega) (by simpa using hx)) (fun x hx => h2 x (by simpa using hx))]

set_option maxHeartbeats 1000000 in
theorem find1_any (b o c Bs Bd k : Nat) (len : Nat) (d x1 : Int) (w : World) (hk : k < len) (hlen : len ≤ 64) (hs : w.cell? ⟨Bs, 0, none⟩ = some (.slice (some ⟨b, o, none⟩) len c)) (hd : w.cell? ⟨Bd, 0, none⟩ = some (.int .i64 d))
    (hc : w.cell? ⟨b, o + k * 2, none⟩ = some (.int .i64 x1)) :
    Calls Try.prog 37 #[.int .i64 k, .pointer (some ⟨Bs, 0, none⟩), .pointer (some ⟨Bd, 0, none⟩)] w fun e w' => e = .returned (.bool (decide (d ≤ x1))) ∧ ∃ n, w' = w.drewN n := by
  go_enter Try.func37, Try.ntmps37
  go_wp2
  go_quiet (fail)
  go_wp2
  go_ret
  exact ⟨rfl, _, rfl⟩

set_option maxHeartbeats 1000000 in
theorem search_any (A : Option Addr) (c Bs Bd : Nat) (l : List (Int × Int)) (d : Int) (w : World) (hg : Good l) (hc : Cl w w.heap.size A l)
    (hs : w.cell? ⟨Bs, 0, none⟩ = some (.slice A l.length c)) (hd : w.cell? ⟨Bd, 0, none⟩ = some (.int .i64 d)) :
    Calls Try.prog 36 #[.int .i64 l.length, .func (.func 37) #[] #[.pointer (some ⟨Bs, 0, none⟩), .pointer (some ⟨Bd, 0, none⟩)]] w fun e w' => e = .returned (.int .i64 (fnd l d)) ∧ ∃ n, w' = w.drewN n := by
  have hlen := hg.len
  have HG := Lib.hid hg
  have Hc := Lib.hid hc
  have Hs := Lib.hid hs
  have Hd := Lib.hid hd
  clear hg hc hs hd
  go_enter Try.func36, Try.ntmps36
  go_wp2
  go_loopw [5, 6] (fun i j wr => ∃ p q nn : Nat, p ≤ q ∧ q ≤ l.length ∧ i = .int .i64 p ∧ j = .int .i64 q ∧ Hid (∀ (t : Nat) (x : Int × Int), t < p → l[t]? = some x → x.1 < d) ∧ Hid (∀ x : Int × Int, l[q]? = some x → d ≤ x.1) ∧ wr = w.drewN nn) (fun i j _ => (intOf j - intOf i).toNat)
  case atStart => exact ⟨0, l.length, 0, by omega, by omega, rfl, rfl, fun t x ht => absurd ht (by omega), fun x hx => by simp at hx, rfl⟩
  case round =>
    obtain ⟨p, q, nn, hpq, hq, rfl, rfl, H1, H2, rfl⟩ := hrel
    by_cases hlt : p < q
    · obtain ⟨h, hh⟩ : ∃ h, (p + q) / 2 = h := ⟨_, rfl⟩
      have hhb : p ≤ h ∧ h < q := by omega
      obtain ⟨x, hx⟩ : ∃ x, l[h]? = some x := ⟨l[h]'(by omega), by simp⟩
      obtain ⟨b, o, hA, hB, g1, g2⟩ := Hc.out h _ hx
      subst hA
      have HX := Lib.hid hx
      have HH := Lib.hid hh
      clear hx hh
      have hC := find1_any b o c Bs Bd h l.length d x.1 (w.drewN nn) (by omega) hlen Hs.out Hd.out g1
      by_cases hle : d ≤ x.1
      · rw [show decide (d ≤ x.1) = true by simp [hle]] at hC
        have HC := Lib.hid hC
        clear hC g1 g2
        go_wp2_with fail
        rw [show ((p : Int) + q) / 2 = (h : Int) by have := HH.out; omega]
        refine HC.out.mono ?_
        rintro e w' ⟨rfl, n2, rfl⟩
        go_wp2_with fail
        go_roundw
        case rel => exact ⟨p, h, nn + n2, by omega, by omega, rfl, rfl, H1, fun y hy => by have e := HX.out; rw [e] at hy; cases hy; exact hle, rfl⟩
        case measure => simp [intOf]; omega
      · rw [show decide (d ≤ x.1) = false by simp [hle]] at hC
        have HC := Lib.hid hC
        clear hC g1 g2
        go_wp2_with fail
        rw [show ((p : Int) + q) / 2 = (h : Int) by have := HH.out; omega]
        refine HC.out.mono ?_
        rintro e w' ⟨rfl, n2, rfl⟩
        go_wp2_with fail
        go_roundw
        case rel =>
          refine ⟨h + 1, q, nn + n2, by omega, by omega, by go_num, rfl, ?_, H2, rfl⟩
          intro t y ht hy
          have := HG.out.mono t h y x (by omega) hy HX.out
          omega
        case measure => simp [intOf]; omega
    · have HP := Lib.hid (show p = q by omega)
      go_wp2
      go_ret
      refine ⟨ret_int ?_, _, rfl⟩
      rw [fnd_is (k := p) (by omega) H1.out (by rw [HP.out]; exact H2.out)]

theorem fnd_le (l : List (Int × Int)) (d : Int) : fnd l d ≤ l.length := (List.takeWhile_sublist _).length_le
theorem ret_three {v v' u u' t t' : Value} (h : v = v') (h2 : u = u') (h3 : t = t') : Ending.returned (.tuple #[v, u, t]) = .returned (.tuple #[v', u', t']) := by rw [h, h2, h3]

/-- what Find returns -/
def fndI (l : List (Int × Int)) (d : Int) : Int := if ck l 0 d = 0 ∧ fnd l d < l.length then fnd l d else 0
def fndB (l : List (Int × Int)) (d : Int) : Bool := decide (ck l 0 d = 0 ∧ fnd l d < l.length)

theorem fndI_lt {l : List (Int × Int)} {d : Int} (h : ck l 0 d = 0) (hf : fnd l d < l.length) : fndI l d = fnd l d ∧ fndB l d = true := by simp [fndI, fndB, h, hf]
theorem fndI_ge {l : List (Int × Int)} {d : Int} (h : ¬ (ck l 0 d = 0 ∧ fnd l d < l.length)) : fndI l d = 0 ∧ fndB l d = false := by
  unfold fndI fndB; rw [if_neg h, decide_eq_false h]; exact ⟨rfl, rfl⟩
theorem ret_find {l : List (Int × Int)} {d i r : Int} {b : Bool} (h : fndI l d = i ∧ fndB l d = b) (hr : ck l 0 d = r) : Ending.returned (.tuple #[.int .i64 i, .bool b, .int .i64 r]) = .returned (.tuple #[.int .i64 (fndI l d), .bool (fndB l d), .int .i64 (ck l 0 d)]) := by
  rw [h.1, h.2, hr]

set_option maxHeartbeats 1000000 in
theorem Find_any (A : Option Addr) (c : Nat) (l : List (Int × Int)) (d : Int) (w : World) (hc : Cl w w.heap.size A l) (hm : l.length ≤ 9223372036854775807) :
    Calls Try.prog 22 #[.slice A l.length c, .int .i64 d] w fun e w' => e = .returned (.tuple #[.int .i64 (fndI l d), .bool (fndB l d), .int .i64 (ck l 0 d)]) ∧ Below w.heap.size w w' := by
  have hb0 : Below w.heap.size w ((w.alloc (.cells #[.slice A l.length c] 22)).alloc (.cells #[.int .i64 d] 25)) := ((Below.refl _ _).alloc (Nat.le_refl _) _).alloc (by simp) _
  have Hc0 := Lib.hid (hc.up hb0)
  have hC := check_any A c l 0 d _ Hc0.out hm
  obtain ⟨r, hr⟩ : ∃ r, ck l 0 d = r := ⟨_, rfl⟩
  rw [hr] at hC
  have HC := Lib.hid hC
  have HR := Lib.hid hr
  clear hC hr hc
  by_cases h0 : r = 0
  · subst h0
    have hg : Good l := by
      have := HR.out
      unfold ck at this
      by_cases h1 : chk l = 0
      · exact good_of_chk h1
      · rw [if_pos h1] at this; omega
    have hfl := fnd_le l d
    have hlen := hg.len
    have HG := Lib.hid hg
    clear hg
    obtain ⟨f, hf⟩ : ∃ f, fnd l d = f := ⟨_, rfl⟩
    have HF := Lib.hid hf
    rw [hf] at hfl
    clear hf
    go_enter Try.func22, Try.ntmps22
    go_wp2_with fail
    refine HC.out.mono ?_
    rintro e w1 ⟨rfl, hb1⟩
    have Hc1 := Lib.hid (Hc0.out.up hb1)
    have c1 : w1.cell? ⟨w.heap.size, 0, none⟩ = some (.slice A l.length c) := (hb1.cell (p := ⟨w.heap.size, 0, none⟩) (by simp; omega)).trans (((Boxed.new w 22 (.slice A l.length c)).alloc _).cell)
    have c2 : w1.cell? ⟨w.heap.size + 1, 0, none⟩ = some (.int .i64 d) := (hb1.cell (p := ⟨w.heap.size + 1, 0, none⟩) (by simp)).trans (by have := (Boxed.new (w.alloc (.cells #[.slice A l.length c] 22)) 25 (.int .i64 d)).cell; rwa [World.size_alloc] at this)
    have hB1 := hb0.trans (hb1.mono (by simp; omega))
    have hS := search_any A c w.heap.size (w.heap.size + 1) l d w1 HG.out Hc1.out c1 c2
    rw [HF.out] at hS
    have HS := Lib.hid hS
    clear hS
    go_wp2_with fail
    refine HS.out.mono ?_
    rintro e w' ⟨rfl, n2, rfl⟩
    by_cases hlt : f < l.length
    · have q : ((f : Int) == l.length) = false := by simp; omega
      go_wp2_with fail
      go_ret3
      refine ⟨ret_find ?_ HR.out, below_drewN hB1 _⟩
      have := fndI_lt HR.out (by rw [HF.out]; exact hlt)
      rw [HF.out] at this
      exact this
    · have q : ((f : Int) == l.length) = true := by simp; omega
      go_wp2_with fail
      go_ret3
      exact ⟨ret_find (fndI_ge (by rw [HF.out]; omega)) HR.out, below_drewN hB1 _⟩
  · have h0b : (r != 0) = true := by simp [h0]
    go_enter Try.func22, Try.ntmps22
    go_wp2_with fail
    refine HC.out.mono ?_
    rintro e w1 ⟨rfl, hb1⟩
    have hB1 := hb0.trans (hb1.mono (by simp; omega))
    go_wp2_with fail
    go_ret3
    exact ⟨ret_find (fndI_ge (by rw [HR.out]; omega)) HR.out, hB1⟩

set_option maxHeartbeats 1000000 in
theorem rFind_any (A : Option Addr) (c : Nat) (l : List (Int × Int)) (d : Int) (w : World) (hc : Cl w w.heap.size A l) (hm : l.length ≤ 9223372036854775807) :
    Calls Try.prog 23 #[.slice A l.length c, .int .i64 d] w fun e w' => e = .returned (.tuple #[.int .i64 (fndI l d), .bool (fndB l d), .int .i64 (ck l 0 d)]) ∧ Below w.heap.size w w' := by
  have hC := rCheck_any A c l w hc hm
  have hD := rDay_any d
  obtain ⟨r, hr⟩ : ∃ r, chk l = r := ⟨_, rfl⟩
  have e : ck l 0 d = if r ≠ 0 then 1 else if d < -25567 ∨ 84005 < d then 13 else 0 := by simp [ck, hr]
  rw [hr] at hC
  have HC := Lib.hid hC
  have Hc := Lib.hid hc
  clear hC hr hc
  by_cases h0 : r = 0
  · subst h0
    by_cases h1 : d < -25567 ∨ 84005 < d
    · rw [if_pos h1] at hD
      have HR := Lib.hid (show ck l 0 d = 13 by rw [e]; simp [h1])
      have HD := Lib.hid hD
      clear hD h1 e
      go_enter Try.func23, Try.ntmps23
      go_wp2_with (go_at_call 27; refine HC.out.mono ?_; rintro e w1 ⟨rfl, hb⟩)
      go_wp2_with (go_at_call 35; refine (HD.out _).mono ?_; rintro e w2 ⟨rfl, rfl⟩)
      go_ret3
      exact ⟨ret_find (fndI_ge (by rw [HR.out]; omega)) HR.out, hb⟩
    · rw [if_neg h1] at hD
      have HR := Lib.hid (show ck l 0 d = 0 by rw [e]; simp [h1])
      have HD := Lib.hid hD
      clear hD h1 e
      go_enter Try.func23, Try.ntmps23
      go_wp2_with (go_at_call 27; refine HC.out.mono ?_; rintro e w1 ⟨rfl, hb⟩)
      go_wp2_with (go_at_call 35; refine (HD.out _).mono ?_; rintro e w2 ⟨rfl, rfl⟩)
      go_loop [7] (fun i => ∃ k : Nat, k ≤ l.length ∧ i = .int .i64 k ∧ Hid (∀ (t : Nat) (x : Int × Int), t < k → l[t]? = some x → x.1 < d)) (fun i => l.length - (intOf i).toNat)
      case atStart => exact ⟨0, by omega, rfl, fun t x ht => absurd ht (by omega)⟩
      case round =>
        obtain ⟨k, hk, rfl, H1⟩ := hrel
        by_cases hlt : k < l.length
        · obtain ⟨x, hx⟩ : ∃ x, l[k]? = some x := ⟨l[k], by simp [hlt]⟩
          obtain ⟨b, o, hA, hB, g1, g2⟩ := (Hc.out.below hb) k _ hx
          subst hA
          have HX := Lib.hid hx
          clear hx
          by_cases hle : d ≤ x.1
          · have HF := Lib.hid (fnd_is (k := k) (by omega) H1.out (fun y hy => by have e := HX.out; rw [e] at hy; cases hy; exact hle))
            go_wp2
            go_ret3
            refine ⟨ret_find ?_ HR.out, hb⟩
            have := fndI_lt HR.out (by rw [HF.out]; exact hlt)
            rw [HF.out] at this
            exact this
          · go_wp2
            go_round
            case rel =>
              refine ⟨k + 1, by omega, by go_num, ?_⟩
              intro t y ht hy
              by_cases e : t = k
              · subst e; have e2 := HX.out; rw [e2] at hy; cases hy; omega
              · exact H1.out t y (by omega) hy
            case measure => simp [intOf]; omega
        · have hke := Lib.hid (show k = l.length by omega)
          have HF := Lib.hid (fnd_is (k := k) (by omega) H1.out (fun y hy => by have := (List.getElem?_eq_some_iff.1 hy).1; omega))
          go_wp2
          go_ret3
          exact ⟨ret_find (fndI_ge (by rw [HF.out]; omega)) HR.out, hb⟩
  · have h0b : (r != 0) = true := by simp [h0]
    have HR := Lib.hid (show ck l 0 d = 1 by rw [e]; simp [h0])
    clear e hD
    go_enter Try.func23, Try.ntmps23
    go_wp2_with (go_at_call 27; refine HC.out.mono ?_; rintro e w1 ⟨rfl, hb⟩)
    go_ret3
    exact ⟨ret_find (fndI_ge (by rw [HR.out]; omega)) HR.out, hb⟩
end Go.Proofs.Ytopnhhgcoiomhaa
