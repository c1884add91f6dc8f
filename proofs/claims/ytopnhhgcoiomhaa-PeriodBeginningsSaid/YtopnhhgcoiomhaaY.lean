/- Period: Y; for every input. -/
import Derived.Test.YtopnhhgcoiomhaaJ
import Derived.Test.YtopnhhgcoiomhaaW
import Derived.Test.YtopnhhgcoiomhaaRows
import Derived.WalkKit
import Derived.ProofKit
import Derived.OpenShut
import Derived.WalkLawsBesides
import Derived.Deep.QuietTactic
import Derived.Deep.LoopGhost
import Derived.Deep.RegionWith
import Derived.BigQuiet
import Derived.Lib.Hide
import Derived.Deep.RegionHeld3
namespace Go.Proofs.Ytopnhhgcoiomhaa
open Go.RowKit
def flat (l : List (Int × Int)) : List Value := l.flatMap (fun x => [.int .i64 x.1, .int .i64 x.2])
theorem flat_length (l : List (Int × Int)) : (flat l).length = l.length * 2 := by
  induction l with
  | nil => rfl
  | cons a l ih => simp [flat] at ih ⊢; omega
theorem flat_get (l : List (Int × Int)) : ∀ (i : Nat) (x : Int × Int), l[i]? = some x → (flat l)[i * 2]? = some (.int .i64 x.1) ∧ (flat l)[i * 2 + 1]? = some (.int .i64 x.2) := by
  induction l with
  | nil => intro i x h; simp at h
  | cons a l ih =>
    intro i x h
    have e : flat (a :: l) = .int .i64 a.1 :: .int .i64 a.2 :: flat l := rfl
    cases i with
    | zero => simp at h; subst h; rw [e]; exact ⟨rfl, rfl⟩
    | succ i =>
      have := ih i x (by simpa using h)
      rw [e, show (i + 1) * 2 = i * 2 + 1 + 1 by omega, show i * 2 + 1 + 1 + 1 = (i * 2 + 1) + 1 + 1 by omega]
      simpa using this
theorem flat_append (l m : List (Int × Int)) : flat (l ++ m) = flat l ++ flat m := by simp [flat]
theorem flat_one (l : List (Int × Int)) : ∀ u ∈ flat l, u.oneCell' = true := by
  intro u hu
  simp only [flat, List.mem_flatMap] at hu
  obtain ⟨x, _, hx⟩ := hu
  simp at hx
  rcases hx with rfl | rfl <;> rfl

theorem reads_of_cl {w : World} {B : Nat} {A : Option Addr} {l : List (Int × Int)} (h : Cl w B A l) : Reads w B 2 A l.length (flat l) := by
  refine ⟨flat_length l, fun hn => ?_⟩
  obtain ⟨x0, hx0⟩ : ∃ x, l[0]? = some x := ⟨l[0], by simp [hn]⟩
  obtain ⟨b, o, hA, hB, _, _⟩ := h 0 x0 hx0
  refine ⟨⟨b, o, none⟩, hA, hB, fun j u hu => ?_⟩
  rw [Go.WideShapes.add_plain]
  have hj : j < l.length * 2 := by have := (List.getElem?_eq_some_iff.1 hu).1; rw [flat_length] at this; exact this
  obtain ⟨x, hx⟩ : ∃ x, l[j / 2]? = some x := ⟨l[j / 2]'(by omega), by simp⟩
  obtain ⟨b', o', hA', _, g1, g2⟩ := h (j / 2) x hx
  rw [hA] at hA'
  obtain ⟨rfl, rfl⟩ : b = b' ∧ o = o' := by simpa using hA'
  have hf := flat_get l (j / 2) x hx
  by_cases hp : j % 2 = 0
  · have e : j = j / 2 * 2 := by omega
    rw [← e] at hf g1
    rw [hf.1] at hu; cases hu; exact g1
  · have e : j = j / 2 * 2 + 1 := by omega
    rw [Nat.add_assoc, ← e] at g2
    rw [← e] at hf
    rw [hf.2] at hu; cases hu; exact g2

theorem cl_of_own {w : World} {base : Nat} {e : TypeId} {v : Value} {l : List (Int × Int)} (h : w.ownsRow base e 2 v l.length (flat l)) : ∃ A c, v = .slice A l.length c ∧ Cl w w.heap.size A l ∧ (∀ b o, A = some ⟨b, o, none⟩ → base ≤ b) ∧ (A = none → l = []) := by
  rcases h.2 with ⟨rfl, hn⟩ | ⟨g, cap, cur, rfl, hb, hh, hnc, hcm, hcs, ht⟩
  · have : l = [] := List.eq_nil_of_length_eq_zero hn
    subst this
    exact ⟨none, 0, rfl, fun i x hx => by simp at hx, fun b o hA => by (cases hA), fun _ => rfl⟩
  · refine ⟨some ⟨g, 0, none⟩, cap, rfl, fun i x hx => ?_, fun b o hA => by cases hA; exact hb, fun hA => by cases hA⟩
    have hlt : g < w.heap.size := (Array.getElem?_eq_some_iff.1 hh).1
    have hi : i < l.length := (List.getElem?_eq_some_iff.1 hx).1
    have hf := flat_get l i x hx
    rw [← ht] at hf
    rw [List.getElem?_take, if_pos (by omega), List.getElem?_take, if_pos (by omega)] at hf
    refine ⟨g, 0, rfl, hlt, ?_, ?_⟩
    · simp only [World.cell?, hh, Nat.zero_add]; simpa using hf.1
    · simp only [World.cell?, hh, Nat.zero_add]; simpa using hf.2

theorem info30 : (Try.prog.info? 30).map (fun i => (i.zero, i.size, i.bytes)) = some (some (.agg #[.int .i64 0, .int .i64 0]), 2, 16) := by kernel_rfl
theorem info48 : (Try.prog.info? 48).map (fun i => (i.zero, i.size, i.bytes)) = some (some (.agg #[.int .i64 0, .int .i64 0]), 2, 16) := by kernel_rfl

theorem cl_nil {w : World} {B : Nat} {l : List (Int × Int)} (h : Cl w B none l) : l = [] := by
  cases l with
  | nil => rfl
  | cons a l => obtain ⟨b, o, hA, _⟩ := h 0 a rfl; cases hA

/-- a new slice of pairs: what Add, Clone and Periods hand back -/
def NewCl (w : World) (l : List (Int × Int)) (v : Value) (w' : World) : Prop := ∃ e, (e = 30 ∨ e = 48) ∧ w'.ownsRow w.heap.size e 2 v l.length (flat l)

theorem own_empty (w : World) (e : TypeId) (size : Nat) : (w.alloc (.cells #[] e)).ownsRow w.heap.size e size (.slice (some ⟨w.heap.size, 0, none⟩) 0 0) 0 [] :=
  ⟨by simp, .inr ⟨w.heap.size, 0, #[], rfl, Nat.le_refl _, World.alloc_heap_new w _, Nat.le_refl _, Nat.zero_le _, by simp, by simp⟩⟩

set_option maxHeartbeats 1000000 in
theorem clone_any (A : Option Addr) (c : Nat) (l : List (Int × Int)) (w : World) (hc : Cl w w.heap.size A l) (hl : l.length ≤ 64) :
    Calls Try.prog 32 #[.slice A l.length c] w fun e w' => ∃ v, e = .returned v ∧ w'.ownsRow w.heap.size 30 2 v l.length (flat l) ∧ Below w.heap.size w w' := by
  obtain ⟨i0, hi0, hz0, hz1, hz2⟩ := info_parts info30
  have hR := reads_of_cl hc
  have HR := Lib.hid hR
  have hq := Lib.run_eql_slice_nil (P := Try.prog)
  cases A with
  | none =>
    have hnil := cl_nil hc
    subst hnil
    clear hR hc HR
    go_enter Try.func32, Try.ntmps32
    go_wp2
    go_ret
    exact ⟨_, rfl, ⟨by simp [flat], .inl ⟨rfl, rfl⟩⟩, Below.refl _ _⟩
  | some a =>
    clear hR hc
    go_enter Try.func32, Try.ntmps32
    go_wp2_with (at_builtin; refine wpList_append_any _ rfl (.tmp 5) (.tmp 6) _ rfl w.heap.size 30 i0 _ 2 16 Try.underlying22 hi0 hz0 hz1 hz2 rfl (by omega) (.slice (some ⟨w.heap.size, 0, none⟩) 0 0) 0 [] rfl (own_empty w 30 2) w.heap.size (some a) l.length c (flat l) rfl (HR.out.alloc (Nat.le_refl _) _) (flat_one l) (by simp only [maxLen]; omega) (by omega) (by simp) ?_; intro v1 w1 hown1 hg1 hat1)
    go_ret
    refine ⟨v1, rfl, by simpa using hown1, ?_⟩
    exact ((Below.refl w.heap.size w).alloc (Nat.le_refl _) _).grown hg1 (by simp) (fun k hk => by simp [Value.ownBlock] at hk; omega)

theorem neq_pair (a b c d : Int) (h : ¬ (a = c ∧ b = d)) (w : World) : (binOp .neq 30 (.agg #[.int .i64 a, .int .i64 b]) (.agg #[.int .i64 c, .int .i64 d])).run Try.prog w = .ok (.bool true) w := by
  go_simp
  exact fun h1 h2 => h ⟨h1, h2⟩

set_option maxHeartbeats 1000000 in
theorem equal_any (A A' : Option Addr) (c c' : Nat) (l m : List (Int × Int)) (w : World) (hc : Cl w w.heap.size A l) (hc' : Cl w w.heap.size A' m) (hl : l.length ≤ 9223372036854775807) :
    Calls Try.prog 17 #[.slice A l.length c, .slice A' m.length c'] w fun e w' => e = .returned (.bool (decide (l = m))) ∧ ∃ n, w' = w.drewN n := by
  by_cases hlen : l.length = m.length
  · have hne : ((l.length : Int) != m.length) = false := by simp; omega
    have Hl := Lib.hid hlen
    have hlen2 : l.length ≤ m.length := by omega
    clear hlen
    go_enter Try.func17, Try.ntmps17
    go_wp2
    go_loopw [13] (fun i wr => ∃ k nn : Nat, k ≤ l.length ∧ i = .int .i64 k ∧ Hid (∀ t, t < k → l[t]? = m[t]?) ∧ wr = w.drewN nn) (fun i _ => l.length - (intOf i).toNat)
    case atStart => exact ⟨0, 0, by omega, rfl, fun t ht => absurd ht (by omega), rfl⟩
    case round =>
      obtain ⟨k, nn, hk, rfl, H, rfl⟩ := hrel
      by_cases hlt : k < l.length
      · obtain ⟨x, hx⟩ : ∃ x, l[k]? = some x := ⟨l[k], by simp [hlt]⟩
        obtain ⟨y, hy⟩ : ∃ y, m[k]? = some y := ⟨m[k]'(by omega), by simp⟩
        obtain ⟨b, o, hA, hB, g1, g2⟩ := hc k _ hx
        obtain ⟨b', o', hA', hB', g3, g4⟩ := hc' k _ hy
        subst hA hA'
        have HX := Lib.hid hx
        have HY := Lib.hid hy
        clear hx hy hc hc'
        by_cases hxy : x = y
        · subst hxy
          go_wp2
          go_quiet (fail)
          go_wp2
          go_roundw
          case rel =>
            refine ⟨k + 1, nn + nq, by omega, by go_num, ?_, rfl⟩
            intro t ht
            by_cases e : t = k
            · subst e; rw [HX.out, HY.out]
            · exact H.out t (by omega)
          case measure => simp [intOf]; omega
        · have hnq := neq_pair x.1 x.2 y.1 y.2 (fun h => hxy (Prod.ext h.1 h.2))
          have HXY := Lib.hid hxy
          clear hxy
          go_wp2
          go_quiet (fail)
          go_wp2
          go_ret
          refine ⟨congrArg (fun b => Ending.returned (Value.bool b)) ?_, nn + nq, World.drewN_drewN _ _ _⟩
          symm
          rw [decide_eq_false_iff_not]
          intro e
          subst e
          have h1 := HX.out
          rw [HY.out] at h1
          cases h1
          exact HXY.out rfl
      · have hke := Lib.hid (show k = l.length by omega)
        go_wp2
        go_ret
        refine ⟨congrArg (fun b => Ending.returned (Value.bool b)) ?_, _, rfl⟩
        symm
        rw [decide_eq_true_iff]
        apply List.ext_getElem?
        intro t
        by_cases ht : t < k
        · exact H.out t ht
        · rw [List.getElem?_eq_none (by have := hke.out; omega), List.getElem?_eq_none (by have := hke.out; have := Hl.out; omega)]
  · have hne : ((l.length : Int) != m.length) = true := by simp; omega
    have Hd := Lib.hid (show decide (l = m) = false by simp; intro e; exact hlen (by rw [e]))
    clear hc hc' hlen
    go_enter Try.func17, Try.ntmps17
    go_wp2
    go_ret
    exact ⟨congrArg (fun b => Ending.returned (Value.bool b)) Hd.out.symm, 0, rfl⟩

theorem neq_pair48 (a b c d : Int) (h : ¬ (a = c ∧ b = d)) (w : World) : (binOp .neq 48 (.agg #[.int .i64 a, .int .i64 b]) (.agg #[.int .i64 c, .int .i64 d])).run Try.prog w = .ok (.bool true) w := by
  go_simp
  exact fun h1 h2 => h ⟨h1, h2⟩

set_option maxHeartbeats 1000000 in
theorem equal48_any (A A' : Option Addr) (c c' : Nat) (l m : List (Int × Int)) (w : World) (hc : Cl w w.heap.size A l) (hc' : Cl w w.heap.size A' m) (hl : l.length ≤ 9223372036854775807) :
    Calls Try.prog 28 #[.slice A l.length c, .slice A' m.length c'] w fun e w' => e = .returned (.bool (decide (l = m))) ∧ ∃ n, w' = w.drewN n := by
  by_cases hlen : l.length = m.length
  · have hne : ((l.length : Int) != m.length) = false := by simp; omega
    have Hl := Lib.hid hlen
    have hlen2 : l.length ≤ m.length := by omega
    clear hlen
    go_enter Try.func28, Try.ntmps28
    go_wp2
    go_loopw [13] (fun i wr => ∃ k nn : Nat, k ≤ l.length ∧ i = .int .i64 k ∧ Hid (∀ t, t < k → l[t]? = m[t]?) ∧ wr = w.drewN nn) (fun i _ => l.length - (intOf i).toNat)
    case atStart => exact ⟨0, 0, by omega, rfl, fun t ht => absurd ht (by omega), rfl⟩
    case round =>
      obtain ⟨k, nn, hk, rfl, H, rfl⟩ := hrel
      by_cases hlt : k < l.length
      · obtain ⟨x, hx⟩ : ∃ x, l[k]? = some x := ⟨l[k], by simp [hlt]⟩
        obtain ⟨y, hy⟩ : ∃ y, m[k]? = some y := ⟨m[k]'(by omega), by simp⟩
        obtain ⟨b, o, hA, hB, g1, g2⟩ := hc k _ hx
        obtain ⟨b', o', hA', hB', g3, g4⟩ := hc' k _ hy
        subst hA hA'
        have HX := Lib.hid hx
        have HY := Lib.hid hy
        clear hx hy hc hc'
        by_cases hxy : x = y
        · subst hxy
          go_wp2
          go_quiet (fail)
          go_wp2
          go_roundw
          case rel =>
            refine ⟨k + 1, nn + nq, by omega, by go_num, ?_, rfl⟩
            intro t ht
            by_cases e : t = k
            · subst e; rw [HX.out, HY.out]
            · exact H.out t (by omega)
          case measure => simp [intOf]; omega
        · have hnq := neq_pair48 x.1 x.2 y.1 y.2 (fun h => hxy (Prod.ext h.1 h.2))
          have HXY := Lib.hid hxy
          clear hxy
          go_wp2
          go_quiet (fail)
          go_wp2
          go_ret
          refine ⟨congrArg (fun b => Ending.returned (Value.bool b)) ?_, nn + nq, World.drewN_drewN _ _ _⟩
          symm
          rw [decide_eq_false_iff_not]
          intro e
          subst e
          have h1 := HX.out
          rw [HY.out] at h1
          cases h1
          exact HXY.out rfl
      · have hke := Lib.hid (show k = l.length by omega)
        go_wp2
        go_ret
        refine ⟨congrArg (fun b => Ending.returned (Value.bool b)) ?_, _, rfl⟩
        symm
        rw [decide_eq_true_iff]
        apply List.ext_getElem?
        intro t
        by_cases ht : t < k
        · exact H.out t ht
        · rw [List.getElem?_eq_none (by have := hke.out; omega), List.getElem?_eq_none (by have := hke.out; have := Hl.out; omega)]
  · have hne : ((l.length : Int) != m.length) = true := by simp; omega
    have Hd := Lib.hid (show decide (l = m) = false by simp; intro e; exact hlen (by rw [e]))
    clear hc hc' hlen
    go_enter Try.func28, Try.ntmps28
    go_wp2
    go_ret
    exact ⟨congrArg (fun b => Ending.returned (Value.bool b)) Hd.out.symm, 0, rfl⟩
end Go.Proofs.Ytopnhhgcoiomhaa
