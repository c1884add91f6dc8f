/- Allocation: Even, and its reference. Conditions: a total of bounded length; up to twelve parts, or a number that is refused. -/
import Derived.Test.YtpipkeplhkccoaaGreatDoorRpt
import Derived.Test.YtpipkeplhkccoaaGreatDoorDv
import Derived.Test.YtpipkeplhkccoaaGreatDoorR4h
namespace Go.Proofs.YtpipkeplhkccoaaGreatDoor
open Go.RowKit Go.Shelf SP Dec QQ

def onesL (n : Nat) : List ByteArray := List.replicate n ⟨#[49]⟩
theorem onesL_len (n : Nat) : (onesL n).length = n := List.length_replicate
theorem onesL_size {n : Nat} : ∀ s ∈ onesL n, s.size ≤ 30 := fun s hs => by
  have := List.eq_of_mem_replicate hs
  subst this
  decide
def evE (t : ByteArray) (N : Int) : Int := if N < 1 ∨ 1000 < N then 2 else alE t (onesL N.toNat)
def evL (t : ByteArray) (N : Int) : List Int := if N < 1 ∨ 1000 < N then [] else alS t (onesL N.toNat)
theorem fil_ones {W : World} {P n : Nat} (h : Fil W P 22 n n (fun _ => .string ⟨#[49]⟩)) : Row W (some ⟨P, 0, none⟩) ((onesL n).map sv) := by
  have := h.row
  rwa [show (List.range n).map (fun _ => Value.string ⟨#[49]⟩) = (onesL n).map sv from by
    unfold onesL
    rw [List.map_replicate, List.map_const', List.length_range]
    rfl] at this
set_option maxRecDepth 100000 in
set_option maxHeartbeats 4000000 in
theorem even_any4 {t : ByteArray} {N : Int} (ht : t.size ≤ 30) (hN : N ≤ 12 ∨ 1000 < N) (w : World) (hg : Gl w) :
    Calls Tryz.prog 24 #[.string t, .int .i64 N] w fun e w' => ∃ v, e = .returned (.tuple #[v, .int .i64 (evE t N)]) ∧ OutG icells 22 1 w.heap.size w' v (evL t N).length (evL t N) ∧ Below w.heap.size w w' := by
  have hs := St.refl hg
  by_cases hlo : N < 1
  · have e1 : evE t N = 2 := if_pos (.inl hlo)
    have e2 : evL t N = [] := if_pos (.inl hlo)
    rw [e1, e2]
    have q : decide (N < 1) = true := decide_eq_true hlo
    clear e1 e2 hN hlo
    go_enter Tryz.func24, Tryz.ntmps24
    go_wp2_with fail
    go_ret2
    exact ⟨_, rfl, ⟨rfl, World.ownsRow_nil _ _ _ _⟩, hs.2⟩
  · have q : decide (N < 1) = false := decide_eq_false hlo
    by_cases hhi : 1000 < N
    · have e1 : evE t N = 2 := if_pos (.inr hhi)
      have e2 : evL t N = [] := if_pos (.inr hhi)
      rw [e1, e2]
      have q2 : decide (1000 < N) = true := decide_eq_true hhi
      clear e1 e2 hN hlo hhi
      go_enter Tryz.func24, Tryz.ntmps24
      go_wp2_with fail
      go_ret2
      exact ⟨_, rfl, ⟨rfl, World.ownsRow_nil _ _ _ _⟩, hs.2⟩
    · obtain ⟨n, rfl⟩ : ∃ n : Nat, N = (n : Int) := ⟨N.toNat, by omega⟩
      have e1 : evE t (n : Int) = alE t (onesL n) := by unfold evE; rw [if_neg (by omega), Int.toNat_natCast]
      have e2 : evL t (n : Int) = alS t (onesL n) := by unfold evL; rw [if_neg (by omega), Int.toNat_natCast]
      rw [e1, e2]
      have q2 : decide (1000 < (n : Int)) = false := decide_eq_false hhi
      have qn : decide ((n : Int) < 1) = false := q
      have KS := Lib.hid (fun (P : Nat) (u : World) (hg : Gl u) (hr : Row u (some ⟨P, 0, none⟩) ((onesL n).map sv)) => split4_any (A := some ⟨P, 0, none⟩) (c := n) (n := n) (k0 := 30) (t := t) (ws := onesL n) (onesL_len n) (.inl (by omega)) (by omega) (by decide) ht onesL_size u hg hr)
      have KR := Lib.hid (fun (b : Nat) (u : World) (hx : u.cell? ⟨b, 0, none⟩ = some (.string ⟨#[49]⟩)) => rep4_any (b := b) (n := n) (s := ⟨#[49]⟩) (by omega) (by omega) u hx)
      generalize alE t (onesL n) = ee at *
      generalize alS t (onesL n) = ll at *
      clear e1 e2 hN hlo hhi
      go_enter Tryz.func24, Tryz.ntmps24
      go_wp2_with fail
      have X := Bx.new w #[.string ⟨#[49]⟩] 22
      replace hs := hs.alloc (.cells #[.string ⟨#[49]⟩] 22)
      refine (KR.out w.heap.size _ (X.cell (i := 0) rfl)).mono ?_
      rintro e w1 ⟨P, rfl, hlP, F, hb⟩
      have HROW := Lib.hid (fil_ones F)
      replace hs := hs.on hb
      clear F hb X
      go_wp2_with fail
      refine (KS.out P w1 hs.gl HROW.out).mono ?_
      rintro e w2 ⟨v, rfl, hov, hb2⟩
      have HO := Lib.hid (show OutG icells 22 1 w.heap.size w2 v ll.length ll from ⟨hov.1, own_low hov.2 hs.2.size⟩)
      replace hs := hs.on hb2
      clear hov
      go_wp2_with fail
      go_ret2
      exact ⟨_, rfl, HO.out, hs.2⟩
set_option maxRecDepth 100000 in
set_option maxHeartbeats 4000000 in
theorem reven_any4 {t : ByteArray} {N : Int} (ht : t.size ≤ 30) (hN : N ≤ 12 ∨ 1000 < N) (w : World) (hg : Gl w) :
    Calls Tryz.prog 25 #[.string t, .int .i64 N] w fun e w' => ∃ v, e = .returned (.tuple #[v, .int .i64 (evE t N)]) ∧ OutG icells 22 1 w.heap.size w' v (evL t N).length (evL t N) ∧ Below w.heap.size w w' := by
  have hs := St.refl hg
  by_cases hlo : N < 1
  · have e1 : evE t N = 2 := if_pos (.inl hlo)
    have e2 : evL t N = [] := if_pos (.inl hlo)
    rw [e1, e2]
    have q : decide (N < 1) = true := decide_eq_true hlo
    clear e1 e2 hN hlo
    go_enter Tryz.func25, Tryz.ntmps25
    go_wp2_with fail
    go_ret2
    exact ⟨_, rfl, ⟨rfl, World.ownsRow_nil _ _ _ _⟩, hs.2⟩
  · have q : decide (N < 1) = false := decide_eq_false hlo
    by_cases hhi : 1000 < N
    · have e1 : evE t N = 2 := if_pos (.inr hhi)
      have e2 : evL t N = [] := if_pos (.inr hhi)
      rw [e1, e2]
      have q2 : decide (1000 < N) = true := decide_eq_true hhi
      clear e1 e2 hN hlo hhi
      go_enter Tryz.func25, Tryz.ntmps25
      go_wp2_with fail
      go_ret2
      exact ⟨_, rfl, ⟨rfl, World.ownsRow_nil _ _ _ _⟩, hs.2⟩
    · obtain ⟨n, rfl⟩ : ∃ n : Nat, N = (n : Int) := ⟨N.toNat, by omega⟩
      have e1 : evE t (n : Int) = alE t (onesL n) := by unfold evE; rw [if_neg (by omega), Int.toNat_natCast]
      have e2 : evL t (n : Int) = alS t (onesL n) := by unfold evL; rw [if_neg (by omega), Int.toNat_natCast]
      rw [e1, e2]
      have q2 : decide (1000 < (n : Int)) = false := decide_eq_false hhi
      have qn : decide ((n : Int) < 1) = false := q
      have h12 : n ≤ 12 := by omega
      have KS := Lib.hid (fun (A : Option Addr) (c : Nat) (u : World) (hg : Gl u) (hr : Row u A ((onesL n).map sv)) => rsplit_any (A := A) (c := c) (n := n) (k0 := 30) (t := t) (ws := onesL n) (onesL_len n) (.inl h12) (by omega) (by decide) ht onesL_size u hg hr)
      have HIC : Hid (icells 1 = [.string ⟨#[49]⟩]) := by
        show [Value.string (canS 1)] = _
        rw [show canS 1 = ⟨#[49]⟩ by decide +kernel]
      have HRO : Hid (∀ (A : Option Addr) (u : World), Row u A (flatG icells (List.replicate n (1 : Int))) → Row u A ((onesL n).map sv)) := fun A u h => by
        rw [flat_sv, List.map_replicate, show canS 1 = ⟨#[49]⟩ by decide +kernel] at h
        exact h
      generalize alE t (onesL n) = ee at *
      generalize alS t (onesL n) = ll at *
      clear e1 e2 hN hlo hhi
      go_enter Tryz.func25, Tryz.ntmps25
      go_wp2_with fail
      go_loopw [7, 6] (fun s v wr => ∃ k : Nat, k ≤ n ∧ s = .int .i64 (k : Int) ∧ St w wr ∧ Hid (World.ownsRow wr w.heap.size 22 1 v k (flatG icells (List.replicate k (1 : Int))))) (fun s _ _ => (n - intOf s).toNat)
      case atStart => exact ⟨0, by omega, rfl, hs, World.ownsRow_nil _ _ _ _⟩
      case round =>
        clear hs
        obtain ⟨k, hk, rfl, hs, HO⟩ := hrel
        by_cases hkn : k = n
        · subst hkn
          have q3 : decide ((k : Int) < (k : Int)) = false := decide_eq_false (by omega)
          obtain ⟨A1, c1, hv, hrow⟩ := OutG.row (cs := icells) (T := 22) (m := 1) (base := w.heap.size) (n := k) (xs := List.replicate k (1 : Int)) ⟨List.length_replicate, HO.out⟩
          subst hv
          have HROW := Lib.hid (HRO.out _ _ hrow)
          clear hrow HO
          go_wp2_with fail
          refine (KS.out A1 c1 _ hs.gl HROW.out).mono ?_
          rintro e w2 ⟨v, rfl, hov, hb2⟩
          have HO := Lib.hid (show OutG icells 22 1 w.heap.size w2 v ll.length ll from ⟨hov.1, own_low hov.2 hs.2.size⟩)
          replace hs := hs.on hb2
          clear hov
          go_wp2_with fail
          go_ret2
          exact ⟨_, rfl, HO.out, hs.2⟩
        · have hkl : k < n := by omega
          have q3 : decide ((k : Int) < (n : Int)) = true := decide_eq_true (by omega)
          have q3n : decide (k < n) = true := decide_eq_true hkl
          have HSU : Hid (List.replicate (k + 1) (1 : Int) = List.replicate k 1 ++ [1]) := List.replicate_succ'
          generalize List.replicate k (1 : Int) = CL at *
          obtain ⟨i0, hi, hz0, hz1, hz2⟩ := info_parts infoI4
          have Hi := Lib.hid hi
          have Hz0 := Lib.hid hz0
          have Hz1 := Lib.hid hz1
          have Hz2 := Lib.hid hz2
          have hsz : w.heap.size ≤ wr.heap.size := hs.2.size
          clear hi hz0 hz1 hz2 hkn
          go_wp2_with (at_builtin; refine wpList_append_any _ rfl (.tmp 19) (.tmp 20) 25 rfl w.heap.size 22 i0 (.string ⟨#[]⟩) 1 16 (by kernel_rfl) Hi.out Hz0.out Hz1.out Hz2.out rfl (by omega) _ k (flatG icells CL) rfl (HO.out.alloc _) (wr.heap.size + 1) (some ⟨wr.heap.size, 0, none⟩) 1 1 [.string ⟨#[49]⟩] rfl (reads_row wr _ [.string ⟨#[49]⟩]) (by intro u hu; simp at hu; subst hu; rfl) (by unfold maxLen; omega) (by omega) (by simp at hsz ⊢; omega) ?_; intro v8 w8 hown8 hg8 _; have HO8 := Lib.hid hown8; have HG8 := Lib.hid hg8; clear hown8 hg8)
          go_roundw
          case rel =>
            refine ⟨k + 1, by omega, by go_num, ⟨hs.1, (hs.2.alloc hsz _).grown HG8.out (by simp at hsz ⊢; omega) (own_gen HO.out)⟩, ?_⟩
            show World.ownsRow _ _ _ _ _ _ _
            rw [HSU.out, flatG_snoc, HIC.out]
            exact HO8.out
          case measure => simp [intOf]; omega
end Go.Proofs.YtpipkeplhkccoaaGreatDoor
