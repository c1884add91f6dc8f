/- The statements' helpers of chapter 04: Great, sum, size. Conditions: sizes that strings and slices can have; up to twelve numbers of bounded length for the sum. -/
import Derived.Test.YtpipkeplhkccoaaGreatDoorWa
import Derived.Test.YtpipkeplhkccoaaGreatDoorWQ
import Derived.Test.YtpipkeplhkccoaaGreatDoorGr
namespace Go.Proofs.YtpipkeplhkccoaaGreatDoor
open Go.RowKit Go.Shelf Dec QQ SP

def lngN (s : ByteArray) : Bool := decide (30 < s.size)
set_option maxRecDepth 100000 in
set_option maxHeartbeats 4000000 in
theorem great4_1 {s : ByteArray} (hz : s.size ≤ 9223372036854775807) : Ret 55 #[.string s] (.bool (lngN s)) := by
  intro w hg
  have hs := St.refl hg
  have e : lngN s = decide ((30 : Int) < (s.size : Int)) := by unfold lngN; rw [decide_eq_decide]; omega
  rw [e]
  clear e
  go_enter Tryz.func55, Tryz.ntmps55
  go_wp2_with fail
  go_ret
  exact ⟨rfl, hs.2⟩
/-- more, or longer, numbers than the statements examine -/
def great4 (l : List ByteArray) : Bool := if (12 < l.length ∧ l.length ≤ 1000) ∨ 1005 < l.length then true else l.any lngN
set_option maxRecDepth 100000 in
set_option maxHeartbeats 4000000 in
theorem great4_any {A : Option Addr} {n c : Nat} {l : List ByteArray} (hn : l.length = n) (hm : n ≤ 9223372036854775807) (hz : ∀ s ∈ l, s.size ≤ 9223372036854775807) :
    RetI (fun w => Row w A (l.map sv)) 16 #[.slice A n c] (.bool (great4 l)) := by
  intro w hg hi
  have hs := St.refl hg
  have Hi := Lib.hid hi
  have HE : Hid (great4 l = if (12 < l.length ∧ l.length ≤ 1000) ∨ 1005 < l.length then true else l.any lngN) := rfl
  rw [hn] at HE
  rw [HE.out]
  by_cases h1 : 1005 < n
  · rw [if_pos (.inr h1)]
    have q1 : decide ((12 : Int) < (n : Int)) = true := decide_eq_true (by omega)
    have q1n : decide (12 < n) = true := decide_eq_true (by omega)
    have q2 : decide ((n : Int) ≤ 1000) = false := decide_eq_false (by omega)
    have q2n : decide (n ≤ 1000) = false := decide_eq_false (by omega)
    have q3 : decide ((1005 : Int) < (n : Int)) = true := decide_eq_true (by omega)
    have q3n : decide (1005 < n) = true := decide_eq_true (by omega)
    clear HE hi hn hz h1
    go_enter Tryz.func16, Tryz.ntmps16
    go_wp2_with fail
    go_ret
    exact ⟨rfl, hs.2⟩
  · have q3 : decide ((1005 : Int) < (n : Int)) = false := decide_eq_false (by omega)
    have q3n : decide (1005 < n) = false := decide_eq_false (by omega)
    by_cases h2 : 12 < n ∧ n ≤ 1000
    · rw [if_pos (.inl h2)]
      have q1 : decide ((12 : Int) < (n : Int)) = true := decide_eq_true (by omega)
      have q1n : decide (12 < n) = true := decide_eq_true (by omega)
      have q2 : decide ((n : Int) ≤ 1000) = true := decide_eq_true (by omega)
      have q2n : decide (n ≤ 1000) = true := decide_eq_true (by omega)
      clear HE hi hn hz h1 h2
      go_enter Tryz.func16, Tryz.ntmps16
      go_wp2_with fail
      go_ret
      exact ⟨rfl, hs.2⟩
    · rw [if_neg (by omega)]
      have K := contains_any (A := A) (c := c) (cap := #[]) (f := 55) (p := lngN) (l := l) (I := fun _ => True) (fun _ _ _ _ => trivial) hn (by omega) (fun _ _ => rfl) (fun s hs => (great4_1 (hz s hs)).i _)
      generalize l.any lngN = r at *
      by_cases h3 : 12 < n
      · have q1 : decide ((12 : Int) < (n : Int)) = true := decide_eq_true (by omega)
        have q1n : decide (12 < n) = true := decide_eq_true (by omega)
        have q2 : decide ((n : Int) ≤ 1000) = false := decide_eq_false (by omega)
        have q2n : decide (n ≤ 1000) = false := decide_eq_false (by omega)
        clear HE hi hn hz h1 h2 h3
        go_enter Tryz.func16, Tryz.ntmps16
        go_wp2_with fail
        refine K.step hs ⟨Hi.out.on hs.2, trivial⟩ ?_
        intro w1 hs hb
        go_wp2_with fail
        go_ret
        exact ⟨rfl, hs.2⟩
      · have q1 : decide ((12 : Int) < (n : Int)) = false := decide_eq_false (by omega)
        have q1n : decide (12 < n) = false := decide_eq_false (by omega)
        clear HE hi hn hz h1 h2 h3
        go_enter Tryz.func16, Tryz.ntmps16
        go_wp2_with fail
        refine K.step hs ⟨Hi.out.on hs.2, trivial⟩ ?_
        intro w1 hs hb
        go_wp2_with fail
        go_ret
        exact ⟨rfl, hs.2⟩
/-- what the statements examine -/
theorem great4_one {l : List ByteArray} (h : great4 l = false) (h12 : l.length ≤ 12) : ∀ s ∈ l, s.size ≤ 30 := by
  unfold great4 at h
  rw [if_neg (by omega)] at h
  intro s hs
  have := List.any_eq_false.1 h s hs
  unfold lngN at this
  simpa using this
theorem great4_few {l : List ByteArray} (h : great4 l = false) : (l.length ≤ 12 ∨ 1000 < l.length) ∧ l.length ≤ 1005 ∧ ∀ s ∈ l, s.size ≤ 30 := by
  unfold great4 at h
  split at h
  · cases h
  · rename_i h2
    refine ⟨by omega, by omega, fun s hs => ?_⟩
    have := List.any_eq_false.1 h s hs
    unfold lngN at this
    simpa using this
theorem OutG.some4 {α : Type} {cs : α → List Value} {m : Nat} {T : TypeId} {base n : Nat} {w : World} {v : Value} {xs : List α} (h : OutG cs T m base w v n xs) (h0 : 0 < n) : ∃ g c, v = .slice (some ⟨g, 0, none⟩) n c ∧ n ≤ c ∧ c ≤ maxLen ∧ Row w (some ⟨g, 0, none⟩) (flatG cs xs) := by
  obtain ⟨A, c', e, hr⟩ := h.row
  rcases h.2.2 with ⟨_, h1⟩ | ⟨g, cap, cur, rfl, e2, e3, e4, e5, e6, e7⟩
  · omega
  · injection e with e8 e9 e10
    subst e8
    exact ⟨g, cap, rfl, e4, e5, hr⟩
theorem mod_u8W (x n : Nat) : ((x : Int)).tmod ((n : Int)) = ((x % n : Nat) : Int) := by
  show Int.tmod (Int.ofNat x) (Int.ofNat n) = Int.ofNat (x % n)
  rfl
end Go.Proofs.YtpipkeplhkccoaaGreatDoor
