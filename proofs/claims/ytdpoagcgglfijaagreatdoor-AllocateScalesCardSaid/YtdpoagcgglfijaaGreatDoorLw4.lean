/- The statements' helpers of chapter 04: Great, sum, size. Conditions: sizes that strings and slices can have; up to twelve numbers of bounded length for the sum. -/
import Derived.Test.YtdpoagcgglfijaaGreatDoorWa
import Derived.Test.YtdpoagcgglfijaaGreatDoorWQ
import Derived.Test.YtdpoagcgglfijaaGreatDoorGr
namespace Go.Proofs.YtdpoagcgglfijaaGreatDoor
open Go.RowKit Go.Shelf Dec QQ SP

def lngN (s : ByteArray) : Bool := decide (30 < s.size)
set_option maxRecDepth 100000 in
set_option maxHeartbeats 4000000 in
theorem great4_1 {s : ByteArray} (hz : s.size ≤ 9223372036854775807) : Ret 34 #[.string s] (.bool (lngN s)) := by
  intro w hg
  have hs := St.refl hg
  have e : lngN s = decide ((30 : Int) < (s.size : Int)) := by unfold lngN; rw [decide_eq_decide]; omega
  rw [e]
  clear e
  go_enter Tryz.func34, Tryz.ntmps34
  go_wp2_with fail
  go_ret
  exact ⟨rfl, hs.2⟩
/-- more, or longer, numbers than the statements examine -/
def great4 (l : List ByteArray) : Bool := if (12 < l.length ∧ l.length ≤ 1000) ∨ 1005 < l.length then true else l.any lngN
set_option maxRecDepth 100000 in
set_option maxHeartbeats 4000000 in
theorem great4_any {A : Option Addr} {n c : Nat} {l : List ByteArray} (hn : l.length = n) (hm : n ≤ 9223372036854775807) (hz : ∀ s ∈ l, s.size ≤ 9223372036854775807) :
    RetI (fun w => Row w A (l.map sv)) 9 #[.slice A n c] (.bool (great4 l)) := by
  intro w hg hi
  have hs := St.refl hg
  have Hi := Lib.hid hi
  have HE : Hid (great4 l = if (12 < l.length ∧ l.length ≤ 1000) ∨ 1005 < l.length then true else l.any lngN) := rfl
  rw [hn] at HE
  rw [HE.out]
  by_cases h1 : 1005 < n
  · rw [if_pos (.inr h1)]
    have q1 : decide ((12 : Int) < (n : Int)) = true := decide_eq_true (by omega)
    have q1n : decide (12 < n) = true := decide_eq_true (by omega)
    have q2 : decide ((n : Int) ≤ 1000) = false := decide_eq_false (by omega)
    have q2n : decide (n ≤ 1000) = false := decide_eq_false (by omega)
    have q3 : decide ((1005 : Int) < (n : Int)) = true := decide_eq_true (by omega)
    have q3n : decide (1005 < n) = true := decide_eq_true (by omega)
    clear HE hi hn hz h1
    go_enter Tryz.func9, Tryz.ntmps9
    go_wp2_with fail
    go_ret
    exact ⟨rfl, hs.2⟩
  · have q3 : decide ((1005 : Int) < (n : Int)) = false := decide_eq_false (by omega)
    have q3n : decide (1005 < n) = false := decide_eq_false (by omega)
    by_cases h2 : 12 < n ∧ n ≤ 1000
    · rw [if_pos (.inl h2)]
      have q1 : decide ((12 : Int) < (n : Int)) = true := decide_eq_true (by omega)
      have q1n : decide (12 < n) = true := decide_eq_true (by omega)
      have q2 : decide ((n : Int) ≤ 1000) = true := decide_eq_true (by omega)
      have q2n : decide (n ≤ 1000) = true := decide_eq_true (by omega)
      clear HE hi hn hz h1 h2
      go_enter Tryz.func9, Tryz.ntmps9
      go_wp2_with fail
      go_ret
      exact ⟨rfl, hs.2⟩
    · rw [if_neg (by omega)]
      have K := contains_any (A := A) (c := c) (cap := #[]) (f := 34) (p := lngN) (l := l) (I := fun _ => True) (fun _ _ _ _ => trivial) hn (by omega) (fun _ _ => rfl) (fun s hs => (great4_1 (hz s hs)).i _)
      generalize l.any lngN = r at *
      by_cases h3 : 12 < n
      · have q1 : decide ((12 : Int) < (n : Int)) = true := decide_eq_true (by omega)
        have q1n : decide (12 < n) = true := decide_eq_true (by omega)
        have q2 : decide ((n : Int) ≤ 1000) = false := decide_eq_false (by omega)
        have q2n : decide (n ≤ 1000) = false := decide_eq_false (by omega)
        clear HE hi hn hz h1 h2 h3
        go_enter Tryz.func9, Tryz.ntmps9
        go_wp2_with fail
        refine K.step hs ⟨Hi.out.on hs.2, trivial⟩ ?_
        intro w1 hs hb
        go_wp2_with fail
        go_ret
        exact ⟨rfl, hs.2⟩
      · have q1 : decide ((12 : Int) < (n : Int)) = false := decide_eq_false (by omega)
        have q1n : decide (12 < n) = false := decide_eq_false (by omega)
        clear HE hi hn hz h1 h2 h3
        go_enter Tryz.func9, Tryz.ntmps9
        go_wp2_with fail
        refine K.step hs ⟨Hi.out.on hs.2, trivial⟩ ?_
        intro w1 hs hb
        go_wp2_with fail
        go_ret
        exact ⟨rfl, hs.2⟩
/-- what the statements examine -/
theorem great4_one {l : List ByteArray} (h : great4 l = false) (h12 : l.length ≤ 12) : ∀ s ∈ l, s.size ≤ 30 := by
  unfold great4 at h
  rw [if_neg (by omega)] at h
  intro s hs
  have := List.any_eq_false.1 h s hs
  unfold lngN at this
  simpa using this
theorem great4_few {l : List ByteArray} (h : great4 l = false) : (l.length ≤ 12 ∨ 1000 < l.length) ∧ l.length ≤ 1005 ∧ ∀ s ∈ l, s.size ≤ 30 := by
  unfold great4 at h
  split at h
  · cases h
  · rename_i h2
    refine ⟨by omega, by omega, fun s hs => ?_⟩
    have := List.any_eq_false.1 h s hs
    unfold lngN at this
    simpa using this
set_option maxRecDepth 100000 in
set_option maxHeartbeats 4000000 in
theorem size4_any {a : ByteArray} (hz : a.size ≤ 1000000) (hc : canS (valS a) = a) : Ret 13 #[.string a] (.string (canS (absI (valS a)))) := by
  intro w hg
  have hs := St.refl hg
  have K := CmpR (Vs.arg hz) Vs.nil
  have KN := NegR (Vs.arg hz)
  have q := cmp_neg (valS a)
  by_cases h : valS a < 0
  · have e : absI (valS a) = -valS a := if_pos h
    rw [e]
    rw [decide_eq_true h] at q
    generalize canS (-valS a) = r at *
    generalize cmpI (valS a) 0 = ci at *
    clear e h hc
    go_enter Tryz.func13, Tryz.ntmps13
    go_wp2_with fail
    refine K.step hs ?_
    intro w1 hs hb
    go_wp2_with fail
    refine KN.step hs ?_
    intro w2 hs hb
    go_wp2_with fail
    go_ret
    exact ⟨rfl, hs.2⟩
  · have e : absI (valS a) = valS a := if_neg h
    rw [e, hc]
    rw [decide_eq_false h] at q
    generalize cmpI (valS a) 0 = ci at *
    clear e h hc KN
    go_enter Tryz.func13, Tryz.ntmps13
    go_wp2_with fail
    refine K.step hs ?_
    intro w1 hs hb
    go_wp2_with fail
    go_ret
    exact ⟨rfl, hs.2⟩
theorem size4_can {z : Int} {k : Nat} (h : Fit k z) (hk : k ≤ 999999) : Ret 13 #[.string (canS z)] (.string (canS (absI z))) := by
  have := size4_any (a := canS z) (by have := h.size; omega) (by rw [valS_canS])
  rwa [valS_canS] at this
set_option maxRecDepth 100000 in
set_option maxHeartbeats 4000000 in
theorem sum4_any {A : Option Addr} {n c k0 : Nat} {ws : List ByteArray} (hn : ws.length = n) (h12 : n ≤ 12) (hk0 : k0 ≤ 5000) (hz : ∀ s ∈ ws, s.size ≤ k0) :
    RetI (fun w => Row w A (ws.map sv)) 18 #[.slice A n c] (.string (canS (iv ws).sum)) := by
  intro w hg hi
  have hs := St.refl hg
  have KO : Ret 47 #[.int .i64 0] (.string ⟨#[]⟩) := fun w hg => by
    have := Of_any 0 w (by omega) (by omega) hg
    rwa [canS_zero] at this
  have HN := Lib.hid hn
  have HI := Lib.hid hi
  have HZ := Lib.hid hz
  have HF : Hid (∀ k, Fit (k0 + 2) ((iv ws).take k).sum) := fun k => take_fit hz (by omega)
  obtain ⟨r1, hr1⟩ : ∃ v, canS (iv ws).sum = v := ⟨_, rfl⟩
  rw [hr1]
  have HR1 := Lib.hid hr1
  have HZ0 : Hid (canS ((iv ws).take 0).sum = ⟨#[]⟩) := canS_zero
  clear hn hi hz hr1
  go_enter Tryz.func18, Tryz.ntmps18
  go_wp2_with fail
  refine KO.step hs ?_
  intro w0 hs _
  go_wp2_with fail
  go_loopw [9, 3] (fun s a wr => ∃ k : Nat, k ≤ n ∧ s = .int .i64 (k : Int) ∧ a = .string (canS ((iv ws).take k).sum) ∧ St w wr) (fun s _ _ => (n - intOf s).toNat)
  case atStart => exact ⟨0, by omega, rfl, by rw [HZ0.out], hs⟩
  case round =>
    obtain ⟨k, hk, rfl, rfl, hs⟩ := hrel
    by_cases hkn : k = n
    · subst hkn
      have q : decide ((k : Int) < (k : Int)) = false := decide_eq_false (by omega)
      have e1 : canS ((iv ws).take k).sum = r1 := by rw [List.take_of_length_le (by rw [iv_len, HN.out]; omega)]; exact HR1.out
      rw [e1]
      clear e1
      go_wp2_with fail
      go_ret
      exact ⟨rfl, hs.2⟩
    · have hkl : k < n := by omega
      have q : decide ((k : Int) < (n : Int)) = true := decide_eq_true (by omega)
      have qn : decide (k < n) = true := decide_eq_true hkl
      obtain ⟨s, hd⟩ : ∃ s, ws[k]? = some s := ⟨ws[k]'(by rw [HN.out]; exact hkl), by simp⟩
      obtain ⟨b, o, hA, hb, hc⟩ := (HI.out.on hs.2) k (sv s) (by rw [List.getElem?_map, hd]; rfl)
      subst hA
      have zs := HZ.out s (List.mem_of_getElem? hd)
      have K := AddR (Vs.can (HF.out k) (by omega)) (Vs.arg (s := s) (by omega))
      rw [← iv_sum_succ hd] at K
      unfold sv at hc
      generalize canS ((iv ws).take k).sum = a at *
      obtain ⟨a', ha'⟩ : ∃ v, canS ((iv ws).take (k + 1)).sum = v := ⟨_, rfl⟩
      rw [ha'] at K
      have HA' := Lib.hid ha'
      clear hd ha' hkn zs
      go_wp2_with fail
      refine K.step hs ?_
      intro w1 hs hb1
      go_wp2_with fail
      go_roundw
      case rel => exact ⟨k + 1, by omega, by go_num, by rw [HA'.out], hs⟩
      case measure => simp [intOf]; omega
theorem OutG.some4 {α : Type} {cs : α → List Value} {m : Nat} {T : TypeId} {base n : Nat} {w : World} {v : Value} {xs : List α} (h : OutG cs T m base w v n xs) (h0 : 0 < n) : ∃ g c, v = .slice (some ⟨g, 0, none⟩) n c ∧ n ≤ c ∧ c ≤ maxLen ∧ Row w (some ⟨g, 0, none⟩) (flatG cs xs) := by
  obtain ⟨A, c', e, hr⟩ := h.row
  rcases h.2.2 with ⟨_, h1⟩ | ⟨g, cap, cur, rfl, e2, e3, e4, e5, e6, e7⟩
  · omega
  · injection e with e8 e9 e10
    subst e8
    exact ⟨g, cap, rfl, e4, e5, hr⟩
theorem mod_u8W (x n : Nat) : ((x : Int)).tmod ((n : Int)) = ((x % n : Nat) : Int) := by
  show Int.tmod (Int.ofNat x) (Int.ofNat n) = Int.ofNat (x % n)
  rfl
end Go.Proofs.YtdpoagcgglfijaaGreatDoor
