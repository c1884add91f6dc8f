/- Allocation: negative, whole, check. Conditions: up to twelve weights of bounded length, or more than 1000. -/
import Derived.Test.YtpipkeplhkccoaaGreatDoorWP
import Derived.Test.YtpipkeplhkccoaaGreatDoorFc
import Derived.Test.YtpipkeplhkccoaaGreatDoorFa
namespace Go.Proofs.YtpipkeplhkccoaaGreatDoor
open Go.RowKit Go.Shelf Dec QQ SP

theorem cmp_neg (z : Int) : decide (cmpI z 0 < 0) = decide (z < 0) := by
  unfold cmpI
  rw [decide_eq_decide]
  split
  · omega
  · split <;> omega
set_option maxRecDepth 100000 in
set_option maxHeartbeats 4000000 in
theorem neg4_any {a : ByteArray} (ha : a.size ≤ 1000000) : Ret 80 #[.string a] (.bool (decide (valS a < 0))) := by
  intro w hg
  have hs := St.refl hg
  have K := CmpR (Vs.arg ha) Vs.nil
  rw [← cmp_neg]
  generalize cmpI (valS a) 0 = ci at *
  go_enter Tryz.func80, Tryz.ntmps80
  go_wp2_with fail
  refine K.step hs ?_
  intro w1 hs hb
  go_wp2_with fail
  go_ret
  exact ⟨rfl, hs.2⟩
set_option maxRecDepth 100000 in
set_option maxHeartbeats 4000000 in
theorem whole_any {A : Option Addr} {n c k0 : Nat} {ws : List ByteArray} (hn : ws.length = n) (h12 : n ≤ 12) (hk0 : k0 ≤ 5000) (hz : ∀ s ∈ ws, s.size ≤ k0) :
    RetI (fun w => Row w A (ws.map sv)) 69 #[.slice A n c] (.string (canS (iv ws).sum)) := by
  intro w hg hi
  have hs := St.refl hg
  have HN := Lib.hid hn
  have HI := Lib.hid hi
  have HZ := Lib.hid hz
  have HF : Hid (∀ k, Fit (k0 + 2) ((iv ws).take k).sum) := fun k => take_fit hz (by omega)
  obtain ⟨r1, hr1⟩ : ∃ v, canS (iv ws).sum = v := ⟨_, rfl⟩
  rw [hr1]
  have HR1 := Lib.hid hr1
  have HZ0 : Hid (canS ((iv ws).take 0).sum = ⟨#[]⟩) := canS_zero
  clear hn hi hz hr1
  go_enter Tryz.func69, Tryz.ntmps69
  go_wp2_with fail
  go_loopw [8, 3] (fun s a wr => ∃ k : Nat, k ≤ n ∧ s = .int .i64 (k : Int) ∧ a = .string (canS ((iv ws).take k).sum) ∧ St w wr) (fun s _ _ => (n - intOf s).toNat)
  case atStart => exact ⟨0, by omega, rfl, by rw [HZ0.out], hs⟩
  case round =>
    obtain ⟨k, hk, rfl, rfl, hs⟩ := hrel
    by_cases hkn : k = n
    · subst hkn
      have q : decide ((k : Int) < (k : Int)) = false := decide_eq_false (by omega)
      have e1 : canS ((iv ws).take k).sum = r1 := by rw [List.take_of_length_le (by rw [iv_len, HN.out]; omega)]; exact HR1.out
      rw [e1]
      clear e1
      go_wp2_with fail
      go_ret
      exact ⟨rfl, hs.2⟩
    · have hkl : k < n := by omega
      have q : decide ((k : Int) < (n : Int)) = true := decide_eq_true (by omega)
      have qn : decide (k < n) = true := decide_eq_true hkl
      obtain ⟨s, hd⟩ : ∃ s, ws[k]? = some s := ⟨ws[k]'(by rw [HN.out]; exact hkl), by simp⟩
      obtain ⟨b, o, hA, hb, hc⟩ := (HI.out.on hs.2) k (sv s) (by rw [List.getElem?_map, hd]; rfl)
      subst hA
      have zs := HZ.out s (List.mem_of_getElem? hd)
      have K := AddR (Vs.can (HF.out k) (by omega)) (Vs.arg (s := s) (by omega))
      rw [← iv_sum_succ hd] at K
      unfold sv at hc
      generalize canS ((iv ws).take k).sum = a at *
      obtain ⟨a', ha'⟩ : ∃ v, canS ((iv ws).take (k + 1)).sum = v := ⟨_, rfl⟩
      rw [ha'] at K
      have HA' := Lib.hid ha'
      clear hd ha' hkn zs
      go_wp2_with fail
      refine K.step hs ?_
      intro w1 hs hb1
      go_wp2_with fail
      go_roundw
      case rel => exact ⟨k + 1, by omega, by go_num, by rw [HA'.out], hs⟩
      case measure => simp [intOf]; omega
set_option maxRecDepth 100000 in
set_option maxHeartbeats 4000000 in
theorem check4_1 {s : ByteArray} (hz : s.size ≤ 1000000) : Ret 122 #[.string s] (.bool (wbad s)) := by
  intro w hg
  have hs := St.refl hg
  have K1 := ChkR hz
  have K2 := neg4_any hz
  unfold wbad
  generalize decide (valS s < 0) = v2 at *
  by_cases h : chk s = 0
  · rw [h] at K1 ⊢
    go_enter Tryz.func122, Tryz.ntmps122
    go_wp2_with fail
    refine K1.step hs ?_
    intro w1 hs hb
    go_wp2_with fail
    refine K2.step hs ?_
    intro w2 hs hb
    go_wp2_with fail
    go_ret
    exact ⟨by simp, hs.2⟩
  · have q : (chk s != 0) = true := by simpa using h
    rw [q]
    generalize chk s = e at *
    clear h
    go_enter Tryz.func122, Tryz.ntmps122
    go_wp2_with fail
    refine K1.step hs ?_
    intro w1 hs hb
    go_wp2_with fail
    go_ret
    exact ⟨by simp, hs.2⟩
set_option maxRecDepth 100000 in
set_option maxHeartbeats 4000000 in
theorem alchk_any {A : Option Addr} {n c k0 : Nat} {t : ByteArray} {ws : List ByteArray} (hn : ws.length = n) (h12 : n ≤ 12 ∨ 1000 < n) (hm : n ≤ 4611686018427387904) (hk0 : k0 ≤ 5000) (ht : t.size ≤ k0) (hz : ∀ s ∈ ws, s.size ≤ k0) :
    RetI (fun w => Row w A (ws.map sv)) 56 #[.string t, .slice A n c] (.int .i64 (alE t ws)) := by
  intro w hg hi
  have hs := St.refl hg
  have K1 := ChkR (a := t) (by omega)
  have K2 := contains_any (A := A) (c := c) (cap := #[]) (f := 122) (p := wbad) (l := ws) (I := fun _ => True) (fun _ _ _ _ => trivial) hn hm (fun _ _ => rfl) (fun s hs => (check4_1 (Nat.le_trans (hz s hs) (by omega))).i _)
  have Hi := Lib.hid hi
  have HE : Hid (alE t ws = if ws.length = 0 then 11 else if 1000 < ws.length then 4 else if chk t ≠ 0 ∨ ws.any wbad = true then 1 else if (iv ws).sum = 0 then 10 else 0) := rfl
  rw [hn] at HE
  clear hi
  by_cases h0 : n = 0
  · rw [HE.out, if_pos h0]
    subst h0
    clear HE K1 K2
    go_enter Tryz.func56, Tryz.ntmps56
    go_wp2_with fail
    go_ret
    exact ⟨rfl, hs.2⟩
  · have q0 : ((n : Int) == 0) = false := beq_eq_false_iff_ne.2 (by omega)
    by_cases h1 : 1000 < n
    · rw [HE.out, if_neg h0, if_pos h1]
      have q1 : decide ((1000 : Int) < (n : Int)) = true := decide_eq_true (by omega)
      clear HE K1 K2 h0
      go_enter Tryz.func56, Tryz.ntmps56
      go_wp2_with fail
      go_ret
      exact ⟨rfl, hs.2⟩
    · have q1 : decide ((1000 : Int) < (n : Int)) = false := decide_eq_false (by omega)
      have K3 := whole_any (A := A) (c := c) hn (by omega) hk0 hz
      have q3 := nil_eq (iv ws).sum
      have e := HE.out
      rw [if_neg h0, if_neg h1] at e
      rw [e]
      clear e HE h12
      by_cases h2 : chk t = 0
      · rw [h2] at K1
        cases h3 : ws.any wbad with
        | true =>
          rw [h3] at K2
          rw [if_pos (.inr rfl)]
          clear h3 h0 h1 hn hz q3 K3 h2
          go_enter Tryz.func56, Tryz.ntmps56
          go_wp2_with fail
          refine K1.step hs ?_
          intro w1 hs hb
          go_wp2_with fail
          refine K2.step hs ⟨Hi.out.on hs.2, trivial⟩ ?_
          intro w2 hs hb
          go_wp2_with fail
          go_ret
          exact ⟨rfl, hs.2⟩
        | false =>
          rw [h3] at K2
          rw [if_neg (by rw [h2]; simp)]
          obtain ⟨bz, hbz⟩ : ∃ x, decide ((iv ws).sum = 0) = x := ⟨_, rfl⟩
          rw [hbz] at q3
          have HB := Lib.hid hbz
          generalize canS (iv ws).sum = cs at *
          clear h3 h0 h1 hn hz h2 hbz
          cases bz with
          | true =>
            rw [if_pos (of_decide_eq_true HB.out)]
            go_enter Tryz.func56, Tryz.ntmps56
            go_wp2_with fail
            refine K1.step hs ?_
            intro w1 hs hb
            go_wp2_with fail
            refine K2.step hs ⟨Hi.out.on hs.2, trivial⟩ ?_
            intro w2 hs hb
            go_wp2_with fail
            refine K3.step hs (Hi.out.on hs.2) ?_
            intro w3 hs hb
            go_wp2_with fail
            go_ret
            exact ⟨rfl, hs.2⟩
          | false =>
            rw [if_neg (of_decide_eq_false HB.out)]
            go_enter Tryz.func56, Tryz.ntmps56
            go_wp2_with fail
            refine K1.step hs ?_
            intro w1 hs hb
            go_wp2_with fail
            refine K2.step hs ⟨Hi.out.on hs.2, trivial⟩ ?_
            intro w2 hs hb
            go_wp2_with fail
            refine K3.step hs (Hi.out.on hs.2) ?_
            intro w3 hs hb
            go_wp2_with fail
            go_ret
            exact ⟨rfl, hs.2⟩
      · have q2 : (chk t != 0) = true := by simpa using h2
        rw [if_pos (.inl h2)]
        generalize chk t = e at *
        clear h2 h0 h1 hn hz q3 K3 K2
        go_enter Tryz.func56, Tryz.ntmps56
        go_wp2_with fail
        refine K1.step hs ?_
        intro w1 hs hb
        go_wp2_with fail
        go_ret
        exact ⟨rfl, hs.2⟩
end Go.Proofs.YtpipkeplhkccoaaGreatDoor
