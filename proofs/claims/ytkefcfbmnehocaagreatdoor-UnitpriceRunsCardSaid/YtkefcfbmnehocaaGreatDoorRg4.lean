/- Unit prices, the reference: contracts of check, down, Price, Issue, Cancel and Deal. Conditions: strings of up to twenty thousand bytes. -/
import Derived.Test.YtkefcfbmnehocaaGreatDoorRf
import Derived.Test.YtkefcfbmnehocaaGreatDoorUb
namespace Go.Proofs.YtkefcfbmnehocaaGreatDoor
open Go.RowKit Go.Shelf Dec QQ

theorem rchkR {a : ByteArray} (h : a.size ≤ 1000000) : Ret 155 #[.string a] (.int .i64 (chk a)) := fun w _ => rcheck_any a w (by omega)
theorem any_none {α : Type} {l : List α} {p : α → Bool} (h : ∀ i, i < l.length → ∀ s, l[i]? = some s → p s = false) : l.any p = false := by
  rw [List.any_eq_false]
  intro s hs
  obtain ⟨i, hi, e⟩ := List.getElem_of_mem hs
  have := h i hi s (by rw [List.getElem?_eq_getElem hi, e])
  rw [this]
  decide
theorem any_at {α : Type} {l : List α} {p : α → Bool} {i : Nat} {s : α} (h : l[i]? = some s) (hp : p s = true) : l.any p = true := List.any_eq_true.2 ⟨s, List.mem_of_getElem? h, hp⟩
set_option maxRecDepth 100000 in
set_option maxHeartbeats 4000000 in
theorem rucheck_any {A : Option Addr} {n c : Nat} {l : List ByteArray} (hn : l.length = n) (hm : n ≤ 1099511627776) (hl : ∀ s ∈ l, s.size ≤ 1000000) :
    RetI (fun w => Row w A (l.map sv)) 86 #[.slice A n c] (.int .i64 (ucheck l)) := by
  intro w hg hi
  have hs := St.refl hg
  have HN := Lib.hid hn
  have Hi := Lib.hid hi
  have HL := Lib.hid hl
  have HU : Hid (ucheck l = if l.any (fun s => chk s != 0) then 1 else if l.any (fun s => decide (valS s < 0)) then 2 else 0) := rfl
  clear hn hi hl
  go_enter Tryz.func86, Tryz.ntmps86
  go_wp2_with fail
  go_loopw [3] (fun s wr => ∃ k : Nat, k ≤ n ∧ s = .int .i64 (k : Int) ∧ St w wr ∧ Hid (Row wr A (l.map sv)) ∧ Hid (∀ i, i < k → ∀ t, l[i]? = some t → (chk t != 0) = false)) (fun s _ => (n - intOf s).toNat)
  case atStart => exact ⟨0, by omega, rfl, hs, Hi.out, fun i h => by omega⟩
  case round =>
    obtain ⟨k, hk, rfl, hs, H, HP⟩ := hrel
    by_cases hkn : k = n
    · subst hkn
      have q : decide ((k : Int) < (k : Int)) = false := decide_eq_false (by omega)
      have HA : Hid (l.any (fun s => chk s != 0) = false) := any_none (fun i hi t ht => HP.out i (by rw [HN.out] at hi; exact hi) t ht)
      clear HP
      go_wp2_with fail
      clear q
      go_loopw [4] (fun s wx => ∃ j : Nat, j ≤ k ∧ s = .int .i64 (j : Int) ∧ St w wx ∧ Hid (Row wx A (l.map sv)) ∧ Hid (∀ i, i < j → ∀ t, l[i]? = some t → decide (valS t < 0) = false)) (fun s _ => (k - intOf s).toNat)
      case atStart => exact ⟨0, by omega, rfl, hs, H.out, fun i h => by omega⟩
      case round =>
        obtain ⟨j, hj, rfl, hs, H2, HP2⟩ := hrel
        by_cases hjn : j = k
        · subst hjn
          have q : decide ((j : Int) < (j : Int)) = false := decide_eq_false (by omega)
          have HB : Hid (l.any (fun s => decide (valS s < 0)) = false) := any_none (fun i hi t ht => HP2.out i (by rw [HN.out] at hi; exact hi) t ht)
          have HE : Hid (ucheck l = 0) := by show _ = _; rw [HU.out, HA.out, HB.out]; rfl
          clear HP2 HB HA
          go_wp2_with fail
          go_ret
          exact ⟨by rw [HE.out]; rfl, hs.2⟩
        · have hjl : j < k := by omega
          have q : decide ((j : Int) < (k : Int)) = true := decide_eq_true (by omega)
          have qn : decide (j < k) = true := decide_eq_true hjl
          obtain ⟨s, hs0⟩ : ∃ s, l[j]? = some s := ⟨l[j]'(by rw [HN.out]; exact hjl), by simp⟩
          obtain ⟨b, o, hA, hB, hc⟩ := H2.out j (.string s) (by rw [List.getElem?_map, hs0]; rfl)
          subst hA
          have KK := rcmpR (a := s) (b := ⟨#[]⟩) (HL.out s (List.mem_of_getElem? hs0)) (by decide)
          have qc : decide (cmpI (valS s) (valS ⟨#[]⟩) < 0) = decide (valS s < 0) := cmpI_lt
          generalize cmpI (valS s) (valS ⟨#[]⟩) = cc at *
          have HS := Lib.hid hs0
          clear hs0 hjn
          cases hv : decide (valS s < 0) with
          | true =>
            have HE : Hid (ucheck l = 2) := by show _ = _; rw [HU.out, HA.out, any_at HS.out hv]; rfl
            rw [hv] at qc
            clear hv HA HP2
            go_wp2_with fail
            refine KK.step hs ?_
            intro w2 hs hb
            go_wp2_with fail
            go_ret
            exact ⟨by rw [HE.out]; rfl, hs.2⟩
          | false =>
            have HV := Lib.hid hv
            rw [hv] at qc
            clear hv
            go_wp2_with fail
            refine KK.step hs ?_
            intro w2 hs hb
            have H3 := Lib.hid (H2.out.on hb)
            go_wp2_with fail
            go_roundw
            case rel =>
              refine ⟨j + 1, by omega, by go_num, hs, H3.out, ?_⟩
              intro i hi t ht
              by_cases e : i = j
              · subst e
                rw [HS.out] at ht
                cases ht
                exact HV.out
              · exact HP2.out i (by omega) t ht
            case measure => simp [intOf]; omega
    · have hkl : k < n := by omega
      have q : decide ((k : Int) < (n : Int)) = true := decide_eq_true (by omega)
      have qn : decide (k < n) = true := decide_eq_true hkl
      obtain ⟨s, hs0⟩ : ∃ s, l[k]? = some s := ⟨l[k]'(by rw [HN.out]; exact hkl), by simp⟩
      obtain ⟨b, o, hA, hB, hc⟩ := H.out k (.string s) (by rw [List.getElem?_map, hs0]; rfl)
      subst hA
      have KK := rchkR (HL.out s (List.mem_of_getElem? hs0))
      have HS := Lib.hid hs0
      clear hs0 hkn
      cases hv : (chk s != 0) with
      | true =>
        have HE : Hid (ucheck l = 1) := by show _ = _; rw [HU.out, any_at HS.out hv]; rfl
        generalize chk s = cc at *
        go_wp2_with fail
        refine KK.step hs ?_
        intro w2 hs hb
        go_wp2_with fail
        go_ret
        exact ⟨by rw [HE.out]; rfl, hs.2⟩
      | false =>
        have HV := Lib.hid hv
        obtain ⟨cc, hcc⟩ : ∃ cc, chk s = cc := ⟨_, rfl⟩
        rw [hcc] at KK hv
        clear hcc
        go_wp2_with fail
        refine KK.step hs ?_
        intro w2 hs hb
        have H3 := Lib.hid (H.out.on hb)
        go_wp2_with fail
        go_roundw
        case rel =>
          refine ⟨k + 1, by omega, by go_num, hs, H3.out, ?_⟩
          intro i hi t ht
          by_cases e : i = k
          · subst e
            rw [HS.out] at ht
            cases ht
            exact HV.out
          · exact HP.out i (by omega) t ht
        case measure => simp [intOf]; omega
set_option maxRecDepth 100000 in
set_option maxHeartbeats 4000000 in
theorem down_r {a b c : ByteArray} (h1 : a.size ≤ 20000) (h2 : b.size ≤ 20000) (h3 : c.size ≤ 20000) : Ret 89 #[.string a, .string b, .string c] (.string (divR (valS a * valS b) (valS c)).1) := by
  intro w hg
  have hs := St.refl hg
  have K1 := rMulR (a := a) (b := b) (by omega) (by omega)
  have f1 := ((Fit.val h1).mul (Fit.val h2)).size
  have K2 : Ret 18 #[.string (canS (valS a * valS b)), .string c] (.tuple #[.string (divR (valS a * valS b) (valS c)).1, .string (divR (valS a * valS b) (valS c)).2.1, .int .i64 (divR (valS a * valS b) (valS c)).2.2]) := fun w _ => by
    have := rDiv_any (canS (valS a * valS b)) c w (by omega) (by omega)
    rwa [valS_canS] at this
  clear f1
  generalize canS (valS a * valS b) = m at *
  generalize (divR (valS a * valS b) (valS c)).1 = q at *
  generalize (divR (valS a * valS b) (valS c)).2.1 = r at *
  generalize (divR (valS a * valS b) (valS c)).2.2 = e at *
  go_enter Tryz.func89, Tryz.ntmps89
  go_wp2_with fail
  refine K1.step hs ?_
  intro w1 hs _
  go_wp2_with fail
  refine K2.step hs ?_
  intro w2 hs _
  go_wp2_with fail
  go_ret
  exact ⟨rfl, hs.2⟩
end Go.Proofs.YtkefcfbmnehocaaGreatDoor
