/- Slices of pairs of strings (fractions): looking through them. Condition: what the function returns. -/
import Derived.Test.YtdpoagcgglfijaaGreatDoorGr
namespace Go.Proofs.YtdpoagcgglfijaaGreatDoor
open Go.RowKit Go.Shelf Dec QQ

/-- a pair of strings -/
structure PqS where
  n : ByteArray
  d : ByteArray
def pqcells (s : PqS) : List Value := [.string s.n, .string s.d]
def pqV (s : PqS) : Value := .agg #[.string s.n, .string s.d]
theorem pqcells_len (s : PqS) : (pqcells s).length = 2 := rfl
set_option maxRecDepth 100000 in
set_option maxHeartbeats 4000000 in
theorem indexPq {A : Option Addr} {n c : Nat} {l : List PqS} {f : FuncId} {cap : Array Value} {p : PqS → Bool} {I : World → Prop} (hI : Stays I) (hn : l.length = n) (hm : n ≤ 4611686018427387904) (hcf : ∀ (args : Array Value) (u : World), (callFunc f args).run Tryz.prog u = .ok (.enter f args) u)
    (KF : Hid (∀ s ∈ l, RetI I f (#[pqV s] ++ cap) (.bool (p s)))) :
    RetI (fun w => Row w A (flatG pqcells l) ∧ I w) 83 #[.slice A n c, .func (.func f) #[] cap] (.int .i64 (idxG p l)) := by
  intro w hg hi
  have hs := St.refl hg
  have HN := Lib.hid hn
  have Hi := Lib.hid hi
  have HI := Lib.hid hI
  clear hn hi hI
  go_enter Tryz.func83, Tryz.ntmps83
  go_wp2_with fail
  go_loopw [8] (fun s wr => ∃ k : Nat, k ≤ n ∧ s = .int .i64 (k : Int) ∧ St w wr ∧ Hid (Row wr A (flatG pqcells l) ∧ I wr) ∧ Hid (∀ i, i < k → ∀ t, l[i]? = some t → p t = false)) (fun s _ => (n - intOf s).toNat)
  case atStart => exact ⟨0, by omega, rfl, hs, Hi, fun i h => by omega⟩
  case round =>
    obtain ⟨k, hk, rfl, hs, H, HP⟩ := hrel
    by_cases hkn : k = n
    · subst hkn
      have q : decide ((k : Int) < (k : Int)) = false := decide_eq_false (by omega)
      have HE := Lib.hid (idxG_none (p := p) (l := l) (fun i hi t ht => HP.out i (by rw [HN.out] at hi; exact hi) t ht))
      clear HP
      go_wp2_with fail
      go_ret
      exact ⟨by rw [HE.out]; rfl, hs.2⟩
    · have hkl : k < n := by omega
      have q : decide ((k : Int) < (n : Int)) = true := decide_eq_true (by omega)
      have qn : decide (k < n) = true := decide_eq_true hkl
      obtain ⟨d, hd⟩ : ∃ d, l[k]? = some d := ⟨l[k]'(by rw [HN.out]; exact hkl), by simp⟩
      obtain ⟨b, o, hA, hb, hcells⟩ := row_at (cs := pqcells) (m := 2) pqcells_len (by decide) H.out.1 hd
      subst hA
      have KK := KF.out d (List.mem_of_getElem? hd)
      have HD := Lib.hid hd
      clear hd hkn
      obtain ⟨pv, hpv⟩ : ∃ pv, p d = pv := ⟨_, rfl⟩
      rw [hpv] at KK
      have HPV := Lib.hid hpv
      clear hpv
      obtain ⟨f0, f1⟩ := d
      have x0 : wr.cell? ⟨b, o + k * 2, none⟩ = some (.string f0) := hcells 0 _ rfl
      have x1 : wr.cell? ⟨b, o + k * 2 + 1, none⟩ = some (.string f1) := hcells 1 _ rfl
      have HC := Lib.hid hcells
      clear hcells
      dsimp only [pqV] at KK
      cases pv with
      | true =>
        have HE := Lib.hid (idxG_at HD.out HPV.out HP.out)
        go_wp2_with fail
        refine KK.step hs H.out.2 ?_
        intro w2 hs hb
        go_wp2_with fail
        go_ret
        exact ⟨by rw [HE.out]; rfl, hs.2⟩
      | false =>
        go_wp2_with fail
        refine KK.step hs H.out.2 ?_
        intro w2 hs hb
        have H2 : Hid (Row w2 (some ⟨b, o, none⟩) (flatG pqcells l) ∧ I w2) := ⟨H.out.1.on hb, HI.out _ _ H.out.2 hb⟩
        go_wp2_with fail
        go_roundw
        case rel =>
          refine ⟨k + 1, by omega, by go_num, hs, H2, ?_⟩
          intro i hi t ht
          by_cases e : i = k
          · subst e
            rw [HD.out] at ht
            cases ht
            exact HPV.out
          · exact HP.out i (by omega) t ht
        case measure => simp [intOf]; omega
set_option maxRecDepth 100000 in
set_option maxHeartbeats 4000000 in
theorem containsPq {A : Option Addr} {n c : Nat} {l : List PqS} {f : FuncId} {cap : Array Value} {p : PqS → Bool} {I : World → Prop} (hI : Stays I) (hn : l.length = n) (hm : n ≤ 4611686018427387904) (hcf : ∀ (args : Array Value) (u : World), (callFunc f args).run Tryz.prog u = .ok (.enter f args) u)
    (KF : Hid (∀ s ∈ l, RetI I f (#[pqV s] ++ cap) (.bool (p s)))) :
    RetI (fun w => Row w A (flatG pqcells l) ∧ I w) 53 #[.slice A n c, .func (.func f) #[] cap] (.bool (l.any p)) := by
  intro w hg hi
  have hs := St.refl hg
  have K := indexPq (A := A) (c := c) hI hn hm hcf KF
  have e := idxG_any p l
  generalize idxG p l = r at *
  generalize l.any p = v at *
  have Hi := Lib.hid hi
  clear hn hi hI
  go_enter Tryz.func53, Tryz.ntmps53
  go_wp2_with fail
  refine K.step hs Hi.out ?_
  intro w1 hs _
  go_wp2_with fail
  go_ret
  exact ⟨rfl, hs.2⟩
end Go.Proofs.YtdpoagcgglfijaaGreatDoor
