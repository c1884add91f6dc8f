/- The greatest number with a property, by doubling and halving: moneyweighted.greatest over a closure. Conditions: sizes; the closure answers whether a number is at most q, and keeps what it reads. -/
import Derived.Test.YtahpbnmbphobgaaGreatDoorDh
namespace Go.Proofs.YtahpbnmbphobgaaGreatDoor
open Go.RowKit Go.Shelf Dec

/-- the call returns V and keeps I -/
def RetW (I : World → Prop) (f : FuncId) (args : Array Value) (V : Value) : Prop := ∀ w, Gl w → I w → Calls Tryz.prog f args w fun e w' => e = .returned V ∧ Gl w' ∧ I w'
def RetW.stay (I : World → Prop) : Prop := ∀ w w' : World, Gl w → I w → Below w.heap.size w w' → I w'
theorem pow_fit {n : Nat} {k : Nat} (h : n < 10 ^ k) : Fit k (n : Int) := h
set_option maxRecDepth 100000 in
set_option maxHeartbeats 4000000 in
theorem middle_any {a b : ByteArray} {x y : Int} (h1 : Vs a x) (h2 : Vs b y) (hv : Vs (canS (x + y)) (x + y)) : Ret 72 #[.string a, .string b] (.string (canS ((x + y).fdiv 2))) := by
  intro w hg
  have hs := St.refl hg
  have K1 := AddR h1 h2
  have K2 := DivR hv (b := ⟨#[50]⟩) (y := 2) ⟨by decide +kernel, by decide⟩ (by decide)
  generalize canS (x + y) = s1 at *
  generalize canS ((x + y).fdiv 2) = s2 at *
  generalize canS ((x + y).fmod 2) = s3 at *
  clear h1 h2 hv
  go_enter Tryz.func72, Tryz.ntmps72
  go_wp2_with fail
  refine K1.step hs ?_
  intro w1 hs hb
  go_wp2_with fail
  refine K2.step hs ?_
  intro w2 hs hb
  go_wp2_with fail
  go_ret
  exact ⟨rfl, hs.2⟩
def strOf : Value → ByteArray
  | .string s => s
  | _ => ⟨#[]⟩
set_option maxRecDepth 100000 in
set_option maxHeartbeats 4000000 in
theorem greatest_any {q : Nat} {f : FuncId} {cap : Array Value} {I : World → Prop} (hI : RetW.stay I) {k : Nat} (hk : k ≤ 9000) (hq : 2 * q + 2 < 10 ^ k) (hcf : ∀ (args : Array Value) (u : World), (callFunc f args).run Tryz.prog u = .ok (.enter f args) u)
    (KF : Hid (∀ a : Nat, 0 < a → a ≤ 2 * q + 2 → RetW I f (#[.string (canS a)] ++ cap) (.bool (decide (a ≤ q))))) :
    RetW I 34 #[.func (.func f) #[] cap] (.string (canS q)) := by
  intro w hg hi
  have Hi := Lib.hid hi
  have Hg := Lib.hid hg
  have HI := Lib.hid hI
  have HQ := Lib.hid hq
  have fit : Hid (∀ z : Nat, z ≤ 2 * q + 2 → Vs (canS z) z) := fun z hz => Vs.can (k := k) (show Fit k (z : Int) from by show (z : Int).natAbs < _; simp only [Int.natAbs_natCast]; have := HQ.out; omega) (by omega)
  have K0 := OfR (n := 0) (by omega) (by omega)
  have K1 := OfR (n := 1) (by omega) (by omega)
  clear hi hI hq hg
  go_enter Tryz.func34, Tryz.ntmps34
  go_wp2_with fail
  refine K0.step (St.refl Hg.out) ?_
  intro w1 hs hb
  have Hi1 := Lib.hid (HI.out _ _ Hg.out Hi.out hb)
  have Hg1 := Lib.hid hs.gl
  clear hs hb
  go_wp2_with fail
  refine K1.step (St.refl Hg1.out) ?_
  intro w2 hs hb
  have Hi2 := Lib.hid (HI.out _ _ Hg1.out Hi1.out hb)
  have Hg2 := Lib.hid hs.gl
  clear hs hb K0 K1
  go_wp2_with fail
  go_loopw [3, 4] (fun s t wr => ∃ a b : Nat, s = .string (canS a) ∧ t = .string (canS b) ∧ Hid (a ≤ q ∧ a < b ∧ b ≤ 2 * a + 1) ∧ Hid (Gl wr) ∧ Hid (I wr)) (fun s t _ => (2 * q + 2 - valS (strOf t)).toNat)
  case atStart => exact ⟨0, 1, rfl, rfl, ⟨Nat.zero_le _, by omega, by omega⟩, Hg2.out, Hi2.out⟩
  case round =>
    obtain ⟨a, b, rfl, rfl, HB, Hg3, Hi3⟩ := hrel
    have KK := KF.out b (by have := HB.out; omega) (by have := HB.out; omega)
    by_cases hbq : b ≤ q
    · rw [decide_eq_true hbq] at KK
      have Hbq := Lib.hid hbq
      have KA := AddR (fit.out b (by omega)) (fit.out b (by omega))
      have e : (b : Int) + (b : Int) = ((2 * b : Nat) : Int) := by omega
      rw [e] at KA
      clear hbq e
      go_wp2_with fail
      refine (KK _ Hg3.out Hi3.out).mono ?_
      rintro e w3 ⟨rfl, hg4, hi4⟩
      have Hg4 := Lib.hid hg4
      have Hi4 := Lib.hid hi4
      clear hg4 hi4
      go_wp2_with fail
      refine KA.step (St.refl Hg4.out) ?_
      intro w4 hs hb
      have Hi5 := Lib.hid (HI.out _ _ Hg4.out Hi4.out hb)
      have Hg5 := Lib.hid hs.gl
      clear hs hb
      go_wp2_with fail
      go_roundw
      case rel => exact ⟨b, 2 * b, rfl, rfl, ⟨Hbq.out, by have := HB.out; omega, by omega⟩, Hg5.out, Hi5.out⟩
      case measure =>
        simp only [strOf, valS_canS]
        have := HB.out
        have := Hbq.out
        omega
    · rw [decide_eq_false hbq] at KK
      have Hbq := Lib.hid hbq
      clear hbq
      go_wp2_with fail
      refine (KK _ Hg3.out Hi3.out).mono ?_
      rintro e w3 ⟨rfl, hg4, hi4⟩
      have Hg4 := Lib.hid hg4
      have Hi4 := Lib.hid hi4
      clear hg4 hi4 KK
      go_wp2_with fail
      go_loopw [3, 4] (fun s t wr => ∃ a b : Nat, s = .string (canS a) ∧ t = .string (canS b) ∧ Hid (a ≤ q ∧ q < b ∧ b ≤ 2 * q + 2) ∧ Hid (Gl wr) ∧ Hid (I wr)) (fun s t _ => (valS (strOf t) - valS (strOf s)).toNat)
      case atStart => exact ⟨a, b, rfl, rfl, ⟨HB.out.1, by have := Hbq.out; omega, by have := HB.out; omega⟩, Hg4.out, Hi4.out⟩
      case round =>
        clear HB Hbq Hg3 Hi3 Hg4 Hi4
        obtain ⟨a, b, rfl, rfl, HB, Hg3, Hi3⟩ := hrel
        have KS := SubR (fit.out b HB.out.2.2) (fit.out a (by have := HB.out; omega))
        have e : (b : Int) - (a : Int) = ((b - a : Nat) : Int) := by have := HB.out; omega
        rw [e] at KS
        clear e
        have E1 := one_eq ((b - a : Nat) : Int)
        by_cases h1 : b - a = 1
        · have q1 : ((canS ((b - a : Nat) : Int)).toList == [49]) = true := by rw [E1]; exact decide_eq_true (by omega)
          have e : Hid (a = q) := by have := HB.out; show _ = _; omega
          clear E1
          generalize canS ((b - a : Nat) : Int) = s1 at *
          go_wp2_with fail
          refine KS.step (St.refl Hg3.out) ?_
          intro w4 hs hb
          have Hi5 := Lib.hid (HI.out _ _ Hg3.out Hi3.out hb)
          have Hg5 := Lib.hid hs.gl
          clear hs hb
          go_wp2_with fail
          go_ret
          exact ⟨by rw [e.out]; rfl, Hg5.out, Hi5.out⟩
        · have q1 : ((canS ((b - a : Nat) : Int)).toList == [49]) = false := by rw [E1]; exact decide_eq_false (by omega)
          have H1 : Hid (¬ b - a = 1) := h1
          clear E1 h1
          generalize canS ((b - a : Nat) : Int) = s1 at *
          obtain ⟨m, hm⟩ : ∃ m, (a + b) / 2 = m := ⟨_, rfl⟩
          have HM : Hid (a < m ∧ m < b) := by have := HB.out; have := H1.out; exact ⟨by omega, by omega⟩
          have e : (a : Int) + (b : Int) = ((a + b : Nat) : Int) := by omega
          have hfit : Fit (k + 1) ((a + b : Nat) : Int) := by
            show ((a + b : Nat) : Int).natAbs < _
            simp only [Int.natAbs_natCast]
            have := HB.out
            have := HQ.out
            rw [Nat.pow_succ]
            omega
          have KM := middle_any (fit.out a (by have := HB.out; omega)) (fit.out b HB.out.2.2) (by rw [e]; exact Vs.can (k := k + 1) hfit (by omega))
          clear hfit
          have e2 : ((a : Int) + (b : Int)).fdiv 2 = ((m : Nat) : Int) := by rw [e, ← hm, Int.fdiv_eq_ediv_of_nonneg _ (by omega)]; omega
          rw [e2] at KM
          clear e e2 hm
          have KK := KF.out m (by have := HM.out; omega) (by have := HB.out; have := HM.out; omega)
          go_wp2_with fail
          refine KS.step (St.refl Hg3.out) ?_
          intro w4 hs hb
          have Hi5 := Lib.hid (HI.out _ _ Hg3.out Hi3.out hb)
          have Hg5 := Lib.hid hs.gl
          clear hs hb
          go_wp2_with fail
          refine KM.step (St.refl Hg5.out) ?_
          intro w5 hs hb
          have Hi6 := Lib.hid (HI.out _ _ Hg5.out Hi5.out hb)
          have Hg6 := Lib.hid hs.gl
          clear hs hb
          by_cases hmq : m ≤ q
          · rw [decide_eq_true hmq] at KK
            have Hmq := Lib.hid hmq
            clear hmq
            go_wp2_with fail
            refine (KK _ Hg6.out Hi6.out).mono ?_
            rintro e w6 ⟨rfl, hg7, hi7⟩
            have Hg7 := Lib.hid hg7
            have Hi7 := Lib.hid hi7
            clear hg7 hi7
            go_wp2_with fail
            go_roundw
            case rel => exact ⟨m, b, rfl, rfl, ⟨Hmq.out, HB.out.2.1, HB.out.2.2⟩, Hg7.out, Hi7.out⟩
            case measure =>
              simp only [strOf, valS_canS]
              have := HM.out
              omega
          · rw [decide_eq_false hmq] at KK
            have Hmq := Lib.hid hmq
            clear hmq
            go_wp2_with fail
            refine (KK _ Hg6.out Hi6.out).mono ?_
            rintro e w6 ⟨rfl, hg7, hi7⟩
            have Hg7 := Lib.hid hg7
            have Hi7 := Lib.hid hi7
            clear hg7 hi7
            go_wp2_with fail
            go_roundw
            case rel => exact ⟨a, m, rfl, rfl, ⟨HB.out.1, by have := Hmq.out; omega, by have := HM.out; have := HB.out; omega⟩, Hg7.out, Hi7.out⟩
            case measure =>
              simp only [strOf, valS_canS]
              have := HM.out
              omega
end Go.Proofs.YtahpbnmbphobgaaGreatDoor
