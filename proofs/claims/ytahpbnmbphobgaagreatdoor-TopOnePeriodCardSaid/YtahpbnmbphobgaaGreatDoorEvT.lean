/- A reckoner of closed runs: the table of the arithmetic: integers and fractions by their contracts. Condition: the tables of the start (Gl). -/
import Derived.Test.YtahpbnmbphobgaaGreatDoorEvc
import Derived.Test.YtahpbnmbphobgaaGreatDoorFc
import Derived.Test.YtahpbnmbphobgaaGreatDoorDh
namespace Go.Proofs.YtahpbnmbphobgaaGreatDoor
set_option linter.unusedSectionVars false
set_option linter.unusedVariables false
set_option linter.unusedSimpArgs false
open Go.RowKit Go.Shelf Dec QQ Go.Proofs.Q.Ev
variable [Sym]
def sm (a : ByteArray) : Bool := Nat.ble a.size 1000
/-- the table -/
def arith : Tbl := fun f vs => match vs with
  | [.string a, .string b] => bif sm a && sm b then
      (bif Nat.beq f 28 then some (.string (canS (valS a + valS b))) else
       bif Nat.beq f 58 then some (.string (canS (valS a - valS b))) else
       bif Nat.beq f 74 then some (.string (canS (valS a * valS b))) else
       bif Nat.beq f 41 then some (.int .i64 (cmpI (valS a) (valS b))) else
       bif Nat.beq f 120 then some (.string (canS (Nat.gcd (valS a).natAbs (valS b).natAbs : Nat))) else
       bif Nat.beq f 118 && !(decide (valS b = 0)) then some (.tuple #[.string (canS ((valS a).fdiv (valS b))), .string (canS ((valS a).fmod (valS b))), .int .i64 0]) else none) else none
  | [.string a] => bif sm a then
      (bif Nat.beq f 27 then some (.string (canS (-(valS a)))) else
       bif Nat.beq f 105 then some (.string (canS (valS a))) else
       bif Nat.beq f 60 then some (.int .i64 (chk a)) else none) else none
  | [.int .i64 n] => bif Nat.beq f 71 && (decide (-9223372036854775808 ≤ n) && decide (n ≤ 9223372036854775807)) then some (.string (canS n)) else none
  | [.agg ⟨[.string a, .string b]⟩, .agg ⟨[.string c, .string d]⟩] => bif (sm a && sm b) && (sm c && sm d) then
      (bif Nat.beq f 10 then some (FR (ratV a b + ratV c d)) else
       bif Nat.beq f 24 then some (FR (ratV a b - ratV c d)) else
       bif Nat.beq f 63 then some (FR (ratV a b * ratV c d)) else none) else none
  | [.agg ⟨[.string a, .string b]⟩] => bif (sm a && sm b) && Nat.beq f 42 then some (.int .i64 (chkF a b)) else none
  | _ => none
theorem ret_tbl {f : FuncId} {vs : List Value} {v : Value} (hcf : ∀ w : World, (callFunc f vs.toArray).run Tryz.prog w = .ok (.enter f vs.toArray) w) (h : Ret f vs.toArray v) : ∀ w, Gl w →
    ((callFunc f vs.toArray).run Tryz.prog w = .ok (.enter f vs.toArray) w ∧ Calls Tryz.prog f vs.toArray w fun e w' => e = .returned v ∧ Below w.heap.size w w') ∨ (callFunc f vs.toArray).run Tryz.prog w = .ok (.value v) w :=
  fun w hg => .inl ⟨hcf w, h w hg⟩
theorem sm_le {a : ByteArray} (h : sm a = true) : a.size ≤ 1000 := Nat.le_of_ble_eq_true h
theorem bifE {α : Type} {b : Bool} {x y : Option α} {v : α} (h : (bif b then x else y) = some v) : (b = true ∧ x = some v) ∨ (b = false ∧ y = some v) := by
  cases b
  · exact .inr ⟨rfl, h⟩
  · exact .inl ⟨rfl, h⟩
theorem arith_ok (hm : Tryz.prog.follows .mixedOrders = true) : TblOK Tryz.prog Gl arith := by
  intro f vs v h
  have en : ∀ (g : FuncId) (args : Array Value), (mkFI Tryz.prog g).isSome = true → ∀ w : World, (callFunc g args).run Tryz.prog w = .ok (.enter g args) w := fun g args hg w => enter_P hm hg args w
  unfold arith at h
  split at h
  · rename_i a b
    obtain ⟨hs, h⟩ := bif_some h
    rw [Bool.and_eq_true] at hs
    have h1 : Vs a (valS a) := .arg (by have := sm_le hs.1; omega)
    have h2 : Vs b (valS b) := .arg (by have := sm_le hs.2; omega)
    rcases bifE h with ⟨hf, h⟩ | ⟨_, h⟩
    · cases Nat.eq_of_beq_eq_true hf; cases h
      exact ret_tbl (en _ _ (by decide +kernel)) (AddR h1 h2)
    rcases bifE h with ⟨hf, h⟩ | ⟨_, h⟩
    · cases Nat.eq_of_beq_eq_true hf; cases h
      exact ret_tbl (en _ _ (by decide +kernel)) (SubR h1 h2)
    rcases bifE h with ⟨hf, h⟩ | ⟨_, h⟩
    · cases Nat.eq_of_beq_eq_true hf; cases h
      exact ret_tbl (en _ _ (by decide +kernel)) (MulR h1 h2)
    rcases bifE h with ⟨hf, h⟩ | ⟨_, h⟩
    · cases Nat.eq_of_beq_eq_true hf; cases h
      exact ret_tbl (en _ _ (by decide +kernel)) (CmpR h1 h2)
    rcases bifE h with ⟨hf, h⟩ | ⟨_, h⟩
    · cases Nat.eq_of_beq_eq_true hf; cases h
      exact ret_tbl (en _ _ (by decide +kernel)) (GcdR h1 h2)
    obtain ⟨hf, h⟩ := bif_some h
    rw [Bool.and_eq_true] at hf
    have hf1 := Nat.eq_of_beq_eq_true hf.1
    have hy : valS b ≠ 0 := by simpa using hf.2
    rw [Option.some.injEq] at h
    rw [← h, hf1]
    exact ret_tbl (en _ _ (by decide +kernel)) (DivR h1 h2 hy)
  · rename_i a
    obtain ⟨hs, h⟩ := bif_some h
    have h1 : Vs a (valS a) := .arg (by have := sm_le hs; omega)
    rcases bifE h with ⟨hf, h⟩ | ⟨_, h⟩
    · cases Nat.eq_of_beq_eq_true hf; cases h
      exact ret_tbl (en _ _ (by decide +kernel)) (NegR h1)
    rcases bifE h with ⟨hf, h⟩ | ⟨_, h⟩
    · cases Nat.eq_of_beq_eq_true hf; cases h
      exact ret_tbl (en _ _ (by decide +kernel)) (CanR h1)
    rcases bifE h with ⟨hf, h⟩ | ⟨_, h⟩
    · cases Nat.eq_of_beq_eq_true hf; cases h
      exact ret_tbl (en _ _ (by decide +kernel)) (ChkR (by have := sm_le hs; omega))
    cases h
  · rename_i n
    obtain ⟨hs, h⟩ := bif_some h
    cases h
    simp only [Bool.and_eq_true, decide_eq_true_eq] at hs
    cases Nat.eq_of_beq_eq_true hs.1
    exact ret_tbl (en _ _ (by decide +kernel)) (OfR hs.2.1 hs.2.2)
  · rename_i a b c d
    obtain ⟨hs, h⟩ := bif_some h
    simp only [Bool.and_eq_true] at hs
    have h1 : Vq a b (ratV a b) := .arg (by have := sm_le hs.1.1; omega) (by have := sm_le hs.1.2; omega)
    have h2 : Vq c d (ratV c d) := .arg (by have := sm_le hs.2.1; omega) (by have := sm_le hs.2.2; omega)
    rcases bifE h with ⟨hf, h⟩ | ⟨_, h⟩
    · cases Nat.eq_of_beq_eq_true hf; cases h
      exact ret_tbl (en _ _ (by decide +kernel)) (AddF h1 h2)
    rcases bifE h with ⟨hf, h⟩ | ⟨_, h⟩
    · cases Nat.eq_of_beq_eq_true hf; cases h
      exact ret_tbl (en _ _ (by decide +kernel)) (SubF h1 h2)
    rcases bifE h with ⟨hf, h⟩ | ⟨_, h⟩
    · cases Nat.eq_of_beq_eq_true hf; cases h
      exact ret_tbl (en _ _ (by decide +kernel)) (MulF h1 h2)
    cases h
  · rename_i a b
    obtain ⟨hs, h⟩ := bif_some h
    cases h
    simp only [Bool.and_eq_true] at hs
    cases Nat.eq_of_beq_eq_true hs.2
    exact ret_tbl (en _ _ (by decide +kernel)) (ChkF (by have := sm_le hs.1.1; omega) (by have := sm_le hs.1.2; omega))
  · cases h
end Go.Proofs.YtahpbnmbphobgaaGreatDoor
