/- Fractions as rational numbers: numerators, denominators, sizes, comparisons. No condition. Fractions: strings and values. No condition. Regions that leave their order open: reads and calls that turn nothing old, then stores in one forced order. Plain facts; no condition. The state of a walk; contracts of calls that turn nothing old. Plain facts; condition: the library's table and error lie as the program's text lays them. Integer: the contracts in the walk's form. Conditions: strings of up to a million bytes. Fraction: contracts of reduced, made, parts. Conditions: strings of up to a million bytes. -/
import Derived.Test.YtahpbnmbphobgaaGreatDoorIe
import Derived.StillTail
import Derived.Deep.QuietTactic
import Derived.BigQuiet
import Derived.Below
import Derived.Test.YtahpbnmbphobgaaGreatDoorRa
import Derived.Handy
namespace QQ
/-- the value of a pair of integers, where a denominator of 0 stands for 1 -/
def rat (n d : Int) : Rat := if d = 0 then (n : Rat) else (n : Rat) / (d : Rat)
theorem rat_zero (n : Int) : rat n 0 = (n : Rat) := if_pos rfl
theorem rat_of {n d : Int} (h : d ≠ 0) : rat n d = (n : Rat) / (d : Rat) := if_neg h
theorem rat_divInt {n d : Int} (h : d ≠ 0) : rat n d = Rat.divInt n d := by rw [rat_of h, Rat.divInt_eq_div]
theorem rat_one (n : Int) : rat n 1 = (n : Rat) := by rw [rat_of (by decide)]; show (n : Rat) / 1 = n; grind
theorem intCast_ne {d : Int} (h : d ≠ 0) : (d : Rat) ≠ 0 := by
  intro e
  exact h (Rat.intCast_inj.1 (by rw [e]; rfl))
theorem rat_neg (n d : Int) (h : d ≠ 0) : rat (-n) (-d) = rat n d := by
  rw [rat_of h, rat_of (by omega)]
  have := intCast_ne h
  rw [Rat.intCast_neg, Rat.intCast_neg]
  grind
theorem rat_negn (n d : Int) : rat (-n) d = -rat n d := by
  unfold rat
  split <;> grind
theorem fdiv_gcd (n : Int) (d : Int) (m : Int) : m.fdiv (Nat.gcd n.natAbs d.natAbs : Nat) = m / (Int.gcd d n : Nat) := by
  rw [Int.fdiv_eq_ediv_of_nonneg _ (Int.natCast_nonneg _)]
  show _ = m / ((Nat.gcd d.natAbs n.natAbs : Nat) : Int)
  rw [Nat.gcd_comm]
theorem rat_num {n d : Int} (h : 0 < d) : (rat n d).num = n.fdiv (Nat.gcd n.natAbs d.natAbs : Nat) := by
  rw [rat_divInt (by omega), Rat.num_divInt, Int.sign_eq_one_of_pos h, Int.one_mul, fdiv_gcd]
theorem rat_den {n d : Int} (h : 0 < d) : ((rat n d).den : Int) = d.fdiv (Nat.gcd n.natAbs d.natAbs : Nat) := by
  rw [rat_divInt (by omega), Rat.den_divInt, if_neg (by omega), fdiv_gcd]
  rw [Int.natCast_ediv]
  congr 1
  omega
theorem rat_num_den (q : Rat) : rat q.num q.den = q := by
  rw [rat_divInt (by have := q.den_nz; omega), Rat.num_divInt_den]
theorem rat_le {n d : Int} : (rat n d).num.natAbs ≤ n.natAbs ∧ (d ≠ 0 → (rat n d).den ≤ d.natAbs) ∧ (d = 0 → (rat n d).den = 1) := by
  by_cases h : d = 0
  · subst h
    rw [rat_zero]
    exact ⟨by simp, by simp, by simp⟩
  · refine ⟨?_, fun _ => ?_, fun e => absurd e h⟩
    · rw [rat_divInt h, Rat.num_divInt]
      refine Nat.le_trans (Int.natAbs_ediv_le_natAbs _ _) ?_
      rw [Int.natAbs_mul]
      have : d.sign.natAbs ≤ 1 := by rcases Int.lt_trichotomy d 0 with h1 | h1 | h1
                                     · rw [Int.sign_eq_neg_one_of_neg h1]; decide
                                     · exact absurd h1 h
                                     · rw [Int.sign_eq_one_of_pos h1]; decide
      calc d.sign.natAbs * n.natAbs ≤ 1 * n.natAbs := Nat.mul_le_mul_right _ this
        _ = n.natAbs := Nat.one_mul _
    · rw [rat_divInt h, Rat.den_divInt, if_neg h]
      exact Nat.div_le_self _ _
theorem rat_add {a b c d : Int} (hb : b ≠ 0) (hd : d ≠ 0) : rat (a * d + c * b) (b * d) = rat a b + rat c d := by
  have h1 := intCast_ne hb
  have h2 := intCast_ne hd
  rw [rat_of hb, rat_of hd, rat_of (Int.mul_ne_zero hb hd)]
  rw [Rat.intCast_add, Rat.intCast_mul, Rat.intCast_mul, Rat.intCast_mul]
  grind
theorem rat_sub {a b c d : Int} (hb : b ≠ 0) (hd : d ≠ 0) : rat (a * d - c * b) (b * d) = rat a b - rat c d := by
  have h1 := intCast_ne hb
  have h2 := intCast_ne hd
  rw [rat_of hb, rat_of hd, rat_of (Int.mul_ne_zero hb hd)]
  rw [Rat.intCast_sub, Rat.intCast_mul, Rat.intCast_mul, Rat.intCast_mul]
  grind
theorem rat_mul {a b c d : Int} (hb : b ≠ 0) (hd : d ≠ 0) : rat (a * c) (b * d) = rat a b * rat c d := by
  have h1 := intCast_ne hb
  have h2 := intCast_ne hd
  rw [rat_of hb, rat_of hd, rat_of (Int.mul_ne_zero hb hd)]
  rw [Rat.intCast_mul, Rat.intCast_mul]
  grind
theorem rat_quo {a b c d : Int} (hb : b ≠ 0) (hc : c ≠ 0) (hd : d ≠ 0) : rat (a * d) (b * c) = rat a b / rat c d := by
  have h1 := intCast_ne hb
  have h2 := intCast_ne hd
  have h3 := intCast_ne hc
  rw [rat_of hb, rat_of hd, rat_of (Int.mul_ne_zero hb hc)]
  rw [Rat.intCast_mul, Rat.intCast_mul]
  grind
theorem rat_ne {c d : Int} (hc : c ≠ 0) : rat c d ≠ 0 := by
  have h3 := intCast_ne hc
  by_cases hd : d = 0
  · subst hd; rw [rat_zero]; exact h3
  · have h2 := intCast_ne hd
    rw [rat_of hd]
    grind
theorem rat_eq_zero {c d : Int} : rat c d = 0 ↔ c = 0 := by
  refine ⟨fun h => Decidable.byContradiction fun hc => rat_ne hc h, fun h => ?_⟩
  subst h
  unfold rat
  split
  · rfl
  · show (0 : Rat) / (d : Rat) = 0; rw [Rat.div_def, Rat.zero_mul]
/-- the sign of a comparison -/
def cmpQ (x y : Rat) : Int := if x < y then -1 else if x = y then 0 else 1
theorem cmpQ_neg {x y : Rat} : cmpQ x y < 0 ↔ x < y := by
  unfold cmpQ
  split
  · simp [*]
  · split <;> simp [*]
theorem num_sub_neg (x y : Rat) : (x - y).num < 0 ↔ x < y := by
  have h : (x - y).num < 0 ↔ ¬ 0 ≤ x - y := by rw [← Rat.num_nonneg]; omega
  rw [h]
  grind
theorem num_sub_zero (x y : Rat) : (x - y).num = 0 ↔ x = y := by
  rw [Rat.num_eq_zero]
  grind
theorem cmp_num (x y : Rat) : (if (x - y).num < 0 then -1 else if (x - y).num = 0 then 0 else 1 : Int) = cmpQ x y := by
  unfold cmpQ
  simp only [num_sub_neg, num_sub_zero]
theorem cmp_cross {a b c d : Int} (hb : 0 < b) (hd : 0 < d) : (if a * d < c * b then -1 else if a * d = c * b then 0 else 1 : Int) = cmpQ (rat a b) (rat c d) := by
  have h1 : (0 : Rat) < (b : Rat) := Rat.intCast_pos.2 hb
  have h2 : (0 : Rat) < (d : Rat) := Rat.intCast_pos.2 hd
  have e1 : a * d < c * b ↔ rat a b < rat c d := by
    rw [rat_of (by omega), rat_of (by omega), Rat.div_lt_iff h1, ← Rat.intCast_lt_intCast, Rat.intCast_mul, Rat.intCast_mul]
    have : (c : Rat) / d * b = c * b / d := by grind
    rw [this, Rat.lt_div_iff h2]
  have e2 : a * d = c * b ↔ rat a b = rat c d := by
    rw [rat_of (by omega), rat_of (by omega), ← Rat.intCast_inj, Rat.intCast_mul, Rat.intCast_mul]
    grind
  unfold cmpQ
  simp only [e1, e2]
theorem floor_rat {n d : Int} (h : d ≠ 0) : n.fdiv d = (rat n d).floor := by
  rcases Int.lt_trichotomy d 0 with h1 | h1 | h1
  · rw [← Int.neg_fdiv_neg, ← rat_neg _ _ h]
    rw [Int.fdiv_eq_ediv_of_nonneg _ (by omega)]
    have hm := rat_divInt (n := -n) (d := -d) (by omega)
    obtain ⟨m, hm2⟩ : ∃ m : Nat, -d = m := ⟨(-d).toNat, by omega⟩
    rw [hm2] at hm ⊢
    rw [hm]
    apply Int.le_antisymm
    · rw [Rat.le_floor_iff, Rat.divInt_eq_div]
      have hp : (0 : Rat) < ((m : Int) : Rat) := Rat.intCast_pos.2 (by omega)
      rw [← Rat.not_lt, Rat.div_lt_iff hp, Rat.not_lt, ← Rat.intCast_mul, Rat.intCast_le_intCast]
      exact Int.ediv_mul_le _ (by omega)
    · have : (Rat.divInt (-n) m).floor < (-n) / (m : Int) + 1 := by
        rw [Rat.floor_lt_iff, Rat.divInt_eq_div]
        have hp : (0 : Rat) < ((m : Int) : Rat) := Rat.intCast_pos.2 (by omega)
        rw [Rat.div_lt_iff hp, ← Rat.intCast_mul, Rat.intCast_lt_intCast]
        exact Int.lt_ediv_add_one_mul_self _ (by omega)
      omega
  · exact absurd h1 h
  · rw [Int.fdiv_eq_ediv_of_nonneg _ (by omega)]
    have hm := rat_divInt (n := n) (d := d) (by omega)
    rw [hm]
    have hp : (0 : Rat) < (d : Rat) := Rat.intCast_pos.2 (by omega)
    apply Int.le_antisymm
    · rw [Rat.le_floor_iff, Rat.divInt_eq_div]
      rw [← Rat.not_lt, Rat.div_lt_iff hp, Rat.not_lt, ← Rat.intCast_mul, Rat.intCast_le_intCast]
      exact Int.ediv_mul_le _ (by omega)
    · have : (Rat.divInt n d).floor < n / d + 1 := by
        rw [Rat.floor_lt_iff, Rat.divInt_eq_div]
        rw [Rat.div_lt_iff hp, ← Rat.intCast_mul, Rat.intCast_lt_intCast]
        exact Int.lt_ediv_add_one_mul_self _ (by omega)
      omega
/-- numerator and denominator of at most k digits -/
def FitQ (k : Nat) (q : Rat) : Prop := q.num.natAbs < 10 ^ k ∧ q.den < 10 ^ k
theorem pow_le {k m : Nat} (h : k ≤ m) : 10 ^ k ≤ 10 ^ m := Nat.pow_le_pow_right (by omega) h
theorem FitQ.mono {k m : Nat} {q : Rat} (h : FitQ k q) (hk : k ≤ m) : FitQ m q := ⟨Nat.lt_of_lt_of_le h.1 (pow_le hk), Nat.lt_of_lt_of_le h.2 (pow_le hk)⟩
theorem FitQ.rat {k m : Nat} {n d : Int} (hn : n.natAbs < 10 ^ k) (hd : d.natAbs < 10 ^ m) (hm : 1 ≤ m) : FitQ (max k m) (rat n d) := by
  have h := rat_le (n := n) (d := d)
  refine ⟨Nat.lt_of_lt_of_le (Nat.lt_of_le_of_lt h.1 hn) (pow_le (by omega)), ?_⟩
  by_cases e : d = 0
  · rw [h.2.2 e]
    have := pow_le (show 1 ≤ max k m by omega)
    omega
  · exact Nat.lt_of_lt_of_le (Nat.lt_of_le_of_lt (h.2.1 e) hd) (pow_le (by omega))
theorem FitQ.int {k : Nat} {z : Int} (h : z.natAbs < 10 ^ k) (hk : 1 ≤ k) : FitQ k (z : Rat) := by
  refine ⟨h, ?_⟩
  have := pow_le hk
  simp
  omega
theorem den_pos (q : Rat) : 1 ≤ q.den := Nat.pos_of_ne_zero q.den_nz
theorem FitQ.of_rat {k m : Nat} {q : Rat} {n d : Int} (e : q = QQ.rat n d) (hn : n.natAbs < 10 ^ k) (hd : d.natAbs < 10 ^ m) (hm : m ≤ k) (h1 : 1 ≤ m) : FitQ k q := by
  rw [e]
  exact (FitQ.rat hn hd h1).mono (by omega)
theorem mul_lt10 {a b k m : Nat} (ha : a < 10 ^ k) (hb : b < 10 ^ m) : a * b < 10 ^ (k + m) := by
  rw [Nat.pow_add]
  exact Nat.mul_lt_mul_of_lt_of_le ha (Nat.le_of_lt hb) (Nat.pow_pos (by omega))
theorem FitQ.pos {k : Nat} {q : Rat} (h : FitQ k q) : 1 ≤ k := by
  rcases Nat.lt_or_ge k 1 with h1 | h1
  · have h2 := h.2
    have h3 := den_pos q
    obtain rfl : k = 0 := by omega
    simp at h2
    omega
  · exact h1
theorem nz (q : Rat) : (q.den : Int) ≠ 0 := by have := q.den_nz; omega
theorem FitQ.mul {k m : Nat} {p q : Rat} (h : FitQ k p) (h2 : FitQ m q) : FitQ (k + m) (p * q) := by
  refine FitQ.of_rat (n := p.num * q.num) (d := p.den * q.den) (k := k + m) (m := k + m) ?_ ?_ ?_ (Nat.le_refl _) (by have := h.pos; omega)
  · rw [rat_mul (nz p) (nz q), rat_num_den, rat_num_den]
  · rw [Int.natAbs_mul]; exact mul_lt10 h.1 h2.1
  · rw [Int.natAbs_mul]; exact mul_lt10 h.2 h2.2
theorem FitQ.add {k m : Nat} {p q : Rat} (h : FitQ k p) (h2 : FitQ m q) : FitQ (k + m + 1) (p + q) := by
  refine FitQ.of_rat (n := p.num * q.den + q.num * p.den) (d := p.den * q.den) (k := k + m + 1) (m := k + m) ?_ ?_ ?_ (by omega) (by have := h.pos; omega)
  · rw [rat_add (nz p) (nz q), rat_num_den, rat_num_den]
  · have a1 := mul_lt10 h.1 h2.2
    have a2 := mul_lt10 h2.1 h.2
    rw [Nat.add_comm m k] at a2
    have := Int.natAbs_add_le (p.num * q.den) (q.num * p.den)
    rw [Int.natAbs_mul, Int.natAbs_mul, Int.natAbs_natCast, Int.natAbs_natCast] at this
    rw [Nat.pow_succ]
    omega
  · rw [Int.natAbs_mul]; exact mul_lt10 h.2 h2.2
theorem FitQ.neg {k : Nat} {q : Rat} (h : FitQ k q) : FitQ k (-q) := by
  refine ⟨?_, h.2⟩
  rw [Rat.neg_num, Int.natAbs_neg]
  exact h.1
theorem FitQ.sub {k m : Nat} {p q : Rat} (h : FitQ k p) (h2 : FitQ m q) : FitQ (k + m + 1) (p - q) := by
  rw [Rat.sub_eq_add_neg]
  exact h.add h2.neg
theorem FitQ.inv {k : Nat} {q : Rat} (h : FitQ k q) : FitQ k q⁻¹ := by
  have hp := pow_le h.pos
  refine ⟨?_, ?_⟩
  · rw [Rat.num_inv, Int.natAbs_mul, Int.natAbs_natCast]
    have : q.num.sign.natAbs ≤ 1 := by
      rcases Int.lt_trichotomy q.num 0 with h1 | h1 | h1
      · rw [Int.sign_eq_neg_one_of_neg h1]; decide
      · rw [h1]; decide
      · rw [Int.sign_eq_one_of_pos h1]; decide
    exact Nat.lt_of_le_of_lt (Nat.le_trans (Nat.mul_le_mul_right _ this) (by omega)) h.2
  · rw [Rat.den_inv]
    split
    · omega
    · exact h.1
theorem FitQ.div {k m : Nat} {p q : Rat} (h : FitQ k p) (h2 : FitQ m q) : FitQ (k + m) (p / q) := by
  rw [Rat.div_def]
  exact h.mul h2.inv
end QQ
namespace Go.Proofs.YtahpbnmbphobgaaGreatDoor
open Go.RowKit Go.Shelf Dec QQ

/-- the strings of a canonical fraction -/
def frN (q : Rat) : ByteArray := canS q.num
def frD (q : Rat) : ByteArray := if q.den = 1 then ⟨#[]⟩ else canS q.den
/-- the value of a pair of strings -/
def ratV (n d : ByteArray) : Rat := rat (valS n) (valS d)
/-- a pair of strings as Go holds it; a canonical one -/
def FV (n d : ByteArray) : Value := .agg #[.string n, .string d]
def FR (q : Rat) : Value := .agg #[.string (frN q), .string (frD q)]
theorem frN_zero : frN 0 = ⟨#[]⟩ := by decide +kernel
theorem frD_zero : frD 0 = ⟨#[]⟩ := rfl
theorem ratV_fr (q : Rat) : ratV (frN q) (frD q) = q := by
  unfold ratV frN frD
  by_cases h : q.den = 1
  · rw [if_pos h, valS_canS]
    have := rat_num_den q
    rw [h] at this
    show rat q.num 0 = q
    rw [rat_zero]
    rw [← rat_one]
    exact this
  · rw [if_neg h, valS_canS, valS_canS, rat_num_den]
theorem fr_inj {p q : Rat} (h1 : frN p = frN q) (h2 : frD p = frD q) : p = q := by rw [← ratV_fr p, ← ratV_fr q, h1, h2]
/-- a pair of strings of a value, neither too long -/
def Vq (n d : ByteArray) (q : Rat) : Prop := ratV n d = q ∧ n.size ≤ 100000 ∧ d.size ≤ 100000
theorem Vq.arg {n d : ByteArray} (h : n.size ≤ 100000) (h2 : d.size ≤ 100000) : Vq n d (ratV n d) := ⟨rfl, h, h2⟩
theorem FitQ.sizes {k : Nat} {q : Rat} (h : FitQ k q) : (frN q).size ≤ k + 1 ∧ (frD q).size ≤ k + 1 := by
  refine ⟨size_canS h.1, ?_⟩
  unfold frD
  split
  · exact Nat.zero_le _
  · exact size_canS (by have := h.2; omega)
theorem Vq.fr {k : Nat} {q : Rat} (h : FitQ k q) (hk : k ≤ 99999) : Vq (frN q) (frD q) q := by
  have := FitQ.sizes h
  exact ⟨ratV_fr q, by omega, by omega⟩
theorem FitQ.arg {n d : ByteArray} {k : Nat} (h : n.size ≤ k) (h2 : d.size ≤ k) (hk : 1 ≤ k) : FitQ k (ratV n d) := by
  have := FitQ.rat (Fit.val h) (Fit.val h2) hk
  rwa [Nat.max_self] at this
end Go.Proofs.YtahpbnmbphobgaaGreatDoor
namespace Go.Proofs.YtahpbnmbphobgaaGreatDoor
open Go.RowKit

section
variable {P : Program} {ops : Array Oper} {md : Region.Mode} {C : World → Prop}
/-- the operations ahead of number n, in whatever order they come up -/
def HeadAny (P : Program) (md : Region.Mode) (ops : Array Oper) (C : World → Prop) (n : Nat) (L : Array Bool → Act → Prop) : Nat → Array Bool → Act → Prop
  | 0, s, a => L s a
  | f + 1, s, a => Region.ready md ops s ≠ [] ∧ ∀ i ∈ Region.ready md ops s, i < n ∧ qOp P ops C i (HeadAny P md ops C n L f (s.setIfInBounds i true)) a
theorem HeadAny.sound {n g : Nat} {L : Array Bool → Act → Prop} {Q : Exit → Act → World → Prop} (hL : ∀ s a w, C w → L s a → wpAny P md ops Q g s a w) :
    ∀ (f : Nat) (s : Array Bool) (a : Act) (w : World), C w → HeadAny P md ops C n L f s a → wpAny P md ops Q (f + g) s a w
  | 0, s, a, w, hw, h => by rw [Nat.zero_add]; exact hL s a w hw h
  | f + 1, s, a, w, hw, h => by
    rw [Nat.succ_add]
    exact ⟨fun h0 => absurd h0 h.1, fun i hi => wpOp_of_qOp hw (fun a' w' hw' h' => HeadAny.sound hL f _ a' w' hw' h') (h.2 i hi).2⟩
/-- an operation of the head that may come up, and that yields its value wherever it comes, may be taken first -/
theorem HeadAny.first {n i : Nat} {oi : Oper} {v : Value} {L : Array Bool → Act → Prop} (hi : ops[i]? = some oi) (hns : Region.noSelect ops = true)
    (hs : Region.sinkB md ops n = true) (hc : Region.chainB md ops n = true) (hn : n < ops.size) (hin : i < n)
    (hend : ∀ s a, L s a → ∀ j ∈ Region.ready md ops s, n ≤ j) :
    ∀ (f : Nat) (s : Array Bool) (a : Act), HeadInv md ops n s →
      (∀ j oj, ops[j]? = some oj → j ≠ i → s.getD j true = false → (∀ e ∈ oj.after, Region.binds md e = true → e.on ≠ i) → oi.apart ops oj = true) →
      i ∈ Region.ready md ops s → YieldsIn P ops C oi v a →
      HeadAny P md ops C n L f (s.setIfInBounds i true) (a.put oi.dst v) → HeadAny P md ops C n L (f + 1) s a := by
  intro f
  induction f with
  | zero =>
    intro s a inv _ hr hy H
    refine ⟨List.ne_nil_of_mem hr, fun j hj => ?_⟩
    have hlow : j < n := Nat.lt_of_not_le fun h => tail_waits hs hc hn inv _ i rfl hin (mem_ready.1 hr).1 j h hj
    refine ⟨hlow, ?_⟩
    by_cases e : j = i
    · subst e; exact hy.qOp hi H
    · exact absurd (hend _ _ H j (ready_mono hj e)) (Nat.not_le_of_lt hlow)
  | succ f ih =>
    intro s a inv hfree hr hy H
    have hun := (mem_ready.1 hr).1
    refine ⟨List.ne_nil_of_mem hr, fun j hj => ?_⟩
    have hlow : j < n := Nat.lt_of_not_le fun h => tail_waits hs hc hn inv _ i rfl hin hun j h hj
    refine ⟨hlow, ?_⟩
    by_cases e : j = i
    · subst e; exact hy.qOp hi H
    · obtain ⟨hju, oj, hoj, hall⟩ := mem_ready.1 hj
      have hno : ∀ x ∈ oj.after, Region.binds md x = true → x.on ≠ i := by
        intro x hx hb hxi
        have := hall x hx hb
        rw [hxi, getD_both hun] at this
        cases this
      have step := qOp_put hoj (hfree j oj hoj e hju hno) (fun cs b => Region.noSelect_spec hns i oi cs b hi) (fun cs b => Region.noSelect_spec hns j oj cs b hoj) hy (H.2 j (ready_mono hj e)).2
      refine qOp_mono (fun a' h3 => ih _ a' (inv.set hj hlow) ?_ (ready_mono hr (Ne.symm e)) h3.1 (by rw [Array.setIfInBounds_comm _ _ e]; exact h3.2)) step
      intro k ok hk hki hku hkn
      refine hfree k ok hk hki ?_ hkn
      by_cases hjk : j = k
      · subst hjk; exact hju
      · rwa [getD_set_ne true hjk] at hku
theorem HeadAny.lex {n g : Nat} {R : Act → Prop} (hns : Region.noSelect ops = true) (hs : Region.sinkB md ops n = true) (hc : Region.chainB md ops n = true) (hn : n < ops.size) :
    ∀ (l : List Oper) (k : Nat) (s : Array Bool) (a : Act), (∀ j, j < l.length → l[j]? = ops[k + j]?) → k + l.length = n → HeadInv md ops n s →
    Region.lexHead md ops g l.length k s = true → wpQuiet P ops C R l a →
    HeadAny P md ops C n (fun s' a' => Region.seqB md ops g n s' = true ∧ R a') l.length s a := by
  intro l
  induction l with
  | nil =>
    intro k s a _ hk _ hB h
    obtain rfl : k = n := hk
    exact ⟨hB, h⟩
  | cons o l ih =>
    intro k s a hl hk inv hB h
    have h0 : ops[k]? = some o := (hl 0 (Nat.succ_pos _)).symm
    rw [List.length_cons] at hk hB
    rw [Region.lexHead, Bool.and_eq_true, Bool.and_eq_true] at hB
    have hr : k ∈ Region.ready md ops s := List.contains_iff_mem.1 hB.1.1
    have hq : qOp P ops C k (wpQuiet P ops C R l) a := by unfold qOp; rw [h0]; exact h
    obtain ⟨v, hy, hK⟩ := yieldsIn_of_qOp h0 hq
    refine HeadAny.first h0 hns hs hc hn (by omega) (fun s' a' h' => seqB_ready h'.1) l.length s a inv (Region.free_spec h0 hB.1.2) hr hy ?_
    refine ih (k + 1) _ _ (fun j hj => ?_) (by omega) (inv.set hr (by omega)) hB.2 hK
    have := hl (j + 1) (by rw [List.length_cons]; omega)
    rw [List.getElem?_cons_succ] at this
    rw [this]
    congr 1
    omega
end

/-- a world in which all that lay in w lies as it did -/
structure Kept (w : World) where
  W : World
  low : Below w.heap.size w W
instance kept_some (w : World) : Nonempty (Kept w) := ⟨⟨w, Below.refl _ _⟩⟩
section
variable {P : Program} {w : World}
theorem Kept.block (u : Kept w) {b : Nat} (h : b < w.heap.size) : u.W.heap[b]? = w.heap[b]? := u.low.block b h
theorem Kept.cell (u : Kept w) {p : Addr} (h : p.block < w.heap.size) : u.W.cell? p = w.cell? p := u.low.cell h
theorem Kept.frozen (u : Kept w) {p : Addr} (h : p.block < w.heap.size) : u.W.frozen? p = w.frozen? p := u.low.frozen h
theorem Kept.cell_of {p : Addr} {v : Value} (h : w.cell? p = some v) (u : Kept w) : u.W.cell? p = some v := by rw [u.cell (block_lt_of_cell h)]; exact h
theorem kept_drew (w : World) : ∃ u : Kept w, { w with drawn := w.drawn + 1 } = u.W := ⟨⟨{ w with drawn := w.drawn + 1 }, ⟨rfl, rfl, rfl, Nat.le_refl _, fun _ _ => rfl⟩⟩, rfl⟩
theorem wp_region_kept {id : Nat} {Q : Exit → Act → World → Prop} {a : Act} {l : List Oper} (hm : P.follows .mixedOrders = true) (hB : Region.lexB .any l.toArray = true)
    (h : wpQuiet P l.toArray (fun w' => ∃ u : Kept w, w' = u.W) (fun a' => ∀ w', (∃ u : Kept w, w' = u.W) → Q .normal a' w') l a) : (Code.region id l.toArray true).wp P Q a w :=
  wp_region_quiet (C := fun w' => ∃ u : Kept w, w' = u.W) hm hB (kept_drew w) (by simpa using h)
theorem wp_region_kept_tail {id : Nat} {Q : Exit → Act → World → Prop} {a : Act} {l : List Oper} (n : Nat) (hm : P.follows .mixedOrders = true) (hB : Region.lexTailB .any l.toArray n = true)
    (h : wpQuiet P l.toArray (fun w' => ∃ u : Kept w, w' = u.W) (fun a' => ∀ w', (∃ u : Kept w, w' = u.W) → wpList P l.toArray Q (l.drop n) a' w') (l.take n) a) : (Code.region id l.toArray true).wp P Q a w := by
  simp only [Region.lexTailB, Bool.and_eq_true, decide_eq_true_eq] at hB
  obtain ⟨⟨⟨⟨hns, hn⟩, hs⟩, hc⟩, hlex⟩ := hB
  have hn' : n < l.length := hn
  have htl : (l.take n).length = n := by rw [List.length_take]; omega
  have hdl : (l.drop n).length = l.toArray.size - n := by rw [List.length_drop]; rfl
  have inv0 : HeadInv .any l.toArray n (Array.replicate l.toArray.size false) :=
    ⟨by simp, fun j oj _ hl => (by rw [getD_replicate_false] at hl; cases hl), fun t _ ht => getD_in (by simpa using ht) (getD_replicate_false _ _)⟩
  have H := HeadAny.lex (md := .any) (g := l.toArray.size - n) hns hs hc hn (l.take n) 0 _ a (fun j hj => by
    rw [htl] at hj
    simp [hj]) (by rw [htl]; exact Nat.zero_add n) inv0 (by rw [htl]; exact hlex) h
  have H2 := HeadAny.sound (Q := Q) (g := l.toArray.size - n) (fun s a' w' hw hL => by
    have := wpAny_of_seq (md := .any) (Q' := Q) (l.drop n) n s a' w' (fun j => by simp [List.getElem?_drop]) (by rw [hdl]; exact hL.1) (hL.2 w' hw)
    rwa [hdl] at this) _ _ _ _ (kept_drew w) H
  rw [htl, show n + (l.toArray.size - n) = l.toArray.size by omega] at H2
  exact wp_region_any hm H2
end
end Go.Proofs.YtahpbnmbphobgaaGreatDoor
namespace Go.Proofs.YtahpbnmbphobgaaGreatDoor
open Go.RowKit Go.Shelf Dec

/-- the call returns V and turns nothing that lay before it -/
def Ret (f : FuncId) (args : Array Value) (V : Value) : Prop := ∀ w, Gl w → Calls Tryz.prog f args w fun e w' => e = .returned V ∧ Below w.heap.size w w'
/-- between the call's start and now -/
def St (w0 w : World) : Prop := Gl w0 ∧ Below w0.heap.size w0 w
section
variable {w0 w w' : World} {f : FuncId} {args : Array Value} {V : Value}
theorem St.refl (h : Gl w) : St w w := ⟨h, Below.refl _ _⟩
theorem St.gl (h : St w0 w) : Gl w := h.1.below h.2
theorem St.size (h : St w0 w) : w0.heap.size ≤ w.heap.size := h.2.size
theorem St.on (h : St w0 w) (hb : Below w.heap.size w w') : St w0 w' := ⟨h.1, h.2.trans (hb.mono h.2.size)⟩
theorem St.alloc (h : St w0 w) (o : Obj) : St w0 (w.alloc o) := h.on ((Below.refl _ _).alloc (Nat.le_refl _) o)
theorem St.drew (h : St w0 w) : St w0 w.drew := h.on (Below.refl _ w).drew
theorem St.drewN (h : St w0 w) (n : Nat) : St w0 (w.drewN n) := h.on (below_drewN _ _ _)
theorem St.kept (h : St w0 w) (u : Kept w) : St w0 u.W := h.on u.low
theorem St.set (h : St w0 w) {b : Nat} (hb : w0.heap.size ≤ b) (i : Nat) (v : Value) : St w0 (w.setCell ⟨b, i, none⟩ v) := ⟨h.1, h.2.setCell hb v⟩
theorem Ret.step {Q : Ending → World → Prop} (h : Ret f args V) (hs : St w0 w) (k : ∀ w', St w0 w' → Below w.heap.size w w' → Q (.returned V) w') : Calls Tryz.prog f args w Q :=
  (h w hs.gl).mono fun _ w' ⟨he, hb⟩ => he ▸ k w' (hs.on hb) hb
theorem Ret.kept (h : Ret f args V) (hs : St w0 w) {u : Kept w} : Calls Tryz.prog f args u.W fun e w'' => e = .returned V ∧ ∃ u' : Kept w, w'' = u'.W :=
  (h u.W (hs.gl.below u.low)).mono fun _ w' ⟨he, hb⟩ => ⟨he, ⟨⟨w', u.low.trans (hb.mono u.low.size)⟩, rfl⟩⟩
/-- a block of cells of the call's own -/
def Bx (w : World) (b : Nat) (cs : Array Value) : Prop := ∃ T, w.heap[b]? = some (.cells cs T (0, 0))
theorem Bx.lt {b : Nat} {cs : Array Value} (h : Bx w b cs) : b < w.heap.size := by obtain ⟨T, h⟩ := h; exact (Array.getElem?_eq_some_iff.1 h).1
theorem Bx.cell {b : Nat} {cs : Array Value} (h : Bx w b cs) {i : Nat} {v : Value} (hi : cs[i]? = some v) : w.cell? ⟨b, i, none⟩ = some v := by obtain ⟨T, h⟩ := h; simp [World.cell?, h, hi]
theorem Bx.frozen {b : Nat} {cs : Array Value} (h : Bx w b cs) (i : Nat) : w.frozen? ⟨b, i, none⟩ = false := by obtain ⟨T, h⟩ := h; simp [World.frozen?, h]
theorem Bx.on {b : Nat} {cs : Array Value} (h : Bx w b cs) (hb : Below w.heap.size w w') : Bx w' b cs := by obtain ⟨T, h'⟩ := h; exact ⟨T, (hb.block b (Array.getElem?_eq_some_iff.1 h').1).trans h'⟩
theorem Bx.new (w : World) (cs : Array Value) (T : TypeId) : Bx (w.alloc (.cells cs T)) w.heap.size cs := ⟨T, heap_new w _⟩
theorem Bx.new1 (w : World) (o : Obj) (cs : Array Value) (T : TypeId) : Bx ((w.alloc o).alloc (.cells cs T)) (w.heap.size + 1) cs := by have := Bx.new (w.alloc o) cs T; rwa [World.size_alloc] at this
theorem Bx.new2 (w : World) (o o' : Obj) (cs : Array Value) (T : TypeId) : Bx (((w.alloc o).alloc o').alloc (.cells cs T)) (w.heap.size + 2) cs := by have := Bx.new1 (w.alloc o) o' cs T; rwa [World.size_alloc] at this
theorem Bx.new3 (w : World) (o o' o'' : Obj) (cs : Array Value) (T : TypeId) : Bx ((((w.alloc o).alloc o').alloc o'').alloc (.cells cs T)) (w.heap.size + 3) cs := by have := Bx.new2 (w.alloc o) o' o'' cs T; rwa [World.size_alloc] at this
theorem Bx.new4 (w : World) (o o' o'' o3 : Obj) (cs : Array Value) (T : TypeId) : Bx (((((w.alloc o).alloc o').alloc o'').alloc o3).alloc (.cells cs T)) (w.heap.size + 4) cs := by have := Bx.new3 (w.alloc o) o' o'' o3 cs T; rwa [World.size_alloc] at this
theorem Bx.drew {b : Nat} {cs : Array Value} (h : Bx w b cs) : Bx w.drew b cs := h.on (Below.refl _ w).drew
theorem Bx.kept {b : Nat} {cs : Array Value} (h : Bx w b cs) (u : Kept w) : Bx u.W b cs := h.on u.low
theorem Bx.keeps {b : Nat} {cs : Array Value} (h : Bx w b cs) {i : Nat} {v : Value} (hi : cs[i]? = some v) (u : Kept w) : u.W.cell? ⟨b, i, none⟩ = some v := (h.kept u).cell hi
theorem Bx.alloc {b : Nat} {cs : Array Value} (h : Bx w b cs) (o : Obj) : Bx (w.alloc o) b cs := h.on ((Below.refl _ _).alloc (Nat.le_refl _) o)
theorem Bx.set {b : Nat} {cs : Array Value} (h : Bx w b cs) (i : Nat) (v : Value) : Bx (w.setCell ⟨b, i, none⟩ v) b (cs.setIfInBounds i v) := by
  obtain ⟨T, h⟩ := h
  refine ⟨T, ?_⟩
  simp [World.setCell, Array.getElem?_modify, h]
theorem Bx.other {b c : Nat} {cs : Array Value} (h : Bx w b cs) (hc : b ≠ c) (i : Nat) (v : Value) : Bx (w.setCell ⟨c, i, none⟩ v) b cs := by
  obtain ⟨T, h⟩ := h
  exact ⟨T, (Below.heap_setCell w _ v b hc).trans h⟩
end
end Go.Proofs.YtahpbnmbphobgaaGreatDoor
namespace Go.Proofs.YtahpbnmbphobgaaGreatDoor
open Go.RowKit Go.Shelf Dec
section
variable {a b : ByteArray} {x y : Int}
theorem AddR (h1 : Vs a x) (h2 : Vs b y) : Ret 28 #[.string a, .string b] (.string (canS (x + y))) := fun w hg => AddV h1 h2 w hg
theorem SubR (h1 : Vs a x) (h2 : Vs b y) : Ret 58 #[.string a, .string b] (.string (canS (x - y))) := fun w hg => SubV h1 h2 w hg
theorem MulR (h1 : Vs a x) (h2 : Vs b y) : Ret 74 #[.string a, .string b] (.string (canS (x * y))) := fun w hg => MulV h1 h2 w hg
theorem NegR (h1 : Vs a x) : Ret 27 #[.string a] (.string (canS (-x))) := fun w hg => NegV h1 w hg
theorem CmpR (h1 : Vs a x) (h2 : Vs b y) : Ret 41 #[.string a, .string b] (.int .i64 (cmpI x y)) := fun w _ => CmpV h1 h2 w
theorem DivR (h1 : Vs a x) (h2 : Vs b y) (hy : y ≠ 0) : Ret 118 #[.string a, .string b] (.tuple #[.string (canS (x.fdiv y)), .string (canS (x.fmod y)), .int .i64 0]) := fun w hg => DivN h1 h2 hy w hg
theorem GcdR (h1 : Vs a x) (h2 : Vs b y) : Ret 120 #[.string a, .string b] (.string (canS (Nat.gcd x.natAbs y.natAbs : Nat))) := fun w hg => GcdV h1 h2 w hg
theorem CanR (h1 : Vs a x) : Ret 105 #[.string a] (.string (canS x)) := fun w _ => CanV h1 w
theorem ChkR (h1 : a.size ≤ 1000000) : Ret 60 #[.string a] (.int .i64 (chk a)) := fun w _ => check_any a w (by omega)
end
end Go.Proofs.YtahpbnmbphobgaaGreatDoor
namespace Go.Proofs.YtahpbnmbphobgaaGreatDoor
open Go.RowKit Go.Shelf Dec QQ

theorem fit_of_Vs {a : ByteArray} {x : Int} (h : Vs a x) : Fit 1000000 x := by rw [← h.1]; exact Fit.val h.2
theorem cmpI_lt {x y : Int} : decide (cmpI x y < 0) = decide (x < y) := by
  unfold cmpI
  split
  · simp [*]
  · split <;> simp [*]
theorem cmpI_eq {x y : Int} : (cmpI x y == 0) = decide (x = y) := by
  unfold cmpI
  split
  · simp; omega
  · split <;> simp [*]
theorem gcd_ne {x y : Int} (h : y ≠ 0) : ((Nat.gcd x.natAbs y.natAbs : Nat) : Int) ≠ 0 := by
  have : 0 < Nat.gcd x.natAbs y.natAbs := Nat.gcd_pos_of_pos_right _ (by omega)
  omega
theorem Vs.can' {a : ByteArray} {x z : Int} (h : Vs a x) (hz : z.natAbs ≤ x.natAbs) (hs : a.size ≤ 999999) : Vs (canS z) z :=
  Vs.can (k := 999999) (Nat.lt_of_le_of_lt hz (by have := Fit.val (a := a) hs; rw [h.1] at this; exact this)) (Nat.le_refl _)
/-- the greatest common divisor of two strings of known values is again one -/
theorem Vs.gcd {b : ByteArray} {x y : Int} (h : Vs b y) (hb : b.size ≤ 999999) (hy : y ≠ 0) : Vs (canS (Nat.gcd x.natAbs y.natAbs : Nat)) (Nat.gcd x.natAbs y.natAbs : Nat) :=
  h.can' (by rw [Int.natAbs_natCast]; exact Nat.le_of_dvd (by omega) (Nat.gcd_dvd_right _ _)) hb

set_option maxHeartbeats 1000000 in
theorem reduced_any {n d : ByteArray} {x y : Int} (h1 : Vs n x) (h2 : Vs d y) (s1 : n.size ≤ 999999) (s2 : d.size ≤ 999999) (hy : y ≠ 0) :
    Ret 79 #[.string n, .string d] (.tuple #[.string (canS (rat x y).num), .string (canS (rat x y).den)]) := by
  intro w hg
  have hs := St.refl hg
  have K1 := CmpR h2 Vs.nil
  by_cases hneg : y < 0
  · have q : decide (cmpI y 0 < 0) = true := by rw [cmpI_lt]; simpa using hneg
    have v1 : Vs (canS (-x)) (-x) := h1.can' (by omega) s1
    have v2 : Vs (canS (-y)) (-y) := h2.can' (by omega) s2
    have K2 := NegR h1
    have K3 := NegR h2
    have K4 := GcdR v1 v2
    have v3 : Vs (canS (Nat.gcd (-x).natAbs (-y).natAbs : Nat)) (Nat.gcd (-x).natAbs (-y).natAbs : Nat) := h2.can' (by rw [Int.natAbs_natCast]; exact Nat.le_trans (Nat.le_of_dvd (by omega) (Nat.gcd_dvd_right _ _)) (by omega)) s2
    have K5 := DivR v1 v3 (gcd_ne (by omega))
    have K6 := DivR v2 v3 (gcd_ne (by omega))
    have e1 := Lib.hid (rat_num (n := -x) (d := -y) (by omega))
    have e2 := Lib.hid (rat_den (n := -x) (d := -y) (by omega))
    rw [rat_neg x y hy] at e1 e2
    rw [← e1.out] at K5
    rw [← e2.out] at K6
    generalize canS (rat x y).num = rn at *
    generalize canS (rat x y).den = rd at *
    clear e1 e2
    generalize canS (Nat.gcd (-x).natAbs (-y).natAbs : Nat) = g at *
    generalize cmpI y 0 = c at *
    generalize canS (-x) = m at *
    generalize canS (-y) = k at *
    go_enter Tryz.func79, Tryz.ntmps79
    go_wp2_with fail
    refine K1.step hs ?_
    intro w1 hs _
    go_wp2_with fail
    refine K2.step hs ?_
    intro w1 hs _
    go_wp2_with fail
    refine K3.step hs ?_
    intro w1 hs _
    go_wp2_with fail
    refine K4.step hs ?_
    intro w1 hs _
    go_wp2_with fail
    refine K5.step hs ?_
    intro w1 hs _
    go_wp2_with fail
    refine K6.step hs ?_
    intro w1 hs _
    go_wp2_with fail
    go_ret2
    exact ⟨rfl, hs.2⟩
  · have q : decide (cmpI y 0 < 0) = false := by rw [cmpI_lt]; simpa using hneg
    have K4 := GcdR h1 h2
    have v3 := h2.gcd (x := x) s2 hy
    have K5 := DivR h1 v3 (gcd_ne hy)
    have K6 := DivR h2 v3 (gcd_ne hy)
    have e1 := Lib.hid (rat_num (n := x) (d := y) (by omega))
    have e2 := Lib.hid (rat_den (n := x) (d := y) (by omega))
    rw [← e1.out] at K5
    rw [← e2.out] at K6
    generalize canS (rat x y).num = rn at *
    generalize canS (rat x y).den = rd at *
    clear e1 e2
    generalize canS (Nat.gcd x.natAbs y.natAbs : Nat) = g at *
    generalize cmpI y 0 = c at *
    go_enter Tryz.func79, Tryz.ntmps79
    go_wp2_with fail
    refine K1.step hs ?_
    intro w1 hs _
    go_wp2_with fail
    refine K4.step hs ?_
    intro w1 hs _
    go_wp2_with fail
    refine K5.step hs ?_
    intro w1 hs _
    go_wp2_with fail
    refine K6.step hs ?_
    intro w1 hs _
    go_wp2_with fail
    go_ret2
    exact ⟨rfl, hs.2⟩
/-- the denominator that is meant -/
def dn (d : ByteArray) : ByteArray := if valS d = 0 then ⟨#[49]⟩ else d
theorem dn_ne (d : ByteArray) : valS (dn d) ≠ 0 := by
  unfold dn
  split
  · decide
  · assumption
theorem dn_rat (n d : ByteArray) : rat (valS n) (valS (dn d)) = ratV n d := by
  unfold dn ratV
  split
  · rename_i h
    rw [h, rat_zero]
    exact rat_one _
  · rfl
theorem dn_size (d : ByteArray) : (dn d).size ≤ d.size + 1 := by
  unfold dn
  split
  · show 1 ≤ _; omega
  · omega
theorem can_eq (z : Int) (s : ByteArray) (x : Int) (hx : canS x = s) : ((canS z).toList == s.toList) = decide (z = x) := by
  by_cases h : z = x
  · subst h
    rw [hx, decide_eq_true rfl]
    simp
  · rw [decide_eq_false h, beq_eq_false_iff_ne]
    intro e
    rw [toList_bytes, toList_bytes] at e
    have e2 : valS (canS z) = valS s := by unfold valS; rw [e]
    rw [← hx, valS_canS, valS_canS] at e2
    exact h e2
theorem one_eq (z : Int) : ((canS z).toList == [49]) = decide (z = 1) := by have := can_eq z ⟨#[49]⟩ 1 (by decide +kernel); rwa [toList_bytes ⟨#[49]⟩] at this
theorem nil_eq (z : Int) : ((canS z).toList == []) = decide (z = 0) := by have := can_eq z ⟨#[]⟩ 0 (by decide +kernel); rwa [toList_bytes ⟨#[]⟩] at this

set_option maxHeartbeats 1000000 in
theorem parts_any {n d : ByteArray} (s2 : d.size ≤ 999999) :
    Ret 40 #[FV n d] (.tuple #[.string n, .string (dn d)]) := by
  intro w hg
  unfold FV
  have hs := St.refl hg
  have K1 := CmpR (Vs.arg (s := d) (by omega)) Vs.nil
  have q : (cmpI (valS d) 0 == 0) = decide (valS d = 0) := cmpI_eq
  have e : dn d = if valS d = 0 then ⟨#[49]⟩ else d := rfl
  by_cases h : valS d = 0
  · rw [if_pos h] at e
    rw [decide_eq_true h] at q
    rw [e]
    clear e h
    generalize cmpI (valS d) 0 = c at *
    go_enter Tryz.func40, Tryz.ntmps40
    go_wp2_with fail
    refine K1.step (hs.alloc _) ?_
    intro w1 hs hb
    have x0 := ((Bx.new w #[.string n, .string d] 32).on hb).cell (i := 0) rfl
    go_wp2_with fail
    go_ret2
    exact ⟨rfl, hs.2⟩
  · rw [if_neg h] at e
    rw [decide_eq_false h] at q
    rw [e]
    clear e h
    generalize cmpI (valS d) 0 = c at *
    go_enter Tryz.func40, Tryz.ntmps40
    go_wp2_with fail
    refine K1.step (hs.alloc _) ?_
    intro w1 hs hb
    have x0 := ((Bx.new w #[.string n, .string d] 32).on hb).cell (i := 0) rfl
    have x1 := ((Bx.new w #[.string n, .string d] 32).on hb).cell (i := 1) rfl
    go_wp2_with fail
    go_quiet (fail)
    go_wp2_with fail
    go_ret2
    exact ⟨rfl, (hs.drewN _).2⟩

set_option maxHeartbeats 1000000 in
theorem made_any {n d : ByteArray} {x y : Int} (h1 : Vs n x) (h2 : Vs d y) (s1 : n.size ≤ 999999) (s2 : d.size ≤ 999999) (hy : y ≠ 0) :
    Ret 39 #[.string n, .string d] (FR (rat x y)) := by
  intro w hg
  have hs := St.refl hg
  have K1 := reduced_any h1 h2 s1 s2 hy
  have e := one_eq ((rat x y).den : Int)
  have e2 : frD (rat x y) = if (rat x y).den = 1 then ⟨#[]⟩ else canS (rat x y).den := rfl
  unfold FR frN
  generalize canS (rat x y).num = rn at *
  generalize canS (rat x y).den = rd at *
  by_cases h : (rat x y).den = 1
  · rw [decide_eq_true (by omega : ((rat x y).den : Int) = 1)] at e
    rw [if_pos h] at e2
    rw [e2]
    clear e2 h
    go_enter Tryz.func39, Tryz.ntmps39
    go_wp2_with fail
    refine K1.step (hs.alloc _) ?_
    intro w1 hs hb
    have hx := (Bx.new w #[.string ⟨#[]⟩, .string ⟨#[]⟩] 32).on hb
    have x0 := hx.cell (i := 0) (v := .string ⟨#[]⟩) rfl
    have x1 := hx.cell (i := 1) (v := .string ⟨#[]⟩) rfl
    have f0 := hx.frozen 0
    have f1 := hx.frozen 1
    go_wp2_with fail
    have hx2 := (hx.set 0 (.string rn)).set 1 (.string ⟨#[]⟩)
    have y0 := hx2.cell (i := 0) (v := .string rn) rfl
    have y1 := hx2.cell (i := 1) (v := .string ⟨#[]⟩) rfl
    have hs2 := (hs.set (b := w.heap.size) (Nat.le_refl _) 0 (.string rn)).set (b := w.heap.size) (Nat.le_refl _) 1 (.string ⟨#[]⟩)
    exact bodyPost_ret (v := .agg #[.string rn, .string ⟨#[]⟩]) (by simp [results, Tryz.results39, go_sem, y0, y1]) rfl ⟨rfl, hs2.2⟩
  · rw [decide_eq_false (by omega : ¬ ((rat x y).den : Int) = 1)] at e
    rw [if_neg h] at e2
    rw [e2]
    clear e2 h
    go_enter Tryz.func39, Tryz.ntmps39
    go_wp2_with fail
    refine K1.step (hs.alloc _) ?_
    intro w1 hs hb
    have hx := (Bx.new w #[.string ⟨#[]⟩, .string ⟨#[]⟩] 32).on hb
    have x0 := hx.cell (i := 0) (v := .string ⟨#[]⟩) rfl
    have x1 := hx.cell (i := 1) (v := .string ⟨#[]⟩) rfl
    have f0 := hx.frozen 0
    have f1 := hx.frozen 1
    go_wp2_with fail
    have hx2 := (hx.set 0 (.string rn)).set 1 (.string rd)
    have y0 := hx2.cell (i := 0) (v := .string rn) rfl
    have y1 := hx2.cell (i := 1) (v := .string rd) rfl
    have hs2 := (hs.set (b := w.heap.size) (Nat.le_refl _) 0 (.string rn)).set (b := w.heap.size) (Nat.le_refl _) 1 (.string rd)
    exact bodyPost_ret (v := .agg #[.string rn, .string rd]) (by simp [results, Tryz.results39, go_sem, y0, y1]) rfl ⟨rfl, hs2.2⟩
end Go.Proofs.YtahpbnmbphobgaaGreatDoor
