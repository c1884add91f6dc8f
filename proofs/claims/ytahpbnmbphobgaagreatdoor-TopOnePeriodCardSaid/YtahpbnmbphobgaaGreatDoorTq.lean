/- Returns over one period: the input, what comes of it, plain laws. No condition. -/
import Derived.Test.YtahpbnmbphobgaaGreatDoorTk
import Derived.Test.YtahpbnmbphobgaaGreatDoorEvc
namespace Go.Proofs.YtahpbnmbphobgaaGreatDoor
open Go.RowKit Go.Shelf Dec QQ Go.Proofs.Q.Ev
set_option linter.unusedVariables false
set_option linter.unusedSectionVars false

/-- two points, and a number of places; where they lie -/
structure Pd where
  v0 : ByteArray
  f0 : ByteArray
  v1 : ByteArray
  f1 : ByteArray
  d0 : Int
  d1 : Int
  pl : Int
  off : Nat
  cap : Nat
  row : Array Value × TypeId × (Nat × Nat)
def Pd.s (p : Pd) : Int := valS p.v0 + valS p.f0
def Pd.x (p : Pd) : Int := valS p.v1
def Pd.k (p : Pd) : Nat := (p.pl % 13).toNat
def Pd.U (p : Pd) : Int := 10 ^ p.k
def Pd.g (p : Pd) : Rat := rat p.x p.s
def Pd.q (p : Pd) : Nat := (p.x * p.U / p.s).toNat
def Pd.fa (p : Pd) (a : Nat) : Rat := rat (a : Int) p.U
def Pd.m (p : Pd) (f : Rat) : Rat := ((-p.s : Int) : Rat) * f
def Pd.ev (p : Pd) (f : Rat) : Rat := p.m f + (p.x : Rat)
def qN (q : Rat) : SV := .s (frN q)
def qD (q : Rat) : SV := .s (frD q)
def no : SV := .s ⟨#[]⟩
def svs (p : Pd) (a : Nat) : List SV := [.i .i64 p.d0, .s p.v0, .s p.f0, .i .i64 p.d1, .s p.v1, .s p.f1, .i .u8 p.pl, .i .i64 p.pl, .i .i64 (p.pl % 13), .s (canS p.U), .s (canS p.s), .s (canS (-p.s)), qN p.g, qD p.g, qN (p.g - 1), qD (p.g - 1), qN (p.g + 1), qD (p.g + 1),
  no, no, no, no, no, no, .s (canS p.q), qN (p.fa p.q), qD (p.fa p.q), .s (canS (p.q + 1 : Nat)), qN (p.fa (p.q + 1)), qD (p.fa (p.q + 1)), qN (p.ev (p.fa p.q)), qD (p.ev (p.fa p.q)), qN (p.m (p.fa p.q)), qD (p.m (p.fa p.q)), qN (p.m p.g), qD (p.m p.g), qN (p.m (p.g + 1)), qD (p.m (p.g + 1)), qN (p.ev (p.g + 1)), qD (p.ev (p.g + 1)),
  no, .s (canS (-(valS p.f0))), .s (canS (-(valS p.f1))), no, no, no, no, no, no, no, no, .i .i64 (dgN p.v0 : Nat), .i .i64 (dgN p.f0 : Nat), no, .i .i64 (dgN p.v1 : Nat), .i .i64 (dgN p.f1 : Nat), no, no, no, no, no,
  .s (canS (a : Int)), qN (p.fa a), qD (p.fa a), qN (p.m (p.fa a)), qD (p.m (p.fa a)), qN (p.ev (p.fa a)), qD (p.ev (p.fa a))]
abbrev sy (p : Pd) (a : Nat) : Sym := ⟨fun n => (svs p a).getD n no, fun _ => p.off, fun _ => p.cap, fun _ => p.row⟩
theorem sy_agree (p : Pd) (a b : Nat) : Agree (sy p a) (sy p b) 61 := ⟨fun n hn => by
  show (svs p a).getD n no = (svs p b).getD n no
  have : ∀ n, n < 61 → (svs p a).getD n no = (svs p b).getD n no := by
    intro n hn
    unfold svs
    have e : ∀ (l m t : List SV), n < l.length → (l ++ m).getD n no = (l ++ t).getD n no := fun l m t hl => by
      rw [List.getD_eq_getElem?_getD, List.getD_eq_getElem?_getD, List.getElem?_append_left hl, List.getElem?_append_left hl]
    exact e [.i .i64 p.d0, .s p.v0, .s p.f0, .i .i64 p.d1, .s p.v1, .s p.f1, .i .u8 p.pl, .i .i64 p.pl, .i .i64 (p.pl % 13), .s (canS p.U), .s (canS p.s), .s (canS (-p.s)), qN p.g, qD p.g, qN (p.g - 1), qD (p.g - 1), qN (p.g + 1), qD (p.g + 1),
  no, no, no, no, no, no, .s (canS p.q), qN (p.fa p.q), qD (p.fa p.q), .s (canS (p.q + 1 : Nat)), qN (p.fa (p.q + 1)), qD (p.fa (p.q + 1)), qN (p.ev (p.fa p.q)), qD (p.ev (p.fa p.q)), qN (p.m (p.fa p.q)), qD (p.m (p.fa p.q)), qN (p.m p.g), qD (p.m p.g), qN (p.m (p.g + 1)), qD (p.m (p.g + 1)), qN (p.ev (p.g + 1)), qD (p.ev (p.g + 1)),
  no, .s (canS (-(valS p.f0))), .s (canS (-(valS p.f1))), no, no, no, no, no, no, no, no, .i .i64 (dgN p.v0 : Nat), .i .i64 (dgN p.f0 : Nat), no, .i .i64 (dgN p.v1 : Nat), .i .i64 (dgN p.f1 : Nat), no, no, no, no, no] _ _ (by simpa using hn)
  exact this n hn, rfl, rfl, rfl⟩
/-- the input is valid -/
structure Good (p : Pd) : Prop where
  z1 : p.v0.size ≤ 60
  z2 : p.f0.size ≤ 60
  z4 : p.v1.size ≤ 60
  z5 : p.f1.size ≤ 60
  day0 : notDay p.d0 = false
  day1 : notDay p.d1 = false
  c1 : chk p.v0 = 0
  c2 : chk p.f0 = 0
  c4 : chk p.v1 = 0
  c5 : chk p.f1 = 0
  l1 : dgN p.v0 ≤ 40
  l2 : dgN p.f0 ≤ 40
  l4 : dgN p.v1 ≤ 40
  l5 : dgN p.f1 ≤ 40
  ord : p.d0 < p.d1
  x0 : 0 ≤ valS p.v0
  s0 : 0 < p.s
  x1 : 0 < p.x
  p0 : 0 ≤ p.pl
  p1 : p.pl < 256
section
variable {p : Pd} (h : Good p)
include h
theorem Good.fs : Fit 61 p.s := (Fit.val h.z1).add (Fit.val h.z2)
theorem Good.fx : Fit 60 p.x := Fit.val h.z4
theorem Good.k12 : p.k ≤ 12 := by have := h.p0; unfold Pd.k; omega
theorem Good.kk : ((p.k : Nat) : Int) = p.pl % 13 := by have := h.p0; unfold Pd.k; omega
theorem Good.U0 : 0 < p.U := Int.pow_pos (by omega)
theorem Good.fU : Fit 13 p.U := by
  show (10 ^ p.k : Int).natAbs < 10 ^ 13
  rw [Int.natAbs_pow]
  exact Nat.pow_lt_pow_right (by decide) (by have := h.k12; omega)
theorem Good.qs : (p.q : Int) * p.s ≤ p.x * p.U ∧ p.x * p.U < ((p.q + 1 : Nat) : Int) * p.s := by
  have hs := h.s0
  have hx : 0 ≤ p.x * p.U := Int.mul_nonneg (by have := h.x1; omega) (by have := h.U0; omega)
  have hq : (p.q : Int) = p.x * p.U / p.s := by
    unfold Pd.q
    exact Int.toNat_of_nonneg (Int.ediv_nonneg hx (by omega))
  have e := Int.mul_ediv_add_emod (p.x * p.U) p.s
  have e1 := Int.emod_nonneg (p.x * p.U) (show p.s ≠ 0 by omega)
  have e2 := Int.emod_lt_of_pos (p.x * p.U) hs
  rw [← hq] at e
  have e3 : p.s * (p.q : Int) = (p.q : Int) * p.s := Int.mul_comm _ _
  have e4 : ((p.q + 1 : Nat) : Int) * p.s = (p.q : Int) * p.s + p.s := by rw [Int.natCast_add, Int.add_mul]; simp
  constructor <;> omega
theorem Good.xU : (p.x * p.U).natAbs < 10 ^ 73 := by
  rw [Int.natAbs_mul]
  exact mul_lt10 h.fx h.fU
theorem Good.q73 : p.q < 10 ^ 73 := by
  have h1 := h.qs.1
  have h2 := h.xU
  have h3 : (p.q : Int) ≤ (p.q : Int) * p.s := by
    have := Int.mul_le_mul_of_nonneg_left (show (1 : Int) ≤ p.s from h.s0) (show (0 : Int) ≤ (p.q : Int) by omega)
    omega
  have h4 : 0 < p.x * p.U := Int.mul_pos h.x1 h.U0
  omega
theorem Good.a75 {a : Nat} (ha : a ≤ 2 * p.q + 2) : Fit 75 (a : Int) := by
  show (a : Int).natAbs < 10 ^ 75
  have := h.q73
  have e : 10 ^ 75 = 10 ^ 73 * 100 := by decide
  simp only [Int.natAbs_natCast]
  omega
theorem Good.ffa {a : Nat} (ha : a ≤ 2 * p.q + 2) : FitQ 75 (p.fa a) := FitQ.rat (h.a75 ha) h.fU (by omega)
theorem Good.fg : FitQ 61 p.g := FitQ.rat h.fx h.fs (by omega)
theorem Good.fm {k : Nat} {f : Rat} (hf : FitQ k f) : FitQ (61 + k) (p.m f) := (FitQ.int (z := -p.s) (by rw [Int.natAbs_neg]; exact h.fs) (by omega)).mul hf
theorem Good.fev {k : Nat} {f : Rat} (hf : FitQ k f) : FitQ (61 + k + 60 + 1) (p.ev f) := (h.fm hf).add (FitQ.int h.fx (by omega))
omit h in
theorem fit_one : FitQ 1 (1 : Rat) := ⟨by decide, by decide⟩
theorem Good.fg1 : FitQ 63 (p.g + 1) := h.fg.add fit_one
theorem Good.fgm : FitQ 63 (p.g - 1) := h.fg.sub fit_one
theorem Good.gs : (p.s : Rat) * p.g = (p.x : Rat) := by
  unfold Pd.g
  rw [rat_of (show p.s ≠ 0 by have := h.s0; omega)]
  have := intCast_ne (show p.s ≠ 0 by have := h.s0; omega)
  grind
theorem Good.mg : p.m p.g = ((-p.x : Int) : Rat) := by
  have := h.gs
  unfold Pd.m
  rw [Rat.intCast_neg, Rat.intCast_neg, ← this]
  grind
theorem Good.evg : p.ev p.g = 0 := by
  unfold Pd.ev
  rw [h.mg, Rat.intCast_neg]
  grind
theorem Good.evg1 : p.ev (p.g + 1) = ((-p.s : Int) : Rat) := by
  have := h.evg
  unfold Pd.ev Pd.m at *
  grind
theorem Good.eva (a : Nat) : p.ev (p.fa a) = rat (p.x * p.U - (a : Int) * p.s) p.U := by
  have hU : p.U ≠ 0 := by have := h.U0; omega
  unfold Pd.ev Pd.m Pd.fa
  rw [rat_of hU, rat_of hU]
  have := intCast_ne hU
  rw [Rat.intCast_sub, Rat.intCast_mul, Rat.intCast_mul, Rat.intCast_neg]
  grind
theorem Good.sgn (a : Nat) : cmpQ (p.ev (p.fa a)) 0 = if p.x * p.U - (a : Int) * p.s < 0 then -1 else if p.x * p.U - (a : Int) * p.s = 0 then 0 else 1 := by
  rw [h.eva]
  have := cmp_cross (a := p.x * p.U - (a : Int) * p.s) (b := p.U) (c := 0) (d := 1) h.U0 (by omega)
  rw [show rat 0 1 = 0 by rw [rat_one]; rfl] at this
  rw [← this]
  simp only [Int.mul_one, Int.zero_mul]
theorem Good.cmpa (a : Nat) : cmpQ (p.fa a) p.g = if (a : Int) * p.s < p.x * p.U then -1 else if (a : Int) * p.s = p.x * p.U then 0 else 1 := (cmp_cross h.U0 h.s0).symm
theorem Good.cmpg (a : Nat) : cmpQ p.g (p.fa a) = if p.x * p.U < (a : Int) * p.s then -1 else if p.x * p.U = (a : Int) * p.s then 0 else 1 := (cmp_cross h.s0 h.U0).symm
theorem Good.le_q {a : Nat} : a ≤ p.q ↔ (a : Int) * p.s ≤ p.x * p.U := by
  have h1 := h.qs
  constructor
  · intro ha
    have := Int.mul_le_mul_of_nonneg_right (show (a : Int) ≤ (p.q : Int) by omega) (show 0 ≤ p.s by have := h.s0; omega)
    omega
  · intro ha
    rcases Nat.lt_or_ge p.q a with hl | hl
    · have := Int.mul_le_mul_of_nonneg_right (show ((p.q + 1 : Nat) : Int) ≤ (a : Int) by omega) (show 0 ≤ p.s by have := h.s0; omega)
      omega
    · exact hl
theorem Good.gpos : 0 < p.g ∧ 0 < p.g + 1 := by
  have h1 : cmpQ 0 p.g = -1 := by
    have := cmp_cross (a := 0) (b := 1) (c := p.x) (d := p.s) (by omega) h.s0
    rw [show rat 0 1 = 0 by rw [rat_one]; rfl] at this
    show cmpQ 0 (rat p.x p.s) = -1
    rw [← this, if_pos (by have := h.x1; omega)]
  have h2 : 0 < p.g := cmpQ_neg.1 (by rw [h1]; decide)
  exact ⟨h2, by grind⟩
end
end Go.Proofs.YtahpbnmbphobgaaGreatDoor
