/- Returns over one period: comparisons, the lists of rules, the runs. Condition: the library's table and error lie as the program's text lays them. -/
import Derived.Test.YtahpbnmbphobgaaGreatDoorTr
namespace Go.Proofs.YtahpbnmbphobgaaGreatDoor
open Go.RowKit Go.Shelf Dec QQ Go.Proofs.Q.Ev
set_option linter.unusedVariables false
set_option linter.unusedSimpArgs false
set_option linter.unusedSectionVars false

theorem b_gtr (t : TypeId) (x y : Operand) (a b : Int) (w : World) : (do eqGuard .gtr t x y (.int .i64 a) (.int .i64 b); Go.binOp .gtr t (.int .i64 a) (.int .i64 b) : Sem Value).run Tryz.prog w = .ok (.bool (decide (b < a))) w := by
  rfl
theorem b_lss (t : TypeId) (x y : Operand) (a b : Int) (w : World) : (do eqGuard .lss t x y (.int .i64 a) (.int .i64 b); Go.binOp .lss t (.int .i64 a) (.int .i64 b) : Sem Value).run Tryz.prog w = .ok (.bool (decide (a < b))) w := by
  rfl
theorem b_geq (t : TypeId) (x y : Operand) (a b : Int) (w : World) : (do eqGuard .geq t x y (.int .i64 a) (.int .i64 b); Go.binOp .geq t (.int .i64 a) (.int .i64 b) : Sem Value).run Tryz.prog w = .ok (.bool (decide (b ≤ a))) w := by
  rfl
theorem b_leq (t : TypeId) (x y : Operand) (a b : Int) (w : World) : (do eqGuard .leq t x y (.int .i64 a) (.int .i64 b); Go.binOp .leq t (.int .i64 a) (.int .i64 b) : Sem Value).run Tryz.prog w = .ok (.bool (decide (a ≤ b))) w := by
  rfl
theorem b_rem (t : TypeId) (x y : Operand) (a b : Int) (hb : b ≠ 0) (w : World) : (do eqGuard .rem t x y (.int .i64 a) (.int .i64 b); Go.binOp .rem t (.int .i64 a) (.int .i64 b) : Sem Value).run Tryz.prog w = .ok (.int .i64 (a.tmod b)) w := by
  simp [go_sem, eqGuard, hb]
theorem b_seq (t : TypeId) (ht : Tryz.prog.underlying t = some .string) (x y : Operand) (a b : ByteArray) (w : World) : (do eqGuard .eql t x y (.string a) (.string b); Go.binOp .eql t (.string a) (.string b) : Sem Value).run Tryz.prog w = .ok (.bool (a.toList == b.toList)) w := by
  simp [go_sem, eqGuard, ht]
theorem b_sne (t : TypeId) (ht : Tryz.prog.underlying t = some .string) (x y : Operand) (a b : ByteArray) (w : World) : (do eqGuard .neq t x y (.string a) (.string b); Go.binOp .neq t (.string a) (.string b) : Sem Value).run Tryz.prog w = .ok (.bool (!(a.toList == b.toList))) w := by
  simp [go_sem, eqGuard, ht]
theorem g_frac (x y : Operand) (a b : Array Value) (w : World) : (eqGuard .eql 32 x y (.agg a) (.agg b)).run Tryz.prog w = .ok () w := by
  have hge : Tryz.prog.eqGuardType Tryz.prog.depth 32 = false := by decide +kernel
  generalize Tryz.prog = P at *
  generalize 32 = t at *
  show (do if !(← program).eqGuardType (← program).depth t then return
           if ← Op.eqGuardIn Op.maxDepth t (.agg a) (.agg b) then unsupported (.noEntry "binop/eql: two nil values of an interface type with methods, in a part of a struct or an array") : Sem Unit).run P w = _
  simp [hge, Sem.run]
theorem b_feq (x y : Operand) (a b c d : ByteArray) (w : World) : (do eqGuard .eql 32 x y (.agg #[.string a, .string b]) (.agg #[.string c, .string d]); Go.binOp .eql 32 (.agg #[.string a, .string b]) (.agg #[.string c, .string d]) : Sem Value).run Tryz.prog w = .ok (.bool ((a.toList == c.toList) && (b.toList == d.toList))) w := by
  have h1 := g_frac x y #[.string a, .string b] #[.string c, .string d] w
  have h2 := eqlF a b c d w
  generalize Tryz.prog = P at *
  rw [Sem.run_bind, h1]
  exact h2
theorem b_cnv (a : Int) (w : World) : (convert 5 3 (.int .u8 a)).run Tryz.prog w = .ok (.int .i64 (IntKind.wrap .i64 a)) w := by
  simp [go_sem]

theorem bo {p : Pd} {a : Nat} {op : BinOp} {t : TypeId} {x y v : AV} {A B V : Value} (hcl : v.names = []) (ha : ∀ E, @conc (sy p a) E x = A) (hb : ∀ E, @conc (sy p a) E y = B) (hv : ∀ E, @conc (sy p a) E v = V)
    (h : ∀ (x y : Operand) (w : World), (do eqGuard op t x y A B; Go.binOp op t A B : Sem Value).run Tryz.prog w = .ok V w) : @BOK (sy p a) Tryz.prog (op, t, x, y, v) :=
  ⟨fun D => @names_in (sy p a) D v (fun n hn => by rw [hcl] at hn; cases hn), fun E x y w => by dsimp only; rw [ha E, hb E, hv E]; exact h x y w⟩
def BT (p : Pd) (a : Nat) (L : BTbl) : Prop := ∀ r ∈ L, @BOK (sy p a) Tryz.prog r
theorem obn {p : Pd} {a : Nat} : BT p a [] := fun r h => by cases h
theorem ob {p : Pd} {a : Nat} {r : BinOp × TypeId × AV × AV × AV} {l : BTbl} (h : @BOK (sy p a) Tryz.prog r) (hl : BT p a l) : BT p a (r :: l) := @all_cons (sy p a) _ _ _ _ h hl
theorem toList_nil : (⟨#[]⟩ : ByteArray).toList = [] := by rw [ByteArray.toList_eq]
theorem wrap_in {z : Int} (h0 : 0 ≤ z) (h1 : z < 256) : IntKind.wrap .i64 z = z := by
  have := @Go.Proofs.Q.Ev.wrap_small noSym z.toNat (by omega)
  rwa [Int.toNat_of_nonneg h0] at this
theorem ocn {p : Pd} {a : Nat} : @RulesOK (sy p a) Tryz.prog Gl [] := @rules_nil (sy p a) _ _
theorem oc {p : Pd} {a : Nat} {f : FuncId} {args : List AV} {v : AV} {l : Rules} (h : RO p a f args v) (hl : @RulesOK (sy p a) Tryz.prog Gl l) : @RulesOK (sy p a) Tryz.prog Gl ((f, args, v) :: l) := @rules_cons (sy p a) _ _ _ _ h hl
theorem str_t : Tryz.prog.underlying 27 = some .string := by kernel_rfl
section
variable {p : Pd} {a : Nat}
theorem t_dg1 {d : Bool} (hd : decide (40 < dgN p.v0) = d) : @BOK (sy p a) Tryz.prog (.gtr, 3, .sym 51, .lit (.int .i64 (40)), .lit (.bool d)) := bo rfl (fun E => rfl) (fun E => rfl) (fun E => rfl) (fun x y w => by rw [b_gtr, ← hd]; congr 2; rw [decide_eq_decide]; omega)
theorem t_dg2 {d : Bool} (hd : decide (40 < dgN p.f0) = d) : @BOK (sy p a) Tryz.prog (.gtr, 3, .sym 52, .lit (.int .i64 (40)), .lit (.bool d)) := bo rfl (fun E => rfl) (fun E => rfl) (fun E => rfl) (fun x y w => by rw [b_gtr, ← hd]; congr 2; rw [decide_eq_decide]; omega)
theorem t_dg4 {d : Bool} (hd : decide (40 < dgN p.v1) = d) : @BOK (sy p a) Tryz.prog (.gtr, 3, .sym 54, .lit (.int .i64 (40)), .lit (.bool d)) := bo rfl (fun E => rfl) (fun E => rfl) (fun E => rfl) (fun x y w => by rw [b_gtr, ← hd]; congr 2; rw [decide_eq_decide]; omega)
theorem t_dg5 {d : Bool} (hd : decide (40 < dgN p.f1) = d) : @BOK (sy p a) Tryz.prog (.gtr, 3, .sym 55, .lit (.int .i64 (40)), .lit (.bool d)) := bo rfl (fun E => rfl) (fun E => rfl) (fun E => rfl) (fun x y w => by rw [b_gtr, ← hd]; congr 2; rw [decide_eq_decide]; omega)
theorem t_or {d : Bool} (hd : decide (p.d1 ≤ p.d0) = d) : @BOK (sy p a) Tryz.prog (.geq, 26, .sym 0, .sym 3, .lit (.bool d)) := bo rfl (fun E => rfl) (fun E => rfl) (fun E => rfl) (fun x y w => by rw [b_geq, hd])
theorem t_e4 {d : Bool} (hd : (p.v1.toList == []) = d) : @BOK (sy p a) Tryz.prog (.eql, 27, .sym 4, .lit (.string ⟨#[]⟩), .lit (.bool d)) := bo rfl (fun E => rfl) (fun E => rfl) (fun E => rfl) (fun x y w => by rw [b_seq _ str_t, toList_nil, hd])
theorem t_n4 {d : Bool} (hd : (p.v1.toList == []) = d) : @BOK (sy p a) Tryz.prog (.neq, 27, .sym 4, .lit (.string ⟨#[]⟩), .lit (.bool (!d))) := bo rfl (fun E => rfl) (fun E => rfl) (fun E => rfl) (fun x y w => by rw [b_sne _ str_t, toList_nil, hd])
theorem t_n11 (h : Good p) : @BOK (sy p a) Tryz.prog (.neq, 27, .sym 11, .lit (.string ⟨#[]⟩), .lit (.bool true)) := bo rfl (fun E => rfl) (fun E => rfl) (fun E => rfl) (fun x y w => by rw [b_sne _ str_t, toList_nil, nil_eq, decide_eq_false (by have := h.s0; omega)]; rfl)
theorem day_in {D : Int} (h : notDay D = false) : -25567 ≤ D ∧ D ≤ 84005 := by unfold notDay at h; rw [Bool.or_eq_false_iff, decide_eq_false_iff_not, decide_eq_false_iff_not] at h; omega
theorem t_ge0 (h : Good p) : @BOK (sy p a) Tryz.prog (.geq, 26, .sym 0, .lit (.int .i64 (-25567)), .lit (.bool true)) := bo rfl (fun E => rfl) (fun E => rfl) (fun E => rfl) (fun x y w => by rw [b_geq, decide_eq_true (by have := day_in h.day0; omega)])
theorem t_le0 (h : Good p) : @BOK (sy p a) Tryz.prog (.leq, 26, .sym 0, .lit (.int .i64 (84005)), .lit (.bool true)) := bo rfl (fun E => rfl) (fun E => rfl) (fun E => rfl) (fun x y w => by rw [b_leq, decide_eq_true (by have := day_in h.day0; omega)])
theorem t_ge3 (h : Good p) : @BOK (sy p a) Tryz.prog (.geq, 26, .sym 3, .lit (.int .i64 (-25567)), .lit (.bool true)) := bo rfl (fun E => rfl) (fun E => rfl) (fun E => rfl) (fun x y w => by rw [b_geq, decide_eq_true (by have := day_in h.day1; omega)])
theorem t_le3 (h : Good p) : @BOK (sy p a) Tryz.prog (.leq, 26, .sym 3, .lit (.int .i64 (84005)), .lit (.bool true)) := bo rfl (fun E => rfl) (fun E => rfl) (fun E => rfl) (fun x y w => by rw [b_leq, decide_eq_true (by have := day_in h.day1; omega)])
theorem t_l30 (h : Good p) : @BOK (sy p a) Tryz.prog (.leq, 26, .sym 3, .sym 0, .lit (.bool false)) := bo rfl (fun E => rfl) (fun E => rfl) (fun E => rfl) (fun x y w => by rw [b_leq, decide_eq_false (by have := h.ord; omega)])
theorem t_l8 (h : Good p) : @BOK (sy p a) Tryz.prog (.lss, 3, .sym 8, .lit (.int .i64 (0)), .lit (.bool false)) := bo rfl (fun E => rfl) (fun E => rfl) (fun E => rfl) (fun x y w => by rw [b_lss, decide_eq_false (by have := h.p0; omega)])
theorem t_g8 (h : Good p) : @BOK (sy p a) Tryz.prog (.gtr, 3, .sym 8, .lit (.int .i64 (12)), .lit (.bool false)) := bo rfl (fun E => rfl) (fun E => rfl) (fun E => rfl) (fun x y w => by rw [b_gtr, decide_eq_false (by have := h.p0; omega)])
theorem t_rm (h : Good p) : @BOK (sy p a) Tryz.prog (.rem, 3, .sym 7, .lit (.int .i64 (13)), .sym 8) := bo rfl (fun E => rfl) (fun E => rfl) (fun E => rfl) (fun x y w => by rw [b_rem _ _ _ _ _ (by decide), Int.tmod_eq_emod_of_nonneg h.p0])
theorem frN_nil (q : Rat) : ((frN q).toList == []) = decide (q = 0) := by
  unfold frN
  rw [nil_eq, decide_eq_decide]
  exact Rat.num_eq_zero
theorem frD_nil0 : (frD 0).toList = [] := by rw [frD_zero]; exact toList_nil
theorem frac_zero {q : Rat} {d : Bool} (hd : decide (q = 0) = d) : ((frN q).toList == []) = d ∧ ((d = true) → ((frD q).toList == []) = true) := by
  refine ⟨by rw [frN_nil, hd], fun e => ?_⟩
  have : q = 0 := of_decide_eq_true (by rw [hd, e])
  rw [this, frD_nil0]
  rfl
theorem feq_zero (x y : Operand) {q : Rat} {d : Bool} (hd : decide (q = 0) = d) (w : World) : (do eqGuard .eql 32 x y (.agg #[.string (frN q), .string (frD q)]) (.agg #[.string ⟨#[]⟩, .string ⟨#[]⟩]); Go.binOp .eql 32 (.agg #[.string (frN q), .string (frD q)]) (.agg #[.string ⟨#[]⟩, .string ⟨#[]⟩]) : Sem Value).run Tryz.prog w = .ok (.bool d) w := by
  have h1 := b_feq x y (frN q) (frD q) ⟨#[]⟩ ⟨#[]⟩ w
  obtain ⟨h2, h3⟩ := frac_zero hd
  rw [toList_nil, h2] at h1
  cases d with
  | true => rw [h3 rfl] at h1; exact h1
  | false => exact h1
theorem Good.fa0 (h : Good p) (n : Nat) : p.fa n = 0 ↔ n = 0 := by
  unfold Pd.fa
  rw [rat_eq_zero]
  omega
theorem t_zG {d : Bool} (hd : decide (p.g = 0) = d) : @BOK (sy p a) Tryz.prog (.eql, 32, .agg [.sym 12, .sym 13], .agg [.lit (.string ⟨#[]⟩), .lit (.string ⟨#[]⟩)], .lit (.bool d)) := bo rfl (fun E => rfl) (fun E => rfl) (fun E => rfl) (fun x y w => feq_zero x y hd w)
theorem t_zM {d : Bool} (hd : decide ((p.g + 1) = 0) = d) : @BOK (sy p a) Tryz.prog (.eql, 32, .agg [.sym 16, .sym 17], .agg [.lit (.string ⟨#[]⟩), .lit (.string ⟨#[]⟩)], .lit (.bool d)) := bo rfl (fun E => rfl) (fun E => rfl) (fun E => rfl) (fun x y w => feq_zero x y hd w)
theorem t_zL {d : Bool} (hd : decide ((p.fa p.q) = 0) = d) : @BOK (sy p a) Tryz.prog (.eql, 32, .agg [.sym 25, .sym 26], .agg [.lit (.string ⟨#[]⟩), .lit (.string ⟨#[]⟩)], .lit (.bool d)) := bo rfl (fun E => rfl) (fun E => rfl) (fun E => rfl) (fun x y w => feq_zero x y hd w)
theorem t_zA {d : Bool} (hd : decide ((p.fa a) = 0) = d) : @BOK (sy p a) Tryz.prog (.eql, 32, .agg [.sym 62, .sym 63], .agg [.lit (.string ⟨#[]⟩), .lit (.string ⟨#[]⟩)], .lit (.bool d)) := bo rfl (fun E => rfl) (fun E => rfl) (fun E => rfl) (fun x y w => feq_zero x y hd w)
def CT : CTbl := [(5, 3, .sym 6, .sym 7)]
theorem CT_ok (h0 : 0 ≤ p.pl) (h1 : p.pl < 256) : ∀ r ∈ CT, @COK (sy p a) Tryz.prog r := @all_cons (sy p a) _ _ _ _ ⟨fun D => trivial, fun E w => by
  show (convert 5 3 (.int .u8 p.pl)).run Tryz.prog w = .ok (.int .i64 p.pl) w
  rw [b_cnv]
  congr 2
  exact wrap_in h0 h1⟩ (@all_nil (sy p a) _ _)
end
def RM (g0 cl ml mh : Int) : Rules := [(15, [.sym 1], .lit (.bool false)),
  (15, [.sym 2], .lit (.bool false)),
  (15, [.sym 4], .lit (.bool false)),
  (15, [.sym 5], .lit (.bool false)),
  (16, [.sym 0], .lit (.int .i64 (0))),
  (16, [.sym 3], .lit (.int .i64 (0))),
  (17, [.sym 1], .lit (.int .i64 (0))),
  (17, [.sym 2], .lit (.int .i64 (0))),
  (17, [.sym 4], .lit (.int .i64 (0))),
  (17, [.sym 5], .lit (.int .i64 (0))),
  (18, [.sym 1], .sym 51),
  (18, [.sym 2], .sym 52),
  (18, [.sym 4], .sym 54),
  (18, [.sym 5], .sym 55),
  (19, [.sym 1], .lit (.int .i64 (g0))),
  (20, [.sym 1, .sym 2], .sym 10),
  (19, [.sym 10], .lit (.int .i64 (1))),
  (19, [.sym 4], .lit (.int .i64 (1))),
  (60, [.sym 1], .lit (.int .i64 (0))),
  (61, [.sym 1], .lit (.bool false)),
  (60, [.sym 2], .lit (.int .i64 (0))),
  (61, [.sym 2], .lit (.bool false)),
  (60, [.sym 4], .lit (.int .i64 (0))),
  (61, [.sym 4], .lit (.bool false)),
  (60, [.sym 5], .lit (.int .i64 (0))),
  (61, [.sym 5], .lit (.bool false)),
  (60, [.sym 11], .lit (.int .i64 (0))),
  (41, [.sym 1, .lit (.string ⟨#[]⟩)], .lit (.int .i64 (g0))),
  (41, [.sym 10, .lit (.string ⟨#[]⟩)], .lit (.int .i64 (1))),
  (41, [.sym 4, .lit (.string ⟨#[]⟩)], .lit (.int .i64 (1))),
  (41, [.sym 11, .lit (.string ⟨#[]⟩)], .lit (.int .i64 (-1))),
  (28, [.sym 1, .sym 2], .sym 10),
  (27, [.sym 2], .sym 41),
  (27, [.sym 5], .sym 42),
  (27, [.sym 10], .sym 11),
  (71, [.lit (.int .i64 (0))], .lit (.string ⟨#[]⟩)),
  (71, [.lit (.int .i64 (1))], .lit (.string ⟨#[49]⟩)),
  (28, [.lit (.string ⟨#[]⟩), .sym 11], .sym 11),
  (28, [.lit (.string ⟨#[]⟩), .sym 4], .sym 4),
  (31, [.lit (.string ⟨#[49, 48]⟩), .sym 8], .tup [.sym 9, .lit (.int .i64 (0))]),
  (11, [.lit (.string ⟨#[49]⟩)], .agg [.lit (.string ⟨#[49]⟩), .lit (.string ⟨#[]⟩)]),
  (33, [.sym 4, .sym 10], .tup [.agg [.sym 12, .sym 13], .lit (.int .i64 (0))]),
  (63, [.agg [.lit (.string ⟨#[49]⟩), .lit (.string ⟨#[]⟩)], .agg [.sym 12, .sym 13]], .agg [.sym 12, .sym 13]),
  (24, [.agg [.sym 12, .sym 13], .agg [.lit (.string ⟨#[49]⟩), .lit (.string ⟨#[]⟩)]], .agg [.sym 14, .sym 15]),
  (10, [.agg [.sym 14, .sym 15], .agg [.lit (.string ⟨#[49]⟩), .lit (.string ⟨#[]⟩)]], .agg [.sym 12, .sym 13]),
  (10, [.agg [.sym 12, .sym 13], .agg [.lit (.string ⟨#[49]⟩), .lit (.string ⟨#[]⟩)]], .agg [.sym 16, .sym 17]),
  (63, [.agg [.lit (.string ⟨#[]⟩), .lit (.string ⟨#[]⟩)], .agg [.lit (.string ⟨#[49]⟩), .lit (.string ⟨#[]⟩)]], .agg [.lit (.string ⟨#[]⟩), .lit (.string ⟨#[]⟩)]),
  (11, [.sym 11], .agg [.sym 11, .lit (.string ⟨#[]⟩)]),
  (11, [.sym 4], .agg [.sym 4, .lit (.string ⟨#[]⟩)]),
  (10, [.agg [.lit (.string ⟨#[]⟩), .lit (.string ⟨#[]⟩)], .agg [.sym 11, .lit (.string ⟨#[]⟩)]], .agg [.sym 11, .lit (.string ⟨#[]⟩)]),
  (119, [.agg [.sym 25, .sym 26], .lit (.int .i64 (0))], .tup [.agg [.lit (.string ⟨#[49]⟩), .lit (.string ⟨#[]⟩)], .lit (.int .i64 (0))]),
  (119, [.agg [.sym 25, .sym 26], .lit (.int .i64 (1))], .tup [.agg [.sym 25, .sym 26], .lit (.int .i64 (0))]),
  (63, [.agg [.sym 11, .lit (.string ⟨#[]⟩)], .agg [.sym 25, .sym 26]], .agg [.sym 32, .sym 33]),
  (10, [.agg [.sym 32, .sym 33], .agg [.sym 4, .lit (.string ⟨#[]⟩)]], .agg [.sym 30, .sym 31]),
  (12, [.agg [.sym 30, .sym 31], .agg [.lit (.string ⟨#[]⟩), .lit (.string ⟨#[]⟩)]], .lit (.int .i64 (cl))),
  (33, [.sym 24, .sym 9], .tup [.agg [.sym 25, .sym 26], .lit (.int .i64 (0))]),
  (28, [.sym 24, .lit (.string ⟨#[49]⟩)], .sym 27),
  (33, [.sym 27, .sym 9], .tup [.agg [.sym 28, .sym 29], .lit (.int .i64 (0))]),
  (12, [.agg [.sym 25, .sym 26], .agg [.sym 12, .sym 13]], .lit (.int .i64 (ml))),
  (12, [.agg [.sym 12, .sym 13], .agg [.sym 25, .sym 26]], .lit (.int .i64 (mh))),
  (12, [.agg [.sym 12, .sym 13], .agg [.sym 28, .sym 29]], .lit (.int .i64 (-1))),
  (42, [.agg [.sym 12, .sym 13]], .lit (.int .i64 (0))),
  (42, [.agg [.sym 16, .sym 17]], .lit (.int .i64 (0))),
  (12, [.agg [.sym 12, .sym 13], .agg [.lit (.string ⟨#[]⟩), .lit (.string ⟨#[]⟩)]], .lit (.int .i64 (1))),
  (12, [.agg [.sym 16, .sym 17], .agg [.lit (.string ⟨#[]⟩), .lit (.string ⟨#[]⟩)]], .lit (.int .i64 (1))),
  (12, [.agg [.sym 12, .sym 13], .agg [.sym 12, .sym 13]], .lit (.int .i64 (0))),
  (12, [.agg [.sym 16, .sym 17], .agg [.sym 16, .sym 17]], .lit (.int .i64 (0))),
  (119, [.agg [.sym 12, .sym 13], .lit (.int .i64 (0))], .tup [.agg [.lit (.string ⟨#[49]⟩), .lit (.string ⟨#[]⟩)], .lit (.int .i64 (0))]),
  (119, [.agg [.sym 12, .sym 13], .lit (.int .i64 (1))], .tup [.agg [.sym 12, .sym 13], .lit (.int .i64 (0))]),
  (63, [.agg [.sym 11, .lit (.string ⟨#[]⟩)], .agg [.sym 12, .sym 13]], .agg [.sym 34, .sym 35]),
  (10, [.agg [.sym 34, .sym 35], .agg [.sym 4, .lit (.string ⟨#[]⟩)]], .agg [.lit (.string ⟨#[]⟩), .lit (.string ⟨#[]⟩)]),
  (12, [.agg [.lit (.string ⟨#[]⟩), .lit (.string ⟨#[]⟩)], .agg [.lit (.string ⟨#[]⟩), .lit (.string ⟨#[]⟩)]], .lit (.int .i64 (0))),
  (119, [.agg [.sym 16, .sym 17], .lit (.int .i64 (0))], .tup [.agg [.lit (.string ⟨#[49]⟩), .lit (.string ⟨#[]⟩)], .lit (.int .i64 (0))]),
  (119, [.agg [.sym 16, .sym 17], .lit (.int .i64 (1))], .tup [.agg [.sym 16, .sym 17], .lit (.int .i64 (0))]),
  (63, [.agg [.sym 11, .lit (.string ⟨#[]⟩)], .agg [.sym 16, .sym 17]], .agg [.sym 36, .sym 37]),
  (10, [.agg [.sym 36, .sym 37], .agg [.sym 4, .lit (.string ⟨#[]⟩)]], .agg [.sym 38, .sym 39]),
  (12, [.agg [.sym 38, .sym 39], .agg [.lit (.string ⟨#[]⟩), .lit (.string ⟨#[]⟩)]], .lit (.int .i64 (-1))),
  (14, [], .lit (.bool true)),
  (6, [], .lit (.bool true))]
def RA (c : Int) : Rules := [(33, [.sym 61, .sym 9], .tup [.agg [.sym 62, .sym 63], .lit (.int .i64 (0))]),
  (119, [.agg [.sym 62, .sym 63], .lit (.int .i64 (0))], .tup [.agg [.lit (.string ⟨#[49]⟩), .lit (.string ⟨#[]⟩)], .lit (.int .i64 (0))]),
  (119, [.agg [.sym 62, .sym 63], .lit (.int .i64 (1))], .tup [.agg [.sym 62, .sym 63], .lit (.int .i64 (0))]),
  (63, [.agg [.sym 11, .lit (.string ⟨#[]⟩)], .agg [.sym 62, .sym 63]], .agg [.sym 64, .sym 65]),
  (10, [.agg [.sym 64, .sym 65], .agg [.sym 4, .lit (.string ⟨#[]⟩)]], .agg [.sym 66, .sym 67]),
  (12, [.agg [.sym 66, .sym 67], .agg [.lit (.string ⟨#[]⟩), .lit (.string ⟨#[]⟩)]], .lit (.int .i64 (c))),
  (11, [.sym 11], .agg [.sym 11, .lit (.string ⟨#[]⟩)]),
  (11, [.sym 4], .agg [.sym 4, .lit (.string ⟨#[]⟩)]),
  (63, [.agg [.lit (.string ⟨#[]⟩), .lit (.string ⟨#[]⟩)], .agg [.lit (.string ⟨#[49]⟩), .lit (.string ⟨#[]⟩)]], .agg [.lit (.string ⟨#[]⟩), .lit (.string ⟨#[]⟩)]),
  (10, [.agg [.lit (.string ⟨#[]⟩), .lit (.string ⟨#[]⟩)], .agg [.sym 11, .lit (.string ⟨#[]⟩)]], .agg [.sym 11, .lit (.string ⟨#[]⟩)])]
def BM (zq : Bool) : BTbl := [(.gtr, 3, .sym 51, .lit (.int .i64 (40)), .lit (.bool false)),
  (.gtr, 3, .sym 52, .lit (.int .i64 (40)), .lit (.bool false)),
  (.gtr, 3, .sym 54, .lit (.int .i64 (40)), .lit (.bool false)),
  (.gtr, 3, .sym 55, .lit (.int .i64 (40)), .lit (.bool false)),
  (.geq, 26, .sym 0, .sym 3, .lit (.bool false)),
  (.eql, 27, .sym 4, .lit (.string ⟨#[]⟩), .lit (.bool false)),
  (.neq, 27, .sym 4, .lit (.string ⟨#[]⟩), .lit (.bool (!false))),
  (.neq, 27, .sym 11, .lit (.string ⟨#[]⟩), .lit (.bool true)),
  (.geq, 26, .sym 0, .lit (.int .i64 (-25567)), .lit (.bool true)),
  (.leq, 26, .sym 0, .lit (.int .i64 (84005)), .lit (.bool true)),
  (.geq, 26, .sym 3, .lit (.int .i64 (-25567)), .lit (.bool true)),
  (.leq, 26, .sym 3, .lit (.int .i64 (84005)), .lit (.bool true)),
  (.leq, 26, .sym 3, .sym 0, .lit (.bool false)),
  (.lss, 3, .sym 8, .lit (.int .i64 (0)), .lit (.bool false)),
  (.gtr, 3, .sym 8, .lit (.int .i64 (12)), .lit (.bool false)),
  (.rem, 3, .sym 7, .lit (.int .i64 (13)), .sym 8),
  (.eql, 32, .agg [.sym 12, .sym 13], .agg [.lit (.string ⟨#[]⟩), .lit (.string ⟨#[]⟩)], .lit (.bool false)),
  (.eql, 32, .agg [.sym 16, .sym 17], .agg [.lit (.string ⟨#[]⟩), .lit (.string ⟨#[]⟩)], .lit (.bool false)),
  (.eql, 32, .agg [.sym 25, .sym 26], .agg [.lit (.string ⟨#[]⟩), .lit (.string ⟨#[]⟩)], .lit (.bool zq)),
  (.eql, 32, .agg [.sym 62, .sym 63], .agg [.lit (.string ⟨#[]⟩), .lit (.string ⟨#[]⟩)], .lit (.bool false))]
theorem big_no {v : ByteArray} (h : v.size ≤ 60) : big v = false := by unfold big; exact decide_eq_false (by omega)
theorem RM_ok {p : Pd} {a : Nat} (h : Good p) {g0 cl ml mh : Int} (h0 : cmpI (valS p.v0) 0 = g0) (h1 : cmpQ (p.ev (p.fa p.q)) 0 = cl) (h2 : cmpQ (p.fa p.q) p.g = ml) (h3 : cmpQ p.g (p.fa p.q) = mh) : @RulesOK (sy p a) Tryz.prog Gl (RM g0 cl ml mh) :=
  (oc (r_gr1 (by have := h.z1; omega) (big_no h.z1)) (oc (r_gr2 (by have := h.z2; omega) (big_no h.z2)) (oc (r_gr4 (by have := h.z4; omega) (big_no h.z4)) (oc (r_gr5 (by have := h.z5; omega) (big_no h.z5)) (oc (r_dy0 (by rw [h.day0]; rfl)) (oc (r_dy3 (by rw [h.day1]; rfl)) (oc (r_ck1 h.z1 h.c1) (oc (r_ck2 h.z2 h.c2) (oc (r_ck4 h.z4 h.c4) (oc (r_ck5 h.z5 h.c5) (oc (r_dg1 h.z1) (oc (r_dg2 h.z2) (oc (r_dg4 h.z4) (oc (r_dg5 h.z5) (oc (r_sg1 h.z1 h0) (oc (r_ad0 h.z1 h.z2) (oc (r_sg10 h.z1 h.z2 (cmpI_pos h.s0)) (oc (r_sg4 h.z4 (cmpI_pos h.x1)) (oc (r_ic1 h) (oc (r_lg1 h) (oc (r_ic2 h) (oc (r_lg2 h) (oc (r_ic4 h) (oc (r_lg4 h) (oc (r_ic5 h) (oc (r_lg5 h) (oc (r_ic11 h) (oc (r_cp1 h h0) (oc (r_cp10 h) (oc (r_cp4 h) (oc (r_cp11 h) (oc (r_ad h) (oc (r_ng2 h) (oc (r_ng5 h) (oc (r_ng10 h) (oc (r_of0 h) (oc (r_of1 h) (oc (r_az11 h) (oc (r_az4 h) (oc (r_pw h) (oc (r_fo1 h) (oc (r_nwg h) (oc (r_ml1 h) (oc (r_sbg h) (oc (r_adr h) (oc (r_adg h) (oc (r_mzz h) (oc (r_fo11 h) (oc (r_fo4 h) (oc (r_azn h) (oc (r_p0L h) (oc (r_p1L h) (oc (r_mmL h) (oc (r_avL h) (oc (r_cvL h h1) (oc (r_nwL h) (oc (r_aq h) (oc (r_nwH h) (oc (r_cLG h h2) (oc (r_cGL h h3) (oc (r_cGH h) (oc (r_kG h) (oc (r_kM h) (oc (r_cGZ h) (oc (r_cMZ h) (oc (r_cGG h) (oc (r_cMM h) (oc (r_p0G h) (oc (r_p1G h) (oc (r_mmG h) (oc (r_avG h) (oc (r_cZZ h) (oc (r_p0M h) (oc (r_p1M h) (oc (r_mmM h) (oc (r_avM h) (oc (r_cvM h) (oc r_aw (oc r_tp ocn)))))))))))))))))))))))))))))))))))))))))))))))))))))))))))))))))))))))))))))))
theorem RA_ok {p : Pd} {a : Nat} (h : Good p) (ha : a ≤ 2 * p.q + 2) {c : Int} (hc : cmpQ (p.ev (p.fa a)) 0 = c) : @RulesOK (sy p a) Tryz.prog Gl (RA c) :=
  (oc (r_nwA h ha) (oc (r_p0A h ha) (oc (r_p1A h ha) (oc (r_mmA h ha) (oc (r_avA h ha) (oc (r_cvA h ha hc) (oc (r_fo11 h) (oc (r_fo4 h) (oc (r_mzz h) (oc (r_azn h) ocn))))))))))
theorem BM_ok {p : Pd} {a : Nat} (h : Good p) (h4 : (p.v1.toList == []) = false) {zq : Bool} (hz : decide (p.fa p.q = 0) = zq) (ha : 0 < a) : BT p a (BM zq) :=
  (ob (t_dg1 (decide_eq_false (by have := h.l1; omega))) (ob (t_dg2 (decide_eq_false (by have := h.l2; omega))) (ob (t_dg4 (decide_eq_false (by have := h.l4; omega))) (ob (t_dg5 (decide_eq_false (by have := h.l5; omega))) (ob (t_or (decide_eq_false (by have := h.ord; omega))) (ob (t_e4 h4) (ob (t_n4 h4) (ob (t_n11 h) (ob (t_ge0 h) (ob (t_le0 h) (ob (t_ge3 h) (ob (t_le3 h) (ob (t_l30 h) (ob (t_l8 h) (ob (t_g8 h) (ob (t_rm h) (ob (t_zG (decide_eq_false (by have := h.gpos.1; grind))) (ob (t_zM (decide_eq_false (by have := h.gpos.2; grind))) (ob (t_zL hz) (ob (t_zA (decide_eq_false (by rw [h.fa0]; omega))) obn))))))))))))))))))))
/-- the law's run -/
noncomputable def cxL (L : BTbl) : Cx := cxR Tryz.prog (rbOf L) (rcOf CT)
def cells6 : List AV := [.sym 0, .sym 1, .sym 2, .sym 3, .sym 4, .sym 5]
noncomputable def runL (L : BTbl) (orc : CallF) : Res := callV (cxL L) orc 1000 60 (.func 3 []) [.rsl 0 2, .sym 6] ((Tr.leaf : Heap).set 0 (.row cells6 0)) 1
def isR : Res → Bool
  | some (.lit (.bool true), H, _) => rowOf H cells6
  | _ => false
noncomputable def orcM (zq : Bool) (g0 cl ml mh : Int) : CallF := orOrc (ruleOrc (RM g0 cl ml mh)) (closOrc (cxL (BM zq)) 1000 60 200 34 61 [(RA 1, true), (RA 0, true), (RA (-1), false)] (.sym 24))
set_option maxRecDepth 1000000 in
theorem run_main0 : isR (runL (BM false) (orcM false 0 1 (-1) 1)) = true := by decide +kernel
set_option maxRecDepth 1000000 in
theorem run_main1 : isR (runL (BM false) (orcM false 1 1 (-1) 1)) = true := by decide +kernel
set_option maxRecDepth 1000000 in
theorem run_zero0 : isR (runL (BM true) (orcM true 0 1 (-1) 1)) = true := by decide +kernel
set_option maxRecDepth 1000000 in
theorem run_zero1 : isR (runL (BM true) (orcM true 1 1 (-1) 1)) = true := by decide +kernel
set_option maxRecDepth 1000000 in
theorem run_same0 : isR (runL (BM false) (orcM false 0 0 0 0)) = true := by decide +kernel
set_option maxRecDepth 1000000 in
theorem run_same1 : isR (runL (BM false) (orcM false 1 0 0 0)) = true := by decide +kernel
end Go.Proofs.YtahpbnmbphobgaaGreatDoor
