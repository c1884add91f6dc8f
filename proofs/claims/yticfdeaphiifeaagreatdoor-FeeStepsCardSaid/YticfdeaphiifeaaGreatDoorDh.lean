/- Fractions: the contracts of Parts and Print. Conditions: numbers of up to a hundred thousand bytes. Parts of years: the contracts of the package daycount's small functions. Conditions: days of the calendar. Parts of years: the conventions as closures, and the contracts of find, check, Days and Fraction. Conditions: days of the calendar. Parts of years: the conventions as closures, and the contracts of find, check, Days and Fraction. Conditions: days of the calendar. Parts of years: finding a convention. No condition. Parts of years: checking arguments. Conditions: days of the calendar. Parts of years: the closures over a convention's days, and calendar years. Conditions: days of the calendar. Parts of years: the sum over calendar years. Conditions: days of the calendar. Parts of years: the contract of Fraction. Conditions: machine integers. Parts of years: the contract of Fraction in one. Conditions: none on the machine integers. Parts of years: the contract of Days; the examples of the chapter. Conditions: machine integers. Parts of years: the examples of the chapter, and the laws' walks. Condition: the library's table and error lie as the program's text lays them. -/
import Derived.Test.YticfdeaphiifeaaGreatDoorFc
import Derived.Test.YticfdeaphiifeaaGreatDoorDg
set_option maxHeartbeats 8000000
set_option maxRecDepth 100000
namespace Go.Proofs.YticfdeaphiifeaaGreatDoor
open Go.RowKit Go.Shelf Dec
open QQ
theorem PartsF {n d : ByteArray} {q : Rat} (h : Vq n d q) : Ret 199 #[FV n d] (.tuple #[.string (canS q.num), .string (canS q.den)]) := by
 intro w hg
 have hs := St.refl hg
 obtain ⟨v1, v2, f1, f2⟩ := h.vs
 have K1 := parts_any (n := n) (d := d) (by have := h.2.2; omega)
 have K2 := reduced_any v1 v2 (by have := h.2.1; omega) (by have := dn_size d; have := h.2.2; omega) (dn_ne d)
 rw [dn_rat, h.1] at K2
 unfold FV at K1 ⊢
 generalize canS q.num = rn at *
 generalize canS (q.den : Int) = rd at *
 generalize dn d = e at *
 clear v1 v2 f1 f2
 go_enter Tryz.func199, Tryz.ntmps199
 go_wp2_with fail
 refine K1.step (hs.alloc _) ?_
 intro w1 hs _
 go_wp2_with fail
 refine K2.step hs ?_
 intro w2 hs _
 go_wp2_with fail
 go_ret2
 exact ⟨rfl, hs.2⟩
end Go.Proofs.YticfdeaphiifeaaGreatDoor
namespace Go.Proofs.YticfdeaphiifeaaGreatDoor
open Go.RowKit Go.Shelf Dec
open QQ
theorem dvalid_any (D : Int) : Ret 198 #[.int .i64 D] (.bool (!notDay D)) := by
  intro w hg
  have hs := St.refl hg
  unfold notDay
  have q1 : decide (-25567 ≤ D) = !decide (D < -25567) := by rw [Bool.eq_iff_iff]; simp
  have q2 : decide (D ≤ 84005) = !decide (84005 < D) := by rw [Bool.eq_iff_iff]; simp
  generalize decide (D < -25567) = t1 at *
  generalize decide (84005 < D) = t2 at *
  cases t1 <;> cases t2 <;>
    (go_enter Tryz.func198, Tryz.ntmps198
     go_wp2_with fail
     go_ret
     exact ⟨rfl, hs.2⟩)
theorem OfR {n : Int} (h0 : -9223372036854775808 ≤ n) (h1 : n ≤ 9223372036854775807) : Ret 267 #[.int .i64 n] (.string (canS n)) := fun w hg => Of_any n w h0 h1 hg
theorem ratio_any {n d : Int} (hn : n.natAbs < 1000000000) (hd : d.natAbs < 1000000000) (h0 : d ≠ 0) : Ret 257 #[.int .i64 n, .int .i64 d] (FR (rat n d)) := by
 intro w hg
 have hs := St.refl hg
 have K1 := OfR (n := n) (by omega) (by omega)
 have K2 := OfR (n := d) (by omega) (by omega)
 have e9 : (10 : Nat) ^ 9 = 1000000000 := by decide
 have F1 : Fit 9 n := by unfold Fit; omega
 have F2 : Fit 9 d := by unfold Fit; omega
 have K3 := NewF (Vs.can F1 (by omega)) (Vs.can F2 (by omega)) (by have := F1.size; omega) (by have := F2.size; omega) h0
 clear e9 F1 F2
 unfold FR at K3 ⊢
 generalize canS n = s1 at *
 generalize canS d = s2 at *
 generalize frN (rat n d) = rn at *
 generalize frD (rat n d) = rd at *
 go_enter Tryz.func257, Tryz.ntmps257
 go_wp2_with fail
 refine K1.step (hs.alloc _) ?_
 intro w1 hs hb
 have B0 := (Bx.new w #[.string ⟨#[]⟩, .string ⟨#[]⟩] 34).on hb
 go_wp2_with fail
 refine K2.step hs ?_
 intro w2 hs hb
 have B1 := B0.on hb
 go_wp2_with fail
 refine K3.step hs ?_
 intro w3 hs hb
 have B := (B1.on hb).alloc (.cells #[.string rn, .string rd] 34)
 have hs := hs.alloc (.cells #[.string rn, .string rd] 34)
 have xB0 := B.cell (i := 0) (v := .string ⟨#[]⟩) rfl
 have fB0 := B.frozen 0
 have xB1 := B.cell (i := 1) (v := .string ⟨#[]⟩) rfl
 have fB1 := B.frozen 1
 go_wp2_with fail
 have B6 := (B.set 0 (.string rn)).set 1 (.string rd)
 have y0 := B6.cell (i := 0) (v := .string rn) rfl
 have y1 := B6.cell (i := 1) (v := .string rd) rfl
 have hs4 := (hs.set (b := w.heap.size) (Nat.le_refl _) 0 (.string rn)).set (b := w.heap.size) (Nat.le_refl _) 1 (.string rd)
 exact bodyPost_ret (v := .agg #[.string rn, .string rd]) (by simp [results, Tryz.results257, go_sem, y0, y1]) rfl ⟨rfl, hs4.2⟩
theorem actual_any {A B : Int} (h1 : A.natAbs < 1000000) (h2 : B.natAbs < 1000000) : Ret 245 #[.int .i64 A, .int .i64 B] (.int .i64 (B - A)) := by
 intro w hg
 have hs := St.refl hg
 go_enter Tryz.func245, Tryz.ntmps245
 go_wp2_with fail
 go_ret
 exact ⟨rfl, hs.2⟩
theorem european_any {d e : Nat} : Ret 248 #[.int .i64 (d : Int), .int .i64 (e : Int)] (.tuple #[.int .i64 (min d 30 : Nat), .int .i64 (min e 30 : Nat)]) := by
 intro w hg
 have hs := St.refl hg
 have e1 : ((min d 30 : Nat) : Int) = min (d : Int) 30 := by omega
 have e2 : ((min e 30 : Nat) : Int) = min (e : Int) 30 := by omega
 rw [e1, e2]
 clear e1 e2
 go_enter Tryz.func248, Tryz.ntmps248
 go_wp2_with fail
 go_ret2
 exact ⟨rfl, hs.2⟩
theorem bond_any {d e : Nat} : Ret 247 #[.int .i64 (d : Int), .int .i64 (e : Int)] (.tuple #[.int .i64 (min d 30 : Nat), .int .i64 (if min d 30 = 30 then min e 30 else e : Nat)]) := by
 intro w hg
 have hs := St.refl hg
 have e1 : ((min d 30 : Nat) : Int) = min (d : Int) 30 := by omega
 have e2 : ((min e 30 : Nat) : Int) = min (e : Int) 30 := by omega
 by_cases h : min d 30 = 30
 ·have q : (min (d : Int) 30 == 30) = true := by simp; omega
  rw [if_pos h, e1, e2]
  clear e1 e2 h
  go_enter Tryz.func247, Tryz.ntmps247
  go_wp2_with fail
  go_ret2
  exact ⟨rfl, hs.2⟩
 ·have q : (min (d : Int) 30 == 30) = false := by simp; omega
  rw [if_neg h, e1]
  clear e1 e2 h
  go_enter Tryz.func247, Tryz.ntmps247
  go_wp2_with fail
  go_ret2
  exact ⟨rfl, hs.2⟩
end Go.Proofs.YticfdeaphiifeaaGreatDoor
namespace Go.Proofs.YticfdeaphiifeaaGreatDoor
open Go.RowKit Go.Shelf Dec
open QQ
theorem RetI.kept {I : World → Prop} {f : FuncId} {args : Array Value} {V : Value} {w0 w : World} (h : RetI I f args V) (hs : St w0 w) (hI : ∀ u : Kept w, I u.W) {u : Kept w} : Calls Tryz.prog f args u.W fun e w'' => e = .returned V ∧ ∃ u' : Kept w, w'' = u'.W :=
 (h u.W (hs.gl.below u.low) (hI u)).mono fun _ w' ⟨he, hb⟩ => ⟨he, ⟨⟨w', u.low.trans (hb.mono u.low.size)⟩, rfl⟩⟩
def actF : Value := .func (.func 245) #[] #[]
def calF : Value := .func (.func 249) #[] #[]
def bondF : Value := .func (.func 247) #[] #[]
def euroF : Value := .func (.func 248) #[] #[]
def overF (p q : Nat) : Value := .func (.func 256) #[] #[.pointer (some ⟨p, 0, none⟩), .pointer (some ⟨q, 0, none⟩)]
def thirtyF (r : Nat) : Value := .func (.func 258) #[] #[.pointer (some ⟨r, 0, none⟩)]
theorem Bx.ne {w : World} {b c : Nat} {cs ds : Array Value} (h : Bx w b cs) (h2 : Bx w c ds) (hs : cs.size ≠ ds.size) : b ≠ c := by
 rintro rfl
 obtain ⟨T, h⟩ := h
 obtain ⟨T2, h2⟩ := h2
 rw [h] at h2
 injection h2 with e
 injection e with e1 e2
 exact hs (by rw [e1])
theorem fill12 (w : World) (b : Nat) (v0 v1 v2 v3 v4 v5 v6 v7 v8 v9 v10 v11 : Value) (B : Bx w b #[.nilFunc, .nilFunc, .nilFunc, .nilFunc, .nilFunc, .nilFunc, .nilFunc, .nilFunc, .nilFunc, .nilFunc, .nilFunc, .nilFunc]) :
  ∃ W, ((((((((((((w.setCell ⟨b, 0, none⟩ v0).setCell ⟨b, 1, none⟩ v1).setCell ⟨b, 2, none⟩ v2).setCell ⟨b, 3, none⟩ v3).setCell ⟨b, 4, none⟩ v4).setCell ⟨b, 5, none⟩ v5).setCell ⟨b, 6, none⟩ v6).setCell ⟨b, 7, none⟩ v7).setCell ⟨b, 8, none⟩ v8).setCell ⟨b, 9, none⟩ v9).setCell ⟨b, 10, none⟩ v10).setCell ⟨b, 11, none⟩ v11) = W ∧ Bx W b #[v0, v1, v2, v3, v4, v5, v6, v7, v8, v9, v10, v11] ∧ (∀ c ds, Bx w c ds → c ≠ b → Bx W c ds) ∧ (∀ base w0, base ≤ b → Below base w0 w → Below base w0 W) :=
 by
 refine ⟨_, rfl, ?_, fun c ds h hc => ((((((((((((h.other hc 0 v0).other hc 1 v1).other hc 2 v2).other hc 3 v3).other hc 4 v4).other hc 5 v5).other hc 6 v6).other hc 7 v7).other hc 8 v8).other hc 9 v9).other hc 10 v10).other hc 11 v11), fun base w0 hl h => ((((((((((((h.setCell hl v0).setCell hl v1).setCell hl v2).setCell hl v3).setCell hl v4).setCell hl v5).setCell hl v6).setCell hl v7).setCell hl v8).setCell hl v9).setCell hl v10).setCell hl v11)⟩
 have h := ((((((((((((B.set 0 v0).set 1 v1).set 2 v2).set 3 v3).set 4 v4).set 5 v5).set 6 v6).set 7 v7).set 8 v8).set 9 v9).set 10 v10).set 11 v11)
 simp only [List.setIfInBounds_toArray, List.set_cons_zero, List.set_cons_succ] at h
 exact h
theorem over_any (f : FuncId) (cap : Array Value) (k : Int) (w : World) :
  Calls Tryz.prog 244 #[.func (.func f) #[] cap, .int .i64 k] w fun e w' => ∃ p q, e = .returned (.agg #[.func (.func f) #[] cap, overF p q]) ∧ Bx w' p #[.func (.func f) #[] cap] ∧ Bx w' q #[.int .i64 k] ∧ Below w.heap.size w w' := by
 go_enter Tryz.func244, Tryz.ntmps244
 go_wp2_with fail
 have B2 := Bx.new2 w (.cells #[.func (.func f) #[] cap] 184) (.cells #[.int .i64 k] 3) #[.func (.func f) #[] cap, overF w.heap.size (w.heap.size + 1)] 187
 have y0 := B2.cell (i := 0) (v := .func (.func f) #[] cap) rfl
 have y1 := B2.cell (i := 1) (v := overF w.heap.size (w.heap.size + 1)) rfl
 refine bodyPost_ret (v := .agg #[.func (.func f) #[] cap, overF w.heap.size (w.heap.size + 1)]) ?_ rfl ⟨_, _, rfl, ((Bx.new w _ _).alloc _).alloc _, (Bx.new1 w _ _ _).alloc _, (((Below.refl _ w).alloc (Nat.le_refl _) _).alloc (by simp) _).alloc (by simp; omega) _⟩
 unfold overF at y0 y1 ⊢
 simp [results, Tryz.results244, go_sem]
theorem thirty_any (f : FuncId) (cap : Array Value) (w : World) :
  Calls Tryz.prog 246 #[.func (.func f) #[] cap] w fun e w' => ∃ r, e = .returned (thirtyF r) ∧ Bx w' r #[.func (.func f) #[] cap] ∧ Below w.heap.size w w' := by
 go_enter Tryz.func246, Tryz.ntmps246
 go_wp2_with fail
 go_ret
 exact ⟨_, rfl, Bx.new _ _ _, (Below.refl _ w).alloc (Nat.le_refl _) _⟩
theorem conventions_any (w : World) :
  Calls Tryz.prog 229 #[] w fun e w' => ∃ p1 q1 p2 q2 r3 p3 q3 r4 p4 q4, e = .returned (.agg #[.nilFunc, .nilFunc, actF, overF p1 q1, actF, overF p2 q2, thirtyF r3, overF p3 q3, thirtyF r4, overF p4 q4, actF, calF]) ∧ Bx w' p1 #[actF] ∧ Bx w' q1 #[.int .i64 360] ∧ Bx w' p2 #[actF] ∧ Bx w' q2 #[.int .i64 365] ∧ Bx w' r3 #[bondF] ∧ Bx w' p3 #[thirtyF r3] ∧ Bx w' q3 #[.int .i64 360] ∧ Bx w' r4 #[euroF] ∧ Bx w' p4 #[thirtyF r4] ∧ Bx w' q4 #[.int .i64 360] ∧ Below w.heap.size w w' := by
 have B := Bx.new w #[.nilFunc, .nilFunc, .nilFunc, .nilFunc, .nilFunc, .nilFunc, .nilFunc, .nilFunc, .nilFunc, .nilFunc, .nilFunc, .nilFunc] 248
 have hb := (Below.refl w.heap.size w).alloc (Nat.le_refl _) (.cells #[.nilFunc, .nilFunc, .nilFunc, .nilFunc, .nilFunc, .nilFunc, .nilFunc, .nilFunc, .nilFunc, .nilFunc, .nilFunc, .nilFunc] 248)
 go_enter Tryz.func229, Tryz.ntmps229
 go_wp2_with fail
 refine (over_any 245 #[] 360 _).mono ?_
 rintro e v0 ⟨p1, q1, rfl, bp1, bq1, hb0⟩
 replace B := B.on hb0
 replace hb := hb.trans (hb0.mono hb.size)
 clear hb0
 go_wp2_with fail
 refine (over_any 245 #[] 365 _).mono ?_
 rintro e v1 ⟨p2, q2, rfl, bp2, bq2, hb1⟩
 replace B := B.on hb1
 replace bp1 := bp1.on hb1
 replace bq1 := bq1.on hb1
 replace hb := hb.trans (hb1.mono hb.size)
 clear hb1
 go_wp2_with fail
 refine (thirty_any 247 #[] _).mono ?_
 rintro e v2 ⟨r3, rfl, br3, hb2⟩
 replace B := B.on hb2
 replace bp1 := bp1.on hb2
 replace bq1 := bq1.on hb2
 replace bp2 := bp2.on hb2
 replace bq2 := bq2.on hb2
 replace hb := hb.trans (hb2.mono hb.size)
 clear hb2
 go_wp2_with fail
 refine (over_any 258 #[.pointer (some ⟨r3, 0, none⟩)] 360 _).mono ?_
 rintro e v3 ⟨p3, q3, rfl, bp3, bq3, hb3⟩
 replace B := B.on hb3
 replace bp1 := bp1.on hb3
 replace bq1 := bq1.on hb3
 replace bp2 := bp2.on hb3
 replace bq2 := bq2.on hb3
 replace br3 := br3.on hb3
 replace hb := hb.trans (hb3.mono hb.size)
 clear hb3
 go_wp2_with fail
 refine (thirty_any 248 #[] _).mono ?_
 rintro e v4 ⟨r4, rfl, br4, hb4⟩
 replace B := B.on hb4
 replace bp1 := bp1.on hb4
 replace bq1 := bq1.on hb4
 replace bp2 := bp2.on hb4
 replace bq2 := bq2.on hb4
 replace br3 := br3.on hb4
 replace bp3 := bp3.on hb4
 replace bq3 := bq3.on hb4
 replace hb := hb.trans (hb4.mono hb.size)
 clear hb4
 go_wp2_with fail
 refine (over_any 258 #[.pointer (some ⟨r4, 0, none⟩)] 360 _).mono ?_
 rintro e v5 ⟨p4, q4, rfl, bp4, bq4, hb5⟩
 replace B := B.on hb5
 replace bp1 := bp1.on hb5
 replace bq1 := bq1.on hb5
 replace bp2 := bp2.on hb5
 replace bq2 := bq2.on hb5
 replace br3 := br3.on hb5
 replace bp3 := bp3.on hb5
 replace bq3 := bq3.on hb5
 replace br4 := br4.on hb5
 replace hb := hb.trans (hb5.mono hb.size)
 clear hb5
 have np1 := bp1.ne B (by simp)
 have nq1 := bq1.ne B (by simp)
 have np2 := bp2.ne B (by simp)
 have nq2 := bq2.ne B (by simp)
 have nr3 := br3.ne B (by simp)
 have np3 := bp3.ne B (by simp)
 have nq3 := bq3.ne B (by simp)
 have nr4 := br4.ne B (by simp)
 have np4 := bp4.ne B (by simp)
 have nq4 := bq4.ne B (by simp)
 try unfold thirtyF
 try unfold overF
 have x0 := B.cell (i := 0) (v := .nilFunc) rfl
 have f0 := B.frozen 0
 have x1 := B.cell (i := 1) (v := .nilFunc) rfl
 have f1 := B.frozen 1
 have x2 := B.cell (i := 2) (v := .nilFunc) rfl
 have f2 := B.frozen 2
 have x3 := B.cell (i := 3) (v := .nilFunc) rfl
 have f3 := B.frozen 3
 have x4 := B.cell (i := 4) (v := .nilFunc) rfl
 have f4 := B.frozen 4
 have x5 := B.cell (i := 5) (v := .nilFunc) rfl
 have f5 := B.frozen 5
 have x6 := B.cell (i := 6) (v := .nilFunc) rfl
 have f6 := B.frozen 6
 have x7 := B.cell (i := 7) (v := .nilFunc) rfl
 have f7 := B.frozen 7
 have x8 := B.cell (i := 8) (v := .nilFunc) rfl
 have f8 := B.frozen 8
 have x9 := B.cell (i := 9) (v := .nilFunc) rfl
 have f9 := B.frozen 9
 have x10 := B.cell (i := 10) (v := .nilFunc) rfl
 have f10 := B.frozen 10
 have x11 := B.cell (i := 11) (v := .nilFunc) rfl
 have f11 := B.frozen 11
 go_wp2_with fail
 obtain ⟨W, hW, BW, hO, hBl⟩ := fill12 _ _ (.nilFunc) (.nilFunc) (.func (.func 245) #[] #[]) (.func (.func 256) #[] #[.pointer (some ⟨p1, 0, none⟩), .pointer (some ⟨q1, 0, none⟩)]) (.func (.func 245) #[] #[]) (.func (.func 256) #[] #[.pointer (some ⟨p2, 0, none⟩), .pointer (some ⟨q2, 0, none⟩)]) (.func (.func 258) #[] #[.pointer (some ⟨r3, 0, none⟩)]) (.func (.func 256) #[] #[.pointer (some ⟨p3, 0, none⟩), .pointer (some ⟨q3, 0, none⟩)]) (.func (.func 258) #[] #[.pointer (some ⟨r4, 0, none⟩)]) (.func (.func 256) #[] #[.pointer (some ⟨p4, 0, none⟩), .pointer (some ⟨q4, 0, none⟩)]) (.func (.func 245) #[] #[]) (.func (.func 249) #[] #[]) B
 rw [hW]
 clear hW
 have y0 := BW.cell (i := 0) (v := .nilFunc) rfl
 have y1 := BW.cell (i := 1) (v := .nilFunc) rfl
 have y2 := BW.cell (i := 2) (v := .func (.func 245) #[] #[]) rfl
 have y3 := BW.cell (i := 3) (v := .func (.func 256) #[] #[.pointer (some ⟨p1, 0, none⟩), .pointer (some ⟨q1, 0, none⟩)]) rfl
 have y4 := BW.cell (i := 4) (v := .func (.func 245) #[] #[]) rfl
 have y5 := BW.cell (i := 5) (v := .func (.func 256) #[] #[.pointer (some ⟨p2, 0, none⟩), .pointer (some ⟨q2, 0, none⟩)]) rfl
 have y6 := BW.cell (i := 6) (v := .func (.func 258) #[] #[.pointer (some ⟨r3, 0, none⟩)]) rfl
 have y7 := BW.cell (i := 7) (v := .func (.func 256) #[] #[.pointer (some ⟨p3, 0, none⟩), .pointer (some ⟨q3, 0, none⟩)]) rfl
 have y8 := BW.cell (i := 8) (v := .func (.func 258) #[] #[.pointer (some ⟨r4, 0, none⟩)]) rfl
 have y9 := BW.cell (i := 9) (v := .func (.func 256) #[] #[.pointer (some ⟨p4, 0, none⟩), .pointer (some ⟨q4, 0, none⟩)]) rfl
 have y10 := BW.cell (i := 10) (v := .func (.func 245) #[] #[]) rfl
 have y11 := BW.cell (i := 11) (v := .func (.func 249) #[] #[]) rfl
 refine bodyPost_ret (v := .agg #[.nilFunc, .nilFunc, actF, overF p1 q1, actF, overF p2 q2, thirtyF r3, overF p3 q3, thirtyF r4, overF p4 q4, actF, calF]) ?_ rfl ⟨p1, q1, p2, q2, r3, p3, q3, r4, p4, q4, rfl, hO _ _ bp1 np1, hO _ _ bq1 nq1, hO _ _ bp2 np2, hO _ _ bq2 nq2, hO _ _ br3 nr3, hO _ _ bp3 np3, hO _ _ bq3 nq3, hO _ _ br4 nr4, hO _ _ bp4 np4, hO _ _ bq4 nq4, hBl _ _ (Nat.le_refl _) hb⟩
 unfold actF calF thirtyF overF
 simp [results, Tryz.results229, go_sem, y0, y1, y2, y3, y4, y5, y6, y7, y8, y9, y10, y11]
def ConvAt (w : World) (c : Nat) (v : Value) : Prop :=
 (c = 1 ∧ ∃ p q, v = .agg #[actF, overF p q] ∧ Bx w p #[actF] ∧ Bx w q #[.int .i64 360]) ∨
 (c = 2 ∧ ∃ p q, v = .agg #[actF, overF p q] ∧ Bx w p #[actF] ∧ Bx w q #[.int .i64 365]) ∨
 (c = 3 ∧ ∃ r p q, v = .agg #[thirtyF r, overF p q] ∧ Bx w r #[bondF] ∧ Bx w p #[thirtyF r] ∧ Bx w q #[.int .i64 360]) ∨
 (c = 4 ∧ ∃ r p q, v = .agg #[thirtyF r, overF p q] ∧ Bx w r #[euroF] ∧ Bx w p #[thirtyF r] ∧ Bx w q #[.int .i64 360]) ∨
 (c = 5 ∧ v = .agg #[actF, calF])
theorem ConvAt.on {w w' : World} {c : Nat} {v : Value} (h : ConvAt w c v) (hb : Below w.heap.size w w') : ConvAt w' c v := by
 rcases h with ⟨rfl, p, q, rfl, h1, h2⟩ | ⟨rfl, p, q, rfl, h1, h2⟩ | ⟨rfl, r, p, q, rfl, h1, h2, h3⟩ | ⟨rfl, r, p, q, rfl, h1, h2, h3⟩ | ⟨rfl, rfl⟩
 ·exact .inl ⟨rfl, p, q, rfl, h1.on hb, h2.on hb⟩
 ·exact .inr (.inl ⟨rfl, p, q, rfl, h1.on hb, h2.on hb⟩)
 ·exact .inr (.inr (.inl ⟨rfl, r, p, q, rfl, h1.on hb, h2.on hb, h3.on hb⟩))
 ·exact .inr (.inr (.inr (.inl ⟨rfl, r, p, q, rfl, h1.on hb, h2.on hb, h3.on hb⟩)))
 ·exact .inr (.inr (.inr (.inr ⟨rfl, rfl⟩)))
end Go.Proofs.YticfdeaphiifeaaGreatDoor
namespace Go.Proofs.YticfdeaphiifeaaGreatDoor
open Go.RowKit Go.Shelf Dec
open QQ
theorem thirty1_bond {A B : Int} {n m : Nat} (hA : IsDay A n) (hB : IsDay B m) (r : Nat) :
  RetI (fun w => Bx w r #[bondF]) 258 #[.int .i64 A, .int .i64 B, .pointer (some ⟨r, 0, none⟩)] (.int .i64 (tN n m)) := by
 intro w hg hi
 have hs := St.refl hg
 have K1 := parts_ok hA
 have K2 := parts_ok hB
 have K3 := bond_any (d := dN n) (e := dN m)
 have a := date_spec hA.2
 have b := date_spec hB.2
 have a0 := a.y0
 have a1 := a.y1
 have a2 := a.m1
 have a3 := a.d1
 have b0 := b.y0
 have b1 := b.y1
 have b2 := b.m1
 have b3 := b.d1
 have a4 := (lenN_cases (y := yN n) a.m0 a.m1).2
 have b4 := (lenN_cases (y := yN m) b.m0 b.m1).2
 have a5 : dN n ≤ 31 := by omega
 have b5 : dN m ≤ 31 := by omega
 clear a b a3 b3 a4 b4 hA hB
 have hv : Hid (tN n m = 360 * ((yN m : Int) - (yN n : Int)) + 30 * ((mN m : Int) - (mN n : Int)) + (if min (dN n) 30 = 30 then min (dN m) 30 else dN m : Nat) - (min (dN n) 30 : Nat)) := by show _ = _; unfold tN; omega
 have c1 : min (dN n) 30 ≤ 31 := by omega
 have c2 : (if min (dN n) 30 = 30 then min (dN m) 30 else dN m) ≤ 31 := by split <;> omega
 unfold bondF at hi
 generalize tN n m = V at *
 generalize (if min (dN n) 30 = 30 then min (dN m) 30 else dN m) = e' at *
 generalize min (dN n) 30 = d' at *
 generalize yN n = y at *
 generalize mN n = mo at *
 generalize dN n = d at *
 generalize yN m = z at *
 generalize mN m = mz at *
 generalize dN m = e at *
 go_enter Tryz.func258, Tryz.ntmps258
 go_wp2_with fail
 refine K1.step hs ?_
 intro w1 hs hb
 have B1 := hi.on hb
 go_wp2_with fail
 refine K2.step hs ?_
 intro w2 hs hb
 have B2 := B1.on hb
 have x0 := B2.cell (i := 0) rfl
 go_wp2_with fail
 refine K3.step hs ?_
 intro w3 hs hb
 go_wp2_with fail
 go_ret
 exact ⟨ret_int (by have h := hv.out; omega), hs.2⟩
theorem thirty1_euro {A B : Int} {n m : Nat} (hA : IsDay A n) (hB : IsDay B m) (r : Nat) :
  RetI (fun w => Bx w r #[euroF]) 258 #[.int .i64 A, .int .i64 B, .pointer (some ⟨r, 0, none⟩)] (.int .i64 (eN m - eN n)) := by
 intro w hg hi
 have hs := St.refl hg
 have K1 := parts_ok hA
 have K2 := parts_ok hB
 have K3 := european_any (d := dN n) (e := dN m)
 have a := date_spec hA.2
 have b := date_spec hB.2
 have a0 := a.y0
 have a1 := a.y1
 have a2 := a.m1
 have a3 := a.d1
 have b0 := b.y0
 have b1 := b.y1
 have b2 := b.m1
 have b3 := b.d1
 have a4 := (lenN_cases (y := yN n) a.m0 a.m1).2
 have b4 := (lenN_cases (y := yN m) b.m0 b.m1).2
 have a5 : dN n ≤ 31 := by omega
 have b5 : dN m ≤ 31 := by omega
 clear a b a3 b3 a4 b4 hA hB
 have hv : Hid (eN m - eN n = 360 * ((yN m : Int) - (yN n : Int)) + 30 * ((mN m : Int) - (mN n : Int)) + (min (dN m) 30 : Nat) - (min (dN n) 30 : Nat)) := by show _ = _; unfold eN; omega
 have c1 : min (dN n) 30 ≤ 31 := by omega
 have c2 : (min (dN m) 30) ≤ 31 := by omega
 unfold euroF at hi
 generalize eN m - eN n = V at *
 generalize (min (dN m) 30) = e' at *
 generalize min (dN n) 30 = d' at *
 generalize yN n = y at *
 generalize mN n = mo at *
 generalize dN n = d at *
 generalize yN m = z at *
 generalize mN m = mz at *
 generalize dN m = e at *
 go_enter Tryz.func258, Tryz.ntmps258
 go_wp2_with fail
 refine K1.step hs ?_
 intro w1 hs hb
 have B1 := hi.on hb
 go_wp2_with fail
 refine K2.step hs ?_
 intro w2 hs hb
 have B2 := B1.on hb
 have x0 := B2.cell (i := 0) rfl
 go_wp2_with fail
 refine K3.step hs ?_
 intro w3 hs hb
 go_wp2_with fail
 go_ret
 exact ⟨ret_int (by have h := hv.out; omega), hs.2⟩
end Go.Proofs.YticfdeaphiifeaaGreatDoor
namespace Go.Proofs.YticfdeaphiifeaaGreatDoor
open Go.RowKit Go.Shelf Dec
open QQ
theorem ConvAt.put {w : World} {c b : Nat} {v : Value} (h : ConvAt w c v) (hb : ∀ p cs, Bx w p cs → cs.size = 1 → p ≠ b) (i : Nat) (x : Value) : ConvAt (w.setCell ⟨b, i, none⟩ x) c v := by
 rcases h with ⟨rfl, p, q, rfl, h1, h2⟩ | ⟨rfl, p, q, rfl, h1, h2⟩ | ⟨rfl, r, p, q, rfl, h1, h2, h3⟩ | ⟨rfl, r, p, q, rfl, h1, h2, h3⟩ | ⟨rfl, rfl⟩
 ·exact .inl ⟨rfl, p, q, rfl, h1.other (hb _ _ h1 rfl) i x, h2.other (hb _ _ h2 rfl) i x⟩
 ·exact .inr (.inl ⟨rfl, p, q, rfl, h1.other (hb _ _ h1 rfl) i x, h2.other (hb _ _ h2 rfl) i x⟩)
 ·exact .inr (.inr (.inl ⟨rfl, r, p, q, rfl, h1.other (hb _ _ h1 rfl) i x, h2.other (hb _ _ h2 rfl) i x, h3.other (hb _ _ h3 rfl) i x⟩))
 ·exact .inr (.inr (.inr (.inl ⟨rfl, r, p, q, rfl, h1.other (hb _ _ h1 rfl) i x, h2.other (hb _ _ h2 rfl) i x, h3.other (hb _ _ h3 rfl) i x⟩)))
 ·exact .inr (.inr (.inr (.inr ⟨rfl, rfl⟩)))
theorem ConvAt.two {w : World} {c : Nat} {v : Value} (h : ConvAt w c v) : ∃ f cap g cap', v = .agg #[.func (.func f) #[] cap, .func (.func g) #[] cap'] := by
 rcases h with ⟨rfl, p, q, rfl, h1, h2⟩ | ⟨rfl, p, q, rfl, h1, h2⟩ | ⟨rfl, r, p, q, rfl, h1, h2, h3⟩ | ⟨rfl, r, p, q, rfl, h1, h2, h3⟩ | ⟨rfl, rfl⟩
 ·exact ⟨_, _, _, _, rfl⟩
 ·exact ⟨_, _, _, _, rfl⟩
 ·exact ⟨_, _, _, _, rfl⟩
 ·exact ⟨_, _, _, _, rfl⟩
 ·exact ⟨_, _, _, _, rfl⟩
theorem idxC_1 (p1 q1 p2 q2 r3 p3 q3 r4 p4 q4 : Nat) (u : World) : (Instr.index 248 (.agg #[.nilFunc, .nilFunc, .func (.func 245) #[] #[], .func (.func 256) #[] #[.pointer (some ⟨p1, 0, none⟩), .pointer (some ⟨q1, 0, none⟩)], .func (.func 245) #[] #[], .func (.func 256) #[] #[.pointer (some ⟨p2, 0, none⟩), .pointer (some ⟨q2, 0, none⟩)], .func (.func 258) #[] #[.pointer (some ⟨r3, 0, none⟩)], .func (.func 256) #[] #[.pointer (some ⟨p3, 0, none⟩), .pointer (some ⟨q3, 0, none⟩)], .func (.func 258) #[] #[.pointer (some ⟨r4, 0, none⟩)], .func (.func 256) #[] #[.pointer (some ⟨p4, 0, none⟩), .pointer (some ⟨q4, 0, none⟩)], .func (.func 245) #[] #[], .func (.func 249) #[] #[]]) (.int .i64 1)).run Tryz.prog u = .ok (.agg #[.func (.func 245) #[] #[], .func (.func 256) #[] #[.pointer (some ⟨p1, 0, none⟩), .pointer (some ⟨q1, 0, none⟩)]]) u := by kernel_rfl
theorem idxC_2 (p1 q1 p2 q2 r3 p3 q3 r4 p4 q4 : Nat) (u : World) : (Instr.index 248 (.agg #[.nilFunc, .nilFunc, .func (.func 245) #[] #[], .func (.func 256) #[] #[.pointer (some ⟨p1, 0, none⟩), .pointer (some ⟨q1, 0, none⟩)], .func (.func 245) #[] #[], .func (.func 256) #[] #[.pointer (some ⟨p2, 0, none⟩), .pointer (some ⟨q2, 0, none⟩)], .func (.func 258) #[] #[.pointer (some ⟨r3, 0, none⟩)], .func (.func 256) #[] #[.pointer (some ⟨p3, 0, none⟩), .pointer (some ⟨q3, 0, none⟩)], .func (.func 258) #[] #[.pointer (some ⟨r4, 0, none⟩)], .func (.func 256) #[] #[.pointer (some ⟨p4, 0, none⟩), .pointer (some ⟨q4, 0, none⟩)], .func (.func 245) #[] #[], .func (.func 249) #[] #[]]) (.int .i64 2)).run Tryz.prog u = .ok (.agg #[.func (.func 245) #[] #[], .func (.func 256) #[] #[.pointer (some ⟨p2, 0, none⟩), .pointer (some ⟨q2, 0, none⟩)]]) u := by kernel_rfl
theorem idxC_3 (p1 q1 p2 q2 r3 p3 q3 r4 p4 q4 : Nat) (u : World) : (Instr.index 248 (.agg #[.nilFunc, .nilFunc, .func (.func 245) #[] #[], .func (.func 256) #[] #[.pointer (some ⟨p1, 0, none⟩), .pointer (some ⟨q1, 0, none⟩)], .func (.func 245) #[] #[], .func (.func 256) #[] #[.pointer (some ⟨p2, 0, none⟩), .pointer (some ⟨q2, 0, none⟩)], .func (.func 258) #[] #[.pointer (some ⟨r3, 0, none⟩)], .func (.func 256) #[] #[.pointer (some ⟨p3, 0, none⟩), .pointer (some ⟨q3, 0, none⟩)], .func (.func 258) #[] #[.pointer (some ⟨r4, 0, none⟩)], .func (.func 256) #[] #[.pointer (some ⟨p4, 0, none⟩), .pointer (some ⟨q4, 0, none⟩)], .func (.func 245) #[] #[], .func (.func 249) #[] #[]]) (.int .i64 3)).run Tryz.prog u = .ok (.agg #[.func (.func 258) #[] #[.pointer (some ⟨r3, 0, none⟩)], .func (.func 256) #[] #[.pointer (some ⟨p3, 0, none⟩), .pointer (some ⟨q3, 0, none⟩)]]) u := by kernel_rfl
theorem idxC_4 (p1 q1 p2 q2 r3 p3 q3 r4 p4 q4 : Nat) (u : World) : (Instr.index 248 (.agg #[.nilFunc, .nilFunc, .func (.func 245) #[] #[], .func (.func 256) #[] #[.pointer (some ⟨p1, 0, none⟩), .pointer (some ⟨q1, 0, none⟩)], .func (.func 245) #[] #[], .func (.func 256) #[] #[.pointer (some ⟨p2, 0, none⟩), .pointer (some ⟨q2, 0, none⟩)], .func (.func 258) #[] #[.pointer (some ⟨r3, 0, none⟩)], .func (.func 256) #[] #[.pointer (some ⟨p3, 0, none⟩), .pointer (some ⟨q3, 0, none⟩)], .func (.func 258) #[] #[.pointer (some ⟨r4, 0, none⟩)], .func (.func 256) #[] #[.pointer (some ⟨p4, 0, none⟩), .pointer (some ⟨q4, 0, none⟩)], .func (.func 245) #[] #[], .func (.func 249) #[] #[]]) (.int .i64 4)).run Tryz.prog u = .ok (.agg #[.func (.func 258) #[] #[.pointer (some ⟨r4, 0, none⟩)], .func (.func 256) #[] #[.pointer (some ⟨p4, 0, none⟩), .pointer (some ⟨q4, 0, none⟩)]]) u := by kernel_rfl
theorem idxC_5 (p1 q1 p2 q2 r3 p3 q3 r4 p4 q4 : Nat) (u : World) : (Instr.index 248 (.agg #[.nilFunc, .nilFunc, .func (.func 245) #[] #[], .func (.func 256) #[] #[.pointer (some ⟨p1, 0, none⟩), .pointer (some ⟨q1, 0, none⟩)], .func (.func 245) #[] #[], .func (.func 256) #[] #[.pointer (some ⟨p2, 0, none⟩), .pointer (some ⟨q2, 0, none⟩)], .func (.func 258) #[] #[.pointer (some ⟨r3, 0, none⟩)], .func (.func 256) #[] #[.pointer (some ⟨p3, 0, none⟩), .pointer (some ⟨q3, 0, none⟩)], .func (.func 258) #[] #[.pointer (some ⟨r4, 0, none⟩)], .func (.func 256) #[] #[.pointer (some ⟨p4, 0, none⟩), .pointer (some ⟨q4, 0, none⟩)], .func (.func 245) #[] #[], .func (.func 249) #[] #[]]) (.int .i64 5)).run Tryz.prog u = .ok (.agg #[.func (.func 245) #[] #[], .func (.func 249) #[] #[]]) u := by kernel_rfl
def ConvRet (c : Nat) (w : World) (e : Ending) (w' : World) : Prop := ∃ v, e = .returned (.tuple #[v, .int .i64 0]) ∧ ConvAt w' c v ∧ Below w.heap.size w w'
theorem find_1 (w : World) : Calls Tryz.prog 197 #[.int .i64 1] w (ConvRet 1 w) := by
 have B := Bx.new w #[.nilFunc, .nilFunc] 187
 have hb := (Below.refl w.heap.size w).alloc (Nat.le_refl _) (.cells #[.nilFunc, .nilFunc] 187)
 go_enter Tryz.func197, Tryz.ntmps197
 go_wp2_with fail
 refine (conventions_any _).mono ?_
 rintro e w1 ⟨p1, q1, p2, q2, r3, p3, q3, r4, p4, q4, rfl, bp1, bq1, bp2, bq2, br3, bp3, bq3, br4, bp4, bq4, hb1⟩
 replace B := B.on hb1
 have hbb := hb.trans (hb1.mono hb.size)
 have hi := idxC_1 p1 q1 p2 q2 r3 p3 q3 r4 p4 q4
 have hc : ConvAt w1 1 (.agg #[actF, overF p1 q1]) := .inl ⟨rfl, p1, q1, rfl, bp1, bq1⟩
 clear hb hb1 bp1 bq1 bp2 bq2 br3 bp3 bq3 br4 bp4 bq4
 have x0 := B.cell (i := 0) (v := .nilFunc) rfl
 have x1 := B.cell (i := 1) (v := .nilFunc) rfl
 have f0 := B.frozen 0
 have f1 := B.frozen 1
 have hne : ∀ p cs, Bx w1 p cs → cs.size = 1 → p ≠ w.heap.size := fun p cs h hs => h.ne B (by rw [hs]; simp)
 unfold actF calF thirtyF overF
 go_wp2_with fail
 have hc2 := (hc.put hne 0 (actF)).put (fun p cs h hs => h.ne (B.set 0 (actF)) (by rw [hs]; simp)) 1 (overF p1 q1)
 have B6 := (B.set 0 (actF)).set 1 (overF p1 q1)
 have y0 := B6.cell (i := 0) (v := actF) rfl
 have y1 := B6.cell (i := 1) (v := overF p1 q1) rfl
 refine bodyPost_ret (v := .tuple #[.agg #[actF, overF p1 q1], .int .i64 0]) ?_ rfl ⟨_, rfl, hc2, (hbb.setCell (Nat.le_refl _) _).setCell (Nat.le_refl _) _⟩
 unfold actF overF  at y0 y1 ⊢
 simp [results, Tryz.results197, go_sem, y0, y1]
theorem find_2 (w : World) : Calls Tryz.prog 197 #[.int .i64 2] w (ConvRet 2 w) := by
 have B := Bx.new w #[.nilFunc, .nilFunc] 187
 have hb := (Below.refl w.heap.size w).alloc (Nat.le_refl _) (.cells #[.nilFunc, .nilFunc] 187)
 go_enter Tryz.func197, Tryz.ntmps197
 go_wp2_with fail
 refine (conventions_any _).mono ?_
 rintro e w1 ⟨p1, q1, p2, q2, r3, p3, q3, r4, p4, q4, rfl, bp1, bq1, bp2, bq2, br3, bp3, bq3, br4, bp4, bq4, hb1⟩
 replace B := B.on hb1
 have hbb := hb.trans (hb1.mono hb.size)
 have hi := idxC_2 p1 q1 p2 q2 r3 p3 q3 r4 p4 q4
 have hc : ConvAt w1 2 (.agg #[actF, overF p2 q2]) := .inr (.inl ⟨rfl, p2, q2, rfl, bp2, bq2⟩)
 clear hb hb1 bp1 bq1 bp2 bq2 br3 bp3 bq3 br4 bp4 bq4
 have x0 := B.cell (i := 0) (v := .nilFunc) rfl
 have x1 := B.cell (i := 1) (v := .nilFunc) rfl
 have f0 := B.frozen 0
 have f1 := B.frozen 1
 have hne : ∀ p cs, Bx w1 p cs → cs.size = 1 → p ≠ w.heap.size := fun p cs h hs => h.ne B (by rw [hs]; simp)
 unfold actF calF thirtyF overF
 go_wp2_with fail
 have hc2 := (hc.put hne 0 (actF)).put (fun p cs h hs => h.ne (B.set 0 (actF)) (by rw [hs]; simp)) 1 (overF p2 q2)
 have B6 := (B.set 0 (actF)).set 1 (overF p2 q2)
 have y0 := B6.cell (i := 0) (v := actF) rfl
 have y1 := B6.cell (i := 1) (v := overF p2 q2) rfl
 refine bodyPost_ret (v := .tuple #[.agg #[actF, overF p2 q2], .int .i64 0]) ?_ rfl ⟨_, rfl, hc2, (hbb.setCell (Nat.le_refl _) _).setCell (Nat.le_refl _) _⟩
 unfold actF overF  at y0 y1 ⊢
 simp [results, Tryz.results197, go_sem, y0, y1]
theorem find_3 (w : World) : Calls Tryz.prog 197 #[.int .i64 3] w (ConvRet 3 w) := by
 have B := Bx.new w #[.nilFunc, .nilFunc] 187
 have hb := (Below.refl w.heap.size w).alloc (Nat.le_refl _) (.cells #[.nilFunc, .nilFunc] 187)
 go_enter Tryz.func197, Tryz.ntmps197
 go_wp2_with fail
 refine (conventions_any _).mono ?_
 rintro e w1 ⟨p1, q1, p2, q2, r3, p3, q3, r4, p4, q4, rfl, bp1, bq1, bp2, bq2, br3, bp3, bq3, br4, bp4, bq4, hb1⟩
 replace B := B.on hb1
 have hbb := hb.trans (hb1.mono hb.size)
 have hi := idxC_3 p1 q1 p2 q2 r3 p3 q3 r4 p4 q4
 have hc : ConvAt w1 3 (.agg #[thirtyF r3, overF p3 q3]) := .inr (.inr (.inl ⟨rfl, r3, p3, q3, rfl, br3, bp3, bq3⟩))
 clear hb hb1 bp1 bq1 bp2 bq2 br3 bp3 bq3 br4 bp4 bq4
 have x0 := B.cell (i := 0) (v := .nilFunc) rfl
 have x1 := B.cell (i := 1) (v := .nilFunc) rfl
 have f0 := B.frozen 0
 have f1 := B.frozen 1
 have hne : ∀ p cs, Bx w1 p cs → cs.size = 1 → p ≠ w.heap.size := fun p cs h hs => h.ne B (by rw [hs]; simp)
 unfold actF calF thirtyF overF
 go_wp2_with fail
 have hc2 := (hc.put hne 0 (thirtyF r3)).put (fun p cs h hs => h.ne (B.set 0 (thirtyF r3)) (by rw [hs]; simp)) 1 (overF p3 q3)
 have B6 := (B.set 0 (thirtyF r3)).set 1 (overF p3 q3)
 have y0 := B6.cell (i := 0) (v := thirtyF r3) rfl
 have y1 := B6.cell (i := 1) (v := overF p3 q3) rfl
 refine bodyPost_ret (v := .tuple #[.agg #[thirtyF r3, overF p3 q3], .int .i64 0]) ?_ rfl ⟨_, rfl, hc2, (hbb.setCell (Nat.le_refl _) _).setCell (Nat.le_refl _) _⟩
 unfold overF thirtyF at y0 y1 ⊢
 simp [results, Tryz.results197, go_sem, y0, y1]
theorem find_4 (w : World) : Calls Tryz.prog 197 #[.int .i64 4] w (ConvRet 4 w) := by
 have B := Bx.new w #[.nilFunc, .nilFunc] 187
 have hb := (Below.refl w.heap.size w).alloc (Nat.le_refl _) (.cells #[.nilFunc, .nilFunc] 187)
 go_enter Tryz.func197, Tryz.ntmps197
 go_wp2_with fail
 refine (conventions_any _).mono ?_
 rintro e w1 ⟨p1, q1, p2, q2, r3, p3, q3, r4, p4, q4, rfl, bp1, bq1, bp2, bq2, br3, bp3, bq3, br4, bp4, bq4, hb1⟩
 replace B := B.on hb1
 have hbb := hb.trans (hb1.mono hb.size)
 have hi := idxC_4 p1 q1 p2 q2 r3 p3 q3 r4 p4 q4
 have hc : ConvAt w1 4 (.agg #[thirtyF r4, overF p4 q4]) := .inr (.inr (.inr (.inl ⟨rfl, r4, p4, q4, rfl, br4, bp4, bq4⟩)))
 clear hb hb1 bp1 bq1 bp2 bq2 br3 bp3 bq3 br4 bp4 bq4
 have x0 := B.cell (i := 0) (v := .nilFunc) rfl
 have x1 := B.cell (i := 1) (v := .nilFunc) rfl
 have f0 := B.frozen 0
 have f1 := B.frozen 1
 have hne : ∀ p cs, Bx w1 p cs → cs.size = 1 → p ≠ w.heap.size := fun p cs h hs => h.ne B (by rw [hs]; simp)
 unfold actF calF thirtyF overF
 go_wp2_with fail
 have hc2 := (hc.put hne 0 (thirtyF r4)).put (fun p cs h hs => h.ne (B.set 0 (thirtyF r4)) (by rw [hs]; simp)) 1 (overF p4 q4)
 have B6 := (B.set 0 (thirtyF r4)).set 1 (overF p4 q4)
 have y0 := B6.cell (i := 0) (v := thirtyF r4) rfl
 have y1 := B6.cell (i := 1) (v := overF p4 q4) rfl
 refine bodyPost_ret (v := .tuple #[.agg #[thirtyF r4, overF p4 q4], .int .i64 0]) ?_ rfl ⟨_, rfl, hc2, (hbb.setCell (Nat.le_refl _) _).setCell (Nat.le_refl _) _⟩
 unfold overF thirtyF at y0 y1 ⊢
 simp [results, Tryz.results197, go_sem, y0, y1]
theorem find_5 (w : World) : Calls Tryz.prog 197 #[.int .i64 5] w (ConvRet 5 w) := by
 have B := Bx.new w #[.nilFunc, .nilFunc] 187
 have hb := (Below.refl w.heap.size w).alloc (Nat.le_refl _) (.cells #[.nilFunc, .nilFunc] 187)
 go_enter Tryz.func197, Tryz.ntmps197
 go_wp2_with fail
 refine (conventions_any _).mono ?_
 rintro e w1 ⟨p1, q1, p2, q2, r3, p3, q3, r4, p4, q4, rfl, bp1, bq1, bp2, bq2, br3, bp3, bq3, br4, bp4, bq4, hb1⟩
 replace B := B.on hb1
 have hbb := hb.trans (hb1.mono hb.size)
 have hi := idxC_5 p1 q1 p2 q2 r3 p3 q3 r4 p4 q4
 have hc : ConvAt w1 5 (.agg #[actF, calF]) := .inr (.inr (.inr (.inr ⟨rfl, rfl⟩)))
 clear hb hb1 bp1 bq1 bp2 bq2 br3 bp3 bq3 br4 bp4 bq4
 have x0 := B.cell (i := 0) (v := .nilFunc) rfl
 have x1 := B.cell (i := 1) (v := .nilFunc) rfl
 have f0 := B.frozen 0
 have f1 := B.frozen 1
 have hne : ∀ p cs, Bx w1 p cs → cs.size = 1 → p ≠ w.heap.size := fun p cs h hs => h.ne B (by rw [hs]; simp)
 unfold actF calF thirtyF overF
 go_wp2_with fail
 have hc2 := (hc.put hne 0 (actF)).put (fun p cs h hs => h.ne (B.set 0 (actF)) (by rw [hs]; simp)) 1 (calF)
 have B6 := (B.set 0 (actF)).set 1 (calF)
 have y0 := B6.cell (i := 0) (v := actF) rfl
 have y1 := B6.cell (i := 1) (v := calF) rfl
 refine bodyPost_ret (v := .tuple #[.agg #[actF, calF], .int .i64 0]) ?_ rfl ⟨_, rfl, hc2, (hbb.setCell (Nat.le_refl _) _).setCell (Nat.le_refl _) _⟩
 unfold actF calF  at y0 y1 ⊢
 simp [results, Tryz.results197, go_sem, y0, y1]
theorem find_no {c : Int} (h : c < 1 ∨ 5 < c) (w : World) : Calls Tryz.prog 197 #[.int .i64 c] w fun e w' => e = .returned (.tuple #[.agg #[.nilFunc, .nilFunc], .int .i64 2]) ∧ Below w.heap.size w w' := by
 have B := Bx.new w #[.nilFunc, .nilFunc] 187
 have hb := (Below.refl w.heap.size w).alloc (Nat.le_refl _) (.cells #[.nilFunc, .nilFunc] 187)
 have x0 := B.cell (i := 0) (v := .nilFunc) rfl
 have x1 := B.cell (i := 1) (v := .nilFunc) rfl
 have f0 := B.frozen 0
 have f1 := B.frozen 1
 have B6 := (B.set 0 .nilFunc).set 1 .nilFunc
 have y0 := B6.cell (i := 0) (v := .nilFunc) rfl
 have y1 := B6.cell (i := 1) (v := .nilFunc) rfl
 by_cases h1 : c < 1
 ·have q1 : decide (c < 1) = true := decide_eq_true h1
  go_enter Tryz.func197, Tryz.ntmps197
  go_wp2_with fail
  refine bodyPost_ret (v := .tuple #[.agg #[.nilFunc, .nilFunc], .int .i64 2]) ?_ rfl ⟨rfl, hb⟩
  simp [results, Tryz.results197, go_sem]
 ·have q1 : decide (c < 1) = false := decide_eq_false h1
  have q2 : decide (5 < c) = true := decide_eq_true (by omega)
  go_enter Tryz.func197, Tryz.ntmps197
  go_wp2_with fail
  refine bodyPost_ret (v := .tuple #[.agg #[.nilFunc, .nilFunc], .int .i64 2]) ?_ rfl ⟨rfl, hb⟩
  simp [results, Tryz.results197, go_sem]
end Go.Proofs.YticfdeaphiifeaaGreatDoor
namespace Go.Proofs.YticfdeaphiifeaaGreatDoor
open Go.RowKit Go.Shelf Dec
open QQ
theorem find_in {c : Int} (h1 : 1 ≤ c) (h5 : c ≤ 5) (w : World) : Calls Tryz.prog 197 #[.int .i64 c] w (ConvRet c.toNat w) := by
 have : c = 1 ∨ c = 2 ∨ c = 3 ∨ c = 4 ∨ c = 5 := by omega
 rcases this with rfl | rfl | rfl | rfl | rfl
 ·exact find_1 w
 ·exact find_2 w
 ·exact find_3 w
 ·exact find_4 w
 ·exact find_5 w
theorem ConvAt.alloc {w : World} {c : Nat} {v : Value} (h : ConvAt w c v) (o : Obj) : ConvAt (w.alloc o) c v := h.on ((Below.refl _ _).alloc (Nat.le_refl _) o)
theorem check_no {c A B : Int} (h : c < 1 ∨ 5 < c) (w : World) (hg : Gl w) : Calls Tryz.prog 168 #[.int .i64 c, .int .i64 A, .int .i64 B] w fun e w' => ∃ v, e = .returned (.tuple #[v, .int .i64 2]) ∧ v = .agg #[.nilFunc, .nilFunc] ∧ Below w.heap.size w w' := by
 have hs := St.refl hg
 have B0 := Bx.new w #[.nilFunc, .nilFunc] 187
 have hs0 := hs.alloc (.cells #[.nilFunc, .nilFunc] 187)
 go_enter Tryz.func168, Tryz.ntmps168
 go_wp2_with fail
 refine (find_no h _).mono ?_
 rintro e w1 ⟨rfl, hb⟩
 have B2 := (B0.on hb).alloc (.cells #[.nilFunc, .nilFunc] 187)
 have hs := (hs0.on hb).alloc (.cells #[.nilFunc, .nilFunc] 187)
 have x0 := B2.cell (i := 0) (v := .nilFunc) rfl
 have x1 := B2.cell (i := 1) (v := .nilFunc) rfl
 have f0 := B2.frozen 0
 have f1 := B2.frozen 1
 go_wp2_with fail
 have B6 := (B2.set 0 (.nilFunc)).set 1 (.nilFunc)
 have y0 := B6.cell (i := 0) (v := .nilFunc) rfl
 have y1 := B6.cell (i := 1) (v := .nilFunc) rfl
 have hs4 := (hs.set (b := w.heap.size) (Nat.le_refl _) 0 (.nilFunc)).set (b := w.heap.size) (Nat.le_refl _) 1 (.nilFunc)
 refine bodyPost_ret (v := .tuple #[.agg #[.nilFunc, .nilFunc], .int .i64 2]) ?_ rfl ⟨_, rfl, rfl, hs4.2⟩
 simp [results, Tryz.results168, go_sem, y0, y1]
theorem check_dayA {c A B : Int} (h1 : 1 ≤ c) (h5 : c ≤ 5) (hA : notDay A = true) (w : World) (hg : Gl w) : Calls Tryz.prog 168 #[.int .i64 c, .int .i64 A, .int .i64 B] w fun e w' => ∃ v, e = .returned (.tuple #[v, .int .i64 13]) ∧ ConvAt w' c.toNat v ∧ Below w.heap.size w w' := by
 have hs := St.refl hg
 have B0 := Bx.new w #[.nilFunc, .nilFunc] 187
 have hs0 := hs.alloc (.cells #[.nilFunc, .nilFunc] 187)
 have K1 := dvalid_any A
 have K2 := dvalid_any B
 rw [hA] at K1
 clear hA
 go_enter Tryz.func168, Tryz.ntmps168
 go_wp2_with fail
 refine (find_in h1 h5 _).mono ?_
 rintro e w1 ⟨v, rfl, hc, hb⟩
 obtain ⟨f, cap, g, cap', rfl⟩ := hc.two
 have B1 := (B0.on hb).alloc (.cells #[.func (.func f) #[] cap, .func (.func g) #[] cap'] 187)
 have hlt : w.heap.size < w1.heap.size := (B0.on hb).lt
 have C1 := Bx.new w1 #[.func (.func f) #[] cap, .func (.func g) #[] cap'] 187
 have hs := (hs0.on hb).alloc (.cells #[.func (.func f) #[] cap, .func (.func g) #[] cap'] 187)
 replace hc := hc.alloc (.cells #[.func (.func f) #[] cap, .func (.func g) #[] cap'] 187)
 go_wp2_with fail
 refine K1.step hs ?_
 intro v0 hs hb
 replace B1 := B1.on hb
 replace C1 := C1.on hb
 replace hc := hc.on hb
 have x0 := B1.cell (i := 0) (v := .nilFunc) rfl
 have x1 := B1.cell (i := 1) (v := .nilFunc) rfl
 have f0 := B1.frozen 0
 have f1 := B1.frozen 1
 have z0 := C1.cell (i := 0) (v := .func (.func f) #[] cap) rfl
 have z1 := C1.cell (i := 1) (v := .func (.func g) #[] cap') rfl
 go_wp2_with fail
 have hc2 := (hc.put (fun p cs h hs => h.ne B1 (by rw [hs]; simp)) 0 (.func (.func f) #[] cap)).put (fun p cs h hs => h.ne (B1.set 0 (.func (.func f) #[] cap)) (by rw [hs]; simp)) 1 (.func (.func g) #[] cap')
 have B6 := (B1.set 0 (.func (.func f) #[] cap)).set 1 (.func (.func g) #[] cap')
 have y0 := B6.cell (i := 0) (v := .func (.func f) #[] cap) rfl
 have y1 := B6.cell (i := 1) (v := .func (.func g) #[] cap') rfl
 have hs4 := (hs.set (b := w.heap.size) (Nat.le_refl _) 0 (.func (.func f) #[] cap)).set (b := w.heap.size) (Nat.le_refl _) 1 (.func (.func g) #[] cap')
 refine bodyPost_ret (v := .tuple #[.agg #[.func (.func f) #[] cap, .func (.func g) #[] cap'], .int .i64 13]) ?_ rfl ⟨_, rfl, hc2, hs4.2⟩
 simp [results, Tryz.results168, go_sem, y0, y1]
theorem check_dayB {c A B : Int} (h1 : 1 ≤ c) (h5 : c ≤ 5) (hA : notDay A = false) (hB : notDay B = true) (w : World) (hg : Gl w) : Calls Tryz.prog 168 #[.int .i64 c, .int .i64 A, .int .i64 B] w fun e w' => ∃ v, e = .returned (.tuple #[v, .int .i64 13]) ∧ ConvAt w' c.toNat v ∧ Below w.heap.size w w' := by
 have hs := St.refl hg
 have B0 := Bx.new w #[.nilFunc, .nilFunc] 187
 have hs0 := hs.alloc (.cells #[.nilFunc, .nilFunc] 187)
 have K1 := dvalid_any A
 have K2 := dvalid_any B
 rw [hA] at K1
 rw [hB] at K2
 clear hA hB
 go_enter Tryz.func168, Tryz.ntmps168
 go_wp2_with fail
 refine (find_in h1 h5 _).mono ?_
 rintro e w1 ⟨v, rfl, hc, hb⟩
 obtain ⟨f, cap, g, cap', rfl⟩ := hc.two
 have B1 := (B0.on hb).alloc (.cells #[.func (.func f) #[] cap, .func (.func g) #[] cap'] 187)
 have hlt : w.heap.size < w1.heap.size := (B0.on hb).lt
 have C1 := Bx.new w1 #[.func (.func f) #[] cap, .func (.func g) #[] cap'] 187
 have hs := (hs0.on hb).alloc (.cells #[.func (.func f) #[] cap, .func (.func g) #[] cap'] 187)
 replace hc := hc.alloc (.cells #[.func (.func f) #[] cap, .func (.func g) #[] cap'] 187)
 go_wp2_with fail
 refine K1.step hs ?_
 intro v0 hs hb
 replace B1 := B1.on hb
 replace C1 := C1.on hb
 replace hc := hc.on hb
 go_wp2_with fail
 refine K2.step hs ?_
 intro v1 hs hb
 replace B1 := B1.on hb
 replace C1 := C1.on hb
 replace hc := hc.on hb
 have x0 := B1.cell (i := 0) (v := .nilFunc) rfl
 have x1 := B1.cell (i := 1) (v := .nilFunc) rfl
 have f0 := B1.frozen 0
 have f1 := B1.frozen 1
 have z0 := C1.cell (i := 0) (v := .func (.func f) #[] cap) rfl
 have z1 := C1.cell (i := 1) (v := .func (.func g) #[] cap') rfl
 go_wp2_with fail
 have hc2 := (hc.put (fun p cs h hs => h.ne B1 (by rw [hs]; simp)) 0 (.func (.func f) #[] cap)).put (fun p cs h hs => h.ne (B1.set 0 (.func (.func f) #[] cap)) (by rw [hs]; simp)) 1 (.func (.func g) #[] cap')
 have B6 := (B1.set 0 (.func (.func f) #[] cap)).set 1 (.func (.func g) #[] cap')
 have y0 := B6.cell (i := 0) (v := .func (.func f) #[] cap) rfl
 have y1 := B6.cell (i := 1) (v := .func (.func g) #[] cap') rfl
 have hs4 := (hs.set (b := w.heap.size) (Nat.le_refl _) 0 (.func (.func f) #[] cap)).set (b := w.heap.size) (Nat.le_refl _) 1 (.func (.func g) #[] cap')
 refine bodyPost_ret (v := .tuple #[.agg #[.func (.func f) #[] cap, .func (.func g) #[] cap'], .int .i64 13]) ?_ rfl ⟨_, rfl, hc2, hs4.2⟩
 simp [results, Tryz.results168, go_sem, y0, y1]
theorem check_order {c A B : Int} (h1 : 1 ≤ c) (h5 : c ≤ 5) (hA : notDay A = false) (hB : notDay B = false) (hl : B < A) (w : World) (hg : Gl w) : Calls Tryz.prog 168 #[.int .i64 c, .int .i64 A, .int .i64 B] w fun e w' => ∃ v, e = .returned (.tuple #[v, .int .i64 8]) ∧ ConvAt w' c.toNat v ∧ Below w.heap.size w w' := by
 have hs := St.refl hg
 have B0 := Bx.new w #[.nilFunc, .nilFunc] 187
 have hs0 := hs.alloc (.cells #[.nilFunc, .nilFunc] 187)
 have K1 := dvalid_any A
 have K2 := dvalid_any B
 rw [hA] at K1
 rw [hB] at K2
 have q := decide_eq_true hl
 clear hA hB hl
 go_enter Tryz.func168, Tryz.ntmps168
 go_wp2_with fail
 refine (find_in h1 h5 _).mono ?_
 rintro e w1 ⟨v, rfl, hc, hb⟩
 obtain ⟨f, cap, g, cap', rfl⟩ := hc.two
 have B1 := (B0.on hb).alloc (.cells #[.func (.func f) #[] cap, .func (.func g) #[] cap'] 187)
 have hlt : w.heap.size < w1.heap.size := (B0.on hb).lt
 have C1 := Bx.new w1 #[.func (.func f) #[] cap, .func (.func g) #[] cap'] 187
 have hs := (hs0.on hb).alloc (.cells #[.func (.func f) #[] cap, .func (.func g) #[] cap'] 187)
 replace hc := hc.alloc (.cells #[.func (.func f) #[] cap, .func (.func g) #[] cap'] 187)
 go_wp2_with fail
 refine K1.step hs ?_
 intro v0 hs hb
 replace B1 := B1.on hb
 replace C1 := C1.on hb
 replace hc := hc.on hb
 go_wp2_with fail
 refine K2.step hs ?_
 intro v1 hs hb
 replace B1 := B1.on hb
 replace C1 := C1.on hb
 replace hc := hc.on hb
 have x0 := B1.cell (i := 0) (v := .nilFunc) rfl
 have x1 := B1.cell (i := 1) (v := .nilFunc) rfl
 have f0 := B1.frozen 0
 have f1 := B1.frozen 1
 have z0 := C1.cell (i := 0) (v := .func (.func f) #[] cap) rfl
 have z1 := C1.cell (i := 1) (v := .func (.func g) #[] cap') rfl
 go_wp2_with fail
 have hc2 := (hc.put (fun p cs h hs => h.ne B1 (by rw [hs]; simp)) 0 (.func (.func f) #[] cap)).put (fun p cs h hs => h.ne (B1.set 0 (.func (.func f) #[] cap)) (by rw [hs]; simp)) 1 (.func (.func g) #[] cap')
 have B6 := (B1.set 0 (.func (.func f) #[] cap)).set 1 (.func (.func g) #[] cap')
 have y0 := B6.cell (i := 0) (v := .func (.func f) #[] cap) rfl
 have y1 := B6.cell (i := 1) (v := .func (.func g) #[] cap') rfl
 have hs4 := (hs.set (b := w.heap.size) (Nat.le_refl _) 0 (.func (.func f) #[] cap)).set (b := w.heap.size) (Nat.le_refl _) 1 (.func (.func g) #[] cap')
 refine bodyPost_ret (v := .tuple #[.agg #[.func (.func f) #[] cap, .func (.func g) #[] cap'], .int .i64 8]) ?_ rfl ⟨_, rfl, hc2, hs4.2⟩
 simp [results, Tryz.results168, go_sem, y0, y1]
theorem check_ok {c A B : Int} (h1 : 1 ≤ c) (h5 : c ≤ 5) (hA : notDay A = false) (hB : notDay B = false) (hl : ¬ B < A) (w : World) (hg : Gl w) : Calls Tryz.prog 168 #[.int .i64 c, .int .i64 A, .int .i64 B] w fun e w' => ∃ v, e = .returned (.tuple #[v, .int .i64 0]) ∧ ConvAt w' c.toNat v ∧ Below w.heap.size w w' := by
 have hs := St.refl hg
 have B0 := Bx.new w #[.nilFunc, .nilFunc] 187
 have hs0 := hs.alloc (.cells #[.nilFunc, .nilFunc] 187)
 have K1 := dvalid_any A
 have K2 := dvalid_any B
 rw [hA] at K1
 rw [hB] at K2
 have q := decide_eq_false hl
 clear hA hB hl
 go_enter Tryz.func168, Tryz.ntmps168
 go_wp2_with fail
 refine (find_in h1 h5 _).mono ?_
 rintro e w1 ⟨v, rfl, hc, hb⟩
 obtain ⟨f, cap, g, cap', rfl⟩ := hc.two
 have B1 := (B0.on hb).alloc (.cells #[.func (.func f) #[] cap, .func (.func g) #[] cap'] 187)
 have hlt : w.heap.size < w1.heap.size := (B0.on hb).lt
 have C1 := Bx.new w1 #[.func (.func f) #[] cap, .func (.func g) #[] cap'] 187
 have hs := (hs0.on hb).alloc (.cells #[.func (.func f) #[] cap, .func (.func g) #[] cap'] 187)
 replace hc := hc.alloc (.cells #[.func (.func f) #[] cap, .func (.func g) #[] cap'] 187)
 go_wp2_with fail
 refine K1.step hs ?_
 intro v0 hs hb
 replace B1 := B1.on hb
 replace C1 := C1.on hb
 replace hc := hc.on hb
 go_wp2_with fail
 refine K2.step hs ?_
 intro v1 hs hb
 replace B1 := B1.on hb
 replace C1 := C1.on hb
 replace hc := hc.on hb
 have x0 := B1.cell (i := 0) (v := .nilFunc) rfl
 have x1 := B1.cell (i := 1) (v := .nilFunc) rfl
 have f0 := B1.frozen 0
 have f1 := B1.frozen 1
 have z0 := C1.cell (i := 0) (v := .func (.func f) #[] cap) rfl
 have z1 := C1.cell (i := 1) (v := .func (.func g) #[] cap') rfl
 go_wp2_with fail
 have hc2 := (hc.put (fun p cs h hs => h.ne B1 (by rw [hs]; simp)) 0 (.func (.func f) #[] cap)).put (fun p cs h hs => h.ne (B1.set 0 (.func (.func f) #[] cap)) (by rw [hs]; simp)) 1 (.func (.func g) #[] cap')
 have B6 := (B1.set 0 (.func (.func f) #[] cap)).set 1 (.func (.func g) #[] cap')
 have y0 := B6.cell (i := 0) (v := .func (.func f) #[] cap) rfl
 have y1 := B6.cell (i := 1) (v := .func (.func g) #[] cap') rfl
 have hs4 := (hs.set (b := w.heap.size) (Nat.le_refl _) 0 (.func (.func f) #[] cap)).set (b := w.heap.size) (Nat.le_refl _) 1 (.func (.func g) #[] cap')
 refine bodyPost_ret (v := .tuple #[.agg #[.func (.func f) #[] cap, .func (.func g) #[] cap'], .int .i64 0]) ?_ rfl ⟨_, rfl, hc2, hs4.2⟩
 simp [results, Tryz.results168, go_sem, y0, y1]
end Go.Proofs.YticfdeaphiifeaaGreatDoor
namespace Go.Proofs.YticfdeaphiifeaaGreatDoor
open Go.RowKit Go.Shelf Dec
open QQ
theorem over1_act {A B : Int} {k : Int} (h1 : A.natAbs < 1000000) (h2 : B.natAbs < 1000000) (hk : k.natAbs < 1000) (h0 : k ≠ 0) (p q : Nat) :
  RetI (fun w => Bx w p #[actF] ∧ Bx w q #[.int .i64 k]) 256 #[.int .i64 A, .int .i64 B, .pointer (some ⟨p, 0, none⟩), .pointer (some ⟨q, 0, none⟩)] (FR (rat (B - A) k)) := by
 intro w hg hi
 have hs := St.refl hg
 have K1 := actual_any h1 h2
 have K2 := ratio_any (n := B - A) (d := k) (by omega) (by omega) h0
 unfold FR at K2 ⊢
 generalize frN (rat (B - A) k) = rn at *
 generalize frD (rat (B - A) k) = rd at *
 generalize B - A = D at *
 unfold actF at hi
 have hs0 := hs.alloc (.cells #[.string ⟨#[]⟩, .string ⟨#[]⟩] 34)
 have C := Bx.new w #[.string ⟨#[]⟩, .string ⟨#[]⟩] 34
 have z1 := (hi.1.alloc (.cells #[.string ⟨#[]⟩, .string ⟨#[]⟩] 34)).keeps (i := 0) rfl
 have z2 := (hi.2.alloc (.cells #[.string ⟨#[]⟩, .string ⟨#[]⟩] 34)).keeps (i := 0) rfl
 go_enter Tryz.func256, Tryz.ntmps256
 go_wp2_with fail
 refine wp_region_kept_tail 6 (by kernel_rfl) (by kernel_rfl) ?_
 simp only [List.take_succ_cons, List.take_zero, List.drop_succ_cons, List.drop_zero]
 repeat (go_big_quiet_step (first | (with_reducible exact K1.kept hs0) | (with_reducible exact K2.kept hs0)))
 refine wpQuiet_nil ?_
 rintro _ ⟨u1, rfl⟩
 have hs3 := hs0.kept u1
 have C1 := C.kept u1
 have x0 := C1.cell (i := 0) (v := .string ⟨#[]⟩) rfl
 have x1 := C1.cell (i := 1) (v := .string ⟨#[]⟩) rfl
 have f0 := C1.frozen 0
 have f1 := C1.frozen 1
 go_wp2_with fail
 have B6 := (C1.set 0 (.string rn)).set 1 (.string rd)
 have y0 := B6.cell (i := 0) (v := .string rn) rfl
 have y1 := B6.cell (i := 1) (v := .string rd) rfl
 have hs4 := (hs3.set (b := w.heap.size) (Nat.le_refl _) 0 (.string rn)).set (b := w.heap.size) (Nat.le_refl _) 1 (.string rd)
 exact bodyPost_ret (v := .agg #[.string rn, .string rd]) (by simp [results, Tryz.results256, go_sem, y0, y1]) rfl ⟨rfl, hs4.2⟩
theorem over1_thirty {A B D : Int} (hD : D.natAbs < 1000000) (r p q : Nat) {I : World → Prop} (hI : Stays I)
  (KT : RetI I 258 #[.int .i64 A, .int .i64 B, .pointer (some ⟨r, 0, none⟩)] (.int .i64 D)) :
  RetI (fun w => I w ∧ Bx w p #[thirtyF r] ∧ Bx w q #[.int .i64 360]) 256 #[.int .i64 A, .int .i64 B, .pointer (some ⟨p, 0, none⟩), .pointer (some ⟨q, 0, none⟩)] (FR (rat D 360)) := by
 intro w hg hi
 have hs := St.refl hg
 have K2 := ratio_any (n := D) (d := 360) (by omega) (by decide) (by decide)
 unfold FR at K2 ⊢
 generalize frN (rat D 360) = rn at *
 generalize frD (rat D 360) = rd at *
 unfold thirtyF at hi
 have hs0 := hs.alloc (.cells #[.string ⟨#[]⟩, .string ⟨#[]⟩] 34)
 have C := Bx.new w #[.string ⟨#[]⟩, .string ⟨#[]⟩] 34
 have z1 := (hi.2.1.alloc (.cells #[.string ⟨#[]⟩, .string ⟨#[]⟩] 34)).keeps (i := 0) rfl
 have z2 := (hi.2.2.alloc (.cells #[.string ⟨#[]⟩, .string ⟨#[]⟩] 34)).keeps (i := 0) rfl
 have hi1 : ∀ u : Kept (w.alloc (.cells #[.string ⟨#[]⟩, .string ⟨#[]⟩] 34)), I u.W := fun u => hI _ _ (hI _ _ hi.1 ((Below.refl _ _).alloc (Nat.le_refl _) _)) u.low
 clear hi
 go_enter Tryz.func256, Tryz.ntmps256
 go_wp2_with fail
 refine wp_region_kept_tail 6 (by kernel_rfl) (by kernel_rfl) ?_
 simp only [List.take_succ_cons, List.take_zero, List.drop_succ_cons, List.drop_zero]
 repeat (go_big_quiet_step (first | (with_reducible exact KT.kept hs0 hi1) | (with_reducible exact K2.kept hs0)))
 refine wpQuiet_nil ?_
 rintro _ ⟨u1, rfl⟩
 have hs3 := hs0.kept u1
 have C1 := C.kept u1
 have x0 := C1.cell (i := 0) (v := .string ⟨#[]⟩) rfl
 have x1 := C1.cell (i := 1) (v := .string ⟨#[]⟩) rfl
 have f0 := C1.frozen 0
 have f1 := C1.frozen 1
 go_wp2_with fail
 have B6 := (C1.set 0 (.string rn)).set 1 (.string rd)
 have y0 := B6.cell (i := 0) (v := .string rn) rfl
 have y1 := B6.cell (i := 1) (v := .string rd) rfl
 have hs4 := (hs3.set (b := w.heap.size) (Nat.le_refl _) 0 (.string rn)).set (b := w.heap.size) (Nat.le_refl _) 1 (.string rd)
 exact bodyPost_ret (v := .agg #[.string rn, .string rd]) (by simp [results, Tryz.results256, go_sem, y0, y1]) rfl ⟨rfl, hs4.2⟩
end Go.Proofs.YticfdeaphiifeaaGreatDoor
namespace Go.Proofs.YticfdeaphiifeaaGreatDoor
open Go.RowKit Go.Shelf Dec
open QQ
def CalIs (w : World) (s : Rat) (wr : World) : Prop := Bx wr w.heap.size #[.string ⟨#[]⟩, .string ⟨#[]⟩] ∧ Bx wr (w.heap.size + 1) #[.string (frN s), .string (frD s)]
theorem cal_step {n m nn e y : Nat} {L : Nat} (hm : m < 109573) (h2 : nn < m) (hy : yN nn = y) (hL : ylen y = L) (he : min m (beginN y + L) = e) (h0 : 1900 ≤ y) :
  actQ nn - actQ n + rat ((e : Int) - (nn : Int)) (L : Int) = actQ e - actQ n ∧ nn < e ∧ e ≤ m := by
 obtain ⟨s1, s2, s3, s4⟩ := year_spec (n := nn) (by omega)
 rw [hy] at s1 s2
 have hb := begin_next h0
 rw [hL] at hb
 have hst := actQ_step (a := nn) (e := e) hy (by omega) (by omega) (by omega)
 rw [hL] at hst
 refine ⟨?_, by omega, by omega⟩
 rw [← hst]
 grind
theorem act_fit2 {n m : Nat} (h : n < 109573) (h' : m < 109573) : FitQ 13 (actQ n - actQ m) := (FitQ.sub (act_fit h) (act_fit h')).mono (by omega)
theorem step_fit {d L : Int} (h : d.natAbs < 1000000) (h2 : L.natAbs < 1000) : FitQ 6 (rat d L) := by
 obtain ⟨p6, _, p3⟩ := pow10
 exact (FitQ.rat (k := 6) (m := 3) (by rw [p6]; exact h) (by rw [p3]; exact h2) (by omega)).mono (by omega)
theorem calendar_any {A B : Int} {n m : Nat} (hA : IsDay A n) (hB : IsDay B m) (hl : n ≤ m) : Ret 249 #[.int .i64 A, .int .i64 B] (FR (actQ m - actQ n)) := by
 intro w hg
 have hs := ((St.refl hg).alloc (.cells #[.string ⟨#[]⟩, .string ⟨#[]⟩] 34)).alloc (.cells #[.string ⟨#[]⟩, .string ⟨#[]⟩] 34)
 have H0 : Hid (CalIs w 0 ((w.alloc (.cells #[.string ⟨#[]⟩, .string ⟨#[]⟩] 34)).alloc (.cells #[.string ⟨#[]⟩, .string ⟨#[]⟩] 34))) := by
  refine ⟨(Bx.new w _ _).alloc _, ?_⟩
  rw [frN_zero, frD_zero]
  exact Bx.new1 w _ _ _
 have HA := Lib.hid hA
 have HB := Lib.hid hB
 have HL := Lib.hid hl
 have b1 : B.natAbs < 1000000 := by have := hB.1; have := hB.2; omega
 clear hA hB hl
 go_enter Tryz.func249, Tryz.ntmps249
 go_wp2_with fail
 go_loopw [0] (fun s wr => ∃ (nn : Nat) (a : Int), s = .int .i64 a ∧ a.natAbs < 1000000 ∧ St w wr ∧ Hid (IsDay a nn ∧ nn ≤ m) ∧ Hid (CalIs w (actQ nn - actQ n) wr)) (fun s _ => (B - intOf s).toNat)
 case atStart => exact ⟨n, A, rfl, by have := HA.out.1; have := HA.out.2; omega, hs, ⟨HA.out, HL.out⟩, by rw [Rat.sub_self]; exact H0.out⟩
 case round =>
  obtain ⟨nn, a, rfl, a1, hs, HN, HC⟩ := hrel
  clear H0
  by_cases hab : a < B
  ·have q : decide (a < B) = true := decide_eq_true hab
   have hnm : nn < m := by have := HN.out.1.1; have := HB.out.1; omega
   have K1 := parts_ok HN.out.1
   have hsp := date_spec HN.out.1.2
   have y0 := hsp.y0
   have y1 := hsp.y1
   have K2 := leap_any (yN nn)
   have K3 := of_ok (first_date y0 y1)
   cases hlp : leapN (yN nn) with
   | true =>
    rw [hlp] at K2
    have hL : ylen (yN nn) = 366 := by unfold ylen; rw [hlp]; rfl
    clear hlp
    obtain ⟨e, he⟩ : ∃ e, min m (beginN (yN nn) + 366) = e := ⟨_, rfl⟩
    obtain ⟨hst, hlt, hle⟩ := cal_step (n := n) HB.out.2 hnm rfl hL he y0
    obtain ⟨F, hF⟩ : ∃ F : Int, (beginN (yN nn) : Int) - 25567 = F := ⟨_, rfl⟩
    obtain ⟨E, hE⟩ : ∃ E : Int, min B (F + 366) = E := ⟨_, rfl⟩
    have hEe : Hid (E = (e : Int) - 25567) := by have := HB.out.1; show _ = _; omega
    have hDe : E - a = (e : Int) - (nn : Int) := by have := HN.out.1.1; have := hEe.out; omega
    have hDa : (E - a).natAbs < 1000000 := by rw [hDe]; have := HB.out.2; omega
    have K4 := ratio_any (n := E - a) (d := 366) (by omega) (by decide) (by decide)
    have hn1 : n < 109573 := Nat.lt_of_le_of_lt (show n ≤ m from HL.out) HB.out.2
    have K5 := AddF (Vq.fr (act_fit2 HN.out.1.2 hn1) (by omega)) (Vq.fr (step_fit (d := E - a) (L := 366) hDa (by decide)) (by omega))
    have hst2 : actQ nn - actQ n + rat (E - a) 366 = actQ e - actQ n := by rw [hDe]; exact hst
    rw [hst2] at K5
    have hfb : F.natAbs < 1000000 := by have h1 := begin_mono (y := yN nn) (z := 2200) y0 (by omega); rw [begin_end] at h1; omega
    rw [hF] at K3
    have HLT : Hid (nn < e ∧ e ≤ m ∧ E.natAbs < 1000000 ∧ a < E) := ⟨hlt, hle, by have := hEe.out; have := HB.out.2; omega, by have := hEe.out; have := HN.out.1.1; omega⟩
    have hEb : E.natAbs < 1000000 := HLT.out.2.2.1
    have R0 := HC.out.1
    have S0 := HC.out.2
    have HE := Lib.hid hE
    unfold FR at K4 K5
    unfold FV at K5
    clear hst hst2 hDe he hL hF hDa hlt hle hn1 y0 y1 hnm hsp hE
    generalize frN (actQ nn - actQ n) = sn at *
    generalize frD (actQ nn - actQ n) = sd at *
    have HT : Hid (.agg #[.string (frN (actQ e - actQ n)), .string (frD (actQ e - actQ n))] = FR (actQ e - actQ n)) := rfl
    obtain ⟨tn, htn⟩ : ∃ t, frN (actQ e - actQ n) = t := ⟨_, rfl⟩
    obtain ⟨td, htd⟩ : ∃ t, frD (actQ e - actQ n) = t := ⟨_, rfl⟩
    rw [htn, htd] at K5
    have HTN := Lib.hid htn
    have HTD := Lib.hid htd
    clear htn htd HT
    generalize frN (rat (E - a) 366) = rn at *
    generalize frD (rat (E - a) 366) = rd at *
    generalize yN nn = y at *
    generalize mN nn = mo at *
    generalize dN nn = da at *
    go_wp2_with fail
    refine K1.step hs ?_
    intro w1 hs hb
    have R1 := R0.on hb
    have S1 := S0.on hb
    go_wp2_with fail
    refine K2.step hs ?_
    intro w2 hs hb
    replace R1 := R1.on hb
    replace S1 := S1.on hb
    go_wp2_with fail
    refine K3.step hs ?_
    intro w3 hs hb
    replace R1 := R1.on hb
    replace S1 := S1.on hb
    have hE := HE.out
    go_wp2_with fail
    clear hE
    have z0 := S1.keeps (i := 0) rfl
    have z1 := S1.keeps (i := 1) rfl
    refine wp_region_kept_tail 7 (by kernel_rfl) (by kernel_rfl) ?_
    simp only [List.take_succ_cons, List.take_zero, List.drop_succ_cons, List.drop_zero]
    repeat (go_big_quiet_step (first | (with_reducible exact K4.kept hs) | (with_reducible exact K5.kept hs)))
    refine wpQuiet_nil ?_
    rintro _ ⟨u1, rfl⟩
    clear z0 z1
    have hs3 := hs.kept u1
    have R2 := R1.kept u1
    have S2 := S1.kept u1
    have x0 := S2.cell (i := 0) (v := .string sn) rfl
    have x1 := S2.cell (i := 1) (v := .string sd) rfl
    have f0 := S2.frozen 0
    have f1 := S2.frozen 1
    go_wp2_with fail
    go_roundw
    case rel =>
     have hs4 := (hs3.set (b := w.heap.size + 1) (by omega) 0 (.string tn)).set (b := w.heap.size + 1) (by omega) 1 (.string td)
     refine ⟨e, E, rfl, hEb, hs4, ⟨⟨hEe.out, Nat.lt_of_le_of_lt HLT.out.2.1 HB.out.2⟩, HLT.out.2.1⟩, ?_⟩
     refine ⟨(R2.other (by omega) 0 (.string tn)).other (by omega) 1 (.string td), ?_⟩
     rw [HTN.out, HTD.out]
     exact (S2.set 0 (.string tn)).set 1 (.string td)
    case measure => have := HLT.out.2.2.2; simp [intOf]; omega
   | false =>
    rw [hlp] at K2
    have hL : ylen (yN nn) = 365 := by unfold ylen; rw [hlp]; rfl
    clear hlp
    obtain ⟨e, he⟩ : ∃ e, min m (beginN (yN nn) + 365) = e := ⟨_, rfl⟩
    obtain ⟨hst, hlt, hle⟩ := cal_step (n := n) HB.out.2 hnm rfl hL he y0
    obtain ⟨F, hF⟩ : ∃ F : Int, (beginN (yN nn) : Int) - 25567 = F := ⟨_, rfl⟩
    obtain ⟨E, hE⟩ : ∃ E : Int, min B (F + 365) = E := ⟨_, rfl⟩
    have hEe : Hid (E = (e : Int) - 25567) := by have := HB.out.1; show _ = _; omega
    have hDe : E - a = (e : Int) - (nn : Int) := by have := HN.out.1.1; have := hEe.out; omega
    have hDa : (E - a).natAbs < 1000000 := by rw [hDe]; have := HB.out.2; omega
    have K4 := ratio_any (n := E - a) (d := 365) (by omega) (by decide) (by decide)
    have hn1 : n < 109573 := Nat.lt_of_le_of_lt (show n ≤ m from HL.out) HB.out.2
    have K5 := AddF (Vq.fr (act_fit2 HN.out.1.2 hn1) (by omega)) (Vq.fr (step_fit (d := E - a) (L := 365) hDa (by decide)) (by omega))
    have hst2 : actQ nn - actQ n + rat (E - a) 365 = actQ e - actQ n := by rw [hDe]; exact hst
    rw [hst2] at K5
    have hfb : F.natAbs < 1000000 := by have h1 := begin_mono (y := yN nn) (z := 2200) y0 (by omega); rw [begin_end] at h1; omega
    rw [hF] at K3
    have HLT : Hid (nn < e ∧ e ≤ m ∧ E.natAbs < 1000000 ∧ a < E) := ⟨hlt, hle, by have := hEe.out; have := HB.out.2; omega, by have := hEe.out; have := HN.out.1.1; omega⟩
    have hEb : E.natAbs < 1000000 := HLT.out.2.2.1
    have R0 := HC.out.1
    have S0 := HC.out.2
    have HE := Lib.hid hE
    unfold FR at K4 K5
    unfold FV at K5
    clear hst hst2 hDe he hL hF hDa hlt hle hn1 y0 y1 hnm hsp hE
    generalize frN (actQ nn - actQ n) = sn at *
    generalize frD (actQ nn - actQ n) = sd at *
    have HT : Hid (.agg #[.string (frN (actQ e - actQ n)), .string (frD (actQ e - actQ n))] = FR (actQ e - actQ n)) := rfl
    obtain ⟨tn, htn⟩ : ∃ t, frN (actQ e - actQ n) = t := ⟨_, rfl⟩
    obtain ⟨td, htd⟩ : ∃ t, frD (actQ e - actQ n) = t := ⟨_, rfl⟩
    rw [htn, htd] at K5
    have HTN := Lib.hid htn
    have HTD := Lib.hid htd
    clear htn htd HT
    generalize frN (rat (E - a) 365) = rn at *
    generalize frD (rat (E - a) 365) = rd at *
    generalize yN nn = y at *
    generalize mN nn = mo at *
    generalize dN nn = da at *
    go_wp2_with fail
    refine K1.step hs ?_
    intro w1 hs hb
    have R1 := R0.on hb
    have S1 := S0.on hb
    go_wp2_with fail
    refine K2.step hs ?_
    intro w2 hs hb
    replace R1 := R1.on hb
    replace S1 := S1.on hb
    go_wp2_with fail
    refine K3.step hs ?_
    intro w3 hs hb
    replace R1 := R1.on hb
    replace S1 := S1.on hb
    have hE := HE.out
    go_wp2_with fail
    clear hE
    have z0 := S1.keeps (i := 0) rfl
    have z1 := S1.keeps (i := 1) rfl
    refine wp_region_kept_tail 7 (by kernel_rfl) (by kernel_rfl) ?_
    simp only [List.take_succ_cons, List.take_zero, List.drop_succ_cons, List.drop_zero]
    repeat (go_big_quiet_step (first | (with_reducible exact K4.kept hs) | (with_reducible exact K5.kept hs)))
    refine wpQuiet_nil ?_
    rintro _ ⟨u1, rfl⟩
    clear z0 z1
    have hs3 := hs.kept u1
    have R2 := R1.kept u1
    have S2 := S1.kept u1
    have x0 := S2.cell (i := 0) (v := .string sn) rfl
    have x1 := S2.cell (i := 1) (v := .string sd) rfl
    have f0 := S2.frozen 0
    have f1 := S2.frozen 1
    go_wp2_with fail
    go_roundw
    case rel =>
     have hs4 := (hs3.set (b := w.heap.size + 1) (by omega) 0 (.string tn)).set (b := w.heap.size + 1) (by omega) 1 (.string td)
     refine ⟨e, E, rfl, hEb, hs4, ⟨⟨hEe.out, Nat.lt_of_le_of_lt HLT.out.2.1 HB.out.2⟩, HLT.out.2.1⟩, ?_⟩
     refine ⟨(R2.other (by omega) 0 (.string tn)).other (by omega) 1 (.string td), ?_⟩
     rw [HTN.out, HTD.out]
     exact (S2.set 0 (.string tn)).set 1 (.string td)
    case measure => have := HLT.out.2.2.2; simp [intOf]; omega
  ·have q : decide (a < B) = false := decide_eq_false hab
   have hnm : nn = m := by have := HN.out.1.1; have := HN.out.2; have := HB.out.1; omega
   have R0 := HC.out.1
   have S0 := HC.out.2
   rw [hnm] at S0
   clear HC hnm
   obtain ⟨sn, hsn⟩ : ∃ t, frN (actQ m - actQ n) = t := ⟨_, rfl⟩
   obtain ⟨sd, hsd⟩ : ∃ t, frD (actQ m - actQ n) = t := ⟨_, rfl⟩
   have e1 : Hid (FR (actQ m - actQ n) = .agg #[.string sn, .string sd]) := by show _ = _; unfold FR; rw [hsn, hsd]
   rw [hsn, hsd] at S0
   clear hsn hsd
   have x0 := S0.cell (i := 0) (v := .string sn) rfl
   have x1 := S0.cell (i := 1) (v := .string sd) rfl
   have x2 := R0.cell (i := 0) (v := .string ⟨#[]⟩) rfl
   have x3 := R0.cell (i := 1) (v := .string ⟨#[]⟩) rfl
   have f0 := R0.frozen 0
   have f1 := R0.frozen 1
   go_wp2_with fail
   have B6 := (R0.set 0 (.string sn)).set 1 (.string sd)
   have y0 := B6.cell (i := 0) (v := .string sn) rfl
   have y1 := B6.cell (i := 1) (v := .string sd) rfl
   have hs4 := (hs.set (b := w.heap.size) (Nat.le_refl _) 0 (.string sn)).set (b := w.heap.size) (Nat.le_refl _) 1 (.string sd)
   exact bodyPost_ret (v := .agg #[.string sn, .string sd]) (by simp [results, Tryz.results249, go_sem, y0, y1]) rfl ⟨by rw [e1.out], hs4.2⟩
end Go.Proofs.YticfdeaphiifeaaGreatDoor
namespace Go.Proofs.YticfdeaphiifeaaGreatDoor
open Go.RowKit Go.Shelf Dec
open QQ
theorem fraction_nils {c A B k : Int} (hk : (k != 0) = true) (w : World) (hg : Gl w)
  (KC : ∀ w, Gl w → Calls Tryz.prog 168 #[.int .i64 c, .int .i64 A, .int .i64 B] w fun e w' => e = .returned (.tuple #[.agg #[.nilFunc, .nilFunc], .int .i64 k]) ∧ Below w.heap.size w w') :
  Calls Tryz.prog 130 #[.int .i64 c, .int .i64 A, .int .i64 B] w fun e w' => e = .returned (.tuple #[FR 0, .int .i64 k]) ∧ Below w.heap.size w w' := by
 have hs := (St.refl hg).alloc (.cells #[.string ⟨#[]⟩, .string ⟨#[]⟩] 34)
 have B0 := Bx.new w #[.string ⟨#[]⟩, .string ⟨#[]⟩] 34
 have KCH := Lib.hid KC
 clear KC
 unfold FR
 rw [frN_zero, frD_zero]
 go_enter Tryz.func130, Tryz.ntmps130
 go_wp2_with fail
 refine (KCH.out _ hs.gl).mono ?_
 rintro e w1 ⟨rfl, hb⟩
 have B1 := (B0.on hb).alloc (.cells #[.nilFunc, .nilFunc] 187)
 have hs := (hs.on hb).alloc (.cells #[.nilFunc, .nilFunc] 187)
 have x0 := B1.cell (i := 0) (v := .string ⟨#[]⟩) rfl
 have x1 := B1.cell (i := 1) (v := .string ⟨#[]⟩) rfl
 have f0 := B1.frozen 0
 have f1 := B1.frozen 1
 go_wp2_with fail
 have B6 := (B1.set 0 (.string ⟨#[]⟩)).set 1 (.string ⟨#[]⟩)
 have y0 := B6.cell (i := 0) (v := .string ⟨#[]⟩) rfl
 have y1 := B6.cell (i := 1) (v := .string ⟨#[]⟩) rfl
 have hs4 := (hs.set (b := w.heap.size) (Nat.le_refl _) 0 (.string ⟨#[]⟩)).set (b := w.heap.size) (Nat.le_refl _) 1 (.string ⟨#[]⟩)
 exact bodyPost_ret (v := .tuple #[.agg #[.string ⟨#[]⟩, .string ⟨#[]⟩], .int .i64 k]) (by simp [results, Tryz.results130, go_sem, y0, y1]) rfl ⟨rfl, hs4.2⟩
theorem fraction_funs {c A B k : Int} (hk : (k != 0) = true) (w : World) (hg : Gl w)
  (KC : ∀ w, Gl w → Calls Tryz.prog 168 #[.int .i64 c, .int .i64 A, .int .i64 B] w fun e w' => ∃ f cap g cap2, e = .returned (.tuple #[.agg #[.func (.func f) #[] cap, .func (.func g) #[] cap2], .int .i64 k]) ∧ Below w.heap.size w w') :
  Calls Tryz.prog 130 #[.int .i64 c, .int .i64 A, .int .i64 B] w fun e w' => e = .returned (.tuple #[FR 0, .int .i64 k]) ∧ Below w.heap.size w w' := by
 have hs := (St.refl hg).alloc (.cells #[.string ⟨#[]⟩, .string ⟨#[]⟩] 34)
 have B0 := Bx.new w #[.string ⟨#[]⟩, .string ⟨#[]⟩] 34
 have KCH := Lib.hid KC
 clear KC
 unfold FR
 rw [frN_zero, frD_zero]
 go_enter Tryz.func130, Tryz.ntmps130
 go_wp2_with fail
 refine (KCH.out _ hs.gl).mono ?_
 rintro e w1 ⟨f, cap, g, cap2, rfl, hb⟩
 have B1 := (B0.on hb).alloc (.cells #[.func (.func f) #[] cap, .func (.func g) #[] cap2] 187)
 have hs := (hs.on hb).alloc (.cells #[.func (.func f) #[] cap, .func (.func g) #[] cap2] 187)
 have x0 := B1.cell (i := 0) (v := .string ⟨#[]⟩) rfl
 have x1 := B1.cell (i := 1) (v := .string ⟨#[]⟩) rfl
 have f0 := B1.frozen 0
 have f1 := B1.frozen 1
 go_wp2_with fail
 have B6 := (B1.set 0 (.string ⟨#[]⟩)).set 1 (.string ⟨#[]⟩)
 have y0 := B6.cell (i := 0) (v := .string ⟨#[]⟩) rfl
 have y1 := B6.cell (i := 1) (v := .string ⟨#[]⟩) rfl
 have hs4 := (hs.set (b := w.heap.size) (Nat.le_refl _) 0 (.string ⟨#[]⟩)).set (b := w.heap.size) (Nat.le_refl _) 1 (.string ⟨#[]⟩)
 exact bodyPost_ret (v := .tuple #[.agg #[.string ⟨#[]⟩, .string ⟨#[]⟩], .int .i64 k]) (by simp [results, Tryz.results130, go_sem, y0, y1]) rfl ⟨rfl, hs4.2⟩
theorem stays_bx (b : Nat) (cs : Array Value) : Stays (fun w => Bx w b cs) := fun _ _ h hb => h.on hb
theorem fraction_1 {A B : Int} {n m : Nat} (hA : IsDay A n) (hB : IsDay B m) (hl : ¬ B < A) : Ret 130 #[.int .i64 1, .int .i64 A, .int .i64 B] (.tuple #[FR (rat (B - A) 360), .int .i64 0]) := by
 intro w hg
 have hs := (St.refl hg).alloc (.cells #[.string ⟨#[]⟩, .string ⟨#[]⟩] 34)
 have B0 := Bx.new w #[.string ⟨#[]⟩, .string ⟨#[]⟩] 34
 have b1 : A.natAbs < 1000000 := by have := hA.1; have := hA.2; omega
 have b2 : B.natAbs < 1000000 := by have := hB.1; have := hB.2; omega
 have HAB := Lib.hid (And.intro hA hB)
 have HL := Lib.hid hl
 have KC := Lib.hid (fun w hg => check_ok (c := 1) (by decide) (by decide) hA.not hB.not hl w hg)
 clear hA hB hl
 obtain ⟨rn, hrn⟩ : ∃ t, frN (rat (B - A) 360) = t := ⟨_, rfl⟩
 obtain ⟨rd, hrd⟩ : ∃ t, frD (rat (B - A) 360) = t := ⟨_, rfl⟩
 have e0 : FR (rat (B - A) 360) = .agg #[.string rn, .string rd] := by unfold FR; rw [hrn, hrd]
 rw [e0]
 have HE := Lib.hid e0
 clear hrn hrd e0
 go_enter Tryz.func130, Tryz.ntmps130
 go_wp2_with fail
 refine (KC.out _ hs.gl).mono ?_
 rintro e w1 ⟨v, rfl, hc, hb⟩
 rcases hc with ⟨hcc, ⟨p, q, e1, d1, d2⟩⟩ | ⟨hcc, hv⟩ | ⟨hcc, hv⟩ | ⟨hcc, hv⟩ | ⟨hcc, hv⟩
 ·subst e1
  have hA := HAB.out.1
  have hB := HAB.out.2
  have hl := HL.out
  have KP := over1_act (k := 360) b1 b2 (by decide) (by decide) p q
  rw [HE.out] at KP
  clear hcc hA hB hl
  unfold actF overF at *
  have B1 := (B0.on hb).alloc (.cells #[.func (.func 245) #[] #[], .func (.func 256) #[] #[.pointer (some ⟨p, 0, none⟩), .pointer (some ⟨q, 0, none⟩)]] 187)
  have C1 := Bx.new w1 #[.func (.func 245) #[] #[], .func (.func 256) #[] #[.pointer (some ⟨p, 0, none⟩), .pointer (some ⟨q, 0, none⟩)]] 187
  have hlt : w.heap.size < w1.heap.size := (B0.on hb).lt
  have hs := (hs.on hb).alloc (.cells #[.func (.func 245) #[] #[], .func (.func 256) #[] #[.pointer (some ⟨p, 0, none⟩), .pointer (some ⟨q, 0, none⟩)]] 187)
  have hd0 := d1.alloc (.cells #[.func (.func 245) #[] #[], .func (.func 256) #[] #[.pointer (some ⟨p, 0, none⟩), .pointer (some ⟨q, 0, none⟩)]] 187)
  have hd1 := d2.alloc (.cells #[.func (.func 245) #[] #[], .func (.func 256) #[] #[.pointer (some ⟨p, 0, none⟩), .pointer (some ⟨q, 0, none⟩)]] 187)
  have z0 := C1.cell (i := 1) (v := .func (.func 256) #[] #[.pointer (some ⟨p, 0, none⟩), .pointer (some ⟨q, 0, none⟩)]) rfl
  go_wp2_with fail
  refine KP.step hs ⟨hd0, hd1⟩ ?_
  intro w2 hs hb
  replace B1 := B1.on hb
  have x0 := B1.cell (i := 0) (v := .string ⟨#[]⟩) rfl
  have x1 := B1.cell (i := 1) (v := .string ⟨#[]⟩) rfl
  have f0 := B1.frozen 0
  have f1 := B1.frozen 1
  go_wp2_with fail
  have B6 := (B1.set 0 (.string rn)).set 1 (.string rd)
  have y0 := B6.cell (i := 0) (v := .string rn) rfl
  have y1 := B6.cell (i := 1) (v := .string rd) rfl
  have hs4 := (hs.set (b := w.heap.size) (Nat.le_refl _) 0 (.string rn)).set (b := w.heap.size) (Nat.le_refl _) 1 (.string rd)
  exact bodyPost_ret (v := .tuple #[.agg #[.string rn, .string rd], .int .i64 0]) (by simp [results, Tryz.results130, go_sem, y0, y1]) rfl ⟨rfl, hs4.2⟩
 ·exact absurd hcc (by decide)
 ·exact absurd hcc (by decide)
 ·exact absurd hcc (by decide)
 ·exact absurd hcc (by decide)
theorem fraction_2 {A B : Int} {n m : Nat} (hA : IsDay A n) (hB : IsDay B m) (hl : ¬ B < A) : Ret 130 #[.int .i64 2, .int .i64 A, .int .i64 B] (.tuple #[FR (rat (B - A) 365), .int .i64 0]) := by
 intro w hg
 have hs := (St.refl hg).alloc (.cells #[.string ⟨#[]⟩, .string ⟨#[]⟩] 34)
 have B0 := Bx.new w #[.string ⟨#[]⟩, .string ⟨#[]⟩] 34
 have b1 : A.natAbs < 1000000 := by have := hA.1; have := hA.2; omega
 have b2 : B.natAbs < 1000000 := by have := hB.1; have := hB.2; omega
 have HAB := Lib.hid (And.intro hA hB)
 have HL := Lib.hid hl
 have KC := Lib.hid (fun w hg => check_ok (c := 2) (by decide) (by decide) hA.not hB.not hl w hg)
 clear hA hB hl
 obtain ⟨rn, hrn⟩ : ∃ t, frN (rat (B - A) 365) = t := ⟨_, rfl⟩
 obtain ⟨rd, hrd⟩ : ∃ t, frD (rat (B - A) 365) = t := ⟨_, rfl⟩
 have e0 : FR (rat (B - A) 365) = .agg #[.string rn, .string rd] := by unfold FR; rw [hrn, hrd]
 rw [e0]
 have HE := Lib.hid e0
 clear hrn hrd e0
 go_enter Tryz.func130, Tryz.ntmps130
 go_wp2_with fail
 refine (KC.out _ hs.gl).mono ?_
 rintro e w1 ⟨v, rfl, hc, hb⟩
 rcases hc with ⟨hcc, hv⟩ | ⟨hcc, ⟨p, q, e1, d1, d2⟩⟩ | ⟨hcc, hv⟩ | ⟨hcc, hv⟩ | ⟨hcc, hv⟩
 ·exact absurd hcc (by decide)
 ·subst e1
  have hA := HAB.out.1
  have hB := HAB.out.2
  have hl := HL.out
  have KP := over1_act (k := 365) b1 b2 (by decide) (by decide) p q
  rw [HE.out] at KP
  clear hcc hA hB hl
  unfold actF overF at *
  have B1 := (B0.on hb).alloc (.cells #[.func (.func 245) #[] #[], .func (.func 256) #[] #[.pointer (some ⟨p, 0, none⟩), .pointer (some ⟨q, 0, none⟩)]] 187)
  have C1 := Bx.new w1 #[.func (.func 245) #[] #[], .func (.func 256) #[] #[.pointer (some ⟨p, 0, none⟩), .pointer (some ⟨q, 0, none⟩)]] 187
  have hlt : w.heap.size < w1.heap.size := (B0.on hb).lt
  have hs := (hs.on hb).alloc (.cells #[.func (.func 245) #[] #[], .func (.func 256) #[] #[.pointer (some ⟨p, 0, none⟩), .pointer (some ⟨q, 0, none⟩)]] 187)
  have hd0 := d1.alloc (.cells #[.func (.func 245) #[] #[], .func (.func 256) #[] #[.pointer (some ⟨p, 0, none⟩), .pointer (some ⟨q, 0, none⟩)]] 187)
  have hd1 := d2.alloc (.cells #[.func (.func 245) #[] #[], .func (.func 256) #[] #[.pointer (some ⟨p, 0, none⟩), .pointer (some ⟨q, 0, none⟩)]] 187)
  have z0 := C1.cell (i := 1) (v := .func (.func 256) #[] #[.pointer (some ⟨p, 0, none⟩), .pointer (some ⟨q, 0, none⟩)]) rfl
  go_wp2_with fail
  refine KP.step hs ⟨hd0, hd1⟩ ?_
  intro w2 hs hb
  replace B1 := B1.on hb
  have x0 := B1.cell (i := 0) (v := .string ⟨#[]⟩) rfl
  have x1 := B1.cell (i := 1) (v := .string ⟨#[]⟩) rfl
  have f0 := B1.frozen 0
  have f1 := B1.frozen 1
  go_wp2_with fail
  have B6 := (B1.set 0 (.string rn)).set 1 (.string rd)
  have y0 := B6.cell (i := 0) (v := .string rn) rfl
  have y1 := B6.cell (i := 1) (v := .string rd) rfl
  have hs4 := (hs.set (b := w.heap.size) (Nat.le_refl _) 0 (.string rn)).set (b := w.heap.size) (Nat.le_refl _) 1 (.string rd)
  exact bodyPost_ret (v := .tuple #[.agg #[.string rn, .string rd], .int .i64 0]) (by simp [results, Tryz.results130, go_sem, y0, y1]) rfl ⟨rfl, hs4.2⟩
 ·exact absurd hcc (by decide)
 ·exact absurd hcc (by decide)
 ·exact absurd hcc (by decide)
theorem fraction_3 {A B : Int} {n m : Nat} (hA : IsDay A n) (hB : IsDay B m) (hl : ¬ B < A) : Ret 130 #[.int .i64 3, .int .i64 A, .int .i64 B] (.tuple #[FR (rat (tN n m) 360), .int .i64 0]) := by
 intro w hg
 have hs := (St.refl hg).alloc (.cells #[.string ⟨#[]⟩, .string ⟨#[]⟩] 34)
 have B0 := Bx.new w #[.string ⟨#[]⟩, .string ⟨#[]⟩] 34
 have b1 : A.natAbs < 1000000 := by have := hA.1; have := hA.2; omega
 have b2 : B.natAbs < 1000000 := by have := hB.1; have := hB.2; omega
 have HAB := Lib.hid (And.intro hA hB)
 have HL := Lib.hid hl
 have KC := Lib.hid (fun w hg => check_ok (c := 3) (by decide) (by decide) hA.not hB.not hl w hg)
 clear hA hB hl
 obtain ⟨rn, hrn⟩ : ∃ t, frN (rat (tN n m) 360) = t := ⟨_, rfl⟩
 obtain ⟨rd, hrd⟩ : ∃ t, frD (rat (tN n m) 360) = t := ⟨_, rfl⟩
 have e0 : FR (rat (tN n m) 360) = .agg #[.string rn, .string rd] := by unfold FR; rw [hrn, hrd]
 rw [e0]
 have HE := Lib.hid e0
 clear hrn hrd e0
 go_enter Tryz.func130, Tryz.ntmps130
 go_wp2_with fail
 refine (KC.out _ hs.gl).mono ?_
 rintro e w1 ⟨v, rfl, hc, hb⟩
 rcases hc with ⟨hcc, hv⟩ | ⟨hcc, hv⟩ | ⟨hcc, ⟨r, p, q, e1, d1, d2, d3⟩⟩ | ⟨hcc, hv⟩ | ⟨hcc, hv⟩
 ·exact absurd hcc (by decide)
 ·exact absurd hcc (by decide)
 ·subst e1
  have hA := HAB.out.1
  have hB := HAB.out.2
  have hl := HL.out
  have KP := over1_thirty (tN_bound hA.2 hB.2) r p q (stays_bx _ _) (thirty1_bond hA hB r)
  rw [HE.out] at KP
  clear hcc hA hB hl
  unfold thirtyF overF bondF at *
  have B1 := (B0.on hb).alloc (.cells #[.func (.func 258) #[] #[.pointer (some ⟨r, 0, none⟩)], .func (.func 256) #[] #[.pointer (some ⟨p, 0, none⟩), .pointer (some ⟨q, 0, none⟩)]] 187)
  have C1 := Bx.new w1 #[.func (.func 258) #[] #[.pointer (some ⟨r, 0, none⟩)], .func (.func 256) #[] #[.pointer (some ⟨p, 0, none⟩), .pointer (some ⟨q, 0, none⟩)]] 187
  have hlt : w.heap.size < w1.heap.size := (B0.on hb).lt
  have hs := (hs.on hb).alloc (.cells #[.func (.func 258) #[] #[.pointer (some ⟨r, 0, none⟩)], .func (.func 256) #[] #[.pointer (some ⟨p, 0, none⟩), .pointer (some ⟨q, 0, none⟩)]] 187)
  have hd0 := d1.alloc (.cells #[.func (.func 258) #[] #[.pointer (some ⟨r, 0, none⟩)], .func (.func 256) #[] #[.pointer (some ⟨p, 0, none⟩), .pointer (some ⟨q, 0, none⟩)]] 187)
  have hd1 := d2.alloc (.cells #[.func (.func 258) #[] #[.pointer (some ⟨r, 0, none⟩)], .func (.func 256) #[] #[.pointer (some ⟨p, 0, none⟩), .pointer (some ⟨q, 0, none⟩)]] 187)
  have hd2 := d3.alloc (.cells #[.func (.func 258) #[] #[.pointer (some ⟨r, 0, none⟩)], .func (.func 256) #[] #[.pointer (some ⟨p, 0, none⟩), .pointer (some ⟨q, 0, none⟩)]] 187)
  have z0 := C1.cell (i := 1) (v := .func (.func 256) #[] #[.pointer (some ⟨p, 0, none⟩), .pointer (some ⟨q, 0, none⟩)]) rfl
  go_wp2_with fail
  refine KP.step hs ⟨hd0, hd1, hd2⟩ ?_
  intro w2 hs hb
  replace B1 := B1.on hb
  have x0 := B1.cell (i := 0) (v := .string ⟨#[]⟩) rfl
  have x1 := B1.cell (i := 1) (v := .string ⟨#[]⟩) rfl
  have f0 := B1.frozen 0
  have f1 := B1.frozen 1
  go_wp2_with fail
  have B6 := (B1.set 0 (.string rn)).set 1 (.string rd)
  have y0 := B6.cell (i := 0) (v := .string rn) rfl
  have y1 := B6.cell (i := 1) (v := .string rd) rfl
  have hs4 := (hs.set (b := w.heap.size) (Nat.le_refl _) 0 (.string rn)).set (b := w.heap.size) (Nat.le_refl _) 1 (.string rd)
  exact bodyPost_ret (v := .tuple #[.agg #[.string rn, .string rd], .int .i64 0]) (by simp [results, Tryz.results130, go_sem, y0, y1]) rfl ⟨rfl, hs4.2⟩
 ·exact absurd hcc (by decide)
 ·exact absurd hcc (by decide)
theorem fraction_4 {A B : Int} {n m : Nat} (hA : IsDay A n) (hB : IsDay B m) (hl : ¬ B < A) : Ret 130 #[.int .i64 4, .int .i64 A, .int .i64 B] (.tuple #[FR (rat (eN m - eN n) 360), .int .i64 0]) := by
 intro w hg
 have hs := (St.refl hg).alloc (.cells #[.string ⟨#[]⟩, .string ⟨#[]⟩] 34)
 have B0 := Bx.new w #[.string ⟨#[]⟩, .string ⟨#[]⟩] 34
 have b1 : A.natAbs < 1000000 := by have := hA.1; have := hA.2; omega
 have b2 : B.natAbs < 1000000 := by have := hB.1; have := hB.2; omega
 have HAB := Lib.hid (And.intro hA hB)
 have HL := Lib.hid hl
 have KC := Lib.hid (fun w hg => check_ok (c := 4) (by decide) (by decide) hA.not hB.not hl w hg)
 clear hA hB hl
 obtain ⟨rn, hrn⟩ : ∃ t, frN (rat (eN m - eN n) 360) = t := ⟨_, rfl⟩
 obtain ⟨rd, hrd⟩ : ∃ t, frD (rat (eN m - eN n) 360) = t := ⟨_, rfl⟩
 have e0 : FR (rat (eN m - eN n) 360) = .agg #[.string rn, .string rd] := by unfold FR; rw [hrn, hrd]
 rw [e0]
 have HE := Lib.hid e0
 clear hrn hrd e0
 go_enter Tryz.func130, Tryz.ntmps130
 go_wp2_with fail
 refine (KC.out _ hs.gl).mono ?_
 rintro e w1 ⟨v, rfl, hc, hb⟩
 rcases hc with ⟨hcc, hv⟩ | ⟨hcc, hv⟩ | ⟨hcc, hv⟩ | ⟨hcc, ⟨r, p, q, e1, d1, d2, d3⟩⟩ | ⟨hcc, hv⟩
 ·exact absurd hcc (by decide)
 ·exact absurd hcc (by decide)
 ·exact absurd hcc (by decide)
 ·subst e1
  have hA := HAB.out.1
  have hB := HAB.out.2
  have hl := HL.out
  have KP := over1_thirty (D := eN m - eN n) (by have := eN_bound hA.2; have := eN_bound hB.2; omega) r p q (stays_bx _ _) (thirty1_euro hA hB r)
  rw [HE.out] at KP
  clear hcc hA hB hl
  unfold thirtyF overF euroF at *
  have B1 := (B0.on hb).alloc (.cells #[.func (.func 258) #[] #[.pointer (some ⟨r, 0, none⟩)], .func (.func 256) #[] #[.pointer (some ⟨p, 0, none⟩), .pointer (some ⟨q, 0, none⟩)]] 187)
  have C1 := Bx.new w1 #[.func (.func 258) #[] #[.pointer (some ⟨r, 0, none⟩)], .func (.func 256) #[] #[.pointer (some ⟨p, 0, none⟩), .pointer (some ⟨q, 0, none⟩)]] 187
  have hlt : w.heap.size < w1.heap.size := (B0.on hb).lt
  have hs := (hs.on hb).alloc (.cells #[.func (.func 258) #[] #[.pointer (some ⟨r, 0, none⟩)], .func (.func 256) #[] #[.pointer (some ⟨p, 0, none⟩), .pointer (some ⟨q, 0, none⟩)]] 187)
  have hd0 := d1.alloc (.cells #[.func (.func 258) #[] #[.pointer (some ⟨r, 0, none⟩)], .func (.func 256) #[] #[.pointer (some ⟨p, 0, none⟩), .pointer (some ⟨q, 0, none⟩)]] 187)
  have hd1 := d2.alloc (.cells #[.func (.func 258) #[] #[.pointer (some ⟨r, 0, none⟩)], .func (.func 256) #[] #[.pointer (some ⟨p, 0, none⟩), .pointer (some ⟨q, 0, none⟩)]] 187)
  have hd2 := d3.alloc (.cells #[.func (.func 258) #[] #[.pointer (some ⟨r, 0, none⟩)], .func (.func 256) #[] #[.pointer (some ⟨p, 0, none⟩), .pointer (some ⟨q, 0, none⟩)]] 187)
  have z0 := C1.cell (i := 1) (v := .func (.func 256) #[] #[.pointer (some ⟨p, 0, none⟩), .pointer (some ⟨q, 0, none⟩)]) rfl
  go_wp2_with fail
  refine KP.step hs ⟨hd0, hd1, hd2⟩ ?_
  intro w2 hs hb
  replace B1 := B1.on hb
  have x0 := B1.cell (i := 0) (v := .string ⟨#[]⟩) rfl
  have x1 := B1.cell (i := 1) (v := .string ⟨#[]⟩) rfl
  have f0 := B1.frozen 0
  have f1 := B1.frozen 1
  go_wp2_with fail
  have B6 := (B1.set 0 (.string rn)).set 1 (.string rd)
  have y0 := B6.cell (i := 0) (v := .string rn) rfl
  have y1 := B6.cell (i := 1) (v := .string rd) rfl
  have hs4 := (hs.set (b := w.heap.size) (Nat.le_refl _) 0 (.string rn)).set (b := w.heap.size) (Nat.le_refl _) 1 (.string rd)
  exact bodyPost_ret (v := .tuple #[.agg #[.string rn, .string rd], .int .i64 0]) (by simp [results, Tryz.results130, go_sem, y0, y1]) rfl ⟨rfl, hs4.2⟩
 ·exact absurd hcc (by decide)
theorem fraction_5 {A B : Int} {n m : Nat} (hA : IsDay A n) (hB : IsDay B m) (hl : ¬ B < A) : Ret 130 #[.int .i64 5, .int .i64 A, .int .i64 B] (.tuple #[FR (actQ m - actQ n), .int .i64 0]) := by
 intro w hg
 have hs := (St.refl hg).alloc (.cells #[.string ⟨#[]⟩, .string ⟨#[]⟩] 34)
 have B0 := Bx.new w #[.string ⟨#[]⟩, .string ⟨#[]⟩] 34
 have b1 : A.natAbs < 1000000 := by have := hA.1; have := hA.2; omega
 have b2 : B.natAbs < 1000000 := by have := hB.1; have := hB.2; omega
 have HAB := Lib.hid (And.intro hA hB)
 have HL := Lib.hid hl
 have KC := Lib.hid (fun w hg => check_ok (c := 5) (by decide) (by decide) hA.not hB.not hl w hg)
 clear hA hB hl
 obtain ⟨rn, hrn⟩ : ∃ t, frN (actQ m - actQ n) = t := ⟨_, rfl⟩
 obtain ⟨rd, hrd⟩ : ∃ t, frD (actQ m - actQ n) = t := ⟨_, rfl⟩
 have e0 : FR (actQ m - actQ n) = .agg #[.string rn, .string rd] := by unfold FR; rw [hrn, hrd]
 rw [e0]
 have HE := Lib.hid e0
 clear hrn hrd e0
 go_enter Tryz.func130, Tryz.ntmps130
 go_wp2_with fail
 refine (KC.out _ hs.gl).mono ?_
 rintro e w1 ⟨v, rfl, hc, hb⟩
 rcases hc with ⟨hcc, hv⟩ | ⟨hcc, hv⟩ | ⟨hcc, hv⟩ | ⟨hcc, hv⟩ | ⟨hcc, e1⟩
 ·exact absurd hcc (by decide)
 ·exact absurd hcc (by decide)
 ·exact absurd hcc (by decide)
 ·exact absurd hcc (by decide)
 ·subst e1
  have hA := HAB.out.1
  have hB := HAB.out.2
  have hl := HL.out
  have KP := (calendar_any hA hB (by have := hA.1; have := hB.1; omega)).i (fun _ => True)
  rw [HE.out] at KP
  clear hcc hA hB hl
  unfold actF calF at *
  have B1 := (B0.on hb).alloc (.cells #[.func (.func 245) #[] #[], .func (.func 249) #[] #[]] 187)
  have C1 := Bx.new w1 #[.func (.func 245) #[] #[], .func (.func 249) #[] #[]] 187
  have hlt : w.heap.size < w1.heap.size := (B0.on hb).lt
  have hs := (hs.on hb).alloc (.cells #[.func (.func 245) #[] #[], .func (.func 249) #[] #[]] 187)
  have hi : True := trivial
  have z0 := C1.cell (i := 1) (v := .func (.func 249) #[] #[]) rfl
  go_wp2_with fail
  refine KP.step hs hi ?_
  intro w2 hs hb
  replace B1 := B1.on hb
  have x0 := B1.cell (i := 0) (v := .string ⟨#[]⟩) rfl
  have x1 := B1.cell (i := 1) (v := .string ⟨#[]⟩) rfl
  have f0 := B1.frozen 0
  have f1 := B1.frozen 1
  go_wp2_with fail
  have B6 := (B1.set 0 (.string rn)).set 1 (.string rd)
  have y0 := B6.cell (i := 0) (v := .string rn) rfl
  have y1 := B6.cell (i := 1) (v := .string rd) rfl
  have hs4 := (hs.set (b := w.heap.size) (Nat.le_refl _) 0 (.string rn)).set (b := w.heap.size) (Nat.le_refl _) 1 (.string rd)
  exact bodyPost_ret (v := .tuple #[.agg #[.string rn, .string rd], .int .i64 0]) (by simp [results, Tryz.results130, go_sem, y0, y1]) rfl ⟨rfl, hs4.2⟩
end Go.Proofs.YticfdeaphiifeaaGreatDoor
namespace Go.Proofs.YticfdeaphiifeaaGreatDoor
open Go.RowKit Go.Shelf Dec
open QQ
theorem Fraction_any (c A B : Int) : Ret 130 #[.int .i64 c, .int .i64 A, .int .i64 B] (.tuple #[FR (fracR c A B).1, .int .i64 (fracR c A B).2]) := by
 by_cases hc : c < 1 ∨ 5 < c
 ·have e : fracR c A B = (0, 2) := by unfold fracR; rw [if_pos hc]
  rw [e]
  intro w hg
  refine fraction_nils (by decide) w hg fun w hg => (check_no hc w hg).mono ?_
  rintro e w' ⟨v, rfl, rfl, hb⟩
  exact ⟨rfl, hb⟩
 ·have e0 : fracR c A B = if (notDay A || notDay B) = true then (0, 13) else if B < A then (0, 8) else (partQ c (dayNum A) (dayNum B), 0) := by unfold fracR; rw [if_neg hc]
  have h1 : 1 ≤ c := by omega
  have h5 : c ≤ 5 := by omega
  rw [e0]
  clear e0
  rcases day_cases A with hA | ⟨hA, n, hn⟩
  ·rw [hA.1, Bool.true_or, if_pos rfl]
   intro w hg
   refine fraction_funs (by decide) w hg fun w hg => (check_dayA h1 h5 hA.1 w hg).mono ?_
   rintro e w' ⟨v, rfl, hv, hb⟩
   obtain ⟨f, cap, g, cap', rfl⟩ := hv.two
   exact ⟨_, _, _, _, rfl, hb⟩
  ·rw [hA]
   rcases day_cases B with hB | ⟨hB, m, hm⟩
   ·rw [hB.1, Bool.or_true, if_pos rfl]
    intro w hg
    refine fraction_funs (by decide) w hg fun w hg => (check_dayB h1 h5 hA hB.1 w hg).mono ?_
    rintro e w' ⟨v, rfl, hv, hb⟩
    obtain ⟨f, cap, g, cap', rfl⟩ := hv.two
    exact ⟨_, _, _, _, rfl, hb⟩
   ·rw [hB, if_neg (by decide)]
    by_cases hl : B < A
    ·rw [if_pos hl]
     intro w hg
     refine fraction_funs (by decide) w hg fun w hg => (check_order h1 h5 hA hB hl w hg).mono ?_
     rintro e w' ⟨v, rfl, hv, hb⟩
     obtain ⟨f, cap, g, cap', rfl⟩ := hv.two
     exact ⟨_, _, _, _, rfl, hb⟩
    ·rw [if_neg hl, hn.num, hm.num]
     have hd : (m : Int) - (n : Int) = B - A := by have := hn.1; have := hm.1; omega
     have : c = 1 ∨ c = 2 ∨ c = 3 ∨ c = 4 ∨ c = 5 := by omega
     rcases this with rfl | rfl | rfl | rfl | rfl
     ·have := fraction_1 hn hm hl
      rw [← hd] at this
      exact this
     ·have := fraction_2 hn hm hl
      rw [← hd] at this
      exact this
     ·exact fraction_3 hn hm hl
     ·exact fraction_4 hn hm hl
     ·exact fraction_5 hn hm hl
end Go.Proofs.YticfdeaphiifeaaGreatDoor
namespace Go.Proofs.YticfdeaphiifeaaGreatDoor
open Go.RowKit Go.Shelf Dec
open QQ
end Go.Proofs.YticfdeaphiifeaaGreatDoor
namespace Go.Proofs.YticfdeaphiifeaaGreatDoor
open Go.RowKit Go.Shelf Dec
open QQ
@[local go_sem high] theorem run_max_seven {P : Program} (w : World) (ts : Array TypeId) (t : TypeId) : (Builtin.max_ ts t #[.int .i64 0, .int .i64 0, .int .i64 0, .int .i64 0, .int .i64 0, .int .i64 0, .int .i64 0]).run P w = .ok (.int .i64 0) w := by
  rfl
end Go.Proofs.YticfdeaphiifeaaGreatDoor
