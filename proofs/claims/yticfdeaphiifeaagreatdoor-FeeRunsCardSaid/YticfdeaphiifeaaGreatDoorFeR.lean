/- Fees, the reference: digits, rates, terms, the fee for a period. Conditions: numbers of up to 13 bytes. -/
import Derived.Test.YticfdeaphiifeaaGreatDoorFe13
import Derived.Test.YticfdeaphiifeaaGreatDoorIt3
set_option maxHeartbeats 4000000
set_option maxRecDepth 100000
namespace Go.Proofs.YticfdeaphiifeaaGreatDoor
open Go.RowKit Go.Shelf Dec QQ
theorem rdig_any {a : ByteArray} (h : a.size ≤ 40) : ∃ z : Int, z ≤ 40 ∧ Ret 190 #[.string a] (.int .i64 z) := by
 by_cases h0 : 0 < a.size
 ·have q0 : decide ((0 : Int) < (a.size : Int)) = true := decide_eq_true (by omega)
  cases h1 : ((a[0].toNat : Int) == 45) with
  | true =>
   refine ⟨(a.size : Int) - 1, by omega, ?_⟩
   intro w hg
   have hs := St.refl hg
   go_enter Tryz.func190, Tryz.ntmps190
   go_wp2_with fail
   go_ret
   exact ⟨rfl, hs.2⟩
  | false =>
   refine ⟨a.size, by omega, ?_⟩
   intro w hg
   have hs := St.refl hg
   go_enter Tryz.func190, Tryz.ntmps190
   go_wp2_with fail
   go_ret
   exact ⟨rfl, hs.2⟩
 ·have hz : a.size = 0 := by omega
  refine ⟨0, by omega, ?_⟩
  intro w hg
  have hs := St.refl hg
  go_enter Tryz.func190, Tryz.ntmps190
  go_wp2_with fail
  go_ret
  exact ⟨rfl, hs.2⟩
theorem rnum_any {n d : ByteArray} (s1 : n.size ≤ 40) (s2 : d.size ≤ 40) : Ret 159 #[FV n d] (.int .i64 (if chkF n d ≠ 0 then 1 else 0)) := by
 intro w hg
 have hs := (St.refl hg).alloc (.cells #[.string n, .string d] 34)
 have XF := Bx.new w #[.string n, .string d] 34
 have K1 := rchk_r (a := n) (b := d) (by omega) (by omega)
 obtain ⟨z1, hz1, KD1⟩ := rdig_any (a := n) s1
 obtain ⟨z2, hz2, KD2⟩ := rdig_any (a := d) s2
 have qz1 : decide (40 < z1) = false := decide_eq_false (by omega)
 have qz2 : decide (40 < z2) = false := decide_eq_false (by omega)
 unfold FV at *
 clear hz1 hz2 s1 s2
 by_cases h : chkF n d = 0
 ·rw [if_neg (by simpa using h)]
  rw [h] at K1
  clear h
  go_enter Tryz.func159, Tryz.ntmps159
  go_wp2_with fail
  refine K1.step hs ?_
  intro w1 hs hb
  replace XF := XF.on hb
  have x0 := XF.cell (i := 0) (v := .string n) rfl
  have x1 := XF.cell (i := 1) (v := .string d) rfl
  go_wp2_with fail
  refine KD1.step hs ?_
  intro w2 hs hb
  clear x0 x1
  replace XF := XF.on hb
  have x0 := XF.cell (i := 0) (v := .string n) rfl
  have x1 := XF.cell (i := 1) (v := .string d) rfl
  go_wp2_with fail
  refine KD2.step hs ?_
  intro w3 hs hb
  go_wp2_with fail
  go_ret
  exact ⟨rfl, hs.2⟩
 ·rw [if_pos h]
  have q : (chkF n d != 0) = true := by simpa using h
  generalize chkF n d = e at *
  clear h
  go_enter Tryz.func159, Tryz.ntmps159
  go_wp2_with fail
  refine K1.step hs ?_
  intro w1 hs hb
  go_wp2_with fail
  go_ret
  exact ⟨rfl, hs.2⟩
theorem rratio1 : Ret 160 #[.int .i64 1, .int .i64 1] (.agg #[.string ⟨#[49]⟩, .string ⟨#[]⟩]) := by
 intro w hg
 have hs := St.refl hg
 have K1 := rofR (n := 1) (by decide) (by decide)
 rw [show canS 1 = ⟨#[49]⟩ from by decide +kernel] at K1
 have K3 := new_r (n := ⟨#[49]⟩) (d := ⟨#[49]⟩) (by decide) (by decide)
 rw [if_neg (by decide), if_neg (by decide), show valS ⟨#[49]⟩ = 1 from by decide, show FR (rat 1 1) = .agg #[.string ⟨#[49]⟩, .string ⟨#[]⟩] from by rw [rat_one]; exact fr_one] at K3
 go_enter Tryz.func160, Tryz.ntmps160
 go_wp2_with fail
 refine K1.step (hs.alloc _) ?_
 intro w1 hs hb
 have B0 := (Bx.new w #[.string ⟨#[]⟩, .string ⟨#[]⟩] 34).on hb
 go_wp2_with fail
 refine K1.step hs ?_
 intro w2 hs hb
 have B1 := B0.on hb
 go_wp2_with fail
 refine K3.step hs ?_
 intro w3 hs hb
 have B := (B1.on hb).alloc (.cells #[.string ⟨#[49]⟩, .string ⟨#[]⟩] 34)
 have hs := hs.alloc (.cells #[.string ⟨#[49]⟩, .string ⟨#[]⟩] 34)
 have ce0 := B.cell (i := 0) (v := .string ⟨#[]⟩) rfl
 have ce1 := B.cell (i := 1) (v := .string ⟨#[]⟩) rfl
 have cg0 := B.frozen 0
 have cg1 := B.frozen 1
 go_wp2_with fail
 obtain ⟨W, hW, y0, y1, hbe⟩ := ret_frac hs (by omega) B ⟨#[49]⟩ ⟨#[]⟩
 rw [hW]
 exact bodyPost_ret (v := .agg #[.string ⟨#[49]⟩, .string ⟨#[]⟩]) (by simp [results, Tryz.results160, go_sem, y0, y1]) rfl ⟨rfl, hbe⟩
theorem rrate_any {n d : ByteArray} (s1 : n.size ≤ 40) (s2 : d.size ≤ 40) : Ret 118 #[FV n d] (.int .i64 (rateE n d)) := by
 intro w hg
 have hs := (St.refl hg).alloc (.cells #[.string n, .string d] 34)
 have XF := Bx.new w #[.string n, .string d] 34
 have KN := rnum_any (n := n) (d := d) s1 s2
 have KS := rsignF (a := n) (b := d) (by omega) (by omega)
 have KR := rratio1
 have KC := rcmpF (a := n) (b := d) (c := ⟨#[49]⟩) (d := ⟨#[]⟩) (by omega) (by omega) (by decide) (by decide)
 rw [show ratV ⟨#[49]⟩ ⟨#[]⟩ = 1 from vq1.1] at KC
 have qL : decide (cmpQ (ratV n d) 0 < 0) = decide (ratV n d < 0) := decide_eq_decide.2 cmpQ_neg
 have qG : decide (0 < cmpQ (ratV n d) 1) = decide (1 < ratV n d) := cmpQ_pos
 unfold FV at *
 generalize cmpQ (ratV n d) 0 = cl at *
 generalize cmpQ (ratV n d) 1 = cg at *
 clear s1 s2
 rcases rate_cases n d with ⟨h1, he⟩ | ⟨h1, h2, he⟩ | ⟨h1, h2, h3, he⟩ | ⟨h1, h2, h3, he⟩
 ·rw [he]
  rw [if_pos h1] at KN
  clear h1 he qL qG
  go_enter Tryz.func118, Tryz.ntmps118
  go_wp2_with fail
  refine KN.step hs ?_
  intro w1 hs hb
  go_wp2_with fail
  go_ret
  exact ⟨rfl, hs.2⟩
 ·rw [he]
  rw [if_neg (by simpa using h1)] at KN
  rw [decide_eq_true h2] at qL
  clear h1 h2 he qG
  go_enter Tryz.func118, Tryz.ntmps118
  go_wp2_with fail
  refine KN.step hs ?_
  intro w1 hs hb
  replace XF := XF.on hb
  have k0 := XF.keeps (i := 0) (v := .string n) rfl
  have k1 := XF.keeps (i := 1) (v := .string d) rfl
  go_wp2_with fail
  refine wp_region_kept (by kernel_rfl) (by kernel_rfl) ?_
  repeat (go_big_quiet_step (first | (with_reducible exact KS.kept hs) | (with_reducible exact KR.kept hs) | (with_reducible exact KC.kept hs)))
  refine wpQuiet_nil ?_
  rintro _ ⟨u, rfl⟩
  replace hs := hs.kept u
  go_wp2_with fail
  go_ret
  exact ⟨rfl, hs.2⟩
 ·rw [he]
  rw [if_neg (by simpa using h1)] at KN
  rw [decide_eq_false h2] at qL
  rw [decide_eq_true h3] at qG
  clear h1 h2 h3 he
  go_enter Tryz.func118, Tryz.ntmps118
  go_wp2_with fail
  refine KN.step hs ?_
  intro w1 hs hb
  replace XF := XF.on hb
  have k0 := XF.keeps (i := 0) (v := .string n) rfl
  have k1 := XF.keeps (i := 1) (v := .string d) rfl
  go_wp2_with fail
  refine wp_region_kept (by kernel_rfl) (by kernel_rfl) ?_
  repeat (go_big_quiet_step (first | (with_reducible exact KS.kept hs) | (with_reducible exact KR.kept hs) | (with_reducible exact KC.kept hs)))
  refine wpQuiet_nil ?_
  rintro _ ⟨u, rfl⟩
  replace hs := hs.kept u
  go_wp2_with fail
  go_ret
  exact ⟨rfl, hs.2⟩
 ·rw [he]
  rw [if_neg (by simpa using h1)] at KN
  rw [decide_eq_false h2] at qL
  rw [decide_eq_false h3] at qG
  clear h1 h2 h3 he
  go_enter Tryz.func118, Tryz.ntmps118
  go_wp2_with fail
  refine KN.step hs ?_
  intro w1 hs hb
  replace XF := XF.on hb
  have k0 := XF.keeps (i := 0) (v := .string n) rfl
  have k1 := XF.keeps (i := 1) (v := .string d) rfl
  go_wp2_with fail
  refine wp_region_kept (by kernel_rfl) (by kernel_rfl) ?_
  repeat (go_big_quiet_step (first | (with_reducible exact KS.kept hs) | (with_reducible exact KR.kept hs) | (with_reducible exact KC.kept hs)))
  refine wpQuiet_nil ?_
  rintro _ ⟨u, rfl⟩
  replace hs := hs.kept u
  go_wp2_with fail
  go_ret
  exact ⟨rfl, hs.2⟩
theorem rfchk_any {T : TermS} (hz : T.le 13) : Ret 63 #[tval T] (.int .i64 (termE T)) := by
 intro w hg
 obtain ⟨mn, md, pn, pd, ct⟩ := T
 unfold tval termE
 dsimp only
 obtain ⟨z1, z2, z3, z4⟩ : mn.size ≤ 13 ∧ md.size ≤ 13 ∧ pn.size ≤ 13 ∧ pd.size ≤ 13 := hz
 have hs := (St.refl hg).alloc (.cells #[.string mn, .string md, .string pn, .string pd, .int .i64 ct] 44)
 have XT := Bx.new w #[.string mn, .string md, .string pn, .string pd, .int .i64 ct] 44
 have a0 := XT.cell (i := 0) (v := .string mn) rfl
 have a1 := XT.cell (i := 1) (v := .string md) rfl
 have K1 := rrate_any (n := mn) (d := md) (by omega) (by omega)
 have K2 := rrate_any (n := pn) (d := pd) (by omega) (by omega)
 unfold FV at *
 generalize rateE mn md = e1 at *
 generalize rateE pn pd = e2 at *
 clear z1 z2 z3 z4
 by_cases h1 : e1 = 0
 ·subst h1
  rw [if_neg (by decide)]
  by_cases h2 : e2 = 0
  ·subst h2
   rw [if_neg (by decide)]
   by_cases g1 : ct < 1
   ·rw [if_pos (.inl g1)]
    have q1 : decide (ct < 1) = true := decide_eq_true g1
    go_enter Tryz.func63, Tryz.ntmps63
    go_wp2_with fail
    refine K1.step hs ?_
    intro w1 hs hb
    replace XT := XT.on hb
    clear a0 a1
    have t0 := XT.cell (i := 0) (v := .string mn) rfl
    have t1 := XT.cell (i := 1) (v := .string md) rfl
    have t2 := XT.cell (i := 2) (v := .string pn) rfl
    have t3 := XT.cell (i := 3) (v := .string pd) rfl
    have t4 := XT.cell (i := 4) (v := .int .i64 ct) rfl
    go_wp2_with fail
    refine K2.step hs ?_
    intro w2 hs hb
    clear t0 t1 t2 t3 t4
    replace XT := XT.on hb
    have t0 := XT.cell (i := 0) (v := .string mn) rfl
    have t1 := XT.cell (i := 1) (v := .string md) rfl
    have t2 := XT.cell (i := 2) (v := .string pn) rfl
    have t3 := XT.cell (i := 3) (v := .string pd) rfl
    have t4 := XT.cell (i := 4) (v := .int .i64 ct) rfl
    go_wp2_with fail
    go_ret
    exact ⟨rfl, hs.2⟩
   ·have q1 : decide (ct < 1) = false := decide_eq_false g1
    by_cases g2 : 5 < ct
    ·rw [if_pos (.inr g2)]
     have q2 : decide (5 < ct) = true := decide_eq_true g2
     go_enter Tryz.func63, Tryz.ntmps63
     go_wp2_with fail
     refine K1.step hs ?_
     intro w1 hs hb
     replace XT := XT.on hb
     clear a0 a1
     have t0 := XT.cell (i := 0) (v := .string mn) rfl
     have t1 := XT.cell (i := 1) (v := .string md) rfl
     have t2 := XT.cell (i := 2) (v := .string pn) rfl
     have t3 := XT.cell (i := 3) (v := .string pd) rfl
     have t4 := XT.cell (i := 4) (v := .int .i64 ct) rfl
     go_wp2_with fail
     refine K2.step hs ?_
     intro w2 hs hb
     clear t0 t1 t2 t3 t4
     replace XT := XT.on hb
     have t0 := XT.cell (i := 0) (v := .string mn) rfl
     have t1 := XT.cell (i := 1) (v := .string md) rfl
     have t2 := XT.cell (i := 2) (v := .string pn) rfl
     have t3 := XT.cell (i := 3) (v := .string pd) rfl
     have t4 := XT.cell (i := 4) (v := .int .i64 ct) rfl
     go_wp2_with fail
     go_ret
     exact ⟨rfl, hs.2⟩
    ·rw [if_neg (by omega)]
     have q2 : decide (5 < ct) = false := decide_eq_false g2
     go_enter Tryz.func63, Tryz.ntmps63
     go_wp2_with fail
     refine K1.step hs ?_
     intro w1 hs hb
     replace XT := XT.on hb
     clear a0 a1
     have t0 := XT.cell (i := 0) (v := .string mn) rfl
     have t1 := XT.cell (i := 1) (v := .string md) rfl
     have t2 := XT.cell (i := 2) (v := .string pn) rfl
     have t3 := XT.cell (i := 3) (v := .string pd) rfl
     have t4 := XT.cell (i := 4) (v := .int .i64 ct) rfl
     go_wp2_with fail
     refine K2.step hs ?_
     intro w2 hs hb
     clear t0 t1 t2 t3 t4
     replace XT := XT.on hb
     have t0 := XT.cell (i := 0) (v := .string mn) rfl
     have t1 := XT.cell (i := 1) (v := .string md) rfl
     have t2 := XT.cell (i := 2) (v := .string pn) rfl
     have t3 := XT.cell (i := 3) (v := .string pd) rfl
     have t4 := XT.cell (i := 4) (v := .int .i64 ct) rfl
     go_wp2_with fail
     go_ret
     exact ⟨rfl, hs.2⟩
  ·rw [if_pos h2]
   have q : (e2 != 0) = true := by simpa using h2
   clear h2
   go_enter Tryz.func63, Tryz.ntmps63
   go_wp2_with fail
   refine K1.step hs ?_
   intro w1 hs hb
   replace XT := XT.on hb
   clear a0 a1
   have t0 := XT.cell (i := 0) (v := .string mn) rfl
   have t1 := XT.cell (i := 1) (v := .string md) rfl
   have t2 := XT.cell (i := 2) (v := .string pn) rfl
   have t3 := XT.cell (i := 3) (v := .string pd) rfl
   have t4 := XT.cell (i := 4) (v := .int .i64 ct) rfl
   go_wp2_with fail
   refine K2.step hs ?_
   intro w2 hs hb
   clear t0 t1 t2 t3 t4
   replace XT := XT.on hb
   have t0 := XT.cell (i := 0) (v := .string mn) rfl
   have t1 := XT.cell (i := 1) (v := .string md) rfl
   have t2 := XT.cell (i := 2) (v := .string pn) rfl
   have t3 := XT.cell (i := 3) (v := .string pd) rfl
   have t4 := XT.cell (i := 4) (v := .int .i64 ct) rfl
   go_wp2_with fail
   go_ret
   exact ⟨rfl, hs.2⟩
 ·rw [if_pos h1]
  have q : (e1 != 0) = true := by simpa using h1
  clear h1
  go_enter Tryz.func63, Tryz.ntmps63
  go_wp2_with fail
  refine K1.step hs ?_
  intro w1 hs hb
  replace XT := XT.on hb
  clear a0 a1
  go_wp2_with fail
  go_ret
  exact ⟨rfl, hs.2⟩
theorem rmgmt_any {T : TermS} (hz : T.le 13) {v : ByteArray} (hv : v.size ≤ 40) {A B : Int} (ht : chkF T.mn T.md = 0) (hc : chk v = 0) (hf : (fracR T.cnt A B).2 = 0) :
  Ret 66 #[tval T, .string v, .agg #[.int .i64 A, .int .i64 B]] (.string (canS (mgI (valS v) T.m T.cnt A B))) := by
 intro w hg
 obtain ⟨mn, md, pn, pd, ct⟩ := T
 unfold tval TermS.m
 dsimp only at *
 obtain ⟨z1, z2, z3, z4⟩ : mn.size ≤ 13 ∧ md.size ≤ 13 ∧ pn.size ≤ 13 ∧ pd.size ≤ 13 := hz
 have hs := ((St.refl hg).alloc (.cells #[.string mn, .string md, .string pn, .string pd, .int .i64 ct] 44)).alloc (.cells #[.int .i64 A, .int .i64 B] 65)
 have XT := (Bx.new w #[.string mn, .string md, .string pn, .string pd, .int .i64 ct] 44).alloc (.cells #[.int .i64 A, .int .i64 B] 65)
 have XP := Bx.new1 w (.cells #[.string mn, .string md, .string pn, .string pd, .int .i64 ct] 44) #[.int .i64 A, .int .i64 B] 65
 have KC := rsignR (a := v) (by omega)
 have qc : decide (cmpI (valS v) 0 ≤ 0) = decide (valS v ≤ 0) := cmpI_le0 _
 have KI := rInterest_any ct A B 1 (a := v) (rn := mn) (rd := md) hv (by omega) (by omega)
 obtain ⟨i1, i2⟩ := it_ok (a := v) (rn := mn) (rd := md) 1 hc ht hf
 rw [i1, i2, (rnd_mode (m := 1) (by decide) (by decide) (itQ v mn md ct A B)).1, (rnd_mode (m := 1) (by decide) (by decide) (itQ v mn md ct A B)).2] at KI
 by_cases hn : valS v ≤ 0
 ·have e : mgI (valS v) (ratV mn md) ct A B = 0 := if_pos hn
  rw [e, canS_zero]
  rw [decide_eq_true hn] at qc
  generalize cmpI (valS v) 0 = cc at *
  clear hn e i1 i2 hc hf ht KI
  go_enter Tryz.func66, Tryz.ntmps66
  go_wp2_with fail
  refine KC.step hs ?_
  intro w1 hs _
  go_wp2_with fail
  go_ret
  exact ⟨rfl, hs.2⟩
 ·have e : mgI (valS v) (ratV mn md) ct A B = rndQ 1 (itQ v mn md ct A B) := by
   refine (if_neg hn).trans ?_
   unfold itQ
   congr 1
   grind
  rw [e]
  rw [decide_eq_false hn] at qc
  generalize cmpI (valS v) 0 = cc at *
  generalize canS (rndQ 1 (itQ v mn md ct A B)) = rs at *
  clear hn e i1 i2 hc hf ht
  go_enter Tryz.func66, Tryz.ntmps66
  go_wp2_with fail
  refine KC.step hs ?_
  intro w2 hs hb
  replace XT := XT.on hb
  replace XP := XP.on hb
  have t0 := XT.cell (i := 0) (v := .string mn) rfl
  have t1 := XT.cell (i := 1) (v := .string md) rfl
  have t4 := XT.cell (i := 4) (v := .int .i64 ct) rfl
  have p0 := XP.cell (i := 0) (v := .int .i64 A) rfl
  have p1 := XP.cell (i := 1) (v := .int .i64 B) rfl
  go_wp2_with fail
  refine KI.step hs ?_
  intro w1 hs _
  go_wp2_with fail
  go_ret
  exact ⟨rfl, hs.2⟩
end Go.Proofs.YticfdeaphiifeaaGreatDoor
