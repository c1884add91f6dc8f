/- Unit prices: the walk of UnitpriceDays: for every input it returns true. Condition: the library's table and error lie as the program's text lays them. -/
import Derived.Test.YtndkglmokhndnaaGreatDoorLaw44r
import Derived.Test.YtndkglmokhndnaaGreatDoorDaysP
namespace Go.Proofs.YtndkglmokhndnaaGreatDoor
open Go.RowKit Go.Shelf Dec QQ

set_option maxRecDepth 100000 in
set_option maxHeartbeats 4000000 in
theorem days_nil (A : Option Addr) (c : Nat) (x : Int) (w : World) (hg : Gl w) :
    Calls Tryz.prog 3 #[.slice A 0 c, .int .u8 x] w fun e w' => e = .returned (.bool true) ∧ Below w.heap.size w w' := by
  have hs := St.refl hg
  have AW := awake44
  have K1 := many_nil (A := A) (c := c)
  go_enter Tryz.func3, Tryz.ntmps3
  go_wp2_with fail
  refine K1.step hs ?_
  intro w1 hs _
  go_wp2_with fail
  refine AW.step hs ?_
  intro wa hs _
  go_wp2_with fail
  go_ret
  exact ⟨rfl, hs.2⟩
set_option maxRecDepth 100000 in
set_option maxHeartbeats 4000000 in
theorem days_any (bb oo n c : Nat) (x : Nat) (l : List DealIn) (w : World) (hl : l.length = n) (hc : n ≤ c) (hm : n ≤ 9223372036854775807) (hx : x < 256) (hz : ∀ d ∈ l, d.v.size ≤ 9223372036854775807 ∧ d.p.size ≤ 9223372036854775807 ∧ d.b.size ≤ 9223372036854775807) (hr : Row w (some ⟨bb, oo, none⟩) (dflat l)) (hg : Gl w) :
    Calls Tryz.prog 3 #[.slice (some ⟨bb, oo, none⟩) n c, .int .u8 (x : Int)] w fun e w' => e = .returned (.bool true) ∧ Below w.heap.size w w' := by
  have hs := St.refl hg
  have AW := awake44
  have K1 := many_any (bb := bb) (oo := oo) (c := c) hl hm hz
  have HR := Lib.hid hr
  obtain ⟨t, ht⟩ : ∃ t, (if (6 < n ∧ n ≤ 400) ∨ 402 < n then true else l.any bigD) = t := ⟨_, rfl⟩
  rw [ht] at K1
  cases t with
  | true =>
    clear ht hl hm hz hr hx hc
    go_enter Tryz.func3, Tryz.ntmps3
    go_wp2_with fail
    refine K1.step hs HR.out ?_
    intro w1 hs _
    go_wp2_with fail
    refine AW.step hs ?_
    intro wa hs _
    go_wp2_with fail
    go_ret
    exact ⟨rfl, hs.2⟩
  | false =>
    have hn : ¬ ((6 < n ∧ n ≤ 400) ∨ 402 < n) := by intro h; rw [if_pos h] at ht; cases ht
    rw [if_neg hn] at ht
    by_cases h0 : n = 0
    · have q : ((n : Int) == 0) = true := by rw [h0]; rfl
      clear ht hl hm hz hr hn h0 hx hc
      go_enter Tryz.func3, Tryz.ntmps3
      go_wp2_with fail
      refine K1.step hs HR.out ?_
      intro w1 hs _
      go_wp2_with fail
      refine AW.step hs ?_
      intro wa hs _
      go_wp2_with fail
      go_ret
      exact ⟨rfl, hs.2⟩
    have q0 : ((n : Int) == 0) = false := by rw [beq_eq_false_iff_ne]; omega
    by_cases h4 : 400 < n
    · have K2 := run_far (A := some ⟨bb, oo, none⟩) (c := c) h4
      clear ht hl hm hz hr hn h4 hx hc
      go_enter Tryz.func3, Tryz.ntmps3
      go_wp2_with fail
      refine K1.step hs HR.out ?_
      intro w1 hs _
      go_wp2_with fail
      refine K2.step hs ?_
      intro w2 hs _
      go_wp2_with fail
      refine AW.step hs ?_
      intro wa hs _
      go_wp2_with fail
      go_ret
      exact ⟨rfl, hs.2⟩
    · have hz6 : ∀ d ∈ l, d.v.size ≤ 20 ∧ d.p.size ≤ 20 ∧ d.b.size ≤ 20 := by
        intro d hd
        have := List.any_eq_false.1 ht d hd
        unfold bigD at this
        simpa using this
      have KR := Lib.hid (fun w hg hr => run_any bb oo n c l w hl (by omega) hz6 hg hr)
      have HN : Hid (l.length = n ∧ n ≤ 6) := ⟨hl, by omega⟩
      have HZ := Lib.hid hz6
      have hn6 : n ≤ 6 := HN.out.2
      clear ht hl hm hz hr hn h4 hz6
      go_enter Tryz.func3, Tryz.ntmps3
      go_wp2_with fail
      refine K1.step hs HR.out ?_
      intro w1 hs hb1
      have R1 := Lib.hid (HR.out.on hs.2)
      go_wp2_with fail
      refine (KR.out _ hs.gl R1.out).mono ?_
      rintro e w2 ⟨v1, xs, er, rfl, r1, o1, hb2⟩
      replace hs := hs.on hb2
      have HR1 := Lib.hid r1
      have HO1 := Lib.hid o1
      obtain ⟨A1, c1, hv1, hw1⟩ := out_row o1
      subst hv1
      have HW1 := Lib.hid hw1
      clear r1 o1 hb1 hb2 hw1
      by_cases he : er = 0
      · subst he
        obtain ⟨k, hkd⟩ : ∃ k : Nat, x % (n + 1) = k := ⟨_, rfl⟩
        have hkn : k ≤ n := by have := Nat.mod_lt x (show 0 < n + 1 by omega); omega
        have hmod : ((x : Int)).tmod ((n : Int) + 1) = (k : Int) := by
          show Int.tmod (Int.ofNat x) (Int.ofNat (n + 1)) = Int.ofNat k
          rw [← hkd]
          rfl
        have hml : xs.length = n := by
          obtain ⟨_, _, h3⟩ := runsTo_take (k := l.length) HR1.out (Nat.le_refl _) (by rw [List.take_of_length_le (Nat.le_refl _)]; exact HR1.out)
          rw [h3]; exact HN.out.1
        obtain ⟨u1, hu1⟩ : ∃ u, runTo l n = some (u, xs) := by
          rcases HR1.out with ⟨_, _, _, _, _, _, h0, _⟩ | ⟨u, hr, _⟩
          · exact absurd rfl h0
          · exact ⟨u, by rw [← HN.out.1]; exact hr⟩
        have HU := Lib.hid hu1
        have HRT := Lib.hid HR1.out
        obtain ⟨g, hg1, hcap⟩ : ∃ g, A1 = some ⟨g, 0, none⟩ ∧ n ≤ c1 := by
          rcases HO1.out.2.2 with ⟨_, h2⟩ | ⟨g, cap, cur, h2, _, _, h3, _⟩
          · omega
          · injection h2 with h4 h5 h6
            exact ⟨g, h4, by omega⟩
        subst hg1
        clear HO1 hu1 HR1 hkd
        go_wp2_with fail
        refine (run_any bb oo k c (l.take k) w2 (by rw [List.length_take, HN.out.1]; omega) (by omega) (fun d hd => HZ.out d (List.mem_of_mem_take hd)) hs.gl (by rw [dflat_take]; exact Row.take (HR.out.on hs.2) _)).mono ?_
        rintro e w3 ⟨v2, ys, er2, rfl, r2, o2, hb3⟩
        obtain ⟨e1, e2, _⟩ := runsTo_take HRT.out (by rw [HN.out.1]; exact hkn) r2
        subst e1 e2
        replace hs := hs.on hb3
        obtain ⟨A2, c2, hv2, hw2⟩ := out_row o2
        have hlk : (xs.take k).length = k := by rw [List.length_take]; omega
        rw [hlk] at hv2
        subst hv2
        have HW3 := Lib.hid (HW1.out.on hb3)
        have HW2 : Hid (Row w3 (some ⟨g, 0, none⟩) (rflat (xs.take k)) ∧ Row w3 A2 (rflat (xs.take k))) := ⟨by rw [rflat_take]; exact Row.take HW3.out _, hw2⟩
        have KE := equalD (A := some ⟨g, 0, none⟩) (A' := A2) (c := c1) (c' := c2) (xs := xs.take k) hlk (by omega)
        have KO : Ret 18 #[.int .i64 0] (.string (canS 0)) := fun w hg => Of_any 0 w (by decide) (by decide) hg
        rw [show canS 0 = nil by decide +kernel] at KO
        clear o2 hw2 hlk r2 HW1
        have qk : decide ((k : Int) ≤ (c1 : Int)) = true := decide_eq_true (by omega)
        have qn0 : ((n : Int) != (n : Int)) = false := by simp
        go_wp2_with fail
        refine KE.step hs HW2.out ?_
        intro w4 hs hb4
        have HW4 := Lib.hid (HW3.out.on hb4)
        go_wp2_with fail
        refine KO.step hs ?_
        intro w5 hs hb5
        have HW5 := Lib.hid (HW4.out.on hb5)
        clear HW4 HW3 HW2 hb3 hb4 hb5
        go_wp2_with fail
        go_loopw [67, 10] (fun s u wr => ∃ (i : Nat) (u0 : ByteArray) (zs : List DealtR), i ≤ n ∧ s = .int .i64 (i : Int) ∧ u = .string u0 ∧ St w wr ∧ Hid (Row wr (some ⟨g, 0, none⟩) (rflat xs)) ∧ Hid (runTo l i = some (u0, zs))) (fun s _ _ => (n - intOf s).toNat)
        case atStart => exact ⟨0, nil, [], by omega, rfl, rfl, hs, HW5, rfl⟩
        case round =>
          obtain ⟨i, u0, zs, hi, rfl, rfl, hs, HX, HT⟩ := hrel
          by_cases hin : i = n
          · subst hin
            have q : decide ((i : Int) < (i : Int)) = false := decide_eq_false (by omega)
            go_wp2_with fail
            refine AW.step hs ?_
            intro wa hs _
            go_wp2_with fail
            go_ret
            exact ⟨rfl, hs.2⟩
          · have hil : i < n := by omega
            have q : decide ((i : Int) < (n : Int)) = true := decide_eq_true (by omega)
            have qn : decide (i < n) = true := decide_eq_true hil
            obtain ⟨d, r, hd, hr, hnext, hrd, hru, hrv⟩ := run_day HU.out hil HT.out
            have hdz := HZ.out d (List.mem_of_getElem? hd)
            have hus := run_size HZ.out HT.out
            have hp2 : 2 ^ i ≤ 2 ^ 6 := Nat.pow_le_pow_right (by omega) (by omega)
            have hds := deal_sizes u0 d.v d.p d.b
            rw [← hrd] at hds
            have hu6 : u0.size ≤ 3200 := by omega
            have HNX := Lib.hid hnext
            have xk : ∀ j v, (dcells d)[j]? = some v → wr.cell? ⟨bb, oo + (i * 4 + j), none⟩ = some v := by
              intro j v hj
              obtain ⟨b, o, hA, hB, hc⟩ := (HR.out.on hs.2) _ _ (dflat_at hd hj)
              injection hA with hA
              injection hA with h1 h2
              subst h1 h2
              rwa [show oo + (4 * i + j) = oo + (i * 4 + j) by omega] at hc
            have yk : ∀ j v, (rcells r)[j]? = some v → wr.cell? ⟨g, i * 4 + j, none⟩ = some v := by
              intro j v hj
              obtain ⟨b, o, hA, hB, hc⟩ := HX.out _ _ (rflat_at hr hj)
              injection hA with hA
              injection hA with h1 h2
              subst h1 h2
              rwa [show 0 + (4 * i + j) = i * 4 + j by omega] at hc
            have f1 := (Fit.val (a := u0) (Nat.le_refl _)).add20 (Fit.val (a := r.issued) (Nat.le_refl _))
            have f2 := (Fit.val (a := d.v) (Nat.le_refl _)).add20 (Fit.val (a := d.p) (Nat.le_refl _))
            have K3 := AddR (Vs.arg (s := u0) (by omega)) (Vs.arg (s := r.issued) (by omega))
            have K4 := SubR (Vs.can f1 (by omega)) (Vs.arg (s := d.b) (by omega))
            have K5 := AddR (Vs.arg (s := d.v) (by omega)) (Vs.arg (s := d.p) (by omega))
            have K6 := SubR (Vs.can f2 (by omega)) (Vs.arg (s := r.paid) (by omega))
            rw [← hru] at K4
            rw [← hrv] at K6
            clear f1 f2 hru hrv hrd hr hd hds hus hp2 hnext hin hdz
            obtain ⟨dy, dv, dp, db⟩ := d
            obtain ⟨r1, r2, r3, r4, r5⟩ := r
            dsimp only at K3 K4 K5 K6 HNX
            generalize canS (valS u0 + valS r1) = s1 at *
            generalize canS (valS dv + valS dp) = s2 at *
            have y0 : wr.cell? ⟨g, i * 4, none⟩ = some (.string r1) := yk 0 _ rfl
            have y1 : wr.cell? ⟨g, i * 4 + 1, none⟩ = some (.string r2) := yk 1 _ rfl
            have y2 : wr.cell? ⟨g, i * 4 + 2, none⟩ = some (.string r3) := yk 2 _ rfl
            have y3 : wr.cell? ⟨g, i * 4 + 3, none⟩ = some (.string r4) := yk 3 _ rfl
            have hbl : Below wr.heap.size wr (wr.alloc (.cells #[.string r1, .string r2, .string r3, .string r4] 32)) := (Below.refl _ _).alloc (Nat.le_refl _) _
            have z1 : ∀ u : Kept (wr.alloc (.cells #[.string r1, .string r2, .string r3, .string r4] 32)), u.W.cell? ⟨bb, oo + i * 4 + 1, none⟩ = some (.string dv) := fun u => Kept.cell_of ((hbl.cell (p := ⟨bb, oo + (i * 4 + 1), none⟩) (block_lt_of_cell (xk 1 _ rfl))).trans (xk 1 _ rfl)) u
            have z2 : ∀ u : Kept (wr.alloc (.cells #[.string r1, .string r2, .string r3, .string r4] 32)), u.W.cell? ⟨bb, oo + i * 4 + 2, none⟩ = some (.string dp) := fun u => Kept.cell_of ((hbl.cell (p := ⟨bb, oo + (i * 4 + 2), none⟩) (block_lt_of_cell (xk 2 _ rfl))).trans (xk 2 _ rfl)) u
            have z3 : ∀ u : Kept (wr.alloc (.cells #[.string r1, .string r2, .string r3, .string r4] 32)), u.W.cell? ⟨bb, oo + i * 4 + 3, none⟩ = some (.string db) := fun u => Kept.cell_of ((hbl.cell (p := ⟨bb, oo + (i * 4 + 3), none⟩) (block_lt_of_cell (xk 3 _ rfl))).trans (xk 3 _ rfl)) u
            have hs1 := hs.alloc (.cells #[.string r1, .string r2, .string r3, .string r4] 32)
            have BD := Bx.new wr #[.string r1, .string r2, .string r3, .string r4] 32
            have k0 := BD.keeps (i := 0) (v := .string r1) rfl
            have k1 := BD.keeps (i := 1) (v := .string r2) rfl
            have k2 := BD.keeps (i := 2) (v := .string r3) rfl
            have k3 := BD.keeps (i := 3) (v := .string r4) rfl
            clear xk yk
            go_wp2_with fail
            refine wp_region_kept (by kernel_rfl) (by kernel_rfl) ?_
            repeat (go_big_quiet_step (first | (with_reducible exact K3.kept hs1) | (with_reducible exact K4.kept hs1)))
            refine wpQuiet_nil ?_
            rintro _ ⟨u, rfl⟩
            go_wp2_with fail
            have hs2 := hs1.kept u
            have m0 := Kept.cell_of (k0 u)
            have m1 := Kept.cell_of (k1 u)
            have m2 := Kept.cell_of (k2 u)
            have m3 := Kept.cell_of (k3 u)
            have m4 := Kept.cell_of (z1 u)
            have m5 := Kept.cell_of (z2 u)
            have HXU : Hid (Row u.W (some ⟨g, 0, none⟩) (rflat xs)) := (HX.out.on hbl).on u.low
            clear k0 k1 k2 k3 z1 z2 z3 y0 y1 y2 y3
            generalize u.W = W6 at *
            refine wp_region_kept (by kernel_rfl) (by kernel_rfl) ?_
            repeat (go_big_quiet_step (first | (with_reducible exact K5.kept hs2) | (with_reducible exact K6.kept hs2)))
            refine wpQuiet_nil ?_
            rintro _ ⟨u2, rfl⟩
            go_wp2_with fail
            go_roundw
            case rel => exact ⟨i + 1, r3, xs.take (i + 1), by omega, by go_num, rfl, hs2.kept u2, HXU.out.on u2.low, HNX.out⟩
            case measure => simp [intOf]; omega
      · have hxs : xs = [] := by
          rcases HR1.out with ⟨_, _, _, _, _, _, _, h⟩ | ⟨_, _, h⟩
          · exact h
          · exact absurd h he
        subst hxs
        have q : (er != 0) = true := by simpa using he
        clear HR1 HO1 he HW1
        dsimp only [List.length_nil]
        go_wp2_with fail
        refine AW.step hs ?_
        intro wa hs _
        go_wp2_with fail
        go_ret
        exact ⟨rfl, hs.2⟩
end Go.Proofs.YtndkglmokhndnaaGreatDoor
