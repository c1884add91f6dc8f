/- Integer, the reference: contracts of trim, order and group. Conditions: lengths below 2^62. Integer, the reference: contracts of plus and minus. Conditions: lengths below 2^40. Integer, the reference: the contract of times. Conditions: lengths below 2^39. Integer, the reference: the contract of divide. Conditions: lengths below 2^38. -/
import Derived.Test.YtahpbnmbphobgaaGreatDoorIb
import Derived.IntWalk
namespace Go.Proofs.YtahpbnmbphobgaaGreatDoor
open Go.RowKit Dec

set_option maxHeartbeats 1000000 in
/-- trim: the same slice, up to the last group that is not 0 -/
theorem trim_any (A : Option Addr) (c : Nat) (l : List Nat) (w : World) (hl : Small l) (hc : Mg .i64 w w.heap.size A l) (hcap : l.length ≤ c) (hcm : c ≤ 9223372036854775807) :
    Calls Tryz.prog 124 #[.slice A l.length c] w fun e w' => e = .returned (.slice A (cutL l).length c) ∧ w = w' := by
  have HL := Lib.hid hl
  have Hc := Lib.hid hc
  clear hl hc
  go_enter Tryz.func124, Tryz.ntmps124
  go_wp2
  go_loop [0] (fun s => ∃ k : Nat, k ≤ l.length ∧ s = .slice A k c ∧ Hid (∀ i, k ≤ i → i < l.length → l[i]? = some 0)) (fun s => match s with | .slice _ n _ => n | _ => 0)
  case atStart => exact ⟨l.length, by omega, rfl, fun i h1 h2 => by omega⟩
  case round =>
    obtain ⟨k, hk, rfl, H⟩ := hrel
    by_cases hk0 : k = 0
    · subst hk0
      go_wp2
      go_ret
      refine ⟨ret_slice ?_, rfl⟩
      rw [← cut_take l HL.out 0 (by omega) H.out (.inl rfl)]; rfl
    · obtain ⟨k, rfl⟩ : ∃ j, k = j + 1 := ⟨k - 1, by omega⟩
      obtain ⟨g, hg⟩ : ∃ g, l[k]? = some g := ⟨l[k]'(by omega), by simp⟩
      obtain ⟨b, o, hA, hB, h1⟩ := Hc.out k g hg
      subst hA
      have HGg := Lib.hid hg
      clear hg hk0
      by_cases hz : g = 0
      · subst hz
        go_wp2
        go_round
        case rel =>
          refine ⟨k, by omega, rfl, ?_⟩
          intro i h1 h2
          by_cases e : i = k
          · subst e; exact HGg.out
          · exact H.out i (by omega) h2
        case measure => simp
      · have hz' : ((g : Int) == 0) = false := by simp; omega
        go_wp2
        go_ret
        refine ⟨ret_slice ?_, rfl⟩
        rw [← cut_take l HL.out (k + 1) (by omega) H.out (.inr (by rw [Nat.add_sub_cancel, HGg.out]; intro e; cases e; exact hz rfl))]
        simp; omega

/-- comparing two numbers -/
def cmpN (a b : Nat) : Int := if a < b then -1 else if a = b then 0 else 1
/-- what order hands back -/
def OrdRet (a b : Nat) (w : World) (e : Ending) (w' : World) : Prop := e = .returned (.int .i64 (cmpN a b)) ∧ ∃ n, w' = w.drewN n

set_option maxHeartbeats 1000000 in
theorem order_r (A A' : Option Addr) (c c' : Nat) (a b : Nat) (w : World) (hc : Mg .i64 w w.heap.size A (mag a)) (hc' : Mg .i64 w w.heap.size A' (mag b)) (hm : (mag a).length ≤ 4611686018427387904) (hm' : (mag b).length ≤ 4611686018427387904) :
    Calls Tryz.prog 85 #[.slice A (mag a).length c, .slice A' (mag b).length c'] w (OrdRet a b w) := by
  have Hc := Lib.hid hc
  have Hc' := Lib.hid hc'
  clear hc hc'
  obtain ⟨l, hl⟩ : ∃ l, mag a = l := ⟨_, rfl⟩
  obtain ⟨m, hmm⟩ : ∃ m, mag b = m := ⟨_, rfl⟩
  have HLS : Hid (Small l) := by show Small l; rw [← hl]; exact mag_small a
  have HMS : Hid (Small m) := by show Small m; rw [← hmm]; exact mag_small b
  have HVL : Hid (mval l = a) := by show mval l = a; rw [← hl]; exact mval_mag a
  have HVM : Hid (mval m = b) := by show mval m = b; rw [← hmm]; exact mval_mag b
  have HCL : Hid (l.length < m.length → a < b) := by show l.length < m.length → a < b; rw [← hl, ← hmm]; exact cmp_len
  have HCM : Hid (m.length < l.length → b < a) := by show m.length < l.length → b < a; rw [← hl, ← hmm]; exact cmp_len
  rw [hl] at Hc hm ⊢
  rw [hmm] at Hc' hm' ⊢
  clear hl hmm
  by_cases hlen : l.length = m.length
  · have hne : ((l.length : Int) != m.length) = false := by simp; omega
    have HN := Lib.hid hlen
    have hle : l.length ≤ m.length := by omega
    clear hlen
    go_enter Tryz.func85, Tryz.ntmps85
    go_wp2
    go_loopw [5] (fun s wr => ∃ k nn : Nat, k ≤ l.length ∧ s = .int .i64 ((k : Int) - 1) ∧ Hid (∀ j, k ≤ j → l[j]? = m[j]?) ∧ wr = w.drewN nn) (fun s _ => (intOf s + 1).toNat)
    case atStart => exact ⟨l.length, 0, by omega, rfl, fun j hj => by rw [List.getElem?_eq_none hj, List.getElem?_eq_none (by have := HN.out; omega)], rfl⟩
    case round =>
      obtain ⟨k, nn, hk, rfl, H, rfl⟩ := hrel
      by_cases hk0 : k = 0
      · subst hk0
        have HE : Hid (a = b) := by
          show a = b
          have e : l = m := List.ext_getElem? (fun j => H.out j (by omega))
          rw [← HVL.out, ← HVM.out, e]
        go_wp2
        go_ret
        exact ⟨ret_int (by unfold cmpN; rw [HE.out, if_neg (by omega), if_pos rfl]), nn, rfl⟩
      · obtain ⟨k, rfl⟩ : ∃ j, k = j + 1 := ⟨k - 1, by omega⟩
        obtain ⟨x, hx⟩ : ∃ g, l[k]? = some g := ⟨l[k]'(by omega), by simp⟩
        obtain ⟨y, hy⟩ : ∃ g, m[k]? = some g := ⟨m[k]'(by omega), by simp⟩
        obtain ⟨b1, o1, hA, hB, h1⟩ := Hc.out k x hx
        obtain ⟨b2, o2, hA', hB', h2⟩ := Hc'.out k y hy
        subst hA hA'
        have HX := Lib.hid hx
        have HY := Lib.hid hy
        clear hx hy hk0
        by_cases hlt : x < y
        · have q : decide ((x : Int) < y) = true := by simp; omega
          have HT := Lib.hid (mval_top HLS.out HN.out k x y HX.out HY.out hlt (fun j hj => H.out j (by omega)))
          go_wp2
          go_quiet (fail)
          go_wp2
          go_ret
          have hab : a < b := by rw [← HVL.out, ← HVM.out]; exact HT.out
          exact ⟨ret_int (by unfold cmpN; rw [if_pos hab]), _, World.drewN_drewN _ _ _⟩
        · have q : decide ((x : Int) < y) = false := by simp; omega
          by_cases hgt : y < x
          · have q2 : decide ((y : Int) < x) = true := by simp; omega
            have HT := Lib.hid (mval_top HMS.out HN.out.symm k y x HY.out HX.out hgt (fun j hj => (H.out j (by omega)).symm))
            go_wp2
            go_quiet (fail)
            go_wp2
            go_quiet (fail)
            go_wp2
            go_ret
            have hab : b < a := by rw [← HVL.out, ← HVM.out]; exact HT.out
            exact ⟨ret_int (by unfold cmpN; rw [if_neg (by omega), if_neg (by omega)]), _, by rw [World.drewN_drewN, World.drewN_drewN]⟩
          · have q2 : decide ((y : Int) < x) = false := by simp; omega
            have HXY := Lib.hid (show x = y by omega)
            go_wp2
            go_quiet (fail)
            go_wp2
            go_quiet (fail)
            go_wp2
            go_roundw
            case rel =>
              refine ⟨k, _, by omega, by go_num, ?_, rfl⟩
              intro j hj
              by_cases e : j = k
              · subst e; rw [HX.out, HY.out, HXY.out]
              · exact H.out j (by omega)
            case measure => simp [intOf]
  · have hne : ((l.length : Int) != m.length) = true := by simp; omega
    by_cases hlt : l.length < m.length
    · have q : decide ((l.length : Int) < m.length) = true := decide_eq_true (by omega)
      have HAB := Lib.hid (HCL.out hlt)
      go_enter Tryz.func85, Tryz.ntmps85
      go_wp2
      go_ret
      exact ⟨ret_int (by unfold cmpN; rw [if_pos HAB.out]), 0, rfl⟩
    · have q : decide ((l.length : Int) < m.length) = false := decide_eq_false (by omega)
      have HAB := Lib.hid (HCM.out (by omega))
      go_enter Tryz.func85, Tryz.ntmps85
      go_wp2
      go_ret
      have hab := HAB.out
      exact ⟨ret_int (by unfold cmpN; rw [if_neg (by omega), if_neg (by omega)]), 0, rfl⟩

/-- group: a group, or 0 beyond the end -/
theorem group_r (A : Option Addr) (c n : Nat) (l : List Nat) (k x : Nat) (w : World) (hn : l.length = n) (hx : l[k]?.getD 0 = x) (hc : Mg .i64 w w.heap.size A l) :
    Calls Tryz.prog 123 #[.slice A n c, .int .i64 (k : Int)] w fun e w' => e = .returned (.int .i64 (x : Int)) ∧ w' = w := by
  have HX := Lib.hid hx
  clear hx
  have Hc := Lib.hid hc
  clear hc
  have HN := Lib.hid hn
  clear hn
  by_cases hkn : k < n
  · have q : decide ((k : Int) < (n : Int)) = true := decide_eq_true (by omega)
    obtain ⟨y, hy⟩ := some_at l k (by rw [HN.out]; exact hkn)
    obtain ⟨b, o, hA, hB, h1⟩ := Hc.out k y hy
    subst hA
    have HY : Hid (y = x) := by show _ = _; rw [← HX.out, hy]; rfl
    clear hy
    go_enter Tryz.func123, Tryz.ntmps123
    go_wp2_with fail
    go_ret
    exact ⟨ret_int (by rw [HY.out]), rfl⟩
  · have q : decide ((k : Int) < (n : Int)) = false := decide_eq_false (by omega)
    have HY : Hid (x = 0) := by show _ = _; rw [← HX.out, List.getElem?_eq_none (by rw [HN.out]; omega)]; rfl
    go_enter Tryz.func123, Tryz.ntmps123
    go_wp2_with fail
    go_ret
    exact ⟨ret_int (by rw [HY.out]; rfl), rfl⟩
theorem infoI : (Tryz.prog.info? 3).map (fun i => (i.zero, i.size, i.bytes)) = some (some (.int .i64 0), 1, 8) := by kernel_rfl
/-- a slice of the call's own that reads as l -/
def ROw (l : List Nat) (w : World) (e : Ending) (w' : World) : Prop :=
  ∃ A c, e = .returned (.slice A l.length c) ∧ Ow .i64 3 w' w.heap.size A c l ∧ Below w.heap.size w w'
theorem rw_ret {w wr : World} {n c : Nat} {A : Option Addr} {o : List Nat} (ho : Ow .i64 3 wr w.heap.size A c o) (hs : Small o) (hn : mval o = n) (hb : Below w.heap.size w wr) :
    ROw (mag n) w (.returned (.slice A (cutL o).length c)) wr := by
  obtain ⟨k, hk, e⟩ := cut_pre o hs
  have e2 : mag n = o.take k := by rw [← e]; unfold cutL; rw [hn]
  exact ⟨A, c, by unfold cutL; rw [hn], by rw [e2]; exact ho.take hk, hb⟩
theorem mval_take_all {l : List Nat} {k : Nat} (h : l.length ≤ k) : mval (l.take k) = mval l := by rw [List.take_of_length_le h]
end Go.Proofs.YtahpbnmbphobgaaGreatDoor
namespace Go.Proofs.YtahpbnmbphobgaaGreatDoor
open Go.RowKit Dec

theorem mval_snoc (o : List Nat) (x : Nat) : mval (o ++ [x]) = mval o + BB ^ o.length * x := by rw [mval_append]; simp [mval]
theorem Dec.Small.snoc {o : List Nat} (h : Small o) {x : Nat} (hx : x < BB) : Small (o ++ [x]) := by
  intro g hg
  rcases List.mem_append.1 hg with hg | hg
  · exact h g hg
  · simp at hg; subst hg; exact hx
theorem Dec.Small.getD {l : List Nat} (h : Small l) (k : Nat) : l[k]?.getD 0 < BB := by
  cases hx : l[k]? with
  | none => exact BB_pos
  | some x => exact h.at hx
/-- what the loop of the reference's plus keeps -/
def RPlusIs (w : World) (l m : List Nat) (k cy : Nat) (o : List Nat) (A : Option Addr) (c : Nat) (wr : World) : Prop :=
  o.length = k ∧ Small o ∧ mval o + cy * BB ^ k = mval (l.take k) + mval (m.take k) ∧ Ow .i64 3 wr w.heap.size A c o ∧ Below w.heap.size w wr
theorem rplus_keep {l m o : List Nat} {k cy x y : Nat} (hk : o.length = k) (hx : l[k]?.getD 0 = x) (hy : m[k]?.getD 0 = y) (h : mval o + cy * BB ^ k = mval (l.take k) + mval (m.take k)) :
    mval (o ++ [(x + y + cy) % BB]) + ((x + y + cy) / BB) * BB ^ (k + 1) = mval (l.take (k + 1)) + mval (m.take (k + 1)) := by
  rw [mval_snoc, hk, mval_take_succ, mval_take_succ, hx, hy]
  have h2 := Nat.mod_add_div (x + y + cy) BB
  generalize (x + y + cy) % BB = r at *
  generalize (x + y + cy) / BB = q at *
  rw [Nat.pow_succ]
  generalize BB ^ k = P at *
  generalize BB = B at *
  have h3 : P * (r + B * q) = P * (x + y + cy) := by rw [h2]
  generalize mval o = M1 at *
  generalize mval (l.take k) = M2 at *
  generalize mval (m.take k) = M3 at *
  clear h2 hx hy hk
  grind
theorem rminus_keep {l m o : List Nat} {k cy cy' x y v : Nat} (hk : o.length = k) (hx : l[k]?.getD 0 = x) (hy : m[k]?.getD 0 = y) (h : mval o + mval (m.take k) = mval (l.take k) + cy * BB ^ k) (hv : v + y + cy = x + cy' * BB) :
    mval (o ++ [v]) + mval (m.take (k + 1)) = mval (l.take (k + 1)) + cy' * BB ^ (k + 1) := by
  rw [mval_snoc, hk, mval_take_succ, mval_take_succ, hx, hy, Nat.pow_succ]
  generalize BB ^ k = P at *
  generalize BB = B at *
  have h3 : P * (v + y + cy) = P * (x + cy' * B) := by rw [hv]
  generalize mval o = M1 at *
  generalize mval (l.take k) = M2 at *
  generalize mval (m.take k) = M3 at *
  clear hv hx hy hk
  grind
def RMinusIs (w : World) (l m : List Nat) (k cy : Nat) (o : List Nat) (A : Option Addr) (c : Nat) (wr : World) : Prop :=
  o.length = k ∧ Small o ∧ mval o + mval (m.take k) = mval (l.take k) + cy * BB ^ k ∧ Ow .i64 3 wr w.heap.size A c o ∧ Below w.heap.size w wr
theorem own_snoc {w : World} {base k : Nat} {v : Value} {o : List Nat} {x : Nat} (hk : o.length = k) (h : w.ownsRow base 3 1 v (k + 1) (o.map (gvK .i64) ++ [.int .i64 (x : Int)])) :
    ∃ A c, v = .slice A (k + 1) c ∧ Ow .i64 3 w base A c (o ++ [x]) := by
  have hl : (o ++ [x]).length = k + 1 := by simp [hk]
  have := own_ow (K := .i64) (l := o ++ [x]) (v := v) (w := w) (base := base) (T := 3) (by rw [hl, List.map_append]; exact h)
  rw [hl] at this
  exact this

set_option maxRecDepth 100000 in
set_option maxHeartbeats 2000000 in
theorem plus_r (A A' : Option Addr) (c c' : Nat) (a b : Nat) (w : World) (hc : Mg .i64 w w.heap.size A (mag a)) (hc' : Mg .i64 w w.heap.size A' (mag b)) (hm : (mag a).length ≤ 1099511627776) (hm' : (mag b).length ≤ 1099511627776) :
    Calls Tryz.prog 84 #[.slice A (mag a).length c, .slice A' (mag b).length c'] w (ROw (mag (a + b)) w) := by
  obtain ⟨l, hl⟩ : ∃ l, mag a = l := ⟨_, rfl⟩
  obtain ⟨m, hmm⟩ : ∃ m, mag b = m := ⟨_, rfl⟩
  rw [hl] at hc hm ⊢
  rw [hmm] at hc' hm' ⊢
  have Hc := Lib.hid hc
  have Hc' := Lib.hid hc'
  clear hc hc'
  have HV : Hid (mval l = a) := by show mval l = a; rw [← hl]; exact mval_mag a
  have HVM : Hid (mval m = b) := by show mval m = b; rw [← hmm]; exact mval_mag b
  have HLS : Hid (Small l) := by show Small l; rw [← hl]; exact mag_small a
  have HMS : Hid (Small m) := by show Small m; rw [← hmm]; exact mag_small b
  clear hl hmm
  have HO0 := Lib.hid (Ow.new w .i64 3 [] (by simp))
  go_enter Tryz.func84, Tryz.ntmps84
  go_wp2_with fail
  go_loopw [7, 6, 5] (fun s t u wr => ∃ (k cy c1 : Nat) (A1 : Option Addr) (o : List Nat), k ≤ 1099511627777 ∧ s = .int .i64 (k : Int) ∧ t = .int .i64 (cy : Int) ∧ u = .slice A1 k c1 ∧ cy ≤ 1 ∧ (l.length ≤ k → m.length ≤ k → k ≤ l.length ∨ k ≤ m.length ∨ cy = 0) ∧ Hid (RPlusIs w l m k cy o A1 c1 wr)) (fun s t _ _ => (2 * (1099511627778 - intOf s) + intOf t).toNat)
  case atStart => exact ⟨0, 0, 0, some ⟨w.heap.size, 0, none⟩, [], by omega, rfl, rfl, rfl, by omega, fun _ _ => .inr (.inr rfl), rfl, fun g hg => by simp at hg, by simp [mval], HO0.out, (Below.refl _ _).alloc (Nat.le_refl _) _⟩
  case round =>
    obtain ⟨k, cy, c1, A1, o, hk, rfl, rfl, rfl, hcy, hkk, H⟩ := hrel
    have HOW : Hid (wr.ownsRow w.heap.size 3 1 (.slice A1 k c1) k (o.map (gvK .i64))) := by
      have := H.out.2.2.2.1
      unfold Ow at this
      rw [H.out.1] at this
      exact this
    have hsz : w.heap.size ≤ wr.heap.size := H.out.2.2.2.2.size
    obtain ⟨x, hx⟩ : ∃ x, l[k]?.getD 0 = x := ⟨_, rfl⟩
    obtain ⟨y, hy⟩ : ∃ y, m[k]?.getD 0 = y := ⟨_, rfl⟩
    have hxb : x < 1000000000 := by rw [← hx]; exact HLS.out.getD k
    have hyb : y < 1000000000 := by rw [← hy]; exact HMS.out.getD k
    have HX := Lib.hid hx
    have HY := Lib.hid hy
    clear hx hy
    have HK := Lib.hid hkk
    clear hkk
    have HG1 : Hid (∀ wx : World, Below w.heap.size w wx → Calls Tryz.prog 123 #[.slice A l.length c, .int .i64 (k : Int)] wx fun e w' => e = .returned (.int .i64 (x : Int)) ∧ w' = wx) := fun wx hb => group_r A c l.length l k x wx rfl HX.out (Hc.out.up hb)
    have HG2 : Hid (∀ wx : World, Below w.heap.size w wx → Calls Tryz.prog 123 #[.slice A' m.length c', .int .i64 (k : Int)] wx fun e w' => e = .returned (.int .i64 (y : Int)) ∧ w' = wx) := fun wx hb => group_r A' c' m.length m k y wx rfl HY.out (Hc'.out.up hb)
    by_cases hkl : k < l.length
    · have q1 : decide ((k : Int) < (l.length : Int)) = true := decide_eq_true (by omega)
      go_wp2_with fail
      refine (HG1.out _ H.out.2.2.2.2).mono ?_
      rintro e w1 ⟨rfl, rfl⟩
      go_wp2_with fail
      refine (HG2.out _ H.out.2.2.2.2).mono ?_
      rintro e w1 ⟨rfl, rfl⟩
      obtain ⟨i0, hi, hz0, hz1, hz2⟩ := info_parts infoI
      have Hi := Lib.hid hi
      have Hz0 := Lib.hid hz0
      have Hz1 := Lib.hid hz1
      have Hz2 := Lib.hid hz2
      clear hi hz0 hz1 hz2
      go_wp2_with (at_builtin; refine wpList_append_any _ rfl (.tmp 35) (.tmp 38) 94 rfl w.heap.size 3 i0 (.int .i64 0) 1 8 (by kernel_rfl) Hi.out Hz0.out Hz1.out Hz2.out rfl (by omega) _ k (o.map (gvK .i64)) rfl (HOW.out.alloc _) (w1.heap.size + 1) (some ⟨w1.heap.size, 0, none⟩) 1 1 [.int .i64 (((x : Int) + y + cy) % 1000000000)] rfl (reads_one w1 _ _) (gvK_one [(x + y + cy) % 1000000000]) (by unfold maxLen; omega) (by omega) (by simp; omega) ?_; intro v3 w3 hown3 hg3 _; have HO3 := Lib.hid hown3; have HG3 := Lib.hid hg3; clear hown3 hg3)
      obtain ⟨A4, c4, hv4, ho4⟩ := own_snoc (x := (x + y + cy) % 1000000000) H.out.1 HO3.out
      subst hv4
      have Ho4 := Lib.hid ho4
      clear ho4
      go_wp2_with fail
      go_roundw
      case rel =>
        refine ⟨k + 1, (x + y + cy) / BB, c4, A4, o ++ [(x + y + cy) % BB], by omega, by go_num, rfl, rfl, by unfold BB; omega, ?_, by simp [H.out.1], H.out.2.1.snoc (Nat.mod_lt _ BB_pos), rplus_keep H.out.1 HX.out HY.out H.out.2.2.1, Ho4.out, (H.out.2.2.2.2.alloc hsz _).grown HG3.out (by simp; omega) (own_ge HOW.out)⟩
        intro h1 h2; omega
      case measure => simp [intOf]; omega
    · have q1 : decide ((k : Int) < (l.length : Int)) = false := decide_eq_false (by omega)
      by_cases hkm : k < m.length
      · have q2 : decide ((k : Int) < (m.length : Int)) = true := decide_eq_true (by omega)
        go_wp2_with fail
        refine (HG1.out _ H.out.2.2.2.2).mono ?_
        rintro e w1 ⟨rfl, rfl⟩
        go_wp2_with fail
        refine (HG2.out _ H.out.2.2.2.2).mono ?_
        rintro e w1 ⟨rfl, rfl⟩
        obtain ⟨i0, hi, hz0, hz1, hz2⟩ := info_parts infoI
        have Hi := Lib.hid hi
        have Hz0 := Lib.hid hz0
        have Hz1 := Lib.hid hz1
        have Hz2 := Lib.hid hz2
        clear hi hz0 hz1 hz2
        go_wp2_with (at_builtin; refine wpList_append_any _ rfl (.tmp 35) (.tmp 38) 94 rfl w.heap.size 3 i0 (.int .i64 0) 1 8 (by kernel_rfl) Hi.out Hz0.out Hz1.out Hz2.out rfl (by omega) _ k (o.map (gvK .i64)) rfl (HOW.out.alloc _) (w1.heap.size + 1) (some ⟨w1.heap.size, 0, none⟩) 1 1 [.int .i64 (((x : Int) + y + cy) % 1000000000)] rfl (reads_one w1 _ _) (gvK_one [(x + y + cy) % 1000000000]) (by unfold maxLen; omega) (by omega) (by simp; omega) ?_; intro v3 w3 hown3 hg3 _; have HO3 := Lib.hid hown3; have HG3 := Lib.hid hg3; clear hown3 hg3)
        obtain ⟨A4, c4, hv4, ho4⟩ := own_snoc (x := (x + y + cy) % 1000000000) H.out.1 HO3.out
        subst hv4
        have Ho4 := Lib.hid ho4
        clear ho4
        go_wp2_with fail
        go_roundw
        case rel =>
          refine ⟨k + 1, (x + y + cy) / BB, c4, A4, o ++ [(x + y + cy) % BB], by omega, by go_num, rfl, rfl, by unfold BB; omega, ?_, by simp [H.out.1], H.out.2.1.snoc (Nat.mod_lt _ BB_pos), rplus_keep H.out.1 HX.out HY.out H.out.2.2.1, Ho4.out, (H.out.2.2.2.2.alloc hsz _).grown HG3.out (by simp; omega) (own_ge HOW.out)⟩
          intro h1 h2; omega
        case measure => simp [intOf]; omega
      · have q2 : decide ((k : Int) < (m.length : Int)) = false := decide_eq_false (by omega)
        have hx0 : x = 0 := by rw [← HX.out, List.getElem?_eq_none (by omega)]; rfl
        have hy0 : y = 0 := by rw [← HY.out, List.getElem?_eq_none (by omega)]; rfl
        by_cases hc0 : cy = 0
        · subst hc0
          have HE : Hid (mval o = a + b) := by
            show _ = _
            have := H.out.2.2.1
            rw [mval_take_all (by omega), mval_take_all (by omega), HV.out, HVM.out] at this
            omega
          go_wp2_with fail
          have hlo := H.out.1
          subst hlo
          have hmg := H.out.2.2.2.1.mg
          refine (trim_any A1 c1 o wr H.out.2.1 hmg.1 hmg.2.1 hmg.2.2).mono ?_
          rintro e w3 ⟨rfl, rfl⟩
          go_wp2_with fail
          go_ret
          exact rw_ret H.out.2.2.2.1 H.out.2.1 HE.out H.out.2.2.2.2
        · have q3 : decide (0 < cy) = true := decide_eq_true (by omega)
          have hkm2 : k ≤ 1099511627776 := by have := HK.out (by omega) (by omega); omega
          have HZ : Hid ((x + y + cy) / BB = 0) := by show _ = _; unfold BB; omega
          clear hc0 hx0 hy0
          go_wp2_with fail
          refine (HG1.out _ H.out.2.2.2.2).mono ?_
          rintro e w1 ⟨rfl, rfl⟩
          go_wp2_with fail
          refine (HG2.out _ H.out.2.2.2.2).mono ?_
          rintro e w1 ⟨rfl, rfl⟩
          obtain ⟨i0, hi, hz0, hz1, hz2⟩ := info_parts infoI
          have Hi := Lib.hid hi
          have Hz0 := Lib.hid hz0
          have Hz1 := Lib.hid hz1
          have Hz2 := Lib.hid hz2
          clear hi hz0 hz1 hz2
          go_wp2_with (at_builtin; refine wpList_append_any _ rfl (.tmp 35) (.tmp 38) 94 rfl w.heap.size 3 i0 (.int .i64 0) 1 8 (by kernel_rfl) Hi.out Hz0.out Hz1.out Hz2.out rfl (by omega) _ k (o.map (gvK .i64)) rfl (HOW.out.alloc _) (w1.heap.size + 1) (some ⟨w1.heap.size, 0, none⟩) 1 1 [.int .i64 (((x : Int) + y + cy) % 1000000000)] rfl (reads_one w1 _ _) (gvK_one [(x + y + cy) % 1000000000]) (by unfold maxLen; omega) (by omega) (by simp; omega) ?_; intro v3 w3 hown3 hg3 _; have HO3 := Lib.hid hown3; have HG3 := Lib.hid hg3; clear hown3 hg3)
          obtain ⟨A4, c4, hv4, ho4⟩ := own_snoc (x := (x + y + cy) % 1000000000) H.out.1 HO3.out
          subst hv4
          have Ho4 := Lib.hid ho4
          clear ho4
          go_wp2_with fail
          go_roundw
          case rel =>
            refine ⟨k + 1, (x + y + cy) / BB, c4, A4, o ++ [(x + y + cy) % BB], by omega, by go_num, rfl, rfl, by unfold BB; omega, ?_, by simp [H.out.1], H.out.2.1.snoc (Nat.mod_lt _ BB_pos), rplus_keep H.out.1 HX.out HY.out H.out.2.2.1, Ho4.out, (H.out.2.2.2.2.alloc hsz _).grown HG3.out (by simp; omega) (own_ge HOW.out)⟩
            intro h1 h2; right; right; exact HZ.out
          case measure => simp [intOf]; omega

set_option maxRecDepth 100000 in
set_option maxHeartbeats 2000000 in
theorem minus_r (A A' : Option Addr) (c c' : Nat) (a b : Nat) (w : World) (hc : Mg .i64 w w.heap.size A (mag a)) (hc' : Mg .i64 w w.heap.size A' (mag b)) (hm : (mag a).length ≤ 1099511627776) (hle : b ≤ a) :
    Calls Tryz.prog 86 #[.slice A (mag a).length c, .slice A' (mag b).length c'] w (ROw (mag (a - b)) w) := by
  have hlen : (mag b).length ≤ (mag a).length := by
    rcases Nat.lt_or_ge (mag a).length (mag b).length with h | h
    · have := cmp_len h; omega
    · exact h
  have Hle := Lib.hid hle
  clear hle
  obtain ⟨l, hl⟩ : ∃ l, mag a = l := ⟨_, rfl⟩
  obtain ⟨m, hmm⟩ : ∃ m, mag b = m := ⟨_, rfl⟩
  rw [hl] at hc hm hlen ⊢
  rw [hmm] at hc' hlen ⊢
  have Hc := Lib.hid hc
  have Hc' := Lib.hid hc'
  clear hc hc'
  have HV : Hid (mval l = a) := by show mval l = a; rw [← hl]; exact mval_mag a
  have HVM : Hid (mval m = b) := by show mval m = b; rw [← hmm]; exact mval_mag b
  have HLS : Hid (Small l) := by show Small l; rw [← hl]; exact mag_small a
  have HMS : Hid (Small m) := by show Small m; rw [← hmm]; exact mag_small b
  clear hl hmm
  have HO0 := Lib.hid (Ow.new w .i64 3 [] (by simp))
  go_enter Tryz.func86, Tryz.ntmps86
  go_wp2_with fail
  go_loopw [7, 6, 5] (fun s t u wr => ∃ (k cy c1 : Nat) (A1 : Option Addr) (o : List Nat), k ≤ l.length ∧ s = .int .i64 (k : Int) ∧ t = .int .i64 (cy : Int) ∧ u = .slice A1 k c1 ∧ cy ≤ 1 ∧ Hid (RMinusIs w l m k cy o A1 c1 wr)) (fun s _ _ _ => (l.length - intOf s).toNat)
  case atStart => exact ⟨0, 0, 0, some ⟨w.heap.size, 0, none⟩, [], by omega, rfl, rfl, rfl, by omega, rfl, fun g hg => by simp at hg, by simp [mval], HO0.out, (Below.refl _ _).alloc (Nat.le_refl _) _⟩
  case round =>
    obtain ⟨k, cy, c1, A1, o, hk, rfl, rfl, rfl, hcy, H⟩ := hrel
    by_cases hkl : k = l.length
    · subst hkl
      have HE : Hid (mval o = a - b) := minus_end H.out.2.1 H.out.1 (by have := H.out.2.2.1; rw [mval_take_all hlen, mval_take_all (Nat.le_refl _), HV.out, HVM.out] at this; exact this) Hle.out hcy
      have Hlo := Lib.hid H.out.1
      go_wp2_with fail
      rw [← Hlo.out]
      have hmg := H.out.2.2.2.1.mg
      refine (trim_any A1 c1 o wr H.out.2.1 hmg.1 hmg.2.1 hmg.2.2).mono ?_
      rintro e w3 ⟨rfl, rfl⟩
      go_wp2_with fail
      go_ret
      exact rw_ret H.out.2.2.2.1 H.out.2.1 HE.out H.out.2.2.2.2
    · have hkl' : k < l.length := by omega
      clear hkl
      obtain ⟨x, hx⟩ : ∃ x, l[k]? = some x := some_at l k hkl'
      have hxb : x < 1000000000 := HLS.out.at hx
      obtain ⟨b1, o1, hA, hB, h1⟩ := Hc.out k x hx
      subst hA
      have HX : Hid (l[k]?.getD 0 = x) := by show _ = _; rw [hx]; rfl
      clear hx
      have hd1 : wr.cell? ⟨b1, o1 + k, none⟩ = some (.int .i64 x) := (H.out.2.2.2.2.cell (p := ⟨b1, o1 + k, none⟩) hB).trans h1
      clear h1
      obtain ⟨y, hy⟩ : ∃ y, m[k]?.getD 0 = y := ⟨_, rfl⟩
      have hyb : y < 1000000000 := by rw [← hy]; exact HMS.out.getD k
      have HY := Lib.hid hy
      clear hy
      have HG2 : Hid (∀ wx : World, Below w.heap.size w wx → Calls Tryz.prog 123 #[.slice A' m.length c', .int .i64 (k : Int)] wx fun e w' => e = .returned (.int .i64 (y : Int)) ∧ w' = wx) := fun wx hb => group_r A' c' m.length m k y wx rfl HY.out (Hc'.out.up hb)
      have HBn : Hid (∀ n, Below w.heap.size w (wr.drewN n)) := fun n => H.out.2.2.2.2.trans (below_drewN _ _ _)
      have hi0 : (0 : Int) ≤ (k : Int) := by omega
      have hi1 : (k : Int) < (l.length : Int) := by omega
      have HOWn : Hid (∀ n, (wr.drewN n).ownsRow w.heap.size 3 1 (.slice A1 k c1) k (o.map (gvK .i64))) := by
        intro n
        have := H.out.2.2.2.1
        unfold Ow at this
        rw [H.out.1] at this
        exact this
      have hsz : w.heap.size ≤ wr.heap.size := H.out.2.2.2.2.size
      go_wp2_with fail
      have hw1 : IntKind.i64.wrap ((x : Int) - y) = x - y := IntWalk.i64_in _ (by omega)
      have hw2 : IntKind.i64.wrap ((x : Int) - y - cy) = x - y - cy := IntWalk.i64_in _ (by omega)
      go_quiet (first | (go_at_call 123; exact Calls.quiet_of_same (HG2.out _ (HBn.out _))))
      clear hw1 hw2
      have HOW := Lib.hid (HOWn.out nq)
      have HBW := Lib.hid (HBn.out nq)
      have hsz2 : w.heap.size ≤ (wr.drewN nq).heap.size := hsz
      generalize wr.drewN nq = W1 at *
      clear HOWn HBn
      by_cases hlt : x < y + cy
      · have q : decide ((x : Int) - y - cy < 0) = true := decide_eq_true (by omega)
        have hv : ((x + BB - (y + cy) : Nat) : Int) = (x : Int) - y - cy + 1000000000 := by unfold BB; omega
        have Hv := Lib.hid hv
        clear hv
        obtain ⟨i0, hi, hz0, hz1, hz2⟩ := info_parts infoI
        have Hi := Lib.hid hi
        have Hz0 := Lib.hid hz0
        have Hz1 := Lib.hid hz1
        have Hz2 := Lib.hid hz2
        clear hi hz0 hz1 hz2
        go_wp2_with (at_builtin; refine wpList_append_any _ rfl (.tmp 30) (.tmp 32) 94 rfl w.heap.size 3 i0 (.int .i64 0) 1 8 (by kernel_rfl) Hi.out Hz0.out Hz1.out Hz2.out rfl (by omega) _ k (o.map (gvK .i64)) rfl (HOW.out.alloc _) (W1.heap.size + 1) (some ⟨W1.heap.size, 0, none⟩) 1 1 [.int .i64 ((x : Int) - y - cy + 1000000000)] rfl (reads_one W1 _ _) (fun v hv => by simp at hv; subst hv; rfl) (by unfold maxLen; omega) (by omega) (by simp; omega) ?_; intro v3 w3 hown3 hg3 _; have HO3 := Lib.hid hown3; have HG3 := Lib.hid hg3; clear hown3 hg3)
        obtain ⟨A4, c4, hv4, ho4⟩ := own_snoc (x := (x + BB - (y + cy))) H.out.1 (by have := HO3.out; rw [Hv.out]; exact this)
        subst hv4
        have Ho4 := Lib.hid ho4
        clear ho4
        go_wp2_with fail
        go_roundw
        case rel =>
          refine ⟨k + 1, 1, c4, A4, o ++ [(x + BB - (y + cy))], by omega, by go_num, rfl, rfl, by omega, by simp [H.out.1], H.out.2.1.snoc (by unfold BB; omega), rminus_keep (cy := cy) H.out.1 HX.out HY.out H.out.2.2.1 (by unfold BB; omega), Ho4.out, (HBW.out.alloc hsz2 _).grown HG3.out (by simp; omega) (own_ge HOW.out)⟩
        case measure => simp [intOf]; omega
      · have q : decide ((x : Int) - y - cy < 0) = false := decide_eq_false (by omega)
        have hv : ((x - (y + cy) : Nat) : Int) = (x : Int) - y - cy := by omega
        have Hv := Lib.hid hv
        clear hv
        obtain ⟨i0, hi, hz0, hz1, hz2⟩ := info_parts infoI
        have Hi := Lib.hid hi
        have Hz0 := Lib.hid hz0
        have Hz1 := Lib.hid hz1
        have Hz2 := Lib.hid hz2
        clear hi hz0 hz1 hz2
        go_wp2_with (at_builtin; refine wpList_append_any _ rfl (.tmp 30) (.tmp 32) 94 rfl w.heap.size 3 i0 (.int .i64 0) 1 8 (by kernel_rfl) Hi.out Hz0.out Hz1.out Hz2.out rfl (by omega) _ k (o.map (gvK .i64)) rfl (HOW.out.alloc _) (W1.heap.size + 1) (some ⟨W1.heap.size, 0, none⟩) 1 1 [.int .i64 ((x : Int) - y - cy)] rfl (reads_one W1 _ _) (fun v hv => by simp at hv; subst hv; rfl) (by unfold maxLen; omega) (by omega) (by simp; omega) ?_; intro v3 w3 hown3 hg3 _; have HO3 := Lib.hid hown3; have HG3 := Lib.hid hg3; clear hown3 hg3)
        obtain ⟨A4, c4, hv4, ho4⟩ := own_snoc (x := (x - (y + cy))) H.out.1 (by have := HO3.out; rw [Hv.out]; exact this)
        subst hv4
        have Ho4 := Lib.hid ho4
        clear ho4
        go_wp2_with fail
        go_roundw
        case rel =>
          refine ⟨k + 1, 0, c4, A4, o ++ [(x - (y + cy))], by omega, by go_num, rfl, rfl, by omega, by simp [H.out.1], H.out.2.1.snoc (by unfold BB; omega), rminus_keep (cy := cy) H.out.1 HX.out HY.out H.out.2.2.1 (by unfold BB; omega), Ho4.out, (HBW.out.alloc hsz2 _).grown HG3.out (by simp; omega) (own_ge HOW.out)⟩
        case measure => simp [intOf]; omega
end Go.Proofs.YtahpbnmbphobgaaGreatDoor
namespace Go.Proofs.YtahpbnmbphobgaaGreatDoor
open Go.RowKit Dec

/-- what the rows of the reference's times keep -/
def RTimesIs (w : World) (l m : List Nat) (N i : Nat) (o : List Nat) (wr : World) : Prop :=
  o.length = N ∧ Small o ∧ mval o = mval (l.take i) * mval m ∧ (∀ t, i + m.length ≤ t → t < o.length → o[t]? = some 0) ∧ Ow .i64 3 wr w.heap.size (some ⟨w.heap.size, 0, none⟩) N o ∧ Below w.heap.size w wr
/-- what the rounds of a row keep -/
def RRowIs (w : World) (m O : List Nat) (N i x k cy : Nat) (o : List Nat) (wr : World) : Prop :=
  o.length = N ∧ Small o ∧ mval o + cy * BB ^ (i + k) = mval O + x * mval (m.take k) * BB ^ i ∧ (∀ t, i + k ≤ t → o[t]? = O[t]?) ∧ Ow .i64 3 wr w.heap.size (some ⟨w.heap.size, 0, none⟩) N o ∧ Below w.heap.size w wr
theorem rrow_rel {w wr W : World} {m O o : List Nat} {N i x k cy y z : Nat} (h : RRowIs w m O N i x k cy o wr) (hz : o[i + k]? = some z) (hy : m[k]?.getD 0 = y)
    (hB : Ow .i64 3 W w.heap.size (some ⟨w.heap.size, 0, none⟩) N (o.set (i + k) ((cy + (z + x * y)) % BB))) (hb : Below w.heap.size w W) :
    RRowIs w m O N i x (k + 1) ((cy + (z + x * y)) / BB) (o.set (i + k) ((cy + (z + x * y)) % BB)) W := by
  obtain ⟨h1, h2, h3, h4, h5, h6⟩ := h
  refine ⟨by rw [List.length_set]; exact h1, h2.set _ (Nat.mod_lt _ BB_pos), times_keep hz hy h3, ?_, hB, hb⟩
  intro t ht
  rw [List.getElem?_set_ne (by omega)]
  exact h4 t (by omega)
theorem rtimes_next {w wr : World} {l m O o : List Nat} {N i x k : Nat} (hT : ∃ wo, RTimesIs w l m N i O wo) (hx : l[i]? = some x) (h : RRowIs w m O N i x k 0 o wr) (hk : m.length ≤ k) (hk2 : k ≤ m.length + 1) : RTimesIs w l m N (i + 1) o wr := by
  obtain ⟨wo, t1, t2, t3, t4, t5, t6⟩ := hT
  obtain ⟨h1, h2, h3, h4, h5, h6⟩ := h
  rw [List.take_of_length_le hk] at h3
  refine ⟨h1, h2, ?_, ?_, h5, h6⟩
  · rw [mval_take_succ, hx, Option.getD_some]
    generalize BB ^ i = Q at *
    generalize mval m = M at *
    generalize mval (l.take i) = L at *
    generalize mval O = U at *
    generalize mval o = V at *
    clear h1 h2 h4 h5 h6 t1 t2 t4 t5 t6
    rw [Nat.zero_mul, Nat.add_zero] at h3
    rw [h3, t3, Nat.add_mul]
    grind
  · intro t ht htl
    rw [h4 t (by omega)]
    exact t4 t (by omega) (by omega)
theorem run_makeI (n c : Nat) (hnc : n ≤ c) (hc : c ≤ 1099511627777) (u : World) :
    (Instr.makeSlice 94 (.int .i64 (n : Int)) (.int .i64 (c : Int))).run Tryz.prog u = .ok (.slice (some ⟨u.heap.size, 0, none⟩) n c) (u.alloc (.cells ((List.replicate c 0).map (gvK .i64)).toArray 3)) :=
  run_makeK (by kernel_rfl) infoI n c hnc hc u

end Go.Proofs.YtahpbnmbphobgaaGreatDoor
namespace Go.Proofs.YtahpbnmbphobgaaGreatDoor
open Go.RowKit Dec

theorem Ow.under {K : IntKind} {T : TypeId} {w : World} {base c g i : Nat} {A : Option Addr} {v : Value} {l : List Nat} (ho : Ow K T w base A c l) (hg : g < base) : Ow K T (w.setCell ⟨g, i, none⟩ v) base A c l := by
  refine ⟨ho.1, ?_⟩
  rcases ho.2 with h0 | ⟨g', cap, cur, hv, hb, hh, r⟩
  · exact .inl h0
  · exact .inr ⟨g', cap, cur, hv, hb, (Below.heap_setCell w ⟨g, i, none⟩ v g' (by show g' ≠ g; omega)).trans hh, r⟩
/-- what the rounds of the reference's divide keep -/
def DvIs (w : World) (l : List Nat) (n b i r : Nat) (o : List Nat) (A2 : Option Addr) (c2 : Nat) (wr : World) : Prop :=
  o.length = n ∧ Small o ∧ mval o * b + r * BB ^ i + mval (l.take i) = mval l ∧ r < b ∧ (∀ t, t < i → o[t]? = some 0) ∧ Ow .i64 3 wr w.heap.size (some ⟨w.heap.size, 0, none⟩) n o ∧ Ow .i64 3 wr (w.heap.size + 1) A2 c2 (mag r) ∧ Below w.heap.size w wr
/-- what the halving keeps -/
def DiIs (w : World) (n r : Nat) (o : List Nat) (A2 : Option Addr) (c2 : Nat) (wr : World) : Prop :=
  Ow .i64 3 wr w.heap.size (some ⟨w.heap.size, 0, none⟩) n o ∧ Ow .i64 3 wr (w.heap.size + 1) A2 c2 (mag r) ∧ Below w.heap.size w wr ∧ w.heap.size + 1 ≤ wr.heap.size
theorem DiIs.below {w wr wr' : World} {n r : Nat} {o : List Nat} {A2 : Option Addr} {c2 : Nat} (h : DiIs w n r o A2 c2 wr) (hb : Below wr.heap.size wr wr') : DiIs w n r o A2 c2 wr' :=
  ⟨h.1.below hb, h.2.1.below hb, h.2.2.1.trans (hb.mono h.2.2.1.size), Nat.le_trans h.2.2.2 hb.size⟩
/-- what divide hands back -/
def DvRet (a b : Nat) (w : World) (e : Ending) (w' : World) : Prop :=
  ∃ A1 c1 A2 c2, e = .returned (.tuple #[.slice A1 (mag (a / b)).length c1, .slice A2 (mag (a % b)).length c2]) ∧ Mg .i64 w' w'.heap.size A1 (mag (a / b)) ∧ Mg .i64 w' w'.heap.size A2 (mag (a % b)) ∧ Below w.heap.size w w'
theorem mag_single {d : Nat} (h0 : 0 < d) (h : d < BB) : mag d = [d] := by rw [mag_pos (by omega), Nat.mod_eq_of_lt h, Nat.div_eq_of_lt h, mag_zero]
theorem mag_len_mul {b d M : Nat} (hM : (mag b).length = M) (hd : d < BB) : (mag (b * d)).length ≤ M + 1 := by
  rw [mag_len_lt, Nat.pow_succ]
  have h1 : b < BB ^ M := mag_len_lt.1 (by omega)
  exact Nat.mul_lt_mul_of_lt_of_le h1 (Nat.le_of_lt hd) BB_pos
theorem mg_new1 (w : World) (d : Nat) : Mg .i64 (w.alloc (.cells #[.int .i64 (d : Int)] 3)) (w.alloc (.cells #[.int .i64 (d : Int)] 3)).heap.size (some ⟨w.heap.size, 0, none⟩) [d] :=
  (Ow.new w .i64 3 [d] (by unfold maxLen; simp)).mg.1

end Go.Proofs.YtahpbnmbphobgaaGreatDoor
