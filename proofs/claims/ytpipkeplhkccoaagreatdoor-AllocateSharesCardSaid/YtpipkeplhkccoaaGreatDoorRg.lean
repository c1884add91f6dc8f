/- Integer, the reference: contracts of trim, order and group. Conditions: lengths below 2^62. Integer, the reference: contracts of plus and minus. Conditions: lengths below 2^40. Integer, the reference: the contract of times. Conditions: lengths below 2^39. Integer, the reference: the contract of divide. Conditions: lengths below 2^38. -/
import Derived.Test.YtpipkeplhkccoaaGreatDoorIb
import Derived.IntWalk
namespace Go.Proofs.YtpipkeplhkccoaaGreatDoor
open Go.RowKit Dec

set_option maxHeartbeats 1000000 in
/-- trim: the same slice, up to the last group that is not 0 -/
theorem trim_any (A : Option Addr) (c : Nat) (l : List Nat) (w : World) (hl : Small l) (hc : Mg .i64 w w.heap.size A l) (hcap : l.length ≤ c) (hcm : c ≤ 9223372036854775807) :
    Calls Tryz.prog 174 #[.slice A l.length c] w fun e w' => e = .returned (.slice A (cutL l).length c) ∧ w = w' := by
  have HL := Lib.hid hl
  have Hc := Lib.hid hc
  clear hl hc
  go_enter Tryz.func174, Tryz.ntmps174
  go_wp2
  go_loop [0] (fun s => ∃ k : Nat, k ≤ l.length ∧ s = .slice A k c ∧ Hid (∀ i, k ≤ i → i < l.length → l[i]? = some 0)) (fun s => match s with | .slice _ n _ => n | _ => 0)
  case atStart => exact ⟨l.length, by omega, rfl, fun i h1 h2 => by omega⟩
  case round =>
    obtain ⟨k, hk, rfl, H⟩ := hrel
    by_cases hk0 : k = 0
    · subst hk0
      go_wp2
      go_ret
      refine ⟨ret_slice ?_, rfl⟩
      rw [← cut_take l HL.out 0 (by omega) H.out (.inl rfl)]; rfl
    · obtain ⟨k, rfl⟩ : ∃ j, k = j + 1 := ⟨k - 1, by omega⟩
      obtain ⟨g, hg⟩ : ∃ g, l[k]? = some g := ⟨l[k]'(by omega), by simp⟩
      obtain ⟨b, o, hA, hB, h1⟩ := Hc.out k g hg
      subst hA
      have HGg := Lib.hid hg
      clear hg hk0
      by_cases hz : g = 0
      · subst hz
        go_wp2
        go_round
        case rel =>
          refine ⟨k, by omega, rfl, ?_⟩
          intro i h1 h2
          by_cases e : i = k
          · subst e; exact HGg.out
          · exact H.out i (by omega) h2
        case measure => simp
      · have hz' : ((g : Int) == 0) = false := by simp; omega
        go_wp2
        go_ret
        refine ⟨ret_slice ?_, rfl⟩
        rw [← cut_take l HL.out (k + 1) (by omega) H.out (.inr (by rw [Nat.add_sub_cancel, HGg.out]; intro e; cases e; exact hz rfl))]
        simp; omega

/-- comparing two numbers -/
def cmpN (a b : Nat) : Int := if a < b then -1 else if a = b then 0 else 1
/-- what order hands back -/
def OrdRet (a b : Nat) (w : World) (e : Ending) (w' : World) : Prop := e = .returned (.int .i64 (cmpN a b)) ∧ ∃ n, w' = w.drewN n

set_option maxHeartbeats 1000000 in
theorem order_r (A A' : Option Addr) (c c' : Nat) (a b : Nat) (w : World) (hc : Mg .i64 w w.heap.size A (mag a)) (hc' : Mg .i64 w w.heap.size A' (mag b)) (hm : (mag a).length ≤ 4611686018427387904) (hm' : (mag b).length ≤ 4611686018427387904) :
    Calls Tryz.prog 171 #[.slice A (mag a).length c, .slice A' (mag b).length c'] w (OrdRet a b w) := by
  have Hc := Lib.hid hc
  have Hc' := Lib.hid hc'
  clear hc hc'
  obtain ⟨l, hl⟩ : ∃ l, mag a = l := ⟨_, rfl⟩
  obtain ⟨m, hmm⟩ : ∃ m, mag b = m := ⟨_, rfl⟩
  have HLS : Hid (Small l) := by show Small l; rw [← hl]; exact mag_small a
  have HMS : Hid (Small m) := by show Small m; rw [← hmm]; exact mag_small b
  have HVL : Hid (mval l = a) := by show mval l = a; rw [← hl]; exact mval_mag a
  have HVM : Hid (mval m = b) := by show mval m = b; rw [← hmm]; exact mval_mag b
  have HCL : Hid (l.length < m.length → a < b) := by show l.length < m.length → a < b; rw [← hl, ← hmm]; exact cmp_len
  have HCM : Hid (m.length < l.length → b < a) := by show m.length < l.length → b < a; rw [← hl, ← hmm]; exact cmp_len
  rw [hl] at Hc hm ⊢
  rw [hmm] at Hc' hm' ⊢
  clear hl hmm
  by_cases hlen : l.length = m.length
  · have hne : ((l.length : Int) != m.length) = false := by simp; omega
    have HN := Lib.hid hlen
    have hle : l.length ≤ m.length := by omega
    clear hlen
    go_enter Tryz.func171, Tryz.ntmps171
    go_wp2
    go_loopw [5] (fun s wr => ∃ k nn : Nat, k ≤ l.length ∧ s = .int .i64 ((k : Int) - 1) ∧ Hid (∀ j, k ≤ j → l[j]? = m[j]?) ∧ wr = w.drewN nn) (fun s _ => (intOf s + 1).toNat)
    case atStart => exact ⟨l.length, 0, by omega, rfl, fun j hj => by rw [List.getElem?_eq_none hj, List.getElem?_eq_none (by have := HN.out; omega)], rfl⟩
    case round =>
      obtain ⟨k, nn, hk, rfl, H, rfl⟩ := hrel
      by_cases hk0 : k = 0
      · subst hk0
        have HE : Hid (a = b) := by
          show a = b
          have e : l = m := List.ext_getElem? (fun j => H.out j (by omega))
          rw [← HVL.out, ← HVM.out, e]
        go_wp2
        go_ret
        exact ⟨ret_int (by unfold cmpN; rw [HE.out, if_neg (by omega), if_pos rfl]), nn, rfl⟩
      · obtain ⟨k, rfl⟩ : ∃ j, k = j + 1 := ⟨k - 1, by omega⟩
        obtain ⟨x, hx⟩ : ∃ g, l[k]? = some g := ⟨l[k]'(by omega), by simp⟩
        obtain ⟨y, hy⟩ : ∃ g, m[k]? = some g := ⟨m[k]'(by omega), by simp⟩
        obtain ⟨b1, o1, hA, hB, h1⟩ := Hc.out k x hx
        obtain ⟨b2, o2, hA', hB', h2⟩ := Hc'.out k y hy
        subst hA hA'
        have HX := Lib.hid hx
        have HY := Lib.hid hy
        clear hx hy hk0
        by_cases hlt : x < y
        · have q : decide ((x : Int) < y) = true := by simp; omega
          have HT := Lib.hid (mval_top HLS.out HN.out k x y HX.out HY.out hlt (fun j hj => H.out j (by omega)))
          go_wp2
          go_quiet (fail)
          go_wp2
          go_ret
          have hab : a < b := by rw [← HVL.out, ← HVM.out]; exact HT.out
          exact ⟨ret_int (by unfold cmpN; rw [if_pos hab]), _, World.drewN_drewN _ _ _⟩
        · have q : decide ((x : Int) < y) = false := by simp; omega
          by_cases hgt : y < x
          · have q2 : decide ((y : Int) < x) = true := by simp; omega
            have HT := Lib.hid (mval_top HMS.out HN.out.symm k y x HY.out HX.out hgt (fun j hj => (H.out j (by omega)).symm))
            go_wp2
            go_quiet (fail)
            go_wp2
            go_quiet (fail)
            go_wp2
            go_ret
            have hab : b < a := by rw [← HVL.out, ← HVM.out]; exact HT.out
            exact ⟨ret_int (by unfold cmpN; rw [if_neg (by omega), if_neg (by omega)]), _, by rw [World.drewN_drewN, World.drewN_drewN]⟩
          · have q2 : decide ((y : Int) < x) = false := by simp; omega
            have HXY := Lib.hid (show x = y by omega)
            go_wp2
            go_quiet (fail)
            go_wp2
            go_quiet (fail)
            go_wp2
            go_roundw
            case rel =>
              refine ⟨k, _, by omega, by go_num, ?_, rfl⟩
              intro j hj
              by_cases e : j = k
              · subst e; rw [HX.out, HY.out, HXY.out]
              · exact H.out j (by omega)
            case measure => simp [intOf]
  · have hne : ((l.length : Int) != m.length) = true := by simp; omega
    by_cases hlt : l.length < m.length
    · have q : decide ((l.length : Int) < m.length) = true := decide_eq_true (by omega)
      have HAB := Lib.hid (HCL.out hlt)
      go_enter Tryz.func171, Tryz.ntmps171
      go_wp2
      go_ret
      exact ⟨ret_int (by unfold cmpN; rw [if_pos HAB.out]), 0, rfl⟩
    · have q : decide ((l.length : Int) < m.length) = false := decide_eq_false (by omega)
      have HAB := Lib.hid (HCM.out (by omega))
      go_enter Tryz.func171, Tryz.ntmps171
      go_wp2
      go_ret
      have hab := HAB.out
      exact ⟨ret_int (by unfold cmpN; rw [if_neg (by omega), if_neg (by omega)]), 0, rfl⟩

/-- group: a group, or 0 beyond the end -/
theorem group_r (A : Option Addr) (c n : Nat) (l : List Nat) (k x : Nat) (w : World) (hn : l.length = n) (hx : l[k]?.getD 0 = x) (hc : Mg .i64 w w.heap.size A l) :
    Calls Tryz.prog 173 #[.slice A n c, .int .i64 (k : Int)] w fun e w' => e = .returned (.int .i64 (x : Int)) ∧ w' = w := by
  have HX := Lib.hid hx
  clear hx
  have Hc := Lib.hid hc
  clear hc
  have HN := Lib.hid hn
  clear hn
  by_cases hkn : k < n
  · have q : decide ((k : Int) < (n : Int)) = true := decide_eq_true (by omega)
    obtain ⟨y, hy⟩ := some_at l k (by rw [HN.out]; exact hkn)
    obtain ⟨b, o, hA, hB, h1⟩ := Hc.out k y hy
    subst hA
    have HY : Hid (y = x) := by show _ = _; rw [← HX.out, hy]; rfl
    clear hy
    go_enter Tryz.func173, Tryz.ntmps173
    go_wp2_with fail
    go_ret
    exact ⟨ret_int (by rw [HY.out]), rfl⟩
  · have q : decide ((k : Int) < (n : Int)) = false := decide_eq_false (by omega)
    have HY : Hid (x = 0) := by show _ = _; rw [← HX.out, List.getElem?_eq_none (by rw [HN.out]; omega)]; rfl
    go_enter Tryz.func173, Tryz.ntmps173
    go_wp2_with fail
    go_ret
    exact ⟨ret_int (by rw [HY.out]; rfl), rfl⟩
theorem infoI : (Tryz.prog.info? 3).map (fun i => (i.zero, i.size, i.bytes)) = some (some (.int .i64 0), 1, 8) := by kernel_rfl
/-- a slice of the call's own that reads as l -/
def ROw (l : List Nat) (w : World) (e : Ending) (w' : World) : Prop :=
  ∃ A c, e = .returned (.slice A l.length c) ∧ Ow .i64 3 w' w.heap.size A c l ∧ Below w.heap.size w w'
theorem rw_ret {w wr : World} {n c : Nat} {A : Option Addr} {o : List Nat} (ho : Ow .i64 3 wr w.heap.size A c o) (hs : Small o) (hn : mval o = n) (hb : Below w.heap.size w wr) :
    ROw (mag n) w (.returned (.slice A (cutL o).length c)) wr := by
  obtain ⟨k, hk, e⟩ := cut_pre o hs
  have e2 : mag n = o.take k := by rw [← e]; unfold cutL; rw [hn]
  exact ⟨A, c, by unfold cutL; rw [hn], by rw [e2]; exact ho.take hk, hb⟩
theorem mval_take_all {l : List Nat} {k : Nat} (h : l.length ≤ k) : mval (l.take k) = mval l := by rw [List.take_of_length_le h]
end Go.Proofs.YtpipkeplhkccoaaGreatDoor
namespace Go.Proofs.YtpipkeplhkccoaaGreatDoor
open Go.RowKit Dec

theorem mval_snoc (o : List Nat) (x : Nat) : mval (o ++ [x]) = mval o + BB ^ o.length * x := by rw [mval_append]; simp [mval]
theorem Dec.Small.snoc {o : List Nat} (h : Small o) {x : Nat} (hx : x < BB) : Small (o ++ [x]) := by
  intro g hg
  rcases List.mem_append.1 hg with hg | hg
  · exact h g hg
  · simp at hg; subst hg; exact hx
theorem Dec.Small.getD {l : List Nat} (h : Small l) (k : Nat) : l[k]?.getD 0 < BB := by
  cases hx : l[k]? with
  | none => exact BB_pos
  | some x => exact h.at hx
/-- what the loop of the reference's plus keeps -/
def RPlusIs (w : World) (l m : List Nat) (k cy : Nat) (o : List Nat) (A : Option Addr) (c : Nat) (wr : World) : Prop :=
  o.length = k ∧ Small o ∧ mval o + cy * BB ^ k = mval (l.take k) + mval (m.take k) ∧ Ow .i64 3 wr w.heap.size A c o ∧ Below w.heap.size w wr
theorem rplus_keep {l m o : List Nat} {k cy x y : Nat} (hk : o.length = k) (hx : l[k]?.getD 0 = x) (hy : m[k]?.getD 0 = y) (h : mval o + cy * BB ^ k = mval (l.take k) + mval (m.take k)) :
    mval (o ++ [(x + y + cy) % BB]) + ((x + y + cy) / BB) * BB ^ (k + 1) = mval (l.take (k + 1)) + mval (m.take (k + 1)) := by
  rw [mval_snoc, hk, mval_take_succ, mval_take_succ, hx, hy]
  have h2 := Nat.mod_add_div (x + y + cy) BB
  generalize (x + y + cy) % BB = r at *
  generalize (x + y + cy) / BB = q at *
  rw [Nat.pow_succ]
  generalize BB ^ k = P at *
  generalize BB = B at *
  have h3 : P * (r + B * q) = P * (x + y + cy) := by rw [h2]
  generalize mval o = M1 at *
  generalize mval (l.take k) = M2 at *
  generalize mval (m.take k) = M3 at *
  clear h2 hx hy hk
  grind
theorem rminus_keep {l m o : List Nat} {k cy cy' x y v : Nat} (hk : o.length = k) (hx : l[k]?.getD 0 = x) (hy : m[k]?.getD 0 = y) (h : mval o + mval (m.take k) = mval (l.take k) + cy * BB ^ k) (hv : v + y + cy = x + cy' * BB) :
    mval (o ++ [v]) + mval (m.take (k + 1)) = mval (l.take (k + 1)) + cy' * BB ^ (k + 1) := by
  rw [mval_snoc, hk, mval_take_succ, mval_take_succ, hx, hy, Nat.pow_succ]
  generalize BB ^ k = P at *
  generalize BB = B at *
  have h3 : P * (v + y + cy) = P * (x + cy' * B) := by rw [hv]
  generalize mval o = M1 at *
  generalize mval (l.take k) = M2 at *
  generalize mval (m.take k) = M3 at *
  clear hv hx hy hk
  grind
def RMinusIs (w : World) (l m : List Nat) (k cy : Nat) (o : List Nat) (A : Option Addr) (c : Nat) (wr : World) : Prop :=
  o.length = k ∧ Small o ∧ mval o + mval (m.take k) = mval (l.take k) + cy * BB ^ k ∧ Ow .i64 3 wr w.heap.size A c o ∧ Below w.heap.size w wr
theorem own_snoc {w : World} {base k : Nat} {v : Value} {o : List Nat} {x : Nat} (hk : o.length = k) (h : w.ownsRow base 3 1 v (k + 1) (o.map (gvK .i64) ++ [.int .i64 (x : Int)])) :
    ∃ A c, v = .slice A (k + 1) c ∧ Ow .i64 3 w base A c (o ++ [x]) := by
  have hl : (o ++ [x]).length = k + 1 := by simp [hk]
  have := own_ow (K := .i64) (l := o ++ [x]) (v := v) (w := w) (base := base) (T := 3) (by rw [hl, List.map_append]; exact h)
  rw [hl] at this
  exact this

set_option maxRecDepth 100000 in
set_option maxHeartbeats 2000000 in
theorem plus_r (A A' : Option Addr) (c c' : Nat) (a b : Nat) (w : World) (hc : Mg .i64 w w.heap.size A (mag a)) (hc' : Mg .i64 w w.heap.size A' (mag b)) (hm : (mag a).length ≤ 1099511627776) (hm' : (mag b).length ≤ 1099511627776) :
    Calls Tryz.prog 170 #[.slice A (mag a).length c, .slice A' (mag b).length c'] w (ROw (mag (a + b)) w) := by
  obtain ⟨l, hl⟩ : ∃ l, mag a = l := ⟨_, rfl⟩
  obtain ⟨m, hmm⟩ : ∃ m, mag b = m := ⟨_, rfl⟩
  rw [hl] at hc hm ⊢
  rw [hmm] at hc' hm' ⊢
  have Hc := Lib.hid hc
  have Hc' := Lib.hid hc'
  clear hc hc'
  have HV : Hid (mval l = a) := by show mval l = a; rw [← hl]; exact mval_mag a
  have HVM : Hid (mval m = b) := by show mval m = b; rw [← hmm]; exact mval_mag b
  have HLS : Hid (Small l) := by show Small l; rw [← hl]; exact mag_small a
  have HMS : Hid (Small m) := by show Small m; rw [← hmm]; exact mag_small b
  clear hl hmm
  have HO0 := Lib.hid (Ow.new w .i64 3 [] (by simp))
  go_enter Tryz.func170, Tryz.ntmps170
  go_wp2_with fail
  go_loopw [7, 6, 5] (fun s t u wr => ∃ (k cy c1 : Nat) (A1 : Option Addr) (o : List Nat), k ≤ 1099511627777 ∧ s = .int .i64 (k : Int) ∧ t = .int .i64 (cy : Int) ∧ u = .slice A1 k c1 ∧ cy ≤ 1 ∧ (l.length ≤ k → m.length ≤ k → k ≤ l.length ∨ k ≤ m.length ∨ cy = 0) ∧ Hid (RPlusIs w l m k cy o A1 c1 wr)) (fun s t _ _ => (2 * (1099511627778 - intOf s) + intOf t).toNat)
  case atStart => exact ⟨0, 0, 0, some ⟨w.heap.size, 0, none⟩, [], by omega, rfl, rfl, rfl, by omega, fun _ _ => .inr (.inr rfl), rfl, fun g hg => by simp at hg, by simp [mval], HO0.out, (Below.refl _ _).alloc (Nat.le_refl _) _⟩
  case round =>
    obtain ⟨k, cy, c1, A1, o, hk, rfl, rfl, rfl, hcy, hkk, H⟩ := hrel
    have HOW : Hid (wr.ownsRow w.heap.size 3 1 (.slice A1 k c1) k (o.map (gvK .i64))) := by
      have := H.out.2.2.2.1
      unfold Ow at this
      rw [H.out.1] at this
      exact this
    have hsz : w.heap.size ≤ wr.heap.size := H.out.2.2.2.2.size
    obtain ⟨x, hx⟩ : ∃ x, l[k]?.getD 0 = x := ⟨_, rfl⟩
    obtain ⟨y, hy⟩ : ∃ y, m[k]?.getD 0 = y := ⟨_, rfl⟩
    have hxb : x < 1000000000 := by rw [← hx]; exact HLS.out.getD k
    have hyb : y < 1000000000 := by rw [← hy]; exact HMS.out.getD k
    have HX := Lib.hid hx
    have HY := Lib.hid hy
    clear hx hy
    have HK := Lib.hid hkk
    clear hkk
    have HG1 : Hid (∀ wx : World, Below w.heap.size w wx → Calls Tryz.prog 173 #[.slice A l.length c, .int .i64 (k : Int)] wx fun e w' => e = .returned (.int .i64 (x : Int)) ∧ w' = wx) := fun wx hb => group_r A c l.length l k x wx rfl HX.out (Hc.out.up hb)
    have HG2 : Hid (∀ wx : World, Below w.heap.size w wx → Calls Tryz.prog 173 #[.slice A' m.length c', .int .i64 (k : Int)] wx fun e w' => e = .returned (.int .i64 (y : Int)) ∧ w' = wx) := fun wx hb => group_r A' c' m.length m k y wx rfl HY.out (Hc'.out.up hb)
    by_cases hkl : k < l.length
    · have q1 : decide ((k : Int) < (l.length : Int)) = true := decide_eq_true (by omega)
      go_wp2_with fail
      refine (HG1.out _ H.out.2.2.2.2).mono ?_
      rintro e w1 ⟨rfl, rfl⟩
      go_wp2_with fail
      refine (HG2.out _ H.out.2.2.2.2).mono ?_
      rintro e w1 ⟨rfl, rfl⟩
      obtain ⟨i0, hi, hz0, hz1, hz2⟩ := info_parts infoI
      have Hi := Lib.hid hi
      have Hz0 := Lib.hid hz0
      have Hz1 := Lib.hid hz1
      have Hz2 := Lib.hid hz2
      clear hi hz0 hz1 hz2
      go_wp2_with (at_builtin; refine wpList_append_any _ rfl (.tmp 35) (.tmp 38) 134 rfl w.heap.size 3 i0 (.int .i64 0) 1 8 (by kernel_rfl) Hi.out Hz0.out Hz1.out Hz2.out rfl (by omega) _ k (o.map (gvK .i64)) rfl (HOW.out.alloc _) (w1.heap.size + 1) (some ⟨w1.heap.size, 0, none⟩) 1 1 [.int .i64 (((x : Int) + y + cy) % 1000000000)] rfl (reads_one w1 _ _) (gvK_one [(x + y + cy) % 1000000000]) (by unfold maxLen; omega) (by omega) (by simp; omega) ?_; intro v3 w3 hown3 hg3 _; have HO3 := Lib.hid hown3; have HG3 := Lib.hid hg3; clear hown3 hg3)
      obtain ⟨A4, c4, hv4, ho4⟩ := own_snoc (x := (x + y + cy) % 1000000000) H.out.1 HO3.out
      subst hv4
      have Ho4 := Lib.hid ho4
      clear ho4
      go_wp2_with fail
      go_roundw
      case rel =>
        refine ⟨k + 1, (x + y + cy) / BB, c4, A4, o ++ [(x + y + cy) % BB], by omega, by go_num, rfl, rfl, by unfold BB; omega, ?_, by simp [H.out.1], H.out.2.1.snoc (Nat.mod_lt _ BB_pos), rplus_keep H.out.1 HX.out HY.out H.out.2.2.1, Ho4.out, (H.out.2.2.2.2.alloc hsz _).grown HG3.out (by simp; omega) (own_ge HOW.out)⟩
        intro h1 h2; omega
      case measure => simp [intOf]; omega
    · have q1 : decide ((k : Int) < (l.length : Int)) = false := decide_eq_false (by omega)
      by_cases hkm : k < m.length
      · have q2 : decide ((k : Int) < (m.length : Int)) = true := decide_eq_true (by omega)
        go_wp2_with fail
        refine (HG1.out _ H.out.2.2.2.2).mono ?_
        rintro e w1 ⟨rfl, rfl⟩
        go_wp2_with fail
        refine (HG2.out _ H.out.2.2.2.2).mono ?_
        rintro e w1 ⟨rfl, rfl⟩
        obtain ⟨i0, hi, hz0, hz1, hz2⟩ := info_parts infoI
        have Hi := Lib.hid hi
        have Hz0 := Lib.hid hz0
        have Hz1 := Lib.hid hz1
        have Hz2 := Lib.hid hz2
        clear hi hz0 hz1 hz2
        go_wp2_with (at_builtin; refine wpList_append_any _ rfl (.tmp 35) (.tmp 38) 134 rfl w.heap.size 3 i0 (.int .i64 0) 1 8 (by kernel_rfl) Hi.out Hz0.out Hz1.out Hz2.out rfl (by omega) _ k (o.map (gvK .i64)) rfl (HOW.out.alloc _) (w1.heap.size + 1) (some ⟨w1.heap.size, 0, none⟩) 1 1 [.int .i64 (((x : Int) + y + cy) % 1000000000)] rfl (reads_one w1 _ _) (gvK_one [(x + y + cy) % 1000000000]) (by unfold maxLen; omega) (by omega) (by simp; omega) ?_; intro v3 w3 hown3 hg3 _; have HO3 := Lib.hid hown3; have HG3 := Lib.hid hg3; clear hown3 hg3)
        obtain ⟨A4, c4, hv4, ho4⟩ := own_snoc (x := (x + y + cy) % 1000000000) H.out.1 HO3.out
        subst hv4
        have Ho4 := Lib.hid ho4
        clear ho4
        go_wp2_with fail
        go_roundw
        case rel =>
          refine ⟨k + 1, (x + y + cy) / BB, c4, A4, o ++ [(x + y + cy) % BB], by omega, by go_num, rfl, rfl, by unfold BB; omega, ?_, by simp [H.out.1], H.out.2.1.snoc (Nat.mod_lt _ BB_pos), rplus_keep H.out.1 HX.out HY.out H.out.2.2.1, Ho4.out, (H.out.2.2.2.2.alloc hsz _).grown HG3.out (by simp; omega) (own_ge HOW.out)⟩
          intro h1 h2; omega
        case measure => simp [intOf]; omega
      · have q2 : decide ((k : Int) < (m.length : Int)) = false := decide_eq_false (by omega)
        have hx0 : x = 0 := by rw [← HX.out, List.getElem?_eq_none (by omega)]; rfl
        have hy0 : y = 0 := by rw [← HY.out, List.getElem?_eq_none (by omega)]; rfl
        by_cases hc0 : cy = 0
        · subst hc0
          have HE : Hid (mval o = a + b) := by
            show _ = _
            have := H.out.2.2.1
            rw [mval_take_all (by omega), mval_take_all (by omega), HV.out, HVM.out] at this
            omega
          go_wp2_with fail
          have hlo := H.out.1
          subst hlo
          have hmg := H.out.2.2.2.1.mg
          refine (trim_any A1 c1 o wr H.out.2.1 hmg.1 hmg.2.1 hmg.2.2).mono ?_
          rintro e w3 ⟨rfl, rfl⟩
          go_wp2_with fail
          go_ret
          exact rw_ret H.out.2.2.2.1 H.out.2.1 HE.out H.out.2.2.2.2
        · have q3 : decide (0 < cy) = true := decide_eq_true (by omega)
          have hkm2 : k ≤ 1099511627776 := by have := HK.out (by omega) (by omega); omega
          have HZ : Hid ((x + y + cy) / BB = 0) := by show _ = _; unfold BB; omega
          clear hc0 hx0 hy0
          go_wp2_with fail
          refine (HG1.out _ H.out.2.2.2.2).mono ?_
          rintro e w1 ⟨rfl, rfl⟩
          go_wp2_with fail
          refine (HG2.out _ H.out.2.2.2.2).mono ?_
          rintro e w1 ⟨rfl, rfl⟩
          obtain ⟨i0, hi, hz0, hz1, hz2⟩ := info_parts infoI
          have Hi := Lib.hid hi
          have Hz0 := Lib.hid hz0
          have Hz1 := Lib.hid hz1
          have Hz2 := Lib.hid hz2
          clear hi hz0 hz1 hz2
          go_wp2_with (at_builtin; refine wpList_append_any _ rfl (.tmp 35) (.tmp 38) 134 rfl w.heap.size 3 i0 (.int .i64 0) 1 8 (by kernel_rfl) Hi.out Hz0.out Hz1.out Hz2.out rfl (by omega) _ k (o.map (gvK .i64)) rfl (HOW.out.alloc _) (w1.heap.size + 1) (some ⟨w1.heap.size, 0, none⟩) 1 1 [.int .i64 (((x : Int) + y + cy) % 1000000000)] rfl (reads_one w1 _ _) (gvK_one [(x + y + cy) % 1000000000]) (by unfold maxLen; omega) (by omega) (by simp; omega) ?_; intro v3 w3 hown3 hg3 _; have HO3 := Lib.hid hown3; have HG3 := Lib.hid hg3; clear hown3 hg3)
          obtain ⟨A4, c4, hv4, ho4⟩ := own_snoc (x := (x + y + cy) % 1000000000) H.out.1 HO3.out
          subst hv4
          have Ho4 := Lib.hid ho4
          clear ho4
          go_wp2_with fail
          go_roundw
          case rel =>
            refine ⟨k + 1, (x + y + cy) / BB, c4, A4, o ++ [(x + y + cy) % BB], by omega, by go_num, rfl, rfl, by unfold BB; omega, ?_, by simp [H.out.1], H.out.2.1.snoc (Nat.mod_lt _ BB_pos), rplus_keep H.out.1 HX.out HY.out H.out.2.2.1, Ho4.out, (H.out.2.2.2.2.alloc hsz _).grown HG3.out (by simp; omega) (own_ge HOW.out)⟩
            intro h1 h2; right; right; exact HZ.out
          case measure => simp [intOf]; omega

set_option maxRecDepth 100000 in
set_option maxHeartbeats 2000000 in
theorem minus_r (A A' : Option Addr) (c c' : Nat) (a b : Nat) (w : World) (hc : Mg .i64 w w.heap.size A (mag a)) (hc' : Mg .i64 w w.heap.size A' (mag b)) (hm : (mag a).length ≤ 1099511627776) (hle : b ≤ a) :
    Calls Tryz.prog 172 #[.slice A (mag a).length c, .slice A' (mag b).length c'] w (ROw (mag (a - b)) w) := by
  have hlen : (mag b).length ≤ (mag a).length := by
    rcases Nat.lt_or_ge (mag a).length (mag b).length with h | h
    · have := cmp_len h; omega
    · exact h
  have Hle := Lib.hid hle
  clear hle
  obtain ⟨l, hl⟩ : ∃ l, mag a = l := ⟨_, rfl⟩
  obtain ⟨m, hmm⟩ : ∃ m, mag b = m := ⟨_, rfl⟩
  rw [hl] at hc hm hlen ⊢
  rw [hmm] at hc' hlen ⊢
  have Hc := Lib.hid hc
  have Hc' := Lib.hid hc'
  clear hc hc'
  have HV : Hid (mval l = a) := by show mval l = a; rw [← hl]; exact mval_mag a
  have HVM : Hid (mval m = b) := by show mval m = b; rw [← hmm]; exact mval_mag b
  have HLS : Hid (Small l) := by show Small l; rw [← hl]; exact mag_small a
  have HMS : Hid (Small m) := by show Small m; rw [← hmm]; exact mag_small b
  clear hl hmm
  have HO0 := Lib.hid (Ow.new w .i64 3 [] (by simp))
  go_enter Tryz.func172, Tryz.ntmps172
  go_wp2_with fail
  go_loopw [7, 6, 5] (fun s t u wr => ∃ (k cy c1 : Nat) (A1 : Option Addr) (o : List Nat), k ≤ l.length ∧ s = .int .i64 (k : Int) ∧ t = .int .i64 (cy : Int) ∧ u = .slice A1 k c1 ∧ cy ≤ 1 ∧ Hid (RMinusIs w l m k cy o A1 c1 wr)) (fun s _ _ _ => (l.length - intOf s).toNat)
  case atStart => exact ⟨0, 0, 0, some ⟨w.heap.size, 0, none⟩, [], by omega, rfl, rfl, rfl, by omega, rfl, fun g hg => by simp at hg, by simp [mval], HO0.out, (Below.refl _ _).alloc (Nat.le_refl _) _⟩
  case round =>
    obtain ⟨k, cy, c1, A1, o, hk, rfl, rfl, rfl, hcy, H⟩ := hrel
    by_cases hkl : k = l.length
    · subst hkl
      have HE : Hid (mval o = a - b) := minus_end H.out.2.1 H.out.1 (by have := H.out.2.2.1; rw [mval_take_all hlen, mval_take_all (Nat.le_refl _), HV.out, HVM.out] at this; exact this) Hle.out hcy
      have Hlo := Lib.hid H.out.1
      go_wp2_with fail
      rw [← Hlo.out]
      have hmg := H.out.2.2.2.1.mg
      refine (trim_any A1 c1 o wr H.out.2.1 hmg.1 hmg.2.1 hmg.2.2).mono ?_
      rintro e w3 ⟨rfl, rfl⟩
      go_wp2_with fail
      go_ret
      exact rw_ret H.out.2.2.2.1 H.out.2.1 HE.out H.out.2.2.2.2
    · have hkl' : k < l.length := by omega
      clear hkl
      obtain ⟨x, hx⟩ : ∃ x, l[k]? = some x := some_at l k hkl'
      have hxb : x < 1000000000 := HLS.out.at hx
      obtain ⟨b1, o1, hA, hB, h1⟩ := Hc.out k x hx
      subst hA
      have HX : Hid (l[k]?.getD 0 = x) := by show _ = _; rw [hx]; rfl
      clear hx
      have hd1 : wr.cell? ⟨b1, o1 + k, none⟩ = some (.int .i64 x) := (H.out.2.2.2.2.cell (p := ⟨b1, o1 + k, none⟩) hB).trans h1
      clear h1
      obtain ⟨y, hy⟩ : ∃ y, m[k]?.getD 0 = y := ⟨_, rfl⟩
      have hyb : y < 1000000000 := by rw [← hy]; exact HMS.out.getD k
      have HY := Lib.hid hy
      clear hy
      have HG2 : Hid (∀ wx : World, Below w.heap.size w wx → Calls Tryz.prog 173 #[.slice A' m.length c', .int .i64 (k : Int)] wx fun e w' => e = .returned (.int .i64 (y : Int)) ∧ w' = wx) := fun wx hb => group_r A' c' m.length m k y wx rfl HY.out (Hc'.out.up hb)
      have HBn : Hid (∀ n, Below w.heap.size w (wr.drewN n)) := fun n => H.out.2.2.2.2.trans (below_drewN _ _ _)
      have hi0 : (0 : Int) ≤ (k : Int) := by omega
      have hi1 : (k : Int) < (l.length : Int) := by omega
      have HOWn : Hid (∀ n, (wr.drewN n).ownsRow w.heap.size 3 1 (.slice A1 k c1) k (o.map (gvK .i64))) := by
        intro n
        have := H.out.2.2.2.1
        unfold Ow at this
        rw [H.out.1] at this
        exact this
      have hsz : w.heap.size ≤ wr.heap.size := H.out.2.2.2.2.size
      go_wp2_with fail
      have hw1 : IntKind.i64.wrap ((x : Int) - y) = x - y := IntWalk.i64_in _ (by omega)
      have hw2 : IntKind.i64.wrap ((x : Int) - y - cy) = x - y - cy := IntWalk.i64_in _ (by omega)
      go_quiet (first | (go_at_call 173; exact Calls.quiet_of_same (HG2.out _ (HBn.out _))))
      clear hw1 hw2
      have HOW := Lib.hid (HOWn.out nq)
      have HBW := Lib.hid (HBn.out nq)
      have hsz2 : w.heap.size ≤ (wr.drewN nq).heap.size := hsz
      generalize wr.drewN nq = W1 at *
      clear HOWn HBn
      by_cases hlt : x < y + cy
      · have q : decide ((x : Int) - y - cy < 0) = true := decide_eq_true (by omega)
        have hv : ((x + BB - (y + cy) : Nat) : Int) = (x : Int) - y - cy + 1000000000 := by unfold BB; omega
        have Hv := Lib.hid hv
        clear hv
        obtain ⟨i0, hi, hz0, hz1, hz2⟩ := info_parts infoI
        have Hi := Lib.hid hi
        have Hz0 := Lib.hid hz0
        have Hz1 := Lib.hid hz1
        have Hz2 := Lib.hid hz2
        clear hi hz0 hz1 hz2
        go_wp2_with (at_builtin; refine wpList_append_any _ rfl (.tmp 30) (.tmp 32) 134 rfl w.heap.size 3 i0 (.int .i64 0) 1 8 (by kernel_rfl) Hi.out Hz0.out Hz1.out Hz2.out rfl (by omega) _ k (o.map (gvK .i64)) rfl (HOW.out.alloc _) (W1.heap.size + 1) (some ⟨W1.heap.size, 0, none⟩) 1 1 [.int .i64 ((x : Int) - y - cy + 1000000000)] rfl (reads_one W1 _ _) (fun v hv => by simp at hv; subst hv; rfl) (by unfold maxLen; omega) (by omega) (by simp; omega) ?_; intro v3 w3 hown3 hg3 _; have HO3 := Lib.hid hown3; have HG3 := Lib.hid hg3; clear hown3 hg3)
        obtain ⟨A4, c4, hv4, ho4⟩ := own_snoc (x := (x + BB - (y + cy))) H.out.1 (by have := HO3.out; rw [Hv.out]; exact this)
        subst hv4
        have Ho4 := Lib.hid ho4
        clear ho4
        go_wp2_with fail
        go_roundw
        case rel =>
          refine ⟨k + 1, 1, c4, A4, o ++ [(x + BB - (y + cy))], by omega, by go_num, rfl, rfl, by omega, by simp [H.out.1], H.out.2.1.snoc (by unfold BB; omega), rminus_keep (cy := cy) H.out.1 HX.out HY.out H.out.2.2.1 (by unfold BB; omega), Ho4.out, (HBW.out.alloc hsz2 _).grown HG3.out (by simp; omega) (own_ge HOW.out)⟩
        case measure => simp [intOf]; omega
      · have q : decide ((x : Int) - y - cy < 0) = false := decide_eq_false (by omega)
        have hv : ((x - (y + cy) : Nat) : Int) = (x : Int) - y - cy := by omega
        have Hv := Lib.hid hv
        clear hv
        obtain ⟨i0, hi, hz0, hz1, hz2⟩ := info_parts infoI
        have Hi := Lib.hid hi
        have Hz0 := Lib.hid hz0
        have Hz1 := Lib.hid hz1
        have Hz2 := Lib.hid hz2
        clear hi hz0 hz1 hz2
        go_wp2_with (at_builtin; refine wpList_append_any _ rfl (.tmp 30) (.tmp 32) 134 rfl w.heap.size 3 i0 (.int .i64 0) 1 8 (by kernel_rfl) Hi.out Hz0.out Hz1.out Hz2.out rfl (by omega) _ k (o.map (gvK .i64)) rfl (HOW.out.alloc _) (W1.heap.size + 1) (some ⟨W1.heap.size, 0, none⟩) 1 1 [.int .i64 ((x : Int) - y - cy)] rfl (reads_one W1 _ _) (fun v hv => by simp at hv; subst hv; rfl) (by unfold maxLen; omega) (by omega) (by simp; omega) ?_; intro v3 w3 hown3 hg3 _; have HO3 := Lib.hid hown3; have HG3 := Lib.hid hg3; clear hown3 hg3)
        obtain ⟨A4, c4, hv4, ho4⟩ := own_snoc (x := (x - (y + cy))) H.out.1 (by have := HO3.out; rw [Hv.out]; exact this)
        subst hv4
        have Ho4 := Lib.hid ho4
        clear ho4
        go_wp2_with fail
        go_roundw
        case rel =>
          refine ⟨k + 1, 0, c4, A4, o ++ [(x - (y + cy))], by omega, by go_num, rfl, rfl, by omega, by simp [H.out.1], H.out.2.1.snoc (by unfold BB; omega), rminus_keep (cy := cy) H.out.1 HX.out HY.out H.out.2.2.1 (by unfold BB; omega), Ho4.out, (HBW.out.alloc hsz2 _).grown HG3.out (by simp; omega) (own_ge HOW.out)⟩
        case measure => simp [intOf]; omega
end Go.Proofs.YtpipkeplhkccoaaGreatDoor
namespace Go.Proofs.YtpipkeplhkccoaaGreatDoor
open Go.RowKit Dec

/-- what the rows of the reference's times keep -/
def RTimesIs (w : World) (l m : List Nat) (N i : Nat) (o : List Nat) (wr : World) : Prop :=
  o.length = N ∧ Small o ∧ mval o = mval (l.take i) * mval m ∧ (∀ t, i + m.length ≤ t → t < o.length → o[t]? = some 0) ∧ Ow .i64 3 wr w.heap.size (some ⟨w.heap.size, 0, none⟩) N o ∧ Below w.heap.size w wr
/-- what the rounds of a row keep -/
def RRowIs (w : World) (m O : List Nat) (N i x k cy : Nat) (o : List Nat) (wr : World) : Prop :=
  o.length = N ∧ Small o ∧ mval o + cy * BB ^ (i + k) = mval O + x * mval (m.take k) * BB ^ i ∧ (∀ t, i + k ≤ t → o[t]? = O[t]?) ∧ Ow .i64 3 wr w.heap.size (some ⟨w.heap.size, 0, none⟩) N o ∧ Below w.heap.size w wr
theorem rrow_rel {w wr W : World} {m O o : List Nat} {N i x k cy y z : Nat} (h : RRowIs w m O N i x k cy o wr) (hz : o[i + k]? = some z) (hy : m[k]?.getD 0 = y)
    (hB : Ow .i64 3 W w.heap.size (some ⟨w.heap.size, 0, none⟩) N (o.set (i + k) ((cy + (z + x * y)) % BB))) (hb : Below w.heap.size w W) :
    RRowIs w m O N i x (k + 1) ((cy + (z + x * y)) / BB) (o.set (i + k) ((cy + (z + x * y)) % BB)) W := by
  obtain ⟨h1, h2, h3, h4, h5, h6⟩ := h
  refine ⟨by rw [List.length_set]; exact h1, h2.set _ (Nat.mod_lt _ BB_pos), times_keep hz hy h3, ?_, hB, hb⟩
  intro t ht
  rw [List.getElem?_set_ne (by omega)]
  exact h4 t (by omega)
theorem rtimes_next {w wr : World} {l m O o : List Nat} {N i x k : Nat} (hT : ∃ wo, RTimesIs w l m N i O wo) (hx : l[i]? = some x) (h : RRowIs w m O N i x k 0 o wr) (hk : m.length ≤ k) (hk2 : k ≤ m.length + 1) : RTimesIs w l m N (i + 1) o wr := by
  obtain ⟨wo, t1, t2, t3, t4, t5, t6⟩ := hT
  obtain ⟨h1, h2, h3, h4, h5, h6⟩ := h
  rw [List.take_of_length_le hk] at h3
  refine ⟨h1, h2, ?_, ?_, h5, h6⟩
  · rw [mval_take_succ, hx, Option.getD_some]
    generalize BB ^ i = Q at *
    generalize mval m = M at *
    generalize mval (l.take i) = L at *
    generalize mval O = U at *
    generalize mval o = V at *
    clear h1 h2 h4 h5 h6 t1 t2 t4 t5 t6
    rw [Nat.zero_mul, Nat.add_zero] at h3
    rw [h3, t3, Nat.add_mul]
    grind
  · intro t ht htl
    rw [h4 t (by omega)]
    exact t4 t (by omega) (by omega)
theorem run_makeI (n c : Nat) (hnc : n ≤ c) (hc : c ≤ 1099511627777) (u : World) :
    (Instr.makeSlice 134 (.int .i64 (n : Int)) (.int .i64 (c : Int))).run Tryz.prog u = .ok (.slice (some ⟨u.heap.size, 0, none⟩) n c) (u.alloc (.cells ((List.replicate c 0).map (gvK .i64)).toArray 3)) :=
  run_makeK (by kernel_rfl) infoI n c hnc hc u

set_option maxRecDepth 100000 in
set_option maxHeartbeats 2000000 in
theorem times_r0 (A A' : Option Addr) (c c' : Nat) (l m : List Nat) (n M N a b : Nat) (w : World) (hl : Hid (l.length = n)) (hmm : Hid (m.length = M)) (hN : Hid (n + M = N)) (HV : Hid (mval l = a)) (HVM : Hid (mval m = b)) (HLS : Hid (Small l)) (HMS : Hid (Small m))
    (Hc : Hid (Mg .i64 w w.heap.size A l)) (Hc' : Hid (Mg .i64 w w.heap.size A' m)) (hm : n ≤ 549755813888) (hm' : M ≤ 549755813888) :
    Calls Tryz.prog 138 #[.slice A n c, .slice A' M c'] w (ROw (mag (a * b)) w) := by
  have hNb : N ≤ 1099511627776 := by have := hN.out; omega
  have hmk : ∀ u : World, (Instr.makeSlice 134 (.int .i64 ((n : Int) + M)) (.int .i64 ((n : Int) + M))).run Tryz.prog u = .ok (.slice (some ⟨u.heap.size, 0, none⟩) N N) (u.alloc (.cells ((List.replicate N 0).map (gvK .i64)).toArray 3)) := fun u => by
    have := run_makeI N N (Nat.le_refl _) (by omega) u
    rwa [← hN.out, Int.natCast_add, hN.out] at this
  obtain ⟨z, hz⟩ : ∃ z, z = (List.replicate N 0).map (gvK .i64) := ⟨_, rfl⟩
  rw [← hz] at hmk
  have HS : Hid (RTimesIs w l m N 0 (List.replicate N 0) (w.alloc (.cells z.toArray 3))) := by
    refine ⟨by simp, ?_, by simp [mval_zeros, mval], ?_, ?_, (Below.refl _ _).alloc (Nat.le_refl _) _⟩
    · intro g hg; rw [List.eq_of_mem_replicate hg]; exact BB_pos
    · intro t _ ht; rw [List.getElem?_replicate, if_pos (by simpa using ht)]
    · have := Ow.new w .i64 3 (List.replicate N 0) (by unfold maxLen; simp; omega)
      rw [← hz, List.length_replicate] at this
      exact this
  clear hz
  go_enter Tryz.func138, Tryz.ntmps138
  go_wp2_with fail
  clear hmk
  go_loopw [6] (fun s wr => ∃ (i : Nat) (o : List Nat), i ≤ n ∧ s = .int .i64 (i : Int) ∧ Hid (RTimesIs w l m N i o wr)) (fun s _ => (n - intOf s).toNat)
  case atStart => exact ⟨0, _, by omega, rfl, HS.out⟩
  case round =>
    obtain ⟨i, O, hi, rfl, H⟩ := hrel
    clear HS
    by_cases hil : i = n
    · subst hil
      have HE : Hid (mval O = a * b) := by show _ = _; rw [H.out.2.2.1, List.take_of_length_le (by rw [hl.out]; exact Nat.le_refl _), HV.out, HVM.out]
      have Hlo := Lib.hid H.out.1
      go_wp2_with fail
      rw [← Hlo.out]
      have hmg := H.out.2.2.2.2.1.mg
      refine (trim_any _ _ O wr H.out.2.1 hmg.1 (Nat.le_refl _) (by rw [Hlo.out]; omega)).mono ?_
      rintro e w3 ⟨rfl, rfl⟩
      go_wp2_with fail
      go_ret
      exact rw_ret (by rw [Hlo.out]; exact H.out.2.2.2.2.1) H.out.2.1 HE.out H.out.2.2.2.2.2
    · have hil' : i < n := by omega
      clear hil
      obtain ⟨x, hx⟩ : ∃ x, l[i]? = some x := some_at l i (by rw [hl.out]; exact hil')
      have hxb : x < 1000000000 := HLS.out.at hx
      obtain ⟨b1, o1, hA, hB, h1⟩ := Hc.out i x hx
      subst hA
      have HX := Lib.hid hx
      clear hx
      have Hd1 := Lib.hid h1
      clear h1
      have hiN : i + M < N := by have := hN.out; omega
      go_wp2_with fail
      obtain ⟨wo, rfl⟩ : ∃ wo : World, wo = wr := ⟨_, rfl⟩
      go_loopw [8, 7] (fun s t wr => ∃ (k cy : Nat) (o : List Nat), k ≤ M + 1 ∧ s = .int .i64 (k : Int) ∧ t = .int .i64 (cy : Int) ∧ cy < 1000000000 ∧ (k = M + 1 → cy = 0) ∧ Hid (RRowIs w m O N i x k cy o wr)) (fun s _ _ => (M + 2 - intOf s).toNat)
      case atStart => exact ⟨0, 0, O, by omega, rfl, rfl, by omega, fun _ => rfl, H.out.1, H.out.2.1, by simp [mval], fun _ _ => rfl, H.out.2.2.2.2.1, H.out.2.2.2.2.2⟩
      case round =>
        obtain ⟨k, cy, o, hk, rfl, rfl, hcy, hcz, R⟩ := hrel
        have Hcz := Lib.hid hcz
        clear hcz
        by_cases hkm : k < M
        · have q1 : decide ((k : Int) < (M : Int)) = true := decide_eq_true (by omega)
          have hd1 : wr.cell? ⟨b1, o1 + i, none⟩ = some (.int .i64 x) := (R.out.2.2.2.2.2.cell (p := ⟨b1, o1 + i, none⟩) hB).trans Hd1.out
          obtain ⟨y, hy⟩ : ∃ y, m[k]?.getD 0 = y := ⟨_, rfl⟩
          have hyb : y < 1000000000 := by rw [← hy]; exact HMS.out.getD k
          have HY := Lib.hid hy
          clear hy
          obtain ⟨z, hz⟩ := some_at o (i + k) (by rw [R.out.1]; omega)
          have hzb : z < 1000000000 := R.out.2.1.at hz
          obtain ⟨g, hA3, hg, hg2, hcell, hfz⟩ := R.out.2.2.2.2.1.at hz
          obtain rfl : g = w.heap.size := by injection hA3 with e; injection e with e; exact e.symm
          have HZ := Lib.hid hz
          clear hz hA3
          have hp := (times_bound hcy hzb hxb hyb).1
          have hp1 : (x : Int) * y ≤ 999999998000000001 := by have := Int.ofNat_le.2 hp; rwa [Int.natCast_mul] at this
          have hp0 : (0 : Int) ≤ (x : Int) * y := Int.mul_nonneg (by omega) (by omega)
          clear hp
          have HG2 : Hid (∀ wx : World, Below w.heap.size w wx → Calls Tryz.prog 173 #[.slice A' M c', .int .i64 (k : Int)] wx fun e w' => e = .returned (.int .i64 (y : Int)) ∧ w' = wx) := fun wx hb => group_r A' c' M m k y wx hmm.out HY.out (Hc'.out.up hb)
          have HBn : Hid (∀ n, Below w.heap.size w (wr.drewN n)) := fun n => R.out.2.2.2.2.2.trans (below_drewN _ _ _)
          have HOn : Hid (∀ n, Ow .i64 3 (wr.drewN n) w.heap.size (some ⟨w.heap.size, 0, none⟩) N o) := fun n => R.out.2.2.2.2.1
          have i0 : (0 : Int) ≤ (i : Int) := by omega
          have i1 : (i : Int) < (n : Int) := by omega
          have i2 : (0 : Int) ≤ (i : Int) + k := by omega
          have i3 : (i : Int) + k < (N : Int) := by omega
          go_wp2_with fail
          have hw0 : IntKind.i64.wrap ((i : Int) + k) = i + k := IntWalk.i64_in _ (by omega)
          have hw1 : IntKind.i64.wrap ((x : Int) * y) = x * y := IntWalk.i64_in _ (by omega)
          have hw2 : IntKind.i64.wrap ((z : Int) + x * y) = z + x * y := IntWalk.i64_in _ (by omega)
          have hw3 : IntKind.i64.wrap ((z : Int) + x * y + cy) = z + x * y + cy := IntWalk.i64_in _ (by omega)
          have hw4 : ((i : Int) + k).toNat = i + k := by omega
          go_quiet (first | (go_at_call 173; exact Calls.quiet_of_same (HG2.out _ (HBn.out _))))
          clear hw0 hw1 hw2 hw3 hw4
          have HBW := Lib.hid (HBn.out nq)
          have HOW := Lib.hid (HOn.out nq)
          have hc2 : (wr.drewN nq).cell? ⟨w.heap.size, i + k, none⟩ = some (.int .i64 z) := hcell
          have hf2 : (wr.drewN nq).frozen? ⟨w.heap.size, i + k, none⟩ = false := hfz
          generalize wr.drewN nq = W1 at *
          clear HBn HOn hcell hfz hd1 HG2
          go_wp2_with fail
          go_roundw
          case rel =>
            refine ⟨k + 1, (cy + (z + x * y)) / BB, o.set (i + k) ((cy + (z + x * y)) % BB), by omega, by go_num, ?_, (times_bound hcy hzb hxb hyb).2, ?_, rrow_rel R.out HZ.out HY.out ?_ (HBW.out.setCell (Nat.le_refl _) _)⟩
            · have e : (z : Int) + x * y + cy = ((cy + (z + x * y) : Nat) : Int) := by rw [Int.natCast_add, Int.natCast_add, Int.natCast_mul]; omega
              rw [e]
              rfl
            · intro h; omega
            · have e : (z : Int) + x * y + cy = ((cy + (z + x * y) : Nat) : Int) := by rw [Int.natCast_add, Int.natCast_add, Int.natCast_mul]; omega
              have := HOW.out.set (i + k) ((cy + (z + x * y)) % BB)
              rw [e]
              exact this
          case measure => simp [intOf]; omega
        · have q1 : decide ((k : Int) < (M : Int)) = false := decide_eq_false (by omega)
          by_cases hc0 : cy = 0
          · subst hc0
            go_wp2_with fail
            go_roundw
            case rel => exact ⟨i + 1, o, by omega, by go_num, rtimes_next ⟨_, H.out⟩ HX.out R.out (by rw [hmm.out]; omega) (by rw [hmm.out]; omega)⟩
            case measure => simp [intOf]; omega
          · have q2 : decide (0 < cy) = true := decide_eq_true (by omega)
            obtain rfl : k = M := by
              rcases Nat.lt_or_ge M k with h | h
              · exact absurd (Hcz.out (by omega)) hc0
              · omega
            have HZ0 : Hid (o[i + k]? = some 0) := by
              show _ = _
              rw [R.out.2.2.2.1 _ (Nat.le_refl _)]
              exact H.out.2.2.2.1 _ (by rw [hmm.out]; exact Nat.le_refl _) (by rw [H.out.1]; omega)
            have HY0 : Hid (m[k]?.getD 0 = 0) := by show _ = _; rw [List.getElem?_eq_none (by rw [hmm.out]; exact Nat.le_refl _)]; rfl
            clear hc0
            have hd1 : wr.cell? ⟨b1, o1 + i, none⟩ = some (.int .i64 x) := (R.out.2.2.2.2.2.cell (p := ⟨b1, o1 + i, none⟩) hB).trans Hd1.out
            obtain ⟨y, hy⟩ : ∃ y, m[k]?.getD 0 = y := ⟨_, rfl⟩
            have hyb : y < 1000000000 := by rw [← hy]; exact HMS.out.getD k
            have HY := Lib.hid hy
            clear hy
            obtain ⟨z, hz⟩ := some_at o (i + k) (by rw [R.out.1]; omega)
            have hzb : z < 1000000000 := R.out.2.1.at hz
            obtain ⟨g, hA3, hg, hg2, hcell, hfz⟩ := R.out.2.2.2.2.1.at hz
            obtain rfl : g = w.heap.size := by injection hA3 with e; injection e with e; exact e.symm
            have HZ := Lib.hid hz
            clear hz hA3
            have hp := (times_bound hcy hzb hxb hyb).1
            have hp1 : (x : Int) * y ≤ 999999998000000001 := by have := Int.ofNat_le.2 hp; rwa [Int.natCast_mul] at this
            have hp0 : (0 : Int) ≤ (x : Int) * y := Int.mul_nonneg (by omega) (by omega)
            clear hp
            have HG2 : Hid (∀ wx : World, Below w.heap.size w wx → Calls Tryz.prog 173 #[.slice A' k c', .int .i64 (k : Int)] wx fun e w' => e = .returned (.int .i64 (y : Int)) ∧ w' = wx) := fun wx hb => group_r A' c' k m k y wx hmm.out HY.out (Hc'.out.up hb)
            have HBn : Hid (∀ n, Below w.heap.size w (wr.drewN n)) := fun n => R.out.2.2.2.2.2.trans (below_drewN _ _ _)
            have HOn : Hid (∀ n, Ow .i64 3 (wr.drewN n) w.heap.size (some ⟨w.heap.size, 0, none⟩) N o) := fun n => R.out.2.2.2.2.1
            have i0 : (0 : Int) ≤ (i : Int) := by omega
            have i1 : (i : Int) < (n : Int) := by omega
            have i2 : (0 : Int) ≤ (i : Int) + k := by omega
            have i3 : (i : Int) + k < (N : Int) := by omega
            go_wp2_with fail
            have hw0 : IntKind.i64.wrap ((i : Int) + k) = i + k := IntWalk.i64_in _ (by omega)
            have hw1 : IntKind.i64.wrap ((x : Int) * y) = x * y := IntWalk.i64_in _ (by omega)
            have hw2 : IntKind.i64.wrap ((z : Int) + x * y) = z + x * y := IntWalk.i64_in _ (by omega)
            have hw3 : IntKind.i64.wrap ((z : Int) + x * y + cy) = z + x * y + cy := IntWalk.i64_in _ (by omega)
            have hw4 : ((i : Int) + k).toNat = i + k := by omega
            go_quiet (first | (go_at_call 173; exact Calls.quiet_of_same (HG2.out _ (HBn.out _))))
            clear hw0 hw1 hw2 hw3 hw4
            have HBW := Lib.hid (HBn.out nq)
            have HOW := Lib.hid (HOn.out nq)
            have hc2 : (wr.drewN nq).cell? ⟨w.heap.size, i + k, none⟩ = some (.int .i64 z) := hcell
            have hf2 : (wr.drewN nq).frozen? ⟨w.heap.size, i + k, none⟩ = false := hfz
            generalize wr.drewN nq = W1 at *
            clear HBn HOn hcell hfz hd1 HG2
            go_wp2_with fail
            go_roundw
            case rel =>
              refine ⟨k + 1, (cy + (z + x * y)) / BB, o.set (i + k) ((cy + (z + x * y)) % BB), by omega, by go_num, ?_, (times_bound hcy hzb hxb hyb).2, ?_, rrow_rel R.out HZ.out HY.out ?_ (HBW.out.setCell (Nat.le_refl _) _)⟩
              · have e : (z : Int) + x * y + cy = ((cy + (z + x * y) : Nat) : Int) := by rw [Int.natCast_add, Int.natCast_add, Int.natCast_mul]; omega
                rw [e]
                rfl
              · intro _
                have e1 : z = 0 := by have := HZ.out; rw [HZ0.out] at this; exact (Option.some.inj this).symm
                have e2 : y = 0 := by rw [← HY.out, HY0.out]
                rw [e1, e2, Nat.mul_zero]
                unfold BB
                omega
              · have e : (z : Int) + x * y + cy = ((cy + (z + x * y) : Nat) : Int) := by rw [Int.natCast_add, Int.natCast_add, Int.natCast_mul]; omega
                have := HOW.out.set (i + k) ((cy + (z + x * y)) % BB)
                rw [e]
                exact this
            case measure => simp [intOf]; omega
theorem times_r (A A' : Option Addr) (c c' : Nat) (a b : Nat) (w : World) (hc : Mg .i64 w w.heap.size A (mag a)) (hc' : Mg .i64 w w.heap.size A' (mag b)) (hm : (mag a).length ≤ 549755813888) (hm' : (mag b).length ≤ 549755813888) :
    Calls Tryz.prog 138 #[.slice A (mag a).length c, .slice A' (mag b).length c'] w (ROw (mag (a * b)) w) :=
  times_r0 A A' c c' (mag a) (mag b) _ _ _ a b w (Lib.hid rfl) (Lib.hid rfl) (Lib.hid rfl) (Lib.hid (mval_mag a)) (Lib.hid (mval_mag b)) (Lib.hid (mag_small a)) (Lib.hid (mag_small b)) (Lib.hid hc) (Lib.hid hc') hm hm'
end Go.Proofs.YtpipkeplhkccoaaGreatDoor
namespace Go.Proofs.YtpipkeplhkccoaaGreatDoor
open Go.RowKit Dec

theorem Ow.under {K : IntKind} {T : TypeId} {w : World} {base c g i : Nat} {A : Option Addr} {v : Value} {l : List Nat} (ho : Ow K T w base A c l) (hg : g < base) : Ow K T (w.setCell ⟨g, i, none⟩ v) base A c l := by
  refine ⟨ho.1, ?_⟩
  rcases ho.2 with h0 | ⟨g', cap, cur, hv, hb, hh, r⟩
  · exact .inl h0
  · exact .inr ⟨g', cap, cur, hv, hb, (Below.heap_setCell w ⟨g, i, none⟩ v g' (by show g' ≠ g; omega)).trans hh, r⟩
/-- what the rounds of the reference's divide keep -/
def DvIs (w : World) (l : List Nat) (n b i r : Nat) (o : List Nat) (A2 : Option Addr) (c2 : Nat) (wr : World) : Prop :=
  o.length = n ∧ Small o ∧ mval o * b + r * BB ^ i + mval (l.take i) = mval l ∧ r < b ∧ (∀ t, t < i → o[t]? = some 0) ∧ Ow .i64 3 wr w.heap.size (some ⟨w.heap.size, 0, none⟩) n o ∧ Ow .i64 3 wr (w.heap.size + 1) A2 c2 (mag r) ∧ Below w.heap.size w wr
/-- what the halving keeps -/
def DiIs (w : World) (n r : Nat) (o : List Nat) (A2 : Option Addr) (c2 : Nat) (wr : World) : Prop :=
  Ow .i64 3 wr w.heap.size (some ⟨w.heap.size, 0, none⟩) n o ∧ Ow .i64 3 wr (w.heap.size + 1) A2 c2 (mag r) ∧ Below w.heap.size w wr ∧ w.heap.size + 1 ≤ wr.heap.size
theorem DiIs.below {w wr wr' : World} {n r : Nat} {o : List Nat} {A2 : Option Addr} {c2 : Nat} (h : DiIs w n r o A2 c2 wr) (hb : Below wr.heap.size wr wr') : DiIs w n r o A2 c2 wr' :=
  ⟨h.1.below hb, h.2.1.below hb, h.2.2.1.trans (hb.mono h.2.2.1.size), Nat.le_trans h.2.2.2 hb.size⟩
/-- what divide hands back -/
def DvRet (a b : Nat) (w : World) (e : Ending) (w' : World) : Prop :=
  ∃ A1 c1 A2 c2, e = .returned (.tuple #[.slice A1 (mag (a / b)).length c1, .slice A2 (mag (a % b)).length c2]) ∧ Mg .i64 w' w'.heap.size A1 (mag (a / b)) ∧ Mg .i64 w' w'.heap.size A2 (mag (a % b)) ∧ Below w.heap.size w w'
theorem mag_single {d : Nat} (h0 : 0 < d) (h : d < BB) : mag d = [d] := by rw [mag_pos (by omega), Nat.mod_eq_of_lt h, Nat.div_eq_of_lt h, mag_zero]
theorem mag_len_mul {b d M : Nat} (hM : (mag b).length = M) (hd : d < BB) : (mag (b * d)).length ≤ M + 1 := by
  rw [mag_len_lt, Nat.pow_succ]
  have h1 : b < BB ^ M := mag_len_lt.1 (by omega)
  exact Nat.mul_lt_mul_of_lt_of_le h1 (Nat.le_of_lt hd) BB_pos
theorem mg_new1 (w : World) (d : Nat) : Mg .i64 (w.alloc (.cells #[.int .i64 (d : Int)] 3)) (w.alloc (.cells #[.int .i64 (d : Int)] 3)).heap.size (some ⟨w.heap.size, 0, none⟩) [d] :=
  (Ow.new w .i64 3 [d] (by unfold maxLen; simp)).mg.1
/-- the product with one group, whose slice has just been made -/
theorem times_one (A : Option Addr) (c b d M : Nat) (w : World) (hM : (mag b).length = M) (hc : Mg .i64 w w.heap.size A (mag b)) (hm : M ≤ 274877906944) (h0 : 0 < d) (hd : d < BB) :
    Calls Tryz.prog 138 #[.slice A M c, .slice (some ⟨w.heap.size, 0, none⟩) 1 1] (w.alloc (.cells #[.int .i64 (d : Int)] 3)) (ROw (mag (b * d)) (w.alloc (.cells #[.int .i64 (d : Int)] 3))) := by
  have h1 := times_r A (some ⟨w.heap.size, 0, none⟩) c 1 b d (w.alloc (.cells #[.int .i64 (d : Int)] 3)) (hc.up ((Below.refl _ _).alloc (Nat.le_refl _) _)) (by rw [mag_single h0 hd]; exact mg_new1 w d) (by omega) (by rw [mag_single h0 hd]; simp)
  rw [mag_single h0 hd, hM] at h1
  exact h1

set_option maxRecDepth 100000 in
set_option maxHeartbeats 4000000 in
theorem divide_r0 (A A' : Option Addr) (c c' : Nat) (l : List Nat) (n M a b : Nat) (w : World) (hl : Hid (l.length = n)) (hM : Hid ((mag b).length = M)) (HV : Hid (mval l = a)) (HLS : Hid (Small l))
    (Hc : Hid (Mg .i64 w w.heap.size A l)) (Hc' : Hid (Mg .i64 w w.heap.size A' (mag b))) (hm : n ≤ 274877906944) (hm' : M ≤ 274877906944) (hb0 : 0 < b) :
    Calls Tryz.prog 167 #[.slice A n c, .slice A' M c'] w (DvRet a b w) := by
  have hmk : ∀ u : World, (Instr.makeSlice 134 (.int .i64 (n : Int)) (.int .i64 (n : Int))).run Tryz.prog u = .ok (.slice (some ⟨u.heap.size, 0, none⟩) n n) (u.alloc (.cells ((List.replicate n 0).map (gvK .i64)).toArray 3)) := fun u => run_makeI n n (Nat.le_refl _) (by omega) u
  obtain ⟨z, hz⟩ : ∃ z, z = (List.replicate n 0).map (gvK .i64) := ⟨_, rfl⟩
  rw [← hz] at hmk
  have HS : Hid (DvIs w l n b n 0 (List.replicate n 0) (some ⟨w.heap.size + 1, 0, none⟩) 0 ((w.alloc (.cells z.toArray 3)).alloc (.cells #[] 3))) := by
    refine ⟨by simp, ?_, ?_, hb0, ?_, ?_, ?_, ?_⟩
    · intro g hg; rw [List.eq_of_mem_replicate hg]; exact BB_pos
    · rw [mval_zeros, List.take_of_length_le (by rw [hl.out]; exact Nat.le_refl _)]; simp
    · intro t ht; rw [List.getElem?_replicate, if_pos ht]
    · have := Ow.new w .i64 3 (List.replicate n 0) (by unfold maxLen; simp; omega)
      rw [← hz, List.length_replicate] at this
      exact this.alloc _
    · have := Ow.new (w.alloc (.cells z.toArray 3)) .i64 3 [] (by simp)
      rw [World.size_alloc] at this
      exact this
    · exact ((Below.refl _ _).alloc (Nat.le_refl _) _).alloc (by rw [World.size_alloc]; omega) _
  clear hz
  go_enter Tryz.func167, Tryz.ntmps167
  go_wp2_with fail
  clear hmk
  go_loopw [8, 7] (fun s t wr => ∃ (i r c2 : Nat) (o : List Nat) (A2 : Option Addr), i ≤ n ∧ s = .int .i64 ((i : Int) - 1) ∧ t = .slice A2 (mag r).length c2 ∧ Hid (DvIs w l n b i r o A2 c2 wr)) (fun s _ _ => (intOf s + 1).toNat)
  case atStart => exact ⟨n, 0, 0, _, _, by omega, rfl, rfl, HS.out⟩
  case round =>
    obtain ⟨i, r, c2, o, A2, hi, rfl, rfl, H⟩ := hrel
    clear HS
    by_cases hi0 : i = 0
    · subst hi0
      have HE : Hid (mval o = a / b ∧ r = a % b) := by
        have := H.out.2.2.1
        rw [HV.out] at this
        exact single_end H.out.2.2.2.1 (by simpa [mval] using this)
      have Hlo := Lib.hid H.out.1
      go_wp2_with fail
      rw [← Hlo.out]
      have hmg := H.out.2.2.2.2.2.1.mg
      refine (trim_any _ _ o wr H.out.2.1 hmg.1 (Nat.le_refl _) (by rw [Hlo.out]; omega)).mono ?_
      rintro e w3 ⟨rfl, rfl⟩
      go_wp2_with fail
      go_ret2
      obtain ⟨k, hk, e⟩ := cut_pre o H.out.2.1
      have e1 : cutL o = mag (a / b) := by unfold cutL; rw [HE.out.1]
      refine ⟨_, _, _, _, ret_two (val_slice (by rw [e1])) (val_slice (by rw [HE.out.2])), ?_, ?_, H.out.2.2.2.2.2.2.2⟩
      · rw [← e1, e]; exact hmg.1.take k
      · have := H.out.2.2.2.2.2.2.1.mg.1
        rw [HE.out.2] at this
        exact this
    · obtain ⟨i, rfl⟩ : ∃ j, i = j + 1 := ⟨i - 1, by omega⟩
      clear hi0
      obtain ⟨x, hx⟩ : ∃ x, l[i]? = some x := some_at l i (by rw [hl.out]; omega)
      have hxb : x < 1000000000 := HLS.out.at hx
      obtain ⟨b1, o1, hA, hB, h1⟩ := Hc.out i x hx
      subst hA
      have HX := Lib.hid hx
      clear hx
      have hd1 : wr.cell? ⟨b1, o1 + i, none⟩ = some (.int .i64 x) := (H.out.2.2.2.2.2.2.2.cell (p := ⟨b1, o1 + i, none⟩) hB).trans h1
      clear h1
      have hsz : w.heap.size + 1 ≤ wr.heap.size := by
        rcases H.out.2.2.2.2.2.1.2 with ⟨h0, _⟩ | ⟨g, cap, cur, hv, hb, hh, _⟩
        · cases h0
        · injection hv with e1; injection e1 with e1; injection e1 with e1; subst e1; exact (Array.getElem?_eq_some_iff.1 hh).1
      have HR := Lib.hid (H.out.2.2.2.2.2.2.1.mg.1.reads.alloc (Nat.le_refl _) (.cells #[.int .i64 (x : Int)] 3))
      have HN := Lib.hid (Ow.new wr .i64 3 [x] (by unfold maxLen; simp))
      have hrl : (mag r).length ≤ M := by rw [← hM.out]; exact mag_len_lt.2 (Nat.lt_of_lt_of_le H.out.2.2.2.1 (Nat.le_of_lt (mag_len_lt.1 (Nat.le_refl _))))
      obtain ⟨i0, hi', hz0, hz1, hz2⟩ := info_parts infoI
      have Hi := Lib.hid hi'
      have Hz0 := Lib.hid hz0
      have Hz1 := Lib.hid hz1
      have Hz2 := Lib.hid hz2
      clear hi' hz0 hz1 hz2
      obtain ⟨R, hR⟩ : ∃ R, (mag r).length = R := ⟨_, rfl⟩
      rw [hR] at HR hrl ⊢
      go_wp2_with (at_builtin; refine wpList_append_any _ rfl (.tmp 27) (.tmp 28) 134 rfl wr.heap.size 3 i0 (.int .i64 0) 1 8 (by kernel_rfl) Hi.out Hz0.out Hz1.out Hz2.out rfl (by omega) (.slice (some ⟨wr.heap.size, 0, none⟩) 1 1) 1 [.int .i64 (x : Int)] rfl HN.out wr.heap.size A2 R c2 ((mag r).map (gvK .i64)) rfl HR.out (gvK_one (mag r)) (by unfold maxLen; omega) (by omega) (by simp) ?_; intro v3 w3 hown3 hg3 _; have HO3 := Lib.hid hown3; have HG3 := Lib.hid hg3; clear hown3 hg3)
      obtain ⟨A3, c3, hv3, ho3⟩ := own_ow' (K := .i64) (l := x :: mag r) (n := 1 + R) (by have := HO3.out; exact this) (by rw [List.length_cons, hR]; omega)
      subst hv3
      have hsl : Small (x :: mag r) := by
        intro g hg
        rcases List.mem_cons.1 hg with rfl | hg
        · exact hxb
        · exact mag_small r g hg
      have hmg3 := ho3.mg
      have hlen3 : (x :: mag r).length = 1 + R := by rw [List.length_cons, hR]; omega
      rw [← hlen3]
      have HI3 : Hid (DiIs w n r o A2 c2 w3) := by
        have hb3 : Below wr.heap.size wr w3 := ((Below.refl _ _).alloc (Nat.le_refl _) _).grown HG3.out (by simp) (fun k hk => by simp [Value.ownBlock] at hk; omega)
        exact DiIs.below ⟨H.out.2.2.2.2.2.1, H.out.2.2.2.2.2.2.1, H.out.2.2.2.2.2.2.2, hsz⟩ hb3
      refine (trim_any A3 c3 (x :: mag r) w3 hsl hmg3.1 hmg3.2.1 hmg3.2.2).mono ?_
      rintro e w4 ⟨rfl, rfl⟩
      obtain ⟨r2, hr2⟩ : ∃ r2, r * BB + x = r2 := ⟨_, rfl⟩
      have ec : cutL (x :: mag r) = mag r2 := by unfold cutL; rw [← hr2]; simp only [mval, mval_mag]; congr 1; rw [Nat.mul_comm]; omega
      have HI : Hid (DiIs w n r2 o A3 c3 w3) := by
        obtain ⟨k, hk, e⟩ := cut_pre (x :: mag r) hsl
        refine ⟨HI3.out.1, ?_, HI3.out.2.2⟩
        rw [← ec, e]
        exact (ho3.take hk).low hsz
      have hr2b : r2 < BB * b := by
        have h1 : (r + 1) * BB ≤ b * BB := Nat.mul_le_mul_right _ H.out.2.2.2.1
        rw [Nat.add_mul, Nat.one_mul] at h1
        rw [Nat.mul_comm BB b, ← hr2]
        have : x < BB := hxb
        omega
      rw [ec]
      clear HI3 HO3 HG3 HR HN hmg3 hlen3 ec hsl ho3 hd1
      have HR2 := Lib.hid hr2
      have HR2b := Lib.hid hr2b
      clear hr2 hr2b
      go_wp2_with fail
      go_loopw [9, 10] (fun s t wx => ∃ (lo hi : Nat), lo ≤ hi ∧ hi ≤ 999999999 ∧ s = .int .i64 (lo : Int) ∧ t = .int .i64 (hi : Int) ∧ Hid (lo * b ≤ r2 ∧ r2 < (hi + 1) * b) ∧ Hid (DiIs w n r2 o A3 c3 wx)) (fun s t _ => (intOf t - intOf s).toNat)
      case atStart => exact ⟨0, 999999999, by omega, by omega, rfl, rfl, ⟨by omega, HR2b.out⟩, HI.out⟩
      case round =>
        obtain ⟨lo, hi2, hlh, hhb, rfl, rfl, HB2, HI2⟩ := hrel
        clear HI
        by_cases hend : lo = hi2
        · subst hend
          have HQ : Hid (lo = (r * BB + x) / b ∧ r2 - b * lo = (r * BB + x) % b) := by
            show _ ∧ _
            rw [HR2.out]
            have h1 := HB2.out.1
            have h2 := HB2.out.2
            rw [Nat.add_mul, Nat.one_mul] at h2
            have e : r2 = (r2 - b * lo) + b * lo := by rw [Nat.mul_comm lo b] at h1; omega
            have h3 : r2 - b * lo < b := by rw [Nat.mul_comm lo b] at h1 h2; omega
            constructor
            · rw [e, Nat.add_mul_div_left _ _ hb0, Nat.div_eq_of_lt h3]; omega
            · conv => rhs; rw [e, Nat.add_mul_mod_self_left, Nat.mod_eq_of_lt h3]
          have hz0 : o[i]? = some 0 := H.out.2.2.2.2.1 i (by omega)
          have HZ0 := Lib.hid hz0
          obtain ⟨g, hA3, hg, hg2, hcell, hfz⟩ := HI2.out.1.at hz0
          obtain rfl : g = w.heap.size := by injection hA3 with e; injection e with e; exact e.symm
          clear hz0 hA3
          have HI5 : Hid (DiIs w n r2 (o.set i lo) A3 c3 (wr.setCell ⟨w.heap.size, i, none⟩ (.int .i64 (lo : Int)))) :=
            ⟨HI2.out.1.set i lo, HI2.out.2.1.under (by omega), HI2.out.2.2.1.setCell (Nat.le_refl _) _, Nat.le_trans HI2.out.2.2.2 ((Below.refl 0 wr).setCell (Nat.zero_le _) _).size⟩
          by_cases hlo : lo = 0
          · have hl0 : decide (0 < lo) = false := decide_eq_false (by omega)
            have HLO := Lib.hid hlo
            clear hlo
            go_wp2_with fail
            go_roundw
            case rel =>
              have e0 : r2 = r2 - b * lo := by rw [HLO.out]; omega
              refine ⟨i, r2, c3, o.set i lo, A3, by omega, rfl, rfl, by rw [List.length_set]; exact H.out.1, H.out.2.1.set _ (by unfold BB; omega), ?_, ?_, ?_, HI5.out.1, HI5.out.2.1, HI5.out.2.2.1⟩
              · have := single_keep HX.out HZ0.out H.out.2.2.1
                rw [← HQ.out.1, ← HQ.out.2, ← e0] at this
                exact this
              · rw [e0, HQ.out.2]; exact Nat.mod_lt _ hb0
              · intro t ht; rw [List.getElem?_set_ne (by omega)]; exact H.out.2.2.2.2.1 t (by omega)
            case measure => simp [intOf]
          · have hl0 : decide (0 < lo) = true := decide_eq_true (by omega)
            have HT : Hid (∀ W : World, Below w.heap.size w W → Calls Tryz.prog 138 #[.slice A' M c', .slice (some ⟨W.heap.size, 0, none⟩) 1 1] (W.alloc (.cells #[.int .i64 (lo : Int)] 3)) (ROw (mag (b * lo)) (W.alloc (.cells #[.int .i64 (lo : Int)] 3)))) :=
              fun W hb => times_one A' c' b lo M W hM.out (Hc'.out.up hb) hm' (by omega) (by unfold BB; omega)
            go_wp2_with fail
            have hs5 : (wr.setCell ⟨w.heap.size, i, none⟩ (.int .i64 (lo : Int))).heap.size = wr.heap.size := by simp
            generalize wr.setCell ⟨w.heap.size, i, none⟩ (.int .i64 (lo : Int)) = W5 at *
            rw [← hs5]
            refine (HT.out _ HI5.out.2.2.1).mono ?_
            rintro e w6 ⟨A6, c6, rfl, ho6, hb6⟩
            have HO6 := Lib.hid ho6
            have HI6 : Hid (DiIs w n r2 (o.set i lo) A3 c3 w6) := HI5.out.below (((Below.refl _ _).alloc (Nat.le_refl _) _).trans (hb6.mono (by rw [World.size_alloc]; omega)))
            clear ho6 hb6
            go_wp2_with fail
            refine (minus_r A3 A6 c3 c6 r2 (b * lo) w6 HI6.out.2.1.mg.1 HO6.out.mg.1 ?_ ?_).mono ?_
            · have := mag_len_mul hM.out (show BB - 1 < BB by decide)
              have h9 : (mag r2).length ≤ M + 1 := by
                rw [mag_len_lt, Nat.pow_succ, Nat.mul_comm (BB ^ M) BB]
                exact Nat.lt_of_lt_of_le HR2b.out (Nat.mul_le_mul_left _ (Nat.le_of_lt (mag_len_lt.1 (by rw [hM.out]; exact Nat.le_refl _))))
              omega
            · have := HB2.out.1; rw [Nat.mul_comm] at this; exact this
            rintro e w7 ⟨A7, c7, rfl, ho7, hb7⟩
            have HO7 := Lib.hid ho7
            have HI7 : Hid (DiIs w n r2 (o.set i lo) A3 c3 w7) := HI6.out.below hb7
            clear ho7 hb7
            have hs6 := HI6.out.2.2.2
            go_wp2_with fail
            go_roundw
            case rel =>
              refine ⟨i, r2 - b * lo, c7, o.set i lo, A7, by omega, rfl, rfl, by rw [List.length_set]; exact H.out.1, H.out.2.1.set _ (by unfold BB; omega), ?_, ?_, ?_, HI7.out.1, HO7.out.low (by omega), HI7.out.2.2.1⟩
              · have := single_keep HX.out HZ0.out H.out.2.2.1
                rw [← HQ.out.1, ← HQ.out.2] at this
                exact this
              · rw [HQ.out.2]; exact Nat.mod_lt _ hb0
              · intro t ht; rw [List.getElem?_set_ne (by omega)]; exact H.out.2.2.2.2.1 t (by omega)
            case measure => simp [intOf]
        · have hlt : lo < hi2 := by omega
          have q1 : decide ((lo : Int) < (hi2 : Int)) = true := decide_eq_true (by omega)
          obtain ⟨mid, hmid⟩ : ∃ mid, (lo + hi2 + 1) / 2 = mid := ⟨_, rfl⟩
          have hmi : ((lo : Int) + hi2 + 1) / 2 = (mid : Int) := by omega
          have hm1 : lo < mid := by omega
          have hm2 : mid ≤ hi2 := by omega
          clear hmid hend
          have HT : Hid (∀ W : World, Below w.heap.size w W → Calls Tryz.prog 138 #[.slice A' M c', .slice (some ⟨W.heap.size, 0, none⟩) 1 1] (W.alloc (.cells #[.int .i64 (mid : Int)] 3)) (ROw (mag (b * mid)) (W.alloc (.cells #[.int .i64 (mid : Int)] 3)))) :=
            fun W hb => times_one A' c' b mid M W hM.out (Hc'.out.up hb) hm' (by omega) (by unfold BB; omega)
          go_wp2_with fail
          rw [hmi]
          refine (HT.out _ HI2.out.2.2.1).mono ?_
          rintro e w6 ⟨A6, c6, rfl, ho6, hb6⟩
          have HO6 := Lib.hid ho6
          have HI6 : Hid (DiIs w n r2 o A3 c3 w6) := HI2.out.below (((Below.refl _ _).alloc (Nat.le_refl _) _).trans (hb6.mono (by rw [World.size_alloc]; omega)))
          clear ho6 hb6
          have hlb : (mag (b * mid)).length ≤ M + 1 := mag_len_mul hM.out (by unfold BB; omega)
          have hlr : (mag r2).length ≤ M + 1 := by
            rw [mag_len_lt, Nat.pow_succ, Nat.mul_comm (BB ^ M) BB]
            exact Nat.lt_of_lt_of_le HR2b.out (Nat.mul_le_mul_left _ (Nat.le_of_lt (mag_len_lt.1 (by rw [hM.out]; exact Nat.le_refl _))))
          go_wp2_with fail
          refine (order_r A6 A3 c6 c3 (b * mid) r2 w6 HO6.out.mg.1 HI6.out.2.1.mg.1 (by omega) (by omega)).mono ?_
          rintro e w7 ⟨rfl, nn, rfl⟩
          have HI7 : Hid (DiIs w n r2 o A3 c3 (w6.drewN nn)) := HI6.out.below (below_drewN _ _ _)
          clear hlb hlr
          by_cases hle : b * mid ≤ r2
          · have q2 : decide (cmpN (b * mid) r2 ≤ 0) = true := decide_eq_true (by unfold cmpN; split <;> (try split) <;> omega)
            generalize cmpN (b * mid) r2 = cm at *
            go_wp2_with fail
            go_roundw
            case rel => exact ⟨mid, hi2, hm2, hhb, rfl, rfl, ⟨by rw [Nat.mul_comm]; exact hle, HB2.out.2⟩, HI7.out⟩
            case measure => simp [intOf]; omega
          · have q2 : decide (cmpN (b * mid) r2 ≤ 0) = false := decide_eq_false (by unfold cmpN; split <;> (try split) <;> omega)
            generalize cmpN (b * mid) r2 = cm at *
            go_wp2_with fail
            go_roundw
            case rel => exact ⟨lo, mid - 1, by omega, by omega, rfl, by congr 1; omega, ⟨HB2.out.1, by rw [Nat.sub_add_cancel (by omega), Nat.mul_comm]; omega⟩, HI7.out⟩
            case measure => simp [intOf]; omega
theorem divide_r (A A' : Option Addr) (c c' : Nat) (a b : Nat) (w : World) (hc : Mg .i64 w w.heap.size A (mag a)) (hc' : Mg .i64 w w.heap.size A' (mag b)) (hm : (mag a).length ≤ 274877906944) (hm' : (mag b).length ≤ 274877906944) (hb : 0 < b) :
    Calls Tryz.prog 167 #[.slice A (mag a).length c, .slice A' (mag b).length c'] w (DvRet a b w) :=
  divide_r0 A A' c c' (mag a) _ _ a b w (Lib.hid rfl) (Lib.hid rfl) (Lib.hid (mval_mag a)) (Lib.hid (mag_small a)) (Lib.hid hc) (Lib.hid hc') hm hm' hb
end Go.Proofs.YtpipkeplhkccoaaGreatDoor
