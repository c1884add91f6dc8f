/- Integer, the reference: contracts of read and write. Conditions: strings of up to a million bytes. Integer, the reference: contracts of add, Add, Sub, Mul. Conditions: strings of up to a hundred thousand bytes. Integer, the reference: contracts of Add, Sub, Mul. Conditions: strings of up to a hundred thousand bytes. -/
import Derived.Test.YtahpbnmbphobgaaGreatDoorRg
import Derived.Test.YtahpbnmbphobgaaGreatDoorRa
import Derived.Test.YtahpbnmbphobgaaGreatDoorFc
namespace Go.Proofs.YtahpbnmbphobgaaGreatDoor
open Go.RowKit Go.Shelf Dec

theorem natOf_mid {l : Bytes} {lo i : Nat} {d : UInt8} (h : l[i]? = some d) (hl : lo ≤ i) : natOf ((l.take (i + 1)).drop lo) = 10 * natOf ((l.take i).drop lo) + (d.toNat - 48) := by
  have hi : i < l.length := (List.getElem?_eq_some_iff.1 h).1
  rw [List.take_add_one, h]
  simp only [Option.toList_some]
  rw [List.drop_append_of_le_length (by rw [List.length_take]; omega), natOf_append, natOf_one]
  simp
  omega
theorem natOf_mid_lt {l : Bytes} (h : ∀ d ∈ l, isDig d = true) {lo i : Nat} (hi : i ≤ lo + 9) : natOf ((l.take i).drop lo) < 1000000000 := by
  have h1 := natOf_lt ((l.take i).drop lo) (fun d hd => h d (mem_mid hd))
  have h2 : 10 ^ ((l.take i).drop lo).length ≤ 10 ^ 9 := Nat.pow_le_pow_right (by omega) (by rw [List.length_drop, List.length_take]; omega)
  omega
/-- what the reference's read hands back -/
def RNum (z : Int) (w : World) (e : Ending) (w' : World) : Prop :=
  ∃ A c, e = .returned (.agg #[.bool (decide (z < 0)), .slice A (mag z.natAbs).length c]) ∧ Mg .i64 w' w'.heap.size A (mag z.natAbs) ∧ Below w.heap.size w w'
/-- between two rounds of read -/
def RdIs (w : World) (B : Nat) (ng : Bool) (l : Bytes) (k : Nat) (A : Option Addr) (c : Nat) (wr : World) : Prop :=
  Ow .i64 3 wr (B + 1) A c (rdG l k) ∧ Bx wr B #[.bool ng, .slice A k c] ∧ Bx wr w.heap.size #[.bool false, .slice none 0 0] ∧ w.heap.size < B ∧ Below w.heap.size w wr
theorem below_block {B b : Nat} {w w' : World} {cs : Array Value} (h : Bx w b cs) (hb : Below B w w') (hl : b < B) : Bx w' b cs := by
  obtain ⟨T, h'⟩ := h
  exact ⟨T, (hb.block b hl).trans h'⟩

set_option maxRecDepth 100000 in
set_option maxHeartbeats 4000000 in
theorem rread_any (a : ByteArray) (w : World) (ha : a.size ≤ 1099511627776) : Calls Tryz.prog 50 #[.string a] w (RNum (valS a) w) := by
  obtain ⟨t, ht⟩ : ∃ t, str (digs (bytes a)) = t := ⟨_, rfl⟩
  have HT : Hid (bytes t = digs (bytes a)) := by show _ = _; rw [← ht, bytes_str]
  have hts : t.size ≤ 1099511627776 := by have := digs_len (bytes a); rw [size_bytes, HT.out]; rw [size_bytes] at ha; omega
  have H1 : Hid (∀ w, Calls Tryz.prog 83 #[.string a] w fun e w' => e = .returned (.tuple #[.string t, .bool (negB (bytes a))]) ∧ Below w.heap.size w w') := by
    intro w; rw [← ht]; exact rdigits_any a w (by omega)
  have Hdig : Hid (∀ d ∈ bytes t, isDig d = true) := by show ∀ d ∈ bytes t, _; rw [HT.out]; exact digs_dig _
  have Hhd : Hid (∀ d, (bytes t).head? = some d → d ≠ 48) := by show ∀ d, (bytes t).head? = some d → _; rw [HT.out]; exact digs_head _
  have HV : Hid (decide (valS a < 0) = negB (bytes a) ∧ (valS a).natAbs = natOf (bytes t)) := by
    refine ⟨?_, by unfold valS; rw [val_abs, HT.out]⟩
    unfold valS
    cases h : negB (bytes a) with
    | true => exact decide_eq_true ((val_neg _).2 h)
    | false => exact decide_eq_false (fun hh => by rw [(val_neg _).1 hh] at h; cases h)
  generalize negB (bytes a) = ng at *
  generalize valS a = z at *
  clear ht
  obtain ⟨L, hL⟩ : ∃ L, t.size = L := ⟨_, rfl⟩
  have HL : Hid ((bytes t).length = L) := by show _ = _; rw [← size_bytes, hL]
  have HLs := Lib.hid hL
  rw [hL] at hts
  clear hL
  go_enter Tryz.func50, Tryz.ntmps50
  go_wp2_with fail
  refine (H1.out _).mono ?_
  rintro e w1 ⟨rfl, hb1⟩
  have HB0 := Lib.hid (((Bx.new w #[.bool false, .slice none 0 0] 96).on hb1).alloc (.cells #[.bool ng, .slice none 0 0] 96))
  have HB1 := Lib.hid (Bx.new w1 #[.bool ng, .slice none 0 0] 96)
  have Hlt : Hid (w.heap.size < w1.heap.size) := by have := hb1.size; rw [World.size_alloc] at this; exact this
  have Hbw : Hid (Below w.heap.size w (w1.alloc (.cells #[.bool ng, .slice none 0 0] 96))) := ((((Below.refl _ w).alloc (Nat.le_refl _) _).trans (hb1.mono (by rw [World.size_alloc]; omega))).alloc (Nat.le_of_lt Hlt.out) _)
  have Ho0 : Hid (Ow .i64 3 (w1.alloc (.cells #[.bool ng, .slice none 0 0] 96)) (w1.heap.size + 1) none 0 []) := ⟨rfl, .inl ⟨rfl, rfl⟩⟩
  clear hb1
  go_wp2_with fail
  rw [HLs.out]
  obtain ⟨B, hB⟩ : ∃ B, w1.heap.size = B := ⟨_, rfl⟩
  generalize w1.alloc (.cells #[.bool ng, .slice none 0 0] 96) = W at *
  rw [hB] at HB1 Hlt Ho0 ⊢
  clear hB
  go_loopw [6] (fun s wr => ∃ (k : Nat) (A : Option Addr) (c : Nat), 9 * k ≤ L + 8 ∧ s = .int .i64 ((L : Int) - 9 * k) ∧ Hid (RdIs w B ng (bytes t) k A c wr)) (fun s _ => (intOf s).toNat)
  case atStart => exact ⟨0, none, 0, by omega, by simp, Ho0.out, HB1.out, HB0.out, Hlt.out, Hbw.out⟩
  case round =>
    obtain ⟨k, A, c, hk, rfl, H⟩ := hrel
    have hc0 := H.out.2.1.cell (i := 0) (v := .bool ng) rfl
    have hc1 := H.out.2.1.cell (i := 1) (v := .slice A k c) rfl
    by_cases hlt : 9 * k < L
    · obtain ⟨e, he⟩ : ∃ e, L = 9 * k + e := ⟨L - 9 * k, by omega⟩
      have hei : (L : Int) - 9 * k = (e : Int) := by omega
      have he0 : 0 < e := by omega
      rw [hei]
      have HE := Lib.hid he
      have hel : e ≤ L := by omega
      clear he hei
      obtain ⟨lo, hlo⟩ : ∃ lo, lo = e - 9 := ⟨_, rfl⟩
      have hmx : max 0 ((e : Int) - 9) = (lo : Int) := by omega
      have hle : lo ≤ e := by omega
      have hle9 : e ≤ lo + 9 := by omega
      have HLO := Lib.hid hlo
      clear hlo
      go_wp2_with fail
      clear hmx
      go_loop [8, 7] (fun s u => ∃ (j n : Nat), lo + j ≤ e ∧ n < 1000000000 ∧ s = .int .i64 ((lo + j : Nat) : Int) ∧ u = .int .i64 (n : Int) ∧ Hid (natOf (((bytes t).take (lo + j)).drop lo) = n)) (fun s _ => (e - intOf s).toNat)
      case atStart => exact ⟨0, 0, by omega, by omega, by simp, rfl, by show natOf _ = 0; rw [Nat.add_zero, List.drop_eq_nil_of_le (by rw [List.length_take]; omega)]; rfl⟩
      case round =>
        obtain ⟨j, n, hj, hn, rfl, rfl, HN⟩ := hrel
        obtain ⟨i, hi⟩ : ∃ i, lo + j = i := ⟨_, rfl⟩
        rw [hi] at HN hj ⊢
        have hil : lo ≤ i := by omega
        have HI := Lib.hid hi
        clear hi
        by_cases hie : i = e
        · subst hie
          have q0 : decide ((i : Int) < (i : Int)) = false := decide_eq_false (by omega)
          have Hg : Hid (rdG (bytes t) (k + 1) = rdG (bytes t) k ++ [n]) := by
            show _ = _
            rw [← HN.out, rdG, HL.out, show L - 9 * k = i by have := HE.out; omega, show L - 9 * (k + 1) = i - 9 by have := HE.out; omega, HLO.out]
          have HO3 : Hid (wr.ownsRow (B + 1) 3 1 (.slice A k c) k ((rdG (bytes t) k).map (gvK .i64))) := by
            have := H.out.1
            unfold Ow at this
            rw [rdG_len] at this
            exact this
          have hsz3 : B + 1 ≤ wr.heap.size := H.out.2.1.lt
          obtain ⟨i0, hi, hz0, hz1, hz2⟩ := info_parts infoI
          have Hi := Lib.hid hi
          have Hz0 := Lib.hid hz0
          have Hz1 := Lib.hid hz1
          have Hz2 := Lib.hid hz2
          clear hi hz0 hz1 hz2
          go_wp2_with (at_builtin; refine wpList_append_any _ rfl (.tmp 39) (.tmp 41) 94 rfl (B + 1) 3 i0 (.int .i64 0) 1 8 (by kernel_rfl) Hi.out Hz0.out Hz1.out Hz2.out rfl (by omega) _ k ((rdG (bytes t) k).map (gvK .i64)) rfl (HO3.out.alloc _) (wr.heap.size + 1) (some ⟨wr.heap.size, 0, none⟩) 1 1 [.int .i64 (n : Int)] rfl (reads_one wr _ _) (gvK_one [n]) (by unfold maxLen; omega) (by omega) (by simp; omega) ?_; intro v4 w4 hown4 hg4 _; obtain ⟨A4, c4, hv4, ho4⟩ := own_ow' (l := rdG (bytes t) (k + 1)) (n := k + 1) (by have := hown4; rw [Hg.out, List.map_append]; exact this) (rdG_len _ _); subst hv4; have Ho4 := Lib.hid ho4; have HBg := Lib.hid (((Below.refl (B + 1) wr).alloc hsz3 _).grown hg4 (by simp; omega) (own_ge HO3.out)); have xb := (below_block H.out.2.1 HBg.out (by omega)).cell (i := 1) (v := .slice A k c) rfl; have fb := (below_block H.out.2.1 HBg.out (by omega)).frozen 1; clear ho4 hown4 hg4)
          go_roundw
          case rel =>
            have hb5 := HBg.out
            refine ⟨k + 1, A4, c4, by have := HE.out; omega, by have := HE.out; congr 1; omega, Ow.under Ho4.out (by omega), (below_block H.out.2.1 hb5 (by omega)).set 1 _, (below_block H.out.2.2.1 hb5 (by have := H.out.2.2.2.1; omega)).other (by have := H.out.2.2.2.1; omega) _ _, H.out.2.2.2.1, ?_⟩
            exact (H.out.2.2.2.2.trans (hb5.mono (by have := H.out.2.2.2.1; omega))).setCell (by show _ ≤ B; have := H.out.2.2.2.1; omega) _
          case measure => simp [intOf]; omega
        · have hlt2 : i < e := by omega
          have q0 : decide ((i : Int) < (e : Int)) = true := decide_eq_true (by omega)
          have hit : i < t.size := by rw [HLs.out]; omega
          have hd := dig_at Hdig.out i hit
          have hd1 := hd.1
          have hd2 := hd.2
          have HG := Lib.hid (natOf_mid (get_bytes t i hit) hil)
          have hn2 : 10 * n + (t[i].toNat - 48) < 1000000000 := by
            rw [← HN.out, ← HG.out]
            exact natOf_mid_lt Hdig.out (by omega)
          clear hd hie
          go_wp2_with fail
          go_round
          case rel =>
            refine ⟨j + 1, 10 * n + (t[i].toNat - 48), by have := HI.out; omega, hn2, by have := HI.out; go_num, by congr 1; omega, ?_⟩
            show _ = _
            rw [show lo + (j + 1) = i + 1 by have := HI.out; omega, HG.out, HN.out]
          case measure => simp [intOf]; omega
    · have q0 : decide (0 < (L : Int) - 9 * k) = false := decide_eq_false (by omega)
      have hall : rdG (bytes t) k = mag z.natAbs := by rw [HV.out.2]; exact rdG_all (bytes t) Hdig.out Hhd.out k (by rw [HL.out]; omega) (by rw [HL.out]; exact hk)
      have hlen : (mag z.natAbs).length = k := by rw [← hall, rdG_len]
      have HA := Lib.hid hall
      have HLn := Lib.hid hlen
      clear hall hlen
      have x0 := H.out.2.2.1.cell (i := 0) (v := .bool false) rfl
      have x1 := H.out.2.2.1.cell (i := 1) (v := .slice none 0 0) rfl
      have f0 := H.out.2.2.1.frozen 0
      have f1 := H.out.2.2.1.frozen 1
      go_wp2_with fail
      have C := (H.out.2.2.1.set 0 (.bool ng)).set 1 (.slice A k c)
      have y0 := C.cell (i := 0) (v := .bool ng) rfl
      have y1 := C.cell (i := 1) (v := .slice A k c) rfl
      have ho := Ow.under (Ow.under H.out.1 (g := w.heap.size) (i := 0) (v := .bool ng) (by have := H.out.2.2.2.1; omega)) (g := w.heap.size) (i := 1) (v := .slice A k c) (by have := H.out.2.2.2.1; omega)
      refine bodyPost_ret (v := .agg #[.bool ng, .slice A k c]) (by simp [results, Tryz.results50, go_sem, y0, y1]) rfl ⟨A, c, by rw [HV.out.1, HLn.out], ?_, ?_⟩
      · have := ho.mg.1
        rw [HA.out] at this
        exact this
      · exact (H.out.2.2.2.2.setCell (p := ⟨w.heap.size, 0, none⟩) (Nat.le_refl _) _).setCell (p := ⟨w.heap.size, 1, none⟩) (Nat.le_refl _) _

theorem natOf_strip (l : Bytes) : natOf (l.dropWhile (· == 48)) = natOf l := by
  induction l with
  | nil => rfl
  | cons d l ih =>
    by_cases h : d = 48
    · subst h
      rw [List.dropWhile_cons_of_pos (by decide), ih, natOf_cons]
      simp
    · rw [List.dropWhile_cons_of_neg (by simpa using h)]
theorem val_digits {l : Bytes} (h : ∀ d ∈ l, isDig d = true) : val l = (natOf l : Int) := by
  have h45 : l.head? ≠ some 45 := by
    cases l with
    | nil => simp
    | cons d l =>
      intro e
      simp at e
      subst e
      have := h 45 List.mem_cons_self
      simp [isDig] at this
  have hb : bare l = l := by
    cases l with
    | nil => rfl
    | cons d l =>
      have hd : d ≠ 45 := fun e => h45 (by rw [e]; rfl)
      unfold bare
      split
      · rename_i h2; exact absurd (by simp [h2]) h45
      · rfl
  have hn : negB l = false := by
    unfold negB
    rw [decide_eq_false h45]
    rfl
  have hd : digs l = l.dropWhile (· == 48) := by
    unfold digs
    rw [hb, if_pos (List.all_eq_true.2 h)]
  unfold val
  rw [hn, hd, natOf_strip]
  rfl
theorem val_minus {l : Bytes} (h : ∀ d ∈ l, isDig d = true) : val (45 :: l) = -(natOf l : Int) := by
  have hb : bare (45 :: l) = l := rfl
  have hd : digs (45 :: l) = l.dropWhile (· == 48) := by
    unfold digs
    rw [hb, if_pos (List.all_eq_true.2 h)]
  unfold val negB
  rw [hd, natOf_strip]
  split
  · rfl
  · rename_i hh
    have h0 : l.dropWhile (· == 48) = [] := by simpa using hh
    have : natOf l = 0 := by rw [← natOf_strip, h0]; rfl
    rw [this]
    rfl
theorem isDig_digB (q : Nat) : isDig (digB q) = true := by
  have := Nat.mod_lt q (show 0 < 10 by omega)
  unfold isDig digB
  rw [decide_eq_true_eq]
  have e : (UInt8.ofNat (48 + q % 10)).toNat = 48 + q % 10 := by
    rw [UInt8.toNat_ofNat']
    omega
  rw [e]
  omega
theorem natOf_digB (q : Nat) (p : Bytes) : natOf (digB q :: p) = q % 10 * 10 ^ p.length + natOf p := by
  rw [natOf_cons]
  have := Nat.mod_lt q (show 0 < 10 by omega)
  have e : (digB q).toNat = 48 + q % 10 := by
    unfold digB
    rw [UInt8.toNat_ofNat']
    omega
  rw [e, Nat.add_sub_cancel_left]
theorem mod_step (g j : Nat) : g / 10 ^ j % 10 * 10 ^ j + g % 10 ^ j = g % 10 ^ (j + 1) := by
  rw [Nat.pow_succ, Nat.mod_mul]
  rw [Nat.mul_comm, Nat.add_comm]
/-- the digits of a group, j of them -/
def Pre (g j : Nat) (x y : Bytes) : Prop := ∃ p : Bytes, x = p ++ y ∧ p.length = j ∧ natOf p = g % 10 ^ j ∧ ∀ d ∈ p, isDig d = true

set_option maxRecDepth 100000 in
set_option maxHeartbeats 4000000 in
theorem rwrite0 (f : Int → ByteArray) (hf : ∀ (n : Int) (u : World), (convert 21 9 (.int .i32 n)).run Tryz.prog u = .ok (.string (f n)) u) (hfd : Hid (∀ q : Nat, f (48 + ((q % 10 : Nat) : Int)) = str [digB q]))
    (ng : Bool) (A : Option Addr) (c n N : Nat) (l : List Nat) (w : World) (hl : Hid (l.length = n)) (HS : Hid (Small l)) (HV : Hid (mval l = N)) (hc : Hid (Mg .i64 w w.heap.size A l)) (hn : n ≤ 1000000) :
    Calls Tryz.prog 48 #[.agg #[.bool ng, .slice A n c]] w fun e w' => e = .returned (.string (canS (if ng then -(N : Int) else N))) ∧ Below w.heap.size w w' := by
  have B0 := Bx.new w #[.bool ng, .slice A n c] 96
  have Hm : Hid (Mg .i64 (w.alloc (.cells #[.bool ng, .slice A n c] 96)) (w.alloc (.cells #[.bool ng, .slice A n c] 96)).heap.size A l) := hc.out.up ((Below.refl _ _).alloc (Nat.le_refl _) _)
  have Hb : Hid (Below w.heap.size w (w.alloc (.cells #[.bool ng, .slice A n c] 96))) := (Below.refl _ _).alloc (Nat.le_refl _) _
  go_enter Tryz.func48, Tryz.ntmps48
  go_wp2_with fail
  obtain ⟨B, hB⟩ : ∃ B, w.heap.size = B := ⟨_, rfl⟩
  generalize w.alloc (.cells #[.bool ng, .slice A n c] 96) = W at *
  have HbL := Lib.hid hB
  rw [hB] at B0 ⊢
  have c0 := B0.cell (i := 0) (v := .bool ng) rfl
  have c1 := B0.cell (i := 1) (v := .slice A n c) rfl
  clear hB
  go_loop [4, 3] (fun s u => ∃ (k : Nat) (x : ByteArray), k ≤ n ∧ s = .int .i64 (k : Int) ∧ u = .string x ∧ x.size ≤ 9000000 ∧ Hid ((bytes x).length = 9 * k ∧ natOf (bytes x) = mval (l.take k) ∧ ∀ d ∈ bytes x, isDig d = true)) (fun s _ => (n - intOf s).toNat)
  case atStart => exact ⟨0, ⟨#[]⟩, by omega, rfl, rfl, by decide, rfl, rfl, fun d hd => by simp [bytes] at hd⟩
  case round =>
    obtain ⟨k, x, hk, rfl, rfl, hxs, H⟩ := hrel
    by_cases hkn : k = n
    · subst hkn
      have q0 : decide ((k : Int) < (k : Int)) = false := decide_eq_false (by omega)
      have HX : Hid (natOf (bytes x) = N) := by
        show _ = _
        rw [H.out.2.1, mval_take_all (by rw [hl.out]; exact Nat.le_refl _), HV.out]
      cases ng with
      | true =>
        obtain ⟨y, hy⟩ : ∃ y, (⟨#[45]⟩ : ByteArray) ++ x = y := ⟨_, rfl⟩
        have HY : Hid (bytes y = 45 :: bytes x) := by
          show _ = _
          rw [← hy]
          conv => lhs; rw [← str_bytes x]
          rw [str_cons, bytes_str]
        have hys : y.size ≤ 9000001 := by
          rw [size_bytes, HY.out, List.length_cons, ← size_bytes]; omega
        have HZ : Hid (valS y = -(N : Int)) := by
          show val (bytes y) = _
          rw [HY.out, val_minus H.out.2.2, HX.out]
        have HC : Hid (∀ w, Calls Tryz.prog 44 #[.string y] w fun e w' => e = .returned (.string (canS (valS y))) ∧ Below w.heap.size w w') := fun w => rcanonical_any y w (by omega)
        rw [HZ.out] at HC
        go_wp2_with fail
        refine (HC.out _).mono ?_
        rintro e w2 ⟨rfl, hb2⟩
        go_wp2_with fail
        go_ret
        refine ⟨rfl, ?_⟩
        have := Hb.out.trans (hb2.mono Hb.out.size)
        first | exact this | (rw [HbL.out] at this; exact this)
      | false =>
        have HZ : Hid (valS x = (N : Int)) := by
          show val (bytes x) = _
          rw [val_digits H.out.2.2, HX.out]
        have HC : Hid (∀ w, Calls Tryz.prog 44 #[.string x] w fun e w' => e = .returned (.string (canS (valS x))) ∧ Below w.heap.size w w') := fun w => rcanonical_any x w (by omega)
        rw [HZ.out] at HC
        go_wp2_with fail
        refine (HC.out _).mono ?_
        rintro e w2 ⟨rfl, hb2⟩
        go_wp2_with fail
        go_ret
        refine ⟨rfl, ?_⟩
        have := Hb.out.trans (hb2.mono Hb.out.size)
        first | exact this | (rw [HbL.out] at this; exact this)
    · have hkl : k < n := by omega
      have q0 : decide ((k : Int) < (n : Int)) = true := decide_eq_true (by omega)
      obtain ⟨g, hg⟩ := some_at l k (by rw [hl.out]; exact hkl)
      obtain ⟨b, o, hA, hBB, hcell⟩ := Hm.out k g hg
      subst hA
      have hgb : g < 1000000000 := HS.out.at hg
      have HG : Hid (l[k]?.getD 0 = g) := by show _ = _; rw [hg]; rfl
      clear hg hkn
      go_wp2_with fail
      go_loop [6, 5, 3] (fun s u v => ∃ (j q : Nat) (y : ByteArray), j ≤ 9 ∧ q < 1000000000 ∧ s = .int .i64 (j : Int) ∧ u = .int .i64 (q : Int) ∧ v = .string y ∧ y.size ≤ 9000009 ∧ Hid (q = g / 10 ^ j ∧ Pre g j (bytes y) (bytes x))) (fun s _ _ => (9 - intOf s).toNat)
      case atStart => exact ⟨0, g, x, by omega, hgb, rfl, rfl, rfl, by omega, by simp, [], rfl, rfl, by simp [natOf, Nat.mod_one], fun d hd => by simp at hd⟩
      case round =>
        obtain ⟨j, q, y, hj, hq, rfl, rfl, rfl, hys, HP⟩ := hrel
        by_cases hj9 : j = 9
        · subst hj9
          have HNew : Hid ((bytes y).length = 9 * (k + 1) ∧ natOf (bytes y) = mval (l.take (k + 1)) ∧ ∀ d ∈ bytes y, isDig d = true) := by
            obtain ⟨p, e1, e2, e3, e4⟩ := HP.out.2
            have hm : g % 10 ^ 9 = g := Nat.mod_eq_of_lt hgb
            refine ⟨?_, ?_, ?_⟩
            · rw [e1, List.length_append, e2, H.out.1]; omega
            · rw [e1, natOf_append, e3, hm, H.out.1, H.out.2.1, mval_take_succ, HG.out]
              have : 10 ^ (9 * k) = BB ^ k := by rw [← BB_pow]
              rw [this, Nat.mul_comm, Nat.add_comm]
            · intro d hd
              rw [e1] at hd
              rcases List.mem_append.1 hd with hd | hd
              · exact e4 d hd
              · exact H.out.2.2 d hd
          have hy2 : y.size ≤ 9000000 := by rw [size_bytes, HNew.out.1]; omega
          go_wp2_with fail
          go_round
          case rel => exact ⟨k + 1, y, by omega, by go_num, rfl, hy2, HNew.out⟩
          case measure => simp [intOf]; omega
        · have hj' : j < 9 := by omega
          have q1 : decide ((j : Int) < 9) = true := decide_eq_true (by omega)
          obtain ⟨ch, hch⟩ : ∃ ch, f (48 + (q : Int) % 10) = ch := ⟨_, rfl⟩
          have HC2 : Hid (ch = str [digB q]) := by
            have := hfd.out q
            rw [Int.natCast_emod] at this
            exact hch.symm.trans this
          have hcs : ch.size = 1 := by rw [HC2.out, size_str]; rfl
          have HB2 : Hid (bytes (ch ++ y) = digB q :: bytes y) := by
            show _ = _
            rw [HC2.out]
            conv => lhs; rw [← str_bytes y]
            rw [str_app2, bytes_str]
            rfl
          have HP2 : Hid (q / 10 = g / 10 ^ (j + 1) ∧ Pre g (j + 1) (bytes (ch ++ y)) (bytes x)) := by
            obtain ⟨hq0, p, e1, e2, e3, e4⟩ := HP.out
            refine ⟨by rw [hq0, Nat.pow_succ, Nat.div_div_eq_div_mul], digB q :: p, ?_, ?_, ?_, ?_⟩
            · rw [HB2.out, e1]; rfl
            · rw [List.length_cons, e2]
            · rw [natOf_digB, e2, e3, hq0, mod_step]
            · intro d hd
              rcases List.mem_cons.1 hd with rfl | hd
              · exact isDig_digB q
              · exact e4 d hd
          have hsz2 : (ch ++ y).size ≤ 9000009 := by
            obtain ⟨_, p, e1, e2, _, _⟩ := HP2.out
            rw [size_bytes, e1, List.length_append, e2, ← size_bytes]
            omega
          clear hj9
          go_wp2_with fail
          go_round
          case rel => exact ⟨j + 1, q / 10, ch ++ y, by omega, by omega, by go_num, by go_num, rfl, hsz2, HP2.out⟩
          case measure => simp [intOf]; omega
theorem rwrite_any (ng : Bool) (A : Option Addr) (c N : Nat) (w : World) (hc : Mg .i64 w w.heap.size A (mag N)) (hn : (mag N).length ≤ 1000000) :
    Calls Tryz.prog 48 #[.agg #[.bool ng, .slice A (mag N).length c]] w fun e w' => e = .returned (.string (canS (sgn ng N))) ∧ Below w.heap.size w w' :=
  rwrite0 _ run_rune enc_dig ng A c _ N (mag N) w rfl (mag_small N) (mval_mag N) hc hn
end Go.Proofs.YtahpbnmbphobgaaGreatDoor
namespace Go.Proofs.YtahpbnmbphobgaaGreatDoor
open Go.RowKit Go.Shelf Dec

theorem plus_r' (A A' : Option Addr) (c c' n m : Nat) (a b : Nat) (w : World) (hn : (mag a).length = n) (hn' : (mag b).length = m) (hc : Mg .i64 w w.heap.size A (mag a)) (hc' : Mg .i64 w w.heap.size A' (mag b)) (hm : n ≤ 1000000) (hm' : m ≤ 1000000) :
    Calls Tryz.prog 84 #[.slice A n c, .slice A' m c'] w (ROw (mag (a + b)) w) := by
  subst hn hn'
  exact plus_r A A' c c' a b w hc hc' (by omega) (by omega)
theorem minus_r' (A A' : Option Addr) (c c' n m : Nat) (a b : Nat) (w : World) (hn : (mag a).length = n) (hn' : (mag b).length = m) (hc : Mg .i64 w w.heap.size A (mag a)) (hc' : Mg .i64 w w.heap.size A' (mag b)) (hm : n ≤ 1000000) (hle : b ≤ a) :
    Calls Tryz.prog 86 #[.slice A n c, .slice A' m c'] w (ROw (mag (a - b)) w) := by
  subst hn hn'
  exact minus_r A A' c c' a b w hc hc' (by omega) hle
theorem order_r' (A A' : Option Addr) (c c' n m : Nat) (a b : Nat) (w : World) (hn : (mag a).length = n) (hn' : (mag b).length = m) (hc : Mg .i64 w w.heap.size A (mag a)) (hc' : Mg .i64 w w.heap.size A' (mag b)) (hm : n ≤ 1000000) (hm' : m ≤ 1000000) :
    Calls Tryz.prog 85 #[.slice A n c, .slice A' m c'] w (OrdRet a b w) := by
  subst hn hn'
  exact order_r A A' c c' a b w hc hc' (by omega) (by omega)
/-- what add hands back -/
def RAgg (z : Int) (w : World) (e : Ending) (w' : World) : Prop :=
  ∃ neg n A c, sgn neg n = z ∧ e = .returned (.agg #[.bool neg, .slice A (mag n).length c]) ∧ Mg .i64 w' w'.heap.size A (mag n) ∧ Below w.heap.size w w'
theorem cmpN_ge (a b : Nat) : decide (0 ≤ cmpN a b) = decide (b ≤ a) := by
  unfold cmpN
  split
  · simp; omega
  · split <;> simp <;> omega
set_option maxRecDepth 100000 in
set_option maxHeartbeats 4000000 in
theorem radd_same (na nb : Bool) (A A' : Option Addr) (c c' a b : Nat) (w : World) (hc : Mg .i64 w w.heap.size A (mag a)) (hc' : Mg .i64 w w.heap.size A' (mag b)) (hm : (mag a).length ≤ 1000000) (hm' : (mag b).length ≤ 1000000) (q : (na == nb) = true) :
    Calls Tryz.prog 49 #[.agg #[.bool na, .slice A (mag a).length c], .agg #[.bool nb, .slice A' (mag b).length c']] w (RAgg (sgn na a + sgn nb b) w) := by
  have HZ : Hid (sgn na (a + b) = sgn na a + sgn nb b) := by show _ = _; unfold sgn; cases na <;> cases nb <;> simp at q ⊢ <;> omega
  have Hc := Lib.hid hc
  have Hc' := Lib.hid hc'
  clear hc hc'
  generalize hla : (mag a).length = n at *
  generalize hlb : (mag b).length = m at *
  have HLa := Lib.hid hla
  have HLb := Lib.hid hlb
  clear hla hlb
  obtain ⟨W, hW, B0, B1, B2, hbw⟩ := three_boxes w 96 #[.bool na, .slice A n c] #[.bool nb, .slice A' m c'] #[.bool false, .slice none 0 0]
  have HW := Lib.hid hW
  clear hW
  have HS := Lib.hid hbw
  clear hbw
  have c0 := B0.cell (i := 0) (v := .bool na) rfl
  have c1 := B0.cell (i := 1) (v := .slice A n c) rfl
  have c2' := B1.cell (i := 0) (v := .bool nb) rfl
  have c3 := B1.cell (i := 1) (v := .slice A' m c') rfl
  go_enter Tryz.func49, Tryz.ntmps49
  go_wp2_with fail
  rw [HW.out]
  clear HW
  obtain ⟨B, hB⟩ : ∃ B, w.heap.size = B := ⟨_, rfl⟩
  have HBB := Lib.hid hB
  rw [hB] at B0 B1 B2 c0 c1 c2' c3 ⊢
  clear hB
  go_region_held3 (fun w' => w'.cell? ⟨B, 0, none⟩ = some (.bool na) ∧ w'.cell? ⟨B, 1, none⟩ = some (.slice A n c) ∧ w'.cell? ⟨B + 1, 1, none⟩ = some (.slice A' m c'))
    (first
      | (go_keep; done)
      | exact ⟨((E0.other (c := B + 1 + 1) (by omega) 0 (.bool na)).other (c := B + 1 + 1) (by omega) 1 (.slice A2 (mag (a + b)).length c2)).cell (v := .bool na) rfl, ((E0.other (c := B + 1 + 1) (by omega) 0 (.bool na)).other (c := B + 1 + 1) (by omega) 1 (.slice A2 (mag (a + b)).length c2)).cell (v := .slice A n c) rfl, ((E1.other (c := B + 1 + 1) (by omega) 0 (.bool na)).other (c := B + 1 + 1) (by omega) 1 (.slice A2 (mag (a + b)).length c2)).cell (v := .slice A' m c') rfl⟩
      | exact ⟨E0.cell (v := .bool na) rfl, E0.cell (v := .slice A n c) rfl, E1.cell (v := .slice A' m c') rfl⟩)
    (first
      | (go_at_call 84; refine (plus_r' A A' c c' n m a b _ HLa.out HLb.out (by exact Hc.out.up HS.out.drew) (by exact Hc'.out.up HS.out.drew) (by omega) (by omega)).mono ?_; rintro e w2 ⟨A2, c2, rfl, hm2, hb2⟩; have HM2 := Lib.hid hm2; have E0 := B0.drew.on hb2; have E1 := B1.drew.on hb2; have E2 := B2.drew.on hb2; have hs2 := HS.out.drew.trans (hb2.mono (by have := HS.out.size; exact this)); have x4 := E2.cell (i := 0) (v := .bool false) rfl; have x5 := E2.cell (i := 1) (v := .slice none 0 0) rfl; have f4 := E2.frozen 0; have f5 := E2.frozen 1; clear hm2))
  go_wp2_with fail
  have C := (E2.set 0 (.bool na)).set 1 (.slice A2 (mag (a + b)).length c2)
  have y0 := C.cell (i := 0) (v := .bool na) rfl
  have y1 := C.cell (i := 1) (v := .slice A2 (mag (a + b)).length c2) rfl
  have hlt : B + 1 + 1 < W.drew.heap.size := B2.lt
  refine bodyPost_ret (v := .agg #[.bool na, .slice A2 (mag (a + b)).length c2]) (by simp [results, Tryz.results49, go_sem, y0, y1]) rfl ⟨na, _, A2, c2, HZ.out, rfl, ?_, ?_⟩
  · exact (Ow.under (Ow.under HM2.out hlt) hlt).mg.1
  · exact (hs2.setCell (p := ⟨B + 1 + 1, 0, none⟩) (by show w.heap.size ≤ B + 1 + 1; have := HBB.out; omega) _).setCell (p := ⟨B + 1 + 1, 1, none⟩) (by show w.heap.size ≤ B + 1 + 1; have := HBB.out; omega) _
set_option maxRecDepth 100000 in
set_option maxHeartbeats 4000000 in
theorem radd_ge (na nb : Bool) (A A' : Option Addr) (c c' a b : Nat) (w : World) (hc : Mg .i64 w w.heap.size A (mag a)) (hc' : Mg .i64 w w.heap.size A' (mag b)) (hm : (mag a).length ≤ 1000000) (hm' : (mag b).length ≤ 1000000) (q : (na == nb) = false) (hle : b ≤ a) :
    Calls Tryz.prog 49 #[.agg #[.bool na, .slice A (mag a).length c], .agg #[.bool nb, .slice A' (mag b).length c']] w (RAgg (sgn na a + sgn nb b) w) := by
  have HZ : Hid (sgn na (a - b) = sgn na a + sgn nb b) := by show _ = _; unfold sgn; cases na <;> cases nb <;> simp at q ⊢ <;> omega
  have q2 := cmpN_ge a b
  rw [decide_eq_true hle] at q2
  have HLE := Lib.hid hle
  clear hle
  have Hc := Lib.hid hc
  have Hc' := Lib.hid hc'
  clear hc hc'
  generalize hla : (mag a).length = n at *
  generalize hlb : (mag b).length = m at *
  have HLa := Lib.hid hla
  have HLb := Lib.hid hlb
  clear hla hlb
  obtain ⟨W, hW, B0, B1, B2, hbw⟩ := three_boxes w 96 #[.bool na, .slice A n c] #[.bool nb, .slice A' m c'] #[.bool false, .slice none 0 0]
  have HW := Lib.hid hW
  clear hW
  have HS := Lib.hid hbw
  clear hbw
  have c0 := B0.cell (i := 0) (v := .bool na) rfl
  have c1 := B0.cell (i := 1) (v := .slice A n c) rfl
  have c2' := B1.cell (i := 0) (v := .bool nb) rfl
  have c3 := B1.cell (i := 1) (v := .slice A' m c') rfl
  go_enter Tryz.func49, Tryz.ntmps49
  go_wp2_with fail
  rw [HW.out]
  clear HW
  refine (order_r' A A' c c' n m a b _ HLa.out HLb.out (Hc.out.up HS.out) (Hc'.out.up HS.out) (by omega) (by omega)).mono ?_
  rintro e w1 ⟨rfl, nn, rfl⟩
  have hbd : Below W.heap.size W (W.drewN nn) := below_drewN _ _ _
  replace B0 := B0.on hbd
  replace B1 := B1.on hbd
  replace B2 := B2.on hbd
  replace HS := Lib.hid (HS.out.trans (hbd.mono HS.out.size))
  clear hbd
  generalize W.drewN nn = V at *
  clear c0 c1 c2' c3
  have c0 := B0.cell (i := 0) (v := .bool na) rfl
  have c1 := B0.cell (i := 1) (v := .slice A n c) rfl
  have c2' := B1.cell (i := 0) (v := .bool nb) rfl
  have c3 := B1.cell (i := 1) (v := .slice A' m c') rfl
  go_wp2_with fail
  obtain ⟨B, hB⟩ : ∃ B, w.heap.size = B := ⟨_, rfl⟩
  have HBB := Lib.hid hB
  rw [hB] at B0 B1 B2 c0 c1 c2' c3 ⊢
  clear hB
  go_region_held3 (fun w' => w'.cell? ⟨B, 0, none⟩ = some (.bool na) ∧ w'.cell? ⟨B, 1, none⟩ = some (.slice A n c) ∧ w'.cell? ⟨B + 1, 1, none⟩ = some (.slice A' m c'))
    (first
      | (go_keep; done)
      | exact ⟨((E0.other (c := B + 1 + 1) (by omega) 0 (.bool na)).other (c := B + 1 + 1) (by omega) 1 (.slice A2 (mag (a - b)).length c2)).cell (v := .bool na) rfl, ((E0.other (c := B + 1 + 1) (by omega) 0 (.bool na)).other (c := B + 1 + 1) (by omega) 1 (.slice A2 (mag (a - b)).length c2)).cell (v := .slice A n c) rfl, ((E1.other (c := B + 1 + 1) (by omega) 0 (.bool na)).other (c := B + 1 + 1) (by omega) 1 (.slice A2 (mag (a - b)).length c2)).cell (v := .slice A' m c') rfl⟩
      | exact ⟨E0.cell (v := .bool na) rfl, E0.cell (v := .slice A n c) rfl, E1.cell (v := .slice A' m c') rfl⟩)
    (first
      | (go_at_call 86; refine (minus_r' A A' c c' n m a b _ HLa.out HLb.out (by exact Hc.out.up HS.out.drew) (by exact Hc'.out.up HS.out.drew) (by omega) HLE.out).mono ?_; rintro e w2 ⟨A2, c2, rfl, hm2, hb2⟩; have HM2 := Lib.hid hm2; have E0 := B0.drew.on hb2; have E1 := B1.drew.on hb2; have E2 := B2.drew.on hb2; have hs2 := HS.out.drew.trans (hb2.mono (by have := HS.out.size; exact this)); have x4 := E2.cell (i := 0) (v := .bool false) rfl; have x5 := E2.cell (i := 1) (v := .slice none 0 0) rfl; have f4 := E2.frozen 0; have f5 := E2.frozen 1; clear hm2))
  go_wp2_with fail
  have C := (E2.set 0 (.bool na)).set 1 (.slice A2 (mag (a - b)).length c2)
  have y0 := C.cell (i := 0) (v := .bool na) rfl
  have y1 := C.cell (i := 1) (v := .slice A2 (mag (a - b)).length c2) rfl
  have hlt : B + 1 + 1 < V.drew.heap.size := B2.lt
  refine bodyPost_ret (v := .agg #[.bool na, .slice A2 (mag (a - b)).length c2]) (by simp [results, Tryz.results49, go_sem, y0, y1]) rfl ⟨na, _, A2, c2, HZ.out, rfl, ?_, ?_⟩
  · exact (Ow.under (Ow.under HM2.out hlt) hlt).mg.1
  · exact (hs2.setCell (p := ⟨B + 1 + 1, 0, none⟩) (by show w.heap.size ≤ B + 1 + 1; have := HBB.out; omega) _).setCell (p := ⟨B + 1 + 1, 1, none⟩) (by show w.heap.size ≤ B + 1 + 1; have := HBB.out; omega) _
set_option maxRecDepth 100000 in
set_option maxHeartbeats 4000000 in
theorem radd_lt (na nb : Bool) (A A' : Option Addr) (c c' a b : Nat) (w : World) (hc : Mg .i64 w w.heap.size A (mag a)) (hc' : Mg .i64 w w.heap.size A' (mag b)) (hm : (mag a).length ≤ 1000000) (hm' : (mag b).length ≤ 1000000) (q : (na == nb) = false) (hle : ¬ b ≤ a) :
    Calls Tryz.prog 49 #[.agg #[.bool na, .slice A (mag a).length c], .agg #[.bool nb, .slice A' (mag b).length c']] w (RAgg (sgn na a + sgn nb b) w) := by
  have HZ : Hid (sgn nb (b - a) = sgn na a + sgn nb b) := by show _ = _; unfold sgn; cases na <;> cases nb <;> simp at q ⊢ <;> omega
  have q2 := cmpN_ge a b
  rw [decide_eq_false hle] at q2
  have HLE : Hid (a ≤ b) := by show a ≤ b; omega
  clear hle
  have Hc := Lib.hid hc
  have Hc' := Lib.hid hc'
  clear hc hc'
  generalize hla : (mag a).length = n at *
  generalize hlb : (mag b).length = m at *
  have HLa := Lib.hid hla
  have HLb := Lib.hid hlb
  clear hla hlb
  obtain ⟨W, hW, B0, B1, B2, hbw⟩ := three_boxes w 96 #[.bool na, .slice A n c] #[.bool nb, .slice A' m c'] #[.bool false, .slice none 0 0]
  have HW := Lib.hid hW
  clear hW
  have HS := Lib.hid hbw
  clear hbw
  have c0 := B0.cell (i := 0) (v := .bool na) rfl
  have c1 := B0.cell (i := 1) (v := .slice A n c) rfl
  have c2' := B1.cell (i := 0) (v := .bool nb) rfl
  have c3 := B1.cell (i := 1) (v := .slice A' m c') rfl
  go_enter Tryz.func49, Tryz.ntmps49
  go_wp2_with fail
  rw [HW.out]
  clear HW
  refine (order_r' A A' c c' n m a b _ HLa.out HLb.out (Hc.out.up HS.out) (Hc'.out.up HS.out) (by omega) (by omega)).mono ?_
  rintro e w1 ⟨rfl, nn, rfl⟩
  have hbd : Below W.heap.size W (W.drewN nn) := below_drewN _ _ _
  replace B0 := B0.on hbd
  replace B1 := B1.on hbd
  replace B2 := B2.on hbd
  replace HS := Lib.hid (HS.out.trans (hbd.mono HS.out.size))
  clear hbd
  generalize W.drewN nn = V at *
  clear c0 c1 c2' c3
  have c0 := B0.cell (i := 0) (v := .bool na) rfl
  have c1 := B0.cell (i := 1) (v := .slice A n c) rfl
  have c2' := B1.cell (i := 0) (v := .bool nb) rfl
  have c3 := B1.cell (i := 1) (v := .slice A' m c') rfl
  go_wp2_with fail
  obtain ⟨B, hB⟩ : ∃ B, w.heap.size = B := ⟨_, rfl⟩
  have HBB := Lib.hid hB
  rw [hB] at B0 B1 B2 c0 c1 c2' c3 ⊢
  clear hB
  go_region_held3 (fun w' => w'.cell? ⟨B + 1, 0, none⟩ = some (.bool nb) ∧ w'.cell? ⟨B + 1, 1, none⟩ = some (.slice A' m c') ∧ w'.cell? ⟨B, 1, none⟩ = some (.slice A n c))
    (first
      | (go_keep; done)
      | exact ⟨((E1.other (c := B + 1 + 1) (by omega) 0 (.bool nb)).other (c := B + 1 + 1) (by omega) 1 (.slice A2 (mag (b - a)).length c2)).cell (v := .bool nb) rfl, ((E1.other (c := B + 1 + 1) (by omega) 0 (.bool nb)).other (c := B + 1 + 1) (by omega) 1 (.slice A2 (mag (b - a)).length c2)).cell (v := .slice A' m c') rfl, ((E0.other (c := B + 1 + 1) (by omega) 0 (.bool nb)).other (c := B + 1 + 1) (by omega) 1 (.slice A2 (mag (b - a)).length c2)).cell (v := .slice A n c) rfl⟩
      | exact ⟨E1.cell (v := .bool nb) rfl, E1.cell (v := .slice A' m c') rfl, E0.cell (v := .slice A n c) rfl⟩)
    (first
      | (go_at_call 86; refine (minus_r' A' A c' c m n b a _ HLb.out HLa.out (by exact Hc'.out.up HS.out.drew) (by exact Hc.out.up HS.out.drew) (by omega) HLE.out).mono ?_; rintro e w2 ⟨A2, c2, rfl, hm2, hb2⟩; have HM2 := Lib.hid hm2; have E0 := B0.drew.on hb2; have E1 := B1.drew.on hb2; have E2 := B2.drew.on hb2; have hs2 := HS.out.drew.trans (hb2.mono (by have := HS.out.size; exact this)); have x4 := E2.cell (i := 0) (v := .bool false) rfl; have x5 := E2.cell (i := 1) (v := .slice none 0 0) rfl; have f4 := E2.frozen 0; have f5 := E2.frozen 1; clear hm2))
  go_wp2_with fail
  have C := (E2.set 0 (.bool nb)).set 1 (.slice A2 (mag (b - a)).length c2)
  have y0 := C.cell (i := 0) (v := .bool nb) rfl
  have y1 := C.cell (i := 1) (v := .slice A2 (mag (b - a)).length c2) rfl
  have hlt : B + 1 + 1 < V.drew.heap.size := B2.lt
  refine bodyPost_ret (v := .agg #[.bool nb, .slice A2 (mag (b - a)).length c2]) (by simp [results, Tryz.results49, go_sem, y0, y1]) rfl ⟨nb, _, A2, c2, HZ.out, rfl, ?_, ?_⟩
  · exact (Ow.under (Ow.under HM2.out hlt) hlt).mg.1
  · exact (hs2.setCell (p := ⟨B + 1 + 1, 0, none⟩) (by show w.heap.size ≤ B + 1 + 1; have := HBB.out; omega) _).setCell (p := ⟨B + 1 + 1, 1, none⟩) (by show w.heap.size ≤ B + 1 + 1; have := HBB.out; omega) _
theorem radd_any (na nb : Bool) (A A' : Option Addr) (c c' a b : Nat) (w : World) (hc : Mg .i64 w w.heap.size A (mag a)) (hc' : Mg .i64 w w.heap.size A' (mag b)) (hm : (mag a).length ≤ 1000000) (hm' : (mag b).length ≤ 1000000) :
    Calls Tryz.prog 49 #[.agg #[.bool na, .slice A (mag a).length c], .agg #[.bool nb, .slice A' (mag b).length c']] w (RAgg (sgn na a + sgn nb b) w) := by
  cases q : (na == nb) with
  | true => exact radd_same na nb A A' c c' a b w hc hc' hm hm' q
  | false =>
    by_cases h : b ≤ a
    · exact radd_ge na nb A A' c c' a b w hc hc' hm hm' q h
    · exact radd_lt na nb A A' c c' a b w hc hc' hm hm' q h
end Go.Proofs.YtahpbnmbphobgaaGreatDoor
namespace Go.Proofs.YtahpbnmbphobgaaGreatDoor
open Go.RowKit Go.Shelf Dec

theorem short_le {a : ByteArray} (h : (shortR a).2 = true) : (shortR a).1 = valS a ∧ -100000000000000000 < valS a ∧ valS a < 100000000000000000 := by
  unfold shortR at *
  split
  · rename_i hl
    have h1 : (valS a).natAbs < 10 ^ 17 := by
      unfold valS
      rw [val_abs]
      exact Nat.lt_of_lt_of_le (natOf_lt _ (digs_dig _)) (Nat.pow_le_pow_right (by omega) hl)
    have e : (10 : Nat) ^ 17 = 100000000000000000 := by decide
    rw [e] at h1
    exact ⟨rfl, by omega, by omega⟩
  · rename_i hl
    rw [if_neg hl] at h
    cases h
theorem rread' (a : ByteArray) (na : Bool) (z : Int) (hz : valS a = z) (hd : decide (z < 0) = na) (w : World) (ha : a.size ≤ 1000000) : Calls Tryz.prog 50 #[.string a] w fun e w' =>
    ∃ A n c, e = .returned (.agg #[.bool na, .slice A n c]) ∧ (mag z.natAbs).length = n ∧ Mg .i64 w' w'.heap.size A (mag z.natAbs) ∧ n ≤ a.size ∧ Below w.heap.size w w' := by
  subst hz hd
  refine (rread_any a w (by omega)).mono ?_
  rintro e w' ⟨A, c, he, hm, hb⟩
  exact ⟨A, _, c, he, rfl, hm, len_val a, hb⟩
theorem radd' (na nb : Bool) (A A' : Option Addr) (c c' n m a b : Nat) (w : World) (hn : (mag a).length = n) (hm0 : (mag b).length = m) (hc : Mg .i64 w w.heap.size A (mag a)) (hc' : Mg .i64 w w.heap.size A' (mag b)) (hm : n ≤ 1000000) (hm' : m ≤ 1000000) :
    Calls Tryz.prog 49 #[.agg #[.bool na, .slice A n c], .agg #[.bool nb, .slice A' m c']] w fun e w' => ∃ neg k A c l, sgn neg k = sgn na a + sgn nb b ∧ e = .returned (.agg #[.bool neg, .slice A l c]) ∧ (mag k).length = l ∧ Mg .i64 w' w'.heap.size A (mag k) ∧ Below w.heap.size w w' := by
  subst hn hm0
  refine (radd_any na nb A A' c c' a b w hc hc' hm hm').mono ?_
  rintro e w' ⟨neg, k, A, c, hz, he, h1, h2⟩
  exact ⟨neg, k, A, c, _, hz, he, rfl, h1, h2⟩
theorem rwrite' (ng : Bool) (A : Option Addr) (c l N : Nat) (w : World) (hl : (mag N).length = l) (hc : Mg .i64 w w.heap.size A (mag N)) (hn : l ≤ 1000000) :
    Calls Tryz.prog 48 #[.agg #[.bool ng, .slice A l c]] w fun e w' => e = .returned (.string (canS (sgn ng N))) ∧ Below w.heap.size w w' := by
  subst hl
  exact rwrite_any ng A c N w hc hn
set_option maxRecDepth 100000 in
set_option maxHeartbeats 4000000 in
theorem rAdd_any (a b : ByteArray) (w : World) (ha : a.size ≤ 900000) (hb : b.size ≤ 900000) :
    Calls Tryz.prog 20 #[.string a, .string b] w fun e w' => e = .returned (.string (canS (valS a + valS b))) ∧ Below w.heap.size w w' := by
  have K1 := Lib.hid (fun w => rshort_any a w (by omega))
  have K2 := Lib.hid (fun w => rshort_any b w (by omega))
  have S1 := short_le (a := a)
  have S2 := short_le (a := b)
  generalize (shortR a).1 = m1 at *
  generalize (shortR a).2 = t1 at *
  generalize (shortR b).1 = m2 at *
  generalize (shortR b).2 = t2 at *
  by_cases hb2 : t1 = true ∧ t2 = true
  · obtain ⟨rfl, rfl⟩ := hb2
    obtain ⟨e1, l1, l2⟩ := S1 rfl
    obtain ⟨e2, l3, l4⟩ := S2 rfl
    clear S1 S2
    have K3 := Lib.hid (fun w => rof_any (m1 + m2) w (by omega) (by omega))
    rw [← e1, ← e2]
    rw [← e1] at l1 l2
    rw [← e2] at l3 l4
    clear e1 e2
    generalize canS (m1 + m2) = r at *
    go_enter Tryz.func20, Tryz.ntmps20
    go_wp2_with fail
    refine (K1.out _).mono ?_
    rintro e w1 ⟨rfl, hb1⟩
    have H1 := Lib.hid hb1
    clear hb1
    go_wp2_with fail
    refine (K2.out _).mono ?_
    rintro e w2 ⟨rfl, hb2⟩
    have H2 := Lib.hid (H1.out.trans (hb2.mono H1.out.size))
    clear hb2
    go_wp2_with fail
    refine (K3.out _).mono ?_
    rintro e w3 ⟨rfl, hb3⟩
    go_wp2_with fail
    go_ret
    exact ⟨rfl, H2.out.trans (hb3.mono H2.out.size)⟩
  · clear S1 S2
    have q : t1 = false ∨ (t1 = true ∧ t2 = false) := by cases t1 <;> cases t2 <;> simp at hb2 ⊢
    clear hb2
    obtain ⟨x, hx⟩ : ∃ x, valS a = x := ⟨_, rfl⟩
    obtain ⟨y, hy⟩ : ∃ y, valS b = y := ⟨_, rfl⟩
    obtain ⟨n1, hn1⟩ : ∃ n, decide (x < 0) = n := ⟨_, rfl⟩
    obtain ⟨n2, hn2⟩ : ∃ n, decide (y < 0) = n := ⟨_, rfl⟩
    have R1 := Lib.hid (fun w => rread' a n1 x hx hn1 w (by omega))
    have R2 := Lib.hid (fun w => rread' b n2 y hy hn2 w (by omega))
    have SV1 := Lib.hid (sgn_val x)
    have SV2 := Lib.hid (sgn_val y)
    rw [hn1] at SV1
    rw [hn2] at SV2
    rw [hx, hy]
    clear hx hy hn1 hn2
    rcases q with rfl | ⟨rfl, rfl⟩
    all_goals
      go_enter Tryz.func20, Tryz.ntmps20
      go_wp2_with fail
      refine (K1.out _).mono ?_
      rintro e w1 ⟨rfl, hb1⟩
      have H1 := Lib.hid hb1
      clear hb1
      go_wp2_with fail
      refine (K2.out _).mono ?_
      rintro e w2 ⟨rfl, hb2⟩
      have H2 := Lib.hid (H1.out.trans (hb2.mono H1.out.size))
      clear hb2
      go_wp2_with fail
      refine (R1.out _).mono ?_
      rintro e w3 ⟨A1, n, c1, rfl, hla, hm1, hla2, hb3⟩
      have HLa := Lib.hid hla
      clear hla
      have H3 := Lib.hid (H2.out.trans (hb3.mono H2.out.size))
      have M1 := Lib.hid hm1
      clear hb3 hm1
      go_wp2_with fail
      refine (R2.out _).mono ?_
      rintro e w4 ⟨A2, m, c2, rfl, hlb, hm2, hlb2, hb4⟩
      have HLb := Lib.hid hlb
      clear hlb
      have H4 := Lib.hid (H3.out.trans (hb4.mono H3.out.size))
      have M1' := Lib.hid (M1.out.up hb4)
      have M2 := Lib.hid hm2
      clear hb4 hm2 M1
      go_wp2_with fail
      refine (radd' n1 n2 A1 A2 c1 c2 n m x.natAbs y.natAbs _ HLa.out HLb.out M1'.out M2.out (by omega) (by omega)).mono ?_
      rintro e w5 ⟨ng, k, A3, c3, l, hz, rfl, hl3, hm3, hb5⟩
      have H5 := Lib.hid (H4.out.trans (hb5.mono H4.out.size))
      have HZ : Hid (sgn ng k = x + y) := by show _ = _; rw [hz, SV1.out, SV2.out]
      have hl : l ≤ 900001 := by rw [← hl3]; exact len_sum (x := x) (y := y) (n := 900000) (by rw [HLa.out]; omega) (by rw [HLb.out]; omega) (by rw [← HZ.out, sgn_abs])
      have HL3 := Lib.hid hl3
      have M3 := Lib.hid hm3
      clear hz hb5 hm3 hl3
      go_wp2_with fail
      refine (rwrite' ng A3 c3 l k _ HL3.out M3.out (by omega)).mono ?_
      rintro e w6 ⟨rfl, hb6⟩
      go_wp2_with fail
      go_ret
      exact ⟨by rw [HZ.out]; rfl, H5.out.trans (hb6.mono H5.out.size)⟩
theorem mul_small {x y : Int} (h1 : -1000000000 < x) (h2 : x < 1000000000) (h3 : -1000000000 < y) (h4 : y < 1000000000) : -1000000000000000000 < x * y ∧ x * y < 1000000000000000000 := by
  have h5 : (x * y).natAbs < 1000000000 * 1000000000 := by
    rw [Int.natAbs_mul]
    exact Nat.mul_lt_mul_of_lt_of_le (by omega) (by omega) (by omega)
  omega
end Go.Proofs.YtahpbnmbphobgaaGreatDoor
