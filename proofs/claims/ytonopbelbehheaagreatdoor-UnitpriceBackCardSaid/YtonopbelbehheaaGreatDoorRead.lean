/- Integer: the contract of read: the value of a string. Conditions: sizes below 2^40. -/
import Derived.Test.YtonopbelbehheaaGreatDoorIntF
import Derived.Test.YtonopbelbehheaaGreatDoorDivA
import Derived.Lib.SmallJoins
import Derived.Laws.DeepStrings4
namespace Go.Proofs.YtonopbelbehheaaGreatDoor
open Go.RowKit Go.Shelf Dec

theorem parse_step (m : Nat) (hM : m ≤ 18446744073709551615) : ∀ (l : Bytes) (n : Nat), (∀ d ∈ l, isDig d = true) → n * 10 ^ l.length + natOf l ≤ m → Lib.parseUintM m n l = .ok (n * 10 ^ l.length + natOf l) := by
  intro l
  induction l with
  | nil => intro n _ _; simp [Lib.parseUintM, natOf]
  | cons d l ih =>
    intro n h hm
    have hd := h d List.mem_cons_self
    unfold isDig at hd
    simp at hd
    rw [natOf_cons, List.length_cons, Nat.pow_succ] at hm ⊢
    have e : (n * 10 + (d.toNat - 48)) * 10 ^ l.length + natOf l = n * (10 ^ l.length * 10) + ((d.toNat - 48) * 10 ^ l.length + natOf l) := by rw [Nat.add_mul]; grind
    have := ih (n * 10 + (d.toNat - 48)) (fun x hx => h x (List.mem_cons_of_mem _ hx)) (by omega)
    have h1 : n * (1 * 10) ≤ n * (10 ^ l.length * 10) := Nat.mul_le_mul_left _ (Nat.mul_le_mul_right _ (Nat.pow_pos (by omega)))
    have h2 : (d.toNat - 48) * 1 ≤ (d.toNat - 48) * 10 ^ l.length := Nat.mul_le_mul_left _ (Nat.pow_pos (by omega))
    rw [Lib.parseUintM, if_pos hd, if_neg (by omega), if_neg (by omega), this, e]
theorem parse_ok (l : Bytes) (h0 : l ≠ []) (h : ∀ d ∈ l, isDig d = true) (h9 : l.length ≤ 9) : Lib.parseUintB 64 l = .ok (natOf l) := by
  unfold Lib.parseUintB
  rw [if_neg h0]
  have h1 := natOf_lt l h
  have h2 : 10 ^ l.length ≤ 10 ^ 9 := Nat.pow_le_pow_right (by omega) h9
  have := parse_step (2 ^ 64 - 1) (by omega) l 0 h (by simp only [Nat.zero_mul, Nat.zero_add]; omega)
  simpa using this
theorem bytes_extract (t : ByteArray) (i j : Nat) : bytes (t.extract i j) = ((bytes t).take j).drop i := by
  unfold bytes
  rw [ByteArray.data_extract, Array.toList_extract, List.extract_eq_take_drop, List.drop_take]
theorem run_sub {P : Program} {T : TypeId} (h : P.underlying T = some .string) (t : ByteArray) (e : Nat) (he : e ≤ t.size) (u : World) :
    (Instr.slice T (.string t) (some (.int .i64 (max 0 ((e : Int) - 9)))) (some (.int .i64 (e : Int))) none).run P u = .ok (.string (t.extract (e - 9) e)) u := by
  rw [run_slice_string_if u T t .i64 .i64 _ _ h, if_pos ⟨by omega, by omega⟩, if_pos ⟨by omega, by omega⟩]
  rw [show (max 0 ((e : Int) - 9)).toNat = e - 9 by omega, Int.toNat_natCast]
/-- what read hands back: the sign and the groups of the value -/
def NumRet (z : Int) (w : World) (e : Ending) (w' : World) : Prop :=
  ∃ A c, e = .returned (.agg #[.bool (decide (z < 0)), .slice A (mag z.natAbs).length c]) ∧ MagS w' A c z.natAbs ∧ Below w.heap.size w w'

set_option maxRecDepth 100000 in
set_option maxHeartbeats 2000000 in
theorem read_any (a : ByteArray) (w : World) (ha : a.size ≤ 1099511627776) :
    Calls Tryz.prog 70 #[.string a] w (NumRet (val (bytes a)) w) := by
  obtain ⟨t, ht⟩ : ∃ t, str (digs (bytes a)) = t := ⟨_, rfl⟩
  have HT : Hid (bytes t = digs (bytes a)) := by show _ = _; rw [← ht, bytes_str]
  have hts : t.size ≤ 1099511627776 := by have := digs_len (bytes a); rw [size_bytes, HT.out]; rw [size_bytes] at ha; omega
  have H1 : Hid (∀ w, Calls Tryz.prog 132 #[.string a] w fun e w' => e = .returned (.tuple #[.string t, .bool (negB (bytes a))]) ∧ Below w.heap.size w w') := by
    intro w; rw [← ht]; exact digits_any a w (by omega)
  have Hdig : Hid (∀ d ∈ bytes t, isDig d = true) := by show ∀ d ∈ bytes t, _; rw [HT.out]; exact digs_dig _
  have Hhd : Hid (∀ d, (bytes t).head? = some d → d ≠ 48) := by show ∀ d, (bytes t).head? = some d → _; rw [HT.out]; exact digs_head _
  have HV : Hid (decide (val (bytes a) < 0) = negB (bytes a) ∧ (val (bytes a)).natAbs = natOf (bytes t)) := by
    refine ⟨?_, by rw [val_abs, HT.out]⟩
    cases h : negB (bytes a) with
    | true => exact decide_eq_true ((val_neg _).2 h)
    | false => exact decide_eq_false (fun hh => by rw [(val_neg _).1 hh] at h; cases h)
  generalize negB (bytes a) = ng at *
  generalize val (bytes a) = z at *
  clear ht
  obtain ⟨L, hL⟩ : ∃ L, t.size = L := ⟨_, rfl⟩
  have HL : Hid ((bytes t).length = L) := by show _ = _; rw [← size_bytes, hL]
  have HLs := Lib.hid hL
  rw [hL] at hts
  clear hL
  go_enter Tryz.func70, Tryz.ntmps70
  go_wp2_with fail
  refine (H1.out _).mono ?_
  rintro e w1 ⟨rfl, hb1⟩
  have HB1 := Lib.hid hb1
  clear hb1
  go_wp2_with fail
  rw [HLs.out]
  go_loopw [6, 5] (fun s m wr => ∃ (k : Nat) (A : Option Addr) (c : Nat), 9 * k ≤ L + 8 ∧ s = .int .i64 ((L : Int) - 9 * k) ∧ m = .slice A k c ∧ Hid (Ow .u64 94 wr w1.heap.size A c (rdG (bytes t) k) ∧ Below w1.heap.size w1 wr)) (fun s _ _ => (intOf s).toNat)
  case atStart => exact ⟨0, none, 0, by omega, by simp, rfl, ⟨rfl, .inl ⟨rfl, rfl⟩⟩, Below.refl _ _⟩
  case round =>
    obtain ⟨k, A, c, hk, rfl, rfl, H⟩ := hrel
    by_cases hlt : 9 * k < L
    · obtain ⟨e, he⟩ : ∃ e, L = 9 * k + e := ⟨L - 9 * k, by omega⟩
      have hei : (L : Int) - 9 * k = (e : Int) := by omega
      have he0 : 0 < e := by omega
      rw [hei]
      have HE := Lib.hid he
      have hel : e ≤ L := by omega
      clear he hei
      have hsl : ∀ u : World, (Instr.slice 9 (.string t) (some (.int .i64 (max 0 ((e : Int) - 9)))) (some (.int .i64 (e : Int))) none).run Tryz.prog u = .ok (.string (t.extract (e - 9) e)) u := run_sub (by kernel_rfl) t e (by rw [HLs.out]; exact hel)
      obtain ⟨sub, hsub⟩ : ∃ sub, t.extract (e - 9) e = sub := ⟨_, rfl⟩
      rw [hsub] at hsl
      have Hsub : Hid (bytes sub = ((bytes t).take e).drop (e - 9)) := by show _ = _; rw [← hsub, bytes_extract]
      have hslen : (bytes sub).length ≤ 9 := by rw [Hsub.out, List.length_drop, List.length_take]; omega
      have hsn : bytes sub ≠ [] := by
        intro h0
        have := congrArg List.length h0
        rw [Hsub.out, List.length_drop, List.length_take, HL.out] at this
        simp at this
        omega
      have Hp := Lib.hid (parse_ok (bytes sub) hsn (fun d hd => Hdig.out d (by rw [Hsub.out] at hd; exact mem_mid hd)) hslen)
      have hss : sub.size ≤ 9 := by rw [size_bytes]; exact hslen
      have Hg : Hid (rdG (bytes t) (k + 1) = rdG (bytes t) k ++ [natOf (bytes sub)]) := by
        show _ = _
        rw [Hsub.out, rdG, HL.out, show L - 9 * k = e by have := HE.out; omega, show L - 9 * (k + 1) = e - 9 by have := HE.out; omega]
      have hgb : natOf (bytes sub) < 1000000000 := by
        have h1 := natOf_lt (bytes sub) (fun d hd => Hdig.out d (by rw [Hsub.out] at hd; exact mem_mid hd))
        have h2 : 10 ^ (bytes sub).length ≤ 10 ^ 9 := Nat.pow_le_pow_right (by omega) hslen
        omega
      clear hsub hslen hsn
      generalize natOf (bytes sub) = gg at *
      obtain ⟨i0, hi, hz0, hz1, hz2⟩ := info_parts infoU
      have Hi := Lib.hid hi
      have Hz0 := Lib.hid hz0
      have Hz1 := Lib.hid hz1
      have Hz2 := Lib.hid hz2
      clear hi hz0 hz1 hz2
      go_wp2_with fail
      refine (Any.strconv_ParseUint_10_at64_ok Tryz.laysPu14 sub (by omega) gg Hp.out _).mono ?_
      rintro e2 w3 ⟨rfl, hw3⟩
      have HB3 : Hid (Below wr.heap.size wr w3) := by
        rcases hw3 with rfl | rfl
        · exact Below.refl _ _
        · exact Lib.bytesWorld_below _ _ _
      clear hw3
      have HO3 : Hid (w3.ownsRow w1.heap.size 94 1 (.slice A k c) k ((rdG (bytes t) k).map (gvK .u64))) := by
        have := H.out.1.below HB3.out
        unfold Ow at this
        rw [rdG_len] at this
        exact this
      have hsz3 : w1.heap.size ≤ w3.heap.size := Nat.le_trans H.out.2.size HB3.out.size
      go_wp2_with (at_builtin; refine wpList_append_any _ rfl (.tmp 30) (.tmp 32) 87 rfl w1.heap.size 94 i0 (.int .u64 0) 1 8 (by kernel_rfl) Hi.out Hz0.out Hz1.out Hz2.out rfl (by omega) _ k ((rdG (bytes t) k).map (gvK .u64)) rfl (HO3.out.alloc _) (w3.heap.size + 1) (some ⟨w3.heap.size, 0, none⟩) 1 1 [.int .u64 (gg : Int)] rfl (reads_one w3 _ _) (gvK_one [gg]) (by unfold maxLen; omega) (by omega) (by simp; omega) ?_; intro v4 w4 hown4 hg4 _; have HO4 := Lib.hid hown4; have HG4 := Lib.hid hg4; clear hown4 hg4)
      obtain ⟨A4, c4, hv4, ho4⟩ := own_ow' (l := rdG (bytes t) (k + 1)) (n := k + 1) (by have := HO4.out; rw [Hg.out, List.map_append]; exact this) (rdG_len _ _)
      subst hv4
      have Ho4 := Lib.hid ho4
      clear ho4
      go_roundw
      case rel =>
        refine ⟨k + 1, A4, c4, by have := HE.out; omega, by have := HE.out; congr 1; omega, rfl, Ho4.out, ?_⟩
        exact ((H.out.2.trans (HB3.out.mono H.out.2.size)).alloc hsz3 _).grown HG4.out (by simp; omega) (own_ge HO3.out)
      case measure => simp [intOf]; omega
    · have hz1 : wr.heap[w.heap.size]? = some (.cells #[.bool false, .slice none 0 0] 89 (0, 0)) := by
        rw [H.out.2.block _ (by have := HB1.out.size; rw [World.size_alloc] at this; omega), HB1.out.block _ (by rw [World.size_alloc]; omega)]
        exact heap_new w _
      have hc0 : wr.cell? ⟨w.heap.size, 0, none⟩ = some (.bool false) := by simp [World.cell?, hz1]
      have hc1 : wr.cell? ⟨w.heap.size, 1, none⟩ = some (.slice none 0 0) := by simp [World.cell?, hz1]
      have hf0 : wr.frozen? ⟨w.heap.size, 0, none⟩ = false := by simp [World.frozen?, hz1]
      have hf1 : wr.frozen? ⟨w.heap.size, 1, none⟩ = false := by simp [World.frozen?, hz1]
      have Hz := Lib.hid hz1
      clear hz1
      go_wp2_with fail
      have hall : rdG (bytes t) k = mag z.natAbs := by rw [HV.out.2]; exact rdG_all (bytes t) Hdig.out Hhd.out k (by rw [HL.out]; omega) (by rw [HL.out]; exact hk)
      have hlen : (mag z.natAbs).length = k := by rw [← hall, rdG_len]
      have hlow : w.heap.size < w1.heap.size := by have := HB1.out.size; rw [World.size_alloc] at this; omega
      have ho : Ow .u64 94 ((wr.setCell ⟨w.heap.size, 0, none⟩ (.bool ng)).setCell ⟨w.heap.size, 1, none⟩ (.slice A k c)) w1.heap.size A c (mag z.natAbs) := by
        rw [← hall]
        exact ownsRow_setCell_below (ownsRow_setCell_below H.out.1 hlow _) hlow _
      refine bodyPost_ret (v := .agg #[.bool ng, .slice A k c]) (by simp [results, Tryz.results70, go_sem, hc0, hc1]) rfl ⟨A, c, by rw [HV.out.1, hlen], ho.mg, ?_⟩
      have hb : Below w.heap.size w wr := (((Below.refl _ _).alloc (Nat.le_refl _) _).trans (HB1.out.mono (by rw [World.size_alloc]; omega))).trans (H.out.2.mono (by omega))
      exact (hb.setCell (Nat.le_refl _) _).setCell (Nat.le_refl _) _
end Go.Proofs.YtonopbelbehheaaGreatDoor
