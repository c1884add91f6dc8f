/- Integer: the contract of text: the canonical text of a value. Conditions: lengths below 2^38; the table of powers lies as the program's text lays it. -/
import Derived.Test.YtonopbelbehheaaGreatDoorFmt
import Derived.Test.YtonopbelbehheaaGreatDoorDivA
import Derived.Shelf.Strings.Builder1
import Derived.Shelf.Strings.Repeat
namespace Go.Proofs.YtonopbelbehheaaGreatDoor
open Go.RowKit Go.Shelf Dec

/-- block b is a Builder that has been written l -/
def Bu (w : World) (B b : Nat) (l : Bytes) : Prop := Lib.IsBuilder 156 5 B b (Lib.byteCells l) w
theorem Bu.below {w w' : World} {B b : Nat} {l : Bytes} (h : Bu w B b l) (hb : Below w.heap.size w w') : Bu w' B b l := by
  have key : ∀ p, Lib.BuilderAt 156 5 B b p (Lib.byteCells l) w → Lib.BuilderAt 156 5 B b p (Lib.byteCells l) w' := by
    rintro p ⟨hB, v, hbk, hown, hne⟩
    refine ⟨hB, v, (hb.block b (Array.getElem?_eq_some_iff.1 hbk).1).trans hbk, ⟨hown.1, ?_⟩, hne⟩
    rcases hown.2 with h0 | ⟨g, cap, cur, hv, hg, hh, r⟩
    · exact .inl h0
    · exact .inr ⟨g, cap, cur, hv, hg, (hb.block g (Array.getElem?_eq_some_iff.1 hh).1).trans hh, r⟩
  rcases h with h | h
  · exact .inl (key _ h)
  · exact .inr (key _ h)
theorem Bu.new (w : World) : Bu (w.alloc (.cells #[.pointer none, .slice none 0 0] 156)) w.heap.size w.heap.size [] := Lib.fresh_isBuilder _ _ _
theorem Bu.low {w : World} {B B' b : Nat} {l : Bytes} (h : Bu w B b l) (hB' : B' ≤ B) : Bu w B' b l := by
  have key : ∀ p, Lib.BuilderAt 156 5 B b p (Lib.byteCells l) w → Lib.BuilderAt 156 5 B' b p (Lib.byteCells l) w := by
    rintro p ⟨hB, v, hbk, hown, hne⟩
    refine ⟨by omega, v, hbk, ⟨hown.1, ?_⟩, hne⟩
    rcases hown.2 with h0 | ⟨g, cap, cur, hv, hg, r⟩
    · exact .inl h0
    · exact .inr ⟨g, cap, cur, hv, by omega, r⟩
  rcases h with h | h
  · exact .inl (key _ h)
  · exact .inr (key _ h)
theorem wbyte (B b : Nat) (l : Bytes) (w : World) (h : Bu w B b l) (hlen : l.length + 1 ≤ 140737488355328) (hBw : B ≤ w.heap.size) :
    Calls Tryz.prog 137 #[.pointer (some ⟨b, 0, none⟩), .int .u8 45] w fun e w' => e = .returned .nilIface ∧ Bu w' B b (l ++ [45]) ∧ Below B w w' := by
  refine (Any.Builder_WriteByte Tryz.lays167 Tryz.Builder_Extra_167 B b (Lib.byteCells l) 45 w h (by rw [Lib.byteCells_length]; exact hlen) hBw).mono ?_
  rintro e w' ⟨he, h1, h2⟩
  refine ⟨he, .inr ?_, h2⟩
  have : Lib.byteCells (l ++ [45]) = Lib.byteCells l ++ [.int .u8 45] := by simp [Lib.byteCells]
  rw [this]
  exact h1
theorem wstr (B b : Nat) (l m : Bytes) (w : World) (h : Bu w B b l) (hlen : l.length + m.length ≤ 140737488355328) (hBw : B ≤ w.heap.size) :
    Calls Tryz.prog 138 #[.pointer (some ⟨b, 0, none⟩), .string (str m)] w fun e w' => e = .returned (.tuple #[.int .i64 m.length, .nilIface]) ∧ Bu w' B b (l ++ m) ∧ Below B w w' := by
  refine (Any.Builder_WriteString Tryz.lays166 Tryz.Builder_Extra_105 B b (Lib.byteCells l) (str m) w h (by rw [Lib.byteCells_length, size_str]; exact hlen) hBw).mono ?_
  rintro e w' ⟨he, h1, h2⟩
  refine ⟨by rw [he, size_str], .inr ?_, h2⟩
  have : Lib.byteCells (l ++ m) = Lib.byteCells l ++ Lib.strCells (str m) := by simp [Lib.byteCells, Lib.strCells, str]
  rw [this]
  exact h1
theorem bstr (B b : Nat) (l : Bytes) (w : World) (h : Bu w B b l) (hBw : B ≤ w.heap.size) :
    Calls Tryz.prog 141 #[.pointer (some ⟨b, 0, none⟩)] w fun e w' => e = .returned (.string (str l)) ∧ Below B w w' :=
  Any.Builder_String_any Tryz.lays169 Tryz.Builder_Extra_169 B b l w h hBw
theorem repL_eq (c : Nat) : Lib.repeatL [48] c = List.replicate c 48 := by
  induction c with
  | zero => rfl
  | succ c ih => rw [Lib.repeatL, ih]; rfl
theorem rep0 (c : Nat) (w : World) (hc : c ≤ 9) :
    Calls Tryz.prog 140 #[.string ⟨#[48]⟩, .int .i64 (c : Int)] w fun e w' => e = .returned (.string (str (List.replicate c 48))) ∧ Below w.heap.size w w' := by
  refine (Any.strings_Repeat Tryz.lays105 Tryz.Builder_Extra_105 ⟨#[48]⟩ c w (by omega) (by show 1 * c ≤ _; omega)).mono ?_
  rintro e w' ⟨he, h⟩
  refine ⟨?_, h⟩
  rw [he, show (⟨#[48]⟩ : ByteArray).data.toList = [48] from rfl, repL_eq]
  rfl
theorem str_app (a b : Bytes) : str a ++ str b = str (a ++ b) := by apply bytes_inj; rw [bytes_str]; simp [bytes, str]
theorem dec_top {g : Nat} (h : g ≠ 0) : fmt g = dec g := by unfold fmt; rw [if_neg h]
theorem cut_same (A : Option Addr) (c n : Nat) (l : List Nat) (w : World) (hn : l.length = n) (hcut : cutL l = l) (hl : Small l) (hc : Mg .u64 w w.heap.size A l) (hcap : n ≤ c) (hcm : c ≤ 9223372036854775807) :
    Calls Tryz.prog 135 #[.slice A n c] w fun e w' => e = .returned (.slice A n c) ∧ w = w' := by
  subst hn
  refine (cut_any A c l w hl hc hcap hcm).mono ?_
  rintro e w' ⟨he, h⟩
  exact ⟨by rw [he, hcut], h⟩
/-- a value by its sign and its size -/
def sgn (neg : Bool) (n : Nat) : Int := if neg then -(n : Int) else n
theorem canon_sgn {neg : Bool} {n : Nat} (h : n ≠ 0) : canon (sgn neg n) = (if neg then [45] else []) ++ dec n := by
  unfold sgn canon
  cases neg with
  | true =>
    simp only [if_true]
    rw [if_pos (by omega), show (-(n : Int)).natAbs = n by omega]
    rfl
  | false =>
    simp only [Bool.false_eq_true, if_false]
    rw [if_neg (by omega)]
    rfl
theorem canon_sgn0 (neg : Bool) : canon (sgn neg 0) = [] := by cases neg <;> rfl
theorem cut_mag (n : Nat) : cutL (mag n) = mag n := by unfold cutL; rw [mval_mag]
/-- the text of the groups from j on -/
theorem dec_drop {l : List Nat} {j g : Nat} (hs : Small l) (hg : l[j]? = some g) (hz : mval (l.drop (j + 1)) ≠ 0) : dec (mval (l.drop j)) = dec (mval (l.drop (j + 1))) ++ pad9 g := by
  rw [mval_drop_cons hg]
  exact dec_step hz (hs.at hg)
theorem dec_len_le {l : List Nat} (hs : Small l) (j : Nat) : (dec (mval (l.drop j))).length ≤ 9 * l.length := by
  rw [dec_len, ← BB_pow]
  have h := mval_lt _ (hs.drop j)
  have h2 : BB ^ (l.drop j).length ≤ BB ^ l.length := Nat.pow_le_pow_right BB_pos (by rw [List.length_drop]; omega)
  omega
theorem drop_pos {l : List Nat} {k v : Nat} (hk : l.length = k + 1) (hv : l[k]? = some v) (hv0 : v ≠ 0) : ∀ j, j ≤ k → mval (l.drop j) ≠ 0 := by
  intro j hj
  induction hd : k - j generalizing j with
  | zero =>
    obtain rfl : j = k := by omega
    rw [mval_drop_cons hv]; omega
  | succ d ih =>
    have := ih (j + 1) (by omega) (by omega)
    obtain ⟨x, hx⟩ := some_at l j (by omega)
    rw [mval_drop_cons hx]
    have h2 := Nat.mul_pos BB_pos (Nat.pos_of_ne_zero this)
    omega

set_option maxRecDepth 100000 in
set_option maxHeartbeats 2000000 in
theorem text_any (neg : Bool) (A : Option Addr) (c n : Nat) (w : World) (hc : MagS w A c n) (hm : (mag n).length ≤ 274877906944) (hg : Gl w) :
    Calls Tryz.prog 74 #[.agg #[.bool neg, .slice A (mag n).length c]] w fun e w' => e = .returned (.string (str (canon (sgn neg n)))) ∧ Below w.heap.size w w' := by
  have Hc := Lib.hid hc
  have Hg := Lib.hid hg
  clear hc hg
  by_cases h0 : n = 0
  · subst h0
    have HE := Lib.hid (canon_sgn0 neg)
    have hn : (mag 0).length = 0 := rfl
    have hc2 := Hc.out.2.2
    have HM : Hid (Mg .u64 (w.alloc (.cells #[.bool neg, .slice A 0 c] 89)) (w.alloc (.cells #[.bool neg, .slice A 0 c] 89)).heap.size A []) := Mg.nil _ _ _ _
    rw [hn]
    clear hn hm
    go_enter Tryz.func74, Tryz.ntmps74
    go_wp2_with fail
    refine (cut_same A c 0 [] _ rfl rfl (fun g hg => by simp at hg) HM.out (Nat.zero_le _) hc2).mono ?_
    rintro e w1 ⟨rfl, rfl⟩
    go_wp2_with fail
    go_ret
    exact ⟨by rw [HE.out]; rfl, (Below.refl _ _).alloc (Nat.le_refl _) _⟩
  · have HE := Lib.hid (canon_sgn (neg := neg) h0)
    have hlen : (mag n).length ≠ 0 := fun e => h0 (mag_nil.1 (List.eq_nil_of_length_eq_zero e))
    obtain ⟨k, hk⟩ : ∃ k, (mag n).length = k + 1 := ⟨(mag n).length - 1, by omega⟩
    have HS := Lib.hid (mag_small n)
    have HV := Lib.hid (mval_mag n)
    have HL := Lib.hid (mag_last n)
    have HC := Lib.hid (cut_mag n)
    have Hc1 := Lib.hid Hc.out.1
    have hc2 := Hc.out.2.1
    have hc3 := Hc.out.2.2
    clear hlen
    generalize mag n = l at *
    rw [hk] at hm hc2 ⊢
    have HK := Lib.hid hk
    clear hk
    obtain ⟨v, hv⟩ := some_at l k (by rw [HK.out]; omega)
    have hvb : v < 1000000000 := HS.out.at hv
    have hv0 : v ≠ 0 := by
      rintro rfl
      apply HL.out
      rw [List.getLast?_eq_getElem?, HK.out, Nat.add_sub_cancel]
      exact hv
    have Hp := Lib.hid (drop_pos HK.out hv hv0)
    obtain ⟨b1, o1, hA, hB, h1⟩ := Hc1.out k v hv
    subst hA
    have Htop : Hid (fmt v = dec (mval (l.drop k))) := by
      show _ = _
      rw [dec_top hv0, mval_drop_cons hv, List.drop_eq_nil_of_le (by rw [HK.out]; omega)]
      simp [mval]
    clear hv hv0
    have q0 : ((k : Int) + 1 == 0) = false := by simp; omega
    obtain ⟨wb, hwb⟩ : ∃ wb, wb = w.alloc (.cells #[.bool neg, .slice (some ⟨b1, o1, none⟩) (k + 1) c] 89) := ⟨_, rfl⟩
    have Hb0 : Hid (Below w.heap.size w wb) := by show Below _ _ _; rw [hwb]; exact (Below.refl _ _).alloc (Nat.le_refl _) _
    have hsz : wb.heap.size = w.heap.size + 1 := by rw [hwb, World.size_alloc]
    have Hsz := Lib.hid hsz
    have hcn : wb.cell? ⟨w.heap.size, 0, none⟩ = some (.bool neg) := by
      have := heap_new w (.cells #[.bool neg, .slice (some ⟨b1, o1, none⟩) (k + 1) c] 89)
      rw [hwb]; unfold World.cell?; rw [this]; rfl
    have hcn2 : ∀ o, (wb.alloc o).cell? ⟨w.heap.size, 0, none⟩ = some (.bool neg) := fun o => by rw [World.cell?_alloc_lt _ _ _ (by rw [hsz]; simp)]; exact hcn
    have Hbu : Hid (Bu (wb.alloc (.cells #[.pointer none, .slice none 0 0] 156)) w.heap.size wb.heap.size []) := (Bu.new wb).low (B' := w.heap.size) (by rw [hsz]; omega)
    have Hb1 : Hid (Below w.heap.size w (wb.alloc (.cells #[.pointer none, .slice none 0 0] 156))) := Hb0.out.alloc (by rw [hsz]; omega) _
    clear hsz
    go_enter Tryz.func74, Tryz.ntmps74
    go_wp2_with fail
    rw [← hwb]
    clear hwb
    refine (cut_same _ c (k + 1) l _ HK.out HC.out HS.out (Hc1.out.up Hb0.out) hc2 hc3).mono ?_
    rintro e w1 ⟨rfl, rfl⟩
    have h1b : (wb.alloc (.cells #[.pointer none, .slice none 0 0] 156)).cell? ⟨b1, o1 + k, none⟩ = some (.int .u64 v) := (Hb1.out.cell (p := ⟨b1, o1 + k, none⟩) hB).trans h1
    cases neg
    case' true =>
      go_wp2_with fail
      refine (wbyte w.heap.size wb.heap.size [] _ Hbu.out (by simp) Hb1.out.size).mono ?_
      rintro e W2 ⟨rfl, hbu2, hb2⟩
      have HB2 : Hid (Below w.heap.size w W2) := Hb1.out.trans hb2
      have h1c : W2.cell? ⟨b1, o1 + k, none⟩ = some (.int .u64 v) := (hb2.cell (p := ⟨b1, o1 + k, none⟩) hB).trans h1b
      obtain ⟨pre, hpre⟩ : ∃ pre : Bytes, pre = [45] := ⟨_, rfl⟩
      have HE2 : Hid (canon (sgn true n) = pre ++ dec n) := by show _ = _; rw [hpre]; exact HE.out
      have hpl : pre.length ≤ 1 := by rw [hpre]; simp
      have HBu2 : Hid (Bu W2 w.heap.size wb.heap.size pre) := by show Bu _ _ _ _; rw [hpre]; exact hbu2
      clear hpre hbu2 hb2 hcn2 hcn h1b Hbu Hb1
      go_wp2_with fail
      clear h1c
    case' false =>
      go_wp2_with fail
      obtain ⟨pre, hpre⟩ : ∃ pre : Bytes, pre = [] := ⟨_, rfl⟩
      have HE2 : Hid (canon (sgn false n) = pre ++ dec n) := by show _ = _; rw [hpre]; exact HE.out
      have hpl : pre.length ≤ 1 := by rw [hpre]; simp
      clear hcn2 hcn h1b
      obtain ⟨W2, hW2⟩ : ∃ W2, wb.alloc (.cells #[.pointer none, .slice none 0 0] 156) = W2 := ⟨_, rfl⟩
      have HB2 : Hid (Below w.heap.size w W2) := by show Below _ _ _; rw [← hW2]; exact Hb1.out
      have HBu2 : Hid (Bu W2 w.heap.size wb.heap.size pre) := by show Bu _ _ _ _; rw [hpre, ← hW2]; exact Hbu.out
      rw [hW2]
      clear hW2 hpre Hbu Hb1
    all_goals
      refine (fmt_any v hvb W2 (Hg.out.below HB2.out)).mono ?_
      rintro e w3 ⟨rfl, hb3⟩
      have HBu3 := Lib.hid (HBu2.out.below hb3)
      have HB3 : Hid (Below w.heap.size w w3) := HB2.out.trans (hb3.mono HB2.out.size)
      clear hb3
      go_wp2_with fail
      have hfl := (fmt_len (n := v) hvb).2
      refine (wstr w.heap.size wb.heap.size pre (fmt v) w3 HBu3.out (by omega) HB3.out.size).mono ?_
      rintro e w4 ⟨rfl, hbu4, hb4⟩
      rw [Htop.out] at hbu4
      have HBu4 := Lib.hid hbu4
      have HB4 : Hid (Below w.heap.size w w4) := HB3.out.trans hb4
      clear hbu4 hb4 HBu2 HBu3 HB2 HB3
      go_wp2_with fail
      go_loopw [5] (fun s wr => ∃ j : Nat, j ≤ k ∧ s = .int .i64 ((j : Int) - 1) ∧ Hid (Bu wr w.heap.size wb.heap.size (pre ++ dec (mval (l.drop j))) ∧ Below w.heap.size w wr)) (fun s _ => (intOf s + 1).toNat)
      case atStart => exact ⟨k, Nat.le_refl _, by go_num, HBu4.out, HB4.out⟩
      case round =>
        obtain ⟨j, hj, rfl, H⟩ := hrel
        by_cases hj0 : j = 0
        · subst hj0
          go_wp2_with fail
          refine (bstr w.heap.size wb.heap.size _ wr H.out.1 H.out.2.size).mono ?_
          rintro e w5 ⟨rfl, hb5⟩
          go_wp2_with fail
          go_ret
          refine ⟨?_, H.out.2.trans hb5⟩
          rw [HE2.out, HV.out]
          rfl
        · obtain ⟨i, rfl⟩ : ∃ i, j = i + 1 := ⟨j - 1, by omega⟩
          rw [show (((i + 1 : Nat) : Int) - 1) = (i : Int) by omega]
          clear hj0
          obtain ⟨x, hx⟩ := some_at l i (by rw [HK.out]; omega)
          have hxb : x < 1000000000 := HS.out.at hx
          obtain ⟨b2, o2, hA2, hB2, h2⟩ := Hc1.out i x hx
          injection hA2 with hA2
          injection hA2 with e1 e2
          subst e1 e2
          have hcx : wr.cell? ⟨b1, o1 + i, none⟩ = some (.int .u64 x) := (H.out.2.cell (p := ⟨b1, o1 + i, none⟩) hB).trans h2
          have Hdd := Lib.hid (dec_drop HS.out hx (Hp.out (i + 1) (by omega)))
          have hdl := dec_len_le HS.out (i + 1)
          rw [HK.out] at hdl
          have hfl2 := fmt_len (n := x) hxb
          clear hx h2
          go_wp2_with fail
          refine (fmt_any x hxb wr (Hg.out.below H.out.2)).mono ?_
          rintro e w5 ⟨rfl, hb5⟩
          have HB5 : Hid (Below w.heap.size w w5) := H.out.2.trans (hb5.mono H.out.2.size)
          have HBu5 := Lib.hid (H.out.1.below hb5)
          clear hb5 hcx
          have hss : (str (fmt x)).size ≤ 9 := by rw [size_str]; exact hfl2.2
          go_wp2_with fail
          rw [show (9 : Int) - ((str (fmt x)).size : Int) = ((9 - (fmt x).length : Nat) : Int) by rw [size_str]; omega]
          refine (rep0 (9 - (fmt x).length) w5 (by omega)).mono ?_
          rintro e w6 ⟨rfl, hb6⟩
          have HB6 : Hid (Below w.heap.size w w6) := HB5.out.trans (hb6.mono HB5.out.size)
          have HBu6 := Lib.hid (HBu5.out.below hb6)
          clear hb6
          have hsr : (str (List.replicate (9 - (fmt x).length) 48)).size ≤ 9 := by rw [size_str]; simp
          go_wp2_with fail
          rw [str_app]
          refine (wstr w.heap.size wb.heap.size _ (pad9 x) w6 HBu6.out (by rw [pad9_len hxb, List.length_append]; omega) HB6.out.size).mono ?_
          rintro e w7 ⟨rfl, hbu7, hb7⟩
          rw [List.append_assoc, ← Hdd.out] at hbu7
          have HBu7 := Lib.hid hbu7
          have HB7 : Hid (Below w.heap.size w w7) := HB6.out.trans hb7
          clear hbu7 hb7
          go_wp2_with fail
          go_roundw
          case rel => exact ⟨i, by omega, rfl, HBu7.out, HB7.out⟩
          case measure => simp [intOf]
end Go.Proofs.YtonopbelbehheaaGreatDoor
