/- Attribution: the walk of AttributionPeriods: for every input it returns true. Condition: the library's table and error lie as the program's text lays them. -/
import Derived.Test.YticfdeaphiifeaaGreatDoorLaw48l
namespace Go.Proofs.YticfdeaphiifeaaGreatDoor
open Go.RowKit Go.Shelf Dec QQ
structure LB (w : World) (b5 b6 b7 : Nat) (U V : Rat) (A1 : Option Addr) (vs : List Value) (W : World) : Prop where
 gl : Gl w
 low : Below w.heap.size w W
 x5 : BF W b5 #[.string (frN 1), .string (frD 1)]
 x6 : BF W b6 #[.string (frN U), .string (frD U)]
 x7 : BF W b7 #[.string (frN V), .string (frD V)]
 row : Row W A1 vs
 nb : ∀ b o, A1 = some ⟨b, o, none⟩ → b ≠ b6 ∧ b ≠ b7
 l6 : w.heap.size ≤ b6
 l7 : w.heap.size ≤ b7
 ne : b6 ≠ b7 ∧ b5 ≠ b6 ∧ b5 ≠ b7
theorem LB.st {w : World} {b5 b6 b7 : Nat} {U V : Rat} {A1 : Option Addr} {vs : List Value} {W : World} (h : LB w b5 b6 b7 U V A1 vs W) : St w W := ⟨h.gl, h.low⟩
theorem LB.up {w : World} {b5 b6 b7 : Nat} {U V : Rat} {A1 : Option Addr} {vs : List Value} {W W' : World} (h : LB w b5 b6 b7 U V A1 vs W) (hb : Below W.heap.size W W') : LB w b5 b6 b7 U V A1 vs W' :=
 ⟨h.gl, h.low.trans (hb.mono h.low.size), h.x5.on hb, h.x6.on hb, h.x7.on hb, h.row.on hb, h.nb, h.l6, h.l7, h.ne⟩
theorem row_far {W : World} {A : Option Addr} {vs : List Value} {c i : Nat} {x : Value} (h : Row W A vs) (hc : ∀ b o, A = some ⟨b, o, none⟩ → b ≠ c) : Row (W.setCell ⟨c, i, none⟩ x) A vs := by
 intro j v hv
 obtain ⟨b, o, e, hb, hcl⟩ := h j v hv
 refine ⟨b, o, e, by simpa [World.setCell] using hb, ?_⟩
 have h2 : (W.setCell ⟨c, i, none⟩ x).heap[b]? = W.heap[b]? := Below.heap_setCell _ _ _ _ (hc b o e)
 unfold World.cell? at hcl ⊢
 dsimp only at hcl ⊢
 rw [h2]
 exact hcl
theorem LB.set {w : World} {b5 b6 b7 : Nat} {U V U' V' : Rat} {A1 : Option Addr} {vs : List Value} {W : World} (h : LB w b5 b6 b7 U V A1 vs W) {un ud vn vd : ByteArray} (hu : frN U' = un ∧ frD U' = ud) (hv : frN V' = vn ∧ frD V' = vd) :
  LB w b5 b6 b7 U' V' A1 vs ((((W.setCell ⟨b6, 0, none⟩ (.string un)).setCell ⟨b6, 1, none⟩ (.string ud)).setCell ⟨b7, 0, none⟩ (.string vn)).setCell ⟨b7, 1, none⟩ (.string vd)) := by
 obtain ⟨n1, n2, n3⟩ := h.ne
 refine ⟨h.gl, (((h.low.setCell (p := ⟨b6, 0, none⟩) h.l6 _).setCell (p := ⟨b6, 1, none⟩) h.l6 _).setCell (p := ⟨b7, 0, none⟩) h.l7 _).setCell (p := ⟨b7, 1, none⟩) h.l7 _, (((h.x5.other n2 0 _).other n2 1 _).other n3 0 _).other n3 1 _, ?_, ?_, ?_, h.nb, h.l6, h.l7, h.ne⟩
 ·rw [hu.1, hu.2]
  exact ((bf_two h.x6).other n1 0 _).other n1 1 _
 ·rw [hv.1, hv.2]
  exact bf_two ((h.x7.other (fun e => n1 e.symm) 0 _).other (fun e => n1 e.symm) 1 _)
 ·exact row_far (row_far (row_far (row_far h.row (fun b o e => (h.nb b o e).1)) (fun b o e => (h.nb b o e).1)) (fun b o e => (h.nb b o e).2)) (fun b o e => (h.nb b o e).2)
theorem link_all_fit {L : List (List SecS)} (h : FewN L) (n : Nat) : ∀ p ∈ linkTo L n L.length, FitQ 5500 p.all := by
 intro p hp
 have h1 := (link_fit h L.length (Nat.le_refl _) p hp).1
 have h3 := h.1
 exact ((h1.2.1.add h1.2.2.1).add h1.2.2.2).mono (by omega)
set_option maxRecDepth 100000 in
set_option maxHeartbeats 4000000 in
theorem periods48_any {A : Option Addr} {n c : Nat} {L : List (List SecS)} (w : World) (hn : L.length = n) (hm : n ≤ 9223372036854775807) (hz : ∀ l ∈ L, ∀ s ∈ l, s.big) (hr : NRow w A L) (hg : Gl w) :
  Calls Tryz.prog 4 #[.slice A n c] w fun e w' => e = .returned (.bool true) ∧ Below w.heap.size w w' := by
 have hs := St.refl hg
 have AW := awake48
 have HR := Lib.hid hr
 by_cases hb : 3 < n
 ·have q1 : decide ((3 : Int) < (n : Int)) = true := decide_eq_true (by omega)
  have q1n : decide (3 < n) = true := decide_eq_true (by omega)
  clear hn hm hz hr hb
  go_enter Tryz.func4, Tryz.ntmps4
  go_wp2_with fail
  refine AW.step hs ?_
  intro wa hs _
  go_wp2_with fail
  go_ret
  exact ⟨rfl, hs.2⟩
 have h3 : n ≤ 3 := by omega
 have hl : 64 < n ∨ n ≤ 3 := .inr h3
 have q1 : decide ((3 : Int) < (n : Int)) = false := decide_eq_false (by omega)
 have q1n : decide (3 < n) = false := decide_eq_false (by omega)
 have KG := containsN (A := A) (c := c) (L := L) (f := 8) (p := greatB) hn (by omega) (fun _ _ => rfl) (fun s hs B cc h1 h2 => great48 (A := B) (c := cc) rfl (by omega) (hz s hs))
 obtain ⟨t, ht⟩ : ∃ t, L.any greatB = t := ⟨_, rfl⟩
 rw [ht] at KG
 cases t with
 | true =>
  clear ht hn hm hz hr hb hl
  go_enter Tryz.func4, Tryz.ntmps4
  go_wp2_with fail
  refine KG.step hs HR.out ?_
  intro w1 hs _
  go_wp2_with fail
  refine AW.step hs ?_
  intro wa hs _
  go_wp2_with fail
  go_ret
  exact ⟨rfl, hs.2⟩
 | false =>
  have hp := great_not ht
  have KL := Lib.hid (fun w hg hr => Link_any (A := A) (c := c) hn hl hp w hg hr)
  by_cases he : linkE L = 0
  ·have hall := link_all he
   have hf := linkE_few (by rw [hn]; exact hl) hp he
   have h0 : 0 < n := by rw [← hn]; exact hall.1
   have hlens := link_lens he
   have hok := (linkE_ok he).2.1
   obtain ⟨p, hpp⟩ : ∃ p, (L.getD 0 []).length = p := ⟨_, rfl⟩
   rw [hpp] at hlens
   have e1 : linkR L = linkTo L p L.length := by rw [← hpp]; exact if_pos he
   have e2 : (linkR L).length = p := by rw [linkR_len, if_pos he]; exact hpp
   have hp5 : p ≤ 5 := by have := (hf.at (t := 0) hall.1).1; omega
   have HSUM : Hid (sumQ PrtS.all (linkTo L p L.length) = growTo L n - benTo L n) := by
    show _ = _
    have := link_sum hok hlens L.length (Nat.le_refl _)
    rw [this, hn]
   have HFQ : Hid (∀ i, FitQ 27600 (sumQ PrtS.all ((linkTo L p L.length).take i))) := fun i => FitQ.sum_take (fun a ha => link_all_fit hf p a ha) (n := 5) (by rw [linkTo_len hlens L.length (Nat.le_refl _)]; exact hp5) (by omega) i
   have HAF : Hid (∀ q ∈ linkTo L p L.length, q.le 2000) := fun q hq => by
    have := (link_fit hf L.length (Nat.le_refl _) q hq).2
    have := hf.1
    unfold PrtS.le at *
    omega
   rw [he, e2, e1] at KL
   have HXL : Hid ((linkTo L p L.length).length = p) := linkTo_len hlens L.length (Nat.le_refl _)
   have HONE : Hid (n = 1 → ∀ d, L[0]? = some d → linkTo L p L.length = partsL d ∧ chkS d = 0 ∧ d.length = p ∧ FewS 12 d) := fun h1 d hd => by
    have hL : L = [d] := by
     match L, hn.trans h1, hd with
     | [x], _, hd => simp at hd; rw [hd]
    have hdl : d.length = p := by rw [← hpp, hL]; rfl
    refine ⟨?_, (hall.2 0 d hd).1, hdl, hf.2 d (List.mem_of_getElem? hd)⟩
    rw [hL]
    exact link_one hdl
   have HN := Lib.hid hn
   have HF := Lib.hid hf
   have HALL := Lib.hid hall.2
   have HP0 := Lib.hid hpp
   have HG := Lib.hid hg
   generalize linkTo L p L.length = xs at *
   obtain ⟨on, hon⟩ : ∃ x, frN 1 = x := ⟨_, rfl⟩
   obtain ⟨od, hod⟩ : ∃ x, frD 1 = x := ⟨_, rfl⟩
   have KON := OfF (a := ⟨#[49]⟩) (x := 1) ⟨one_val, by decide⟩ (by decide)
   rw [show ((1 : Int) : Rat) = 1 from rfl] at KON
   unfold FR at KON
   rw [hon, hod] at KON
   have HON : Hid (frN 1 = on ∧ frD 1 = od) := ⟨hon, hod⟩
   clear ht hn hm hz hr hb hl hp hall hf hlens hok hpp e1 e2 he hon hod hg
   go_enter Tryz.func4, Tryz.ntmps4
   go_wp2_with fail
   refine KG.step hs HR.out ?_
   intro w1 hs _
   go_wp2_with fail
   refine (KL.out _ hs.gl (HR.out.on hs.2)).mono ?_
   rintro e w2 ⟨v1, rfl, ho1, hb2⟩
   obtain ⟨A1, c1, hv1, hr1⟩ := ho1.row
   subst hv1
   replace hs := hs.on hb2
   have HR1 := Lib.hid hr1
   clear ho1 hr1 hb2 KL KG
   go_wp2_with fail
   refine KON.step hs ?_
   intro w3 hs hb3
   have HR3 := Lib.hid (HR1.out.on hb3)
   clear HR1 hb3
   go_wp2_with fail
   have X5 : BF (w3.alloc (.cells #[.string on, .string od] 34)) w3.heap.size #[.string on, .string od] := heap_new w3 _
   have hbb : Below w3.heap.size w3 (w3.alloc (.cells #[.string on, .string od] 34)) := (Below.refl _ _).alloc (Nat.le_refl _) _
   have HR4 := Lib.hid (HR3.out.on hbb)
   have hs4 := hs.on hbb
   have hrl : ∀ b o, A1 = some ⟨b, o, none⟩ → 0 < p → b < w3.heap.size := by
    intro b o e h0
    obtain ⟨x, hx⟩ : ∃ x, xs[0]? = some x := ⟨xs[0]'(by rw [HXL.out]; exact h0), by simp⟩
    obtain ⟨b', o', hA, hb, _⟩ := row_at (cs := pcells) (m := 7) pcells_len (by decide) HR3.out hx
    rw [e] at hA
    injection hA with hA
    injection hA with h1 h2
    rw [h1]
    exact hb
   have HPP : Hid (0 < p) := by
    obtain ⟨d, hd⟩ : ∃ d, L[0]? = some d := ⟨L[0]'(by rw [HN.out]; exact h0), by simp⟩
    have h1 := HALL.out 0 d hd
    show 0 < p
    rw [← HP0.out, ← h1.2.1]
    exact (chkS_iff.1 h1.1).pos
   have HRL := Lib.hid (fun b o e => hrl b o e HPP.out)
   have HS4 : Hid ((w3.alloc (.cells #[.string on, .string od] 34)).heap.size = w3.heap.size + 1) := World.size_alloc _ _
   clear hbb HR3 hs hrl KON
   generalize w3.alloc (.cells #[.string on, .string od] 34) = W4 at *
   have x50 := X5.bx.cell (i := 0) (v := .string on) rfl
   have x51 := X5.bx.cell (i := 1) (v := .string od) rfl
   have hlt5 := X5.bx.lt
   go_upto_region 7 with (fail)
   go_cut [6, 7] (fun a6 a7 wx => ∃ b6 b7, a6 = .pointer (some ⟨b6, 0, none⟩) ∧ a7 = .pointer (some ⟨b7, 0, none⟩) ∧ Hid (LB w w3.heap.size b6 b7 1 1 A1 (flatG pcells xs) wx))
   case first =>
    have hb2 : Below W4.heap.size W4 ((W4.alloc (.cells #[.string on, .string od] 34)).alloc (.cells #[.string on, .string od] 34)).drew := (((Below.refl _ _).alloc (Nat.le_refl _) _).alloc (by simp) _).drew
    have B0 : BF ((W4.alloc (.cells #[.string on, .string od] 34)).alloc (.cells #[.string on, .string od] 34)).drew W4.heap.size #[.string on, .string od] := (Below.heap_alloc _ _ _ (by simp)).trans (heap_new W4 _)
    have B1 : BF ((W4.alloc (.cells #[.string on, .string od] 34)).alloc (.cells #[.string on, .string od] 34)).drew (W4.heap.size + 1) #[.string on, .string od] := by
     have := heap_new (W4.alloc (.cells #[.string on, .string od] 34)) (.cells #[.string on, .string od] 34)
     rwa [World.size_alloc] at this
    have hl := hs4.2.size
    have h34 := HS4.out
    have key : ∀ b6 b7, BF ((W4.alloc (.cells #[.string on, .string od] 34)).alloc (.cells #[.string on, .string od] 34)).drew b6 #[.string on, .string od] → BF ((W4.alloc (.cells #[.string on, .string od] 34)).alloc (.cells #[.string on, .string od] 34)).drew b7 #[.string on, .string od] → W4.heap.size ≤ b6 → W4.heap.size ≤ b7 → b6 ≠ b7 → Hid (LB w w3.heap.size b6 b7 1 1 A1 (flatG pcells xs) ((W4.alloc (.cells #[.string on, .string od] 34)).alloc (.cells #[.string on, .string od] 34)).drew) := by
     intro b6 b7 h6 h7 g6 g7 hne
     refine ⟨HG.out, hs4.2.trans (hb2.mono hl), ?_, ?_, ?_, HR4.out.on hb2, fun b o e => ?_, by omega, by omega, hne, by omega, by omega⟩
     ·rw [HON.out.1, HON.out.2]; exact X5.on hb2
     ·rw [HON.out.1, HON.out.2]; exact h6
     ·rw [HON.out.1, HON.out.2]; exact h7
     ·have := HRL.out b o e; omega
    have HA := key _ _ B0 B1 (Nat.le_refl _) (by omega) (by omega)
    have HB := key _ _ B1 B0 (by omega) (Nat.le_refl _) (by omega)
    clear key B0 B1 hb2 hl h34
    go_region
    all_goals
     go_wp2_with fail
     go_meet
     first
      | exact ⟨_, _, rfl, rfl, HA⟩
      | exact ⟨_, _, rfl, rfl, HB⟩
   case rest =>
   obtain ⟨b6, b7, rfl, rfl, HLB⟩ := hcut
   clear hs4 HS4 X5 HR4 HRL x50 x51 hlt5
   generalize wc = W5 at *
   generalize w3.heap.size = b5 at *
   go_wp2_with fail
   go_loopw [44] (fun s wr => ∃ t : Nat, t ≤ n ∧ s = .int .i64 (t : Int) ∧ Hid (LB w b5 b6 b7 (growTo L t) (benTo L t) A1 (flatG pcells xs) wr)) (fun s _ => (n - intOf s).toNat)
   case atStart => exact ⟨0, by omega, rfl, HLB⟩
   case round =>
    clear HLB
    obtain ⟨t, ht, rfl, HLB⟩ := hrel
    by_cases htn : t = n
    ·have q2 : decide ((t : Int) < (n : Int)) = false := decide_eq_false (by omega)
     have q2n : decide (t < n) = false := decide_eq_false (by omega)
     go_wp2_with fail
     have hbb : Below wr.heap.size wr (wr.alloc (.cells #[.string ⟨#[]⟩, .string ⟨#[]⟩] 34)) := (Below.refl _ _).alloc (Nat.le_refl _) _
     have HSM0 : Hid (Below wr.heap.size wr (wr.alloc (.cells #[.string ⟨#[]⟩, .string ⟨#[]⟩] 34)) ∧ BF (wr.alloc (.cells #[.string ⟨#[]⟩, .string ⟨#[]⟩] 34)) wr.heap.size #[.string (frN (sumQ PrtS.all (xs.take 0))), .string (frD (sumQ PrtS.all (xs.take 0)))]) := by
      refine ⟨hbb, ?_⟩
      rw [List.take_zero, show sumQ PrtS.all [] = 0 from rfl, frN_zero, frD_zero]
      exact heap_new wr _
     rw [htn] at HLB
     clear hbb htn ht
     generalize wr.alloc (.cells #[.string ⟨#[]⟩, .string ⟨#[]⟩] 34) = W9 at *
     generalize hw8 : wr = W8 at *
     clear hw8
     go_loopw [70] (fun s wx => ∃ i : Nat, i ≤ p ∧ s = .int .i64 (i : Int) ∧ Hid (Below W8.heap.size W8 wx ∧ BF wx W8.heap.size #[.string (frN (sumQ PrtS.all (xs.take i))), .string (frD (sumQ PrtS.all (xs.take i)))])) (fun s _ => (p - intOf s).toNat)
     case atStart => exact ⟨0, by omega, rfl, HSM0⟩
     case round =>
      clear HSM0
      obtain ⟨i, hi, rfl, HSM⟩ := hrel
      have HLX := Lib.hid (HLB.out.up HSM.out.1)
      by_cases hip : i = p
      ·have q3 : decide ((i : Int) < (p : Int)) = false := decide_eq_false (by omega)
       have q3n : decide (i < p) = false := decide_eq_false (by omega)
       have htk : xs.take i = xs := List.take_of_length_le (by rw [HXL.out]; omega)
       have y13 := HSM.out.2
       rw [htk] at y13
       have y6 := HLX.out.x6
       have y7 := HLX.out.x7
       have KS := SubF (Vq.fr (grow_fit HF.out n (by rw [HN.out]; omega)) (by omega)) (Vq.fr (ben_fit HF.out n (by rw [HN.out]; omega)) (by omega))
       rw [← HSUM.out] at KS
       unfold FR at KS
       unfold FV at KS
       generalize frN (sumQ PrtS.all xs) = sn at *
       generalize frD (sumQ PrtS.all xs) = sd at *
       generalize frN (growTo L n) = un at *
       generalize frD (growTo L n) = ud at *
       generalize frN (benTo L n) = vn at *
       generalize frD (benTo L n) = vd at *
       have k0 := y13.bx.keeps (i := 0) (v := .string sn) rfl
       have k1 := y13.bx.keeps (i := 1) (v := .string sd) rfl
       have k2 := y6.bx.keeps (i := 0) (v := .string un) rfl
       have k3 := y6.bx.keeps (i := 1) (v := .string ud) rfl
       have k4 := y7.bx.keeps (i := 0) (v := .string vn) rfl
       have k5 := y7.bx.keeps (i := 1) (v := .string vd) rfl
       have eN := fun x => neqF sn sd sn sd x
       simp only [beq_self_eq_true, Bool.and_true, Bool.not_true] at eN
       have hsx := HLX.out.st
       have HRX := Lib.hid HLX.out.row
       clear y13 y6 y7 htk hip hi HSM HLX HLB
       go_wp2_with fail
       refine wp_region_kept (by kernel_rfl) (by kernel_rfl) ?_
       repeat (go_big_quiet_step (with_reducible exact KS.kept hsx))
       refine wpQuiet_nil ?_
       rintro _ ⟨u, rfl⟩
       have hsu := hsx.kept u
       have HRU := Lib.hid (HRX.out.on u.low)
       clear k0 k1 k2 k3 k4 k5 hsx HRX KS eN
       generalize u.W = Wu at *
       clear u
       by_cases h1 : n = 1
       ·have q4 : ((n : Int) == 1) = true := by rw [h1]; rfl
        have q5 : decide ((0 : Int) < (n : Int)) = true := decide_eq_true (by omega)
        have q5n : decide (0 < n) = true := decide_eq_true (by omega)
        have q5i : (0 : Int) < (n : Int) := by omega
        obtain ⟨d, hd⟩ : ∃ d, L[0]? = some d := ⟨L[0]'(by rw [HN.out]; exact h0), by simp⟩
        obtain ⟨b, o, v', hA, hb, hcell, B, cc, hv', hrow, hc1, hc2⟩ := HR.out 0 d hd
        obtain ⟨e1, e2, e3, e4⟩ := HONE.out h1 d hd
        subst hA hv'
        rw [e3, Nat.add_zero] at hcell
        have xk : Wu.cell? ⟨b, o, none⟩ = some (.slice B p cc) := (hsu.2.cell (p := ⟨b, o, none⟩) hb).trans hcell
        have ep : prtsR d = xs := by rw [e1]; exact if_pos e2
        have KP := Parts_any (A := B) (c := cc) e3 (.inr e4) (by rw [e3] at hc1; exact hc1) Wu hsu.gl (hrow.on hsu.2)
        rw [e2, ep, HXL.out] at KP
        clear e1 e2 e3 e4 ep hd hcell hrow hc1 hb h1
        go_wp2_with fail
        refine KP.mono ?_
        rintro e w8 ⟨v2, rfl, ho, hb8⟩
        obtain ⟨A2, c2, hv2, hr2⟩ := ho.row
        subst hv2
        have hs8 := hsu.on hb8
        have HR8 : Hid (Row w8 A1 (flatG pcells xs) ∧ Row w8 A2 (flatG pcells xs)) := ⟨HRU.out.on hb8, hr2⟩
        have KE := equalP (A := A1) (A' := A2) (c := c1) (c' := c2) HXL.out (by omega)
        clear ho hr2 hb8 HRU
        go_wp2_with fail
        refine KE.step hs8 HR8.out ?_
        intro w9 hs9 _
        go_wp2_with fail
        refine AW.step hs9 ?_
        intro wa hsa _
        go_wp2_with fail
        go_ret
        exact ⟨rfl, hsa.2⟩
       ·have q4 : ((n : Int) == 1) = false := by rw [beq_eq_false_iff_ne]; omega
        clear h1
        go_wp2_with fail
        refine AW.step hsu ?_
        intro wa hsa _
        go_wp2_with fail
        go_ret
        exact ⟨rfl, hsa.2⟩
      have hil : i < p := by omega
      have q3 : decide ((i : Int) < (p : Int)) = true := decide_eq_true (by omega)
      have q3n : decide (i < p) = true := decide_eq_true hil
      obtain ⟨x, hx⟩ : ∃ x, xs[i]? = some x := ⟨xs[i]'(by rw [HXL.out]; exact hil), by simp⟩
      obtain ⟨b, o, hA, hb, hcx⟩ := row_at (cs := pcells) (m := 7) pcells_len (by decide) HLX.out.row hx
      have hxl := HAF.out x (List.mem_of_getElem? hx)
      have hxf := hxl.fit (by omega)
      unfold PrtS.le at hxl
      have KA1 := AddF (Vq.arg (n := x.an) (d := x.ad) (by omega) (by omega)) (Vq.arg (n := x.sn) (d := x.sd) (by omega) (by omega))
      have KA2 := AddF (Vq.fr (hxf.1.add hxf.2.1) (by omega)) (Vq.arg (n := x.jn) (d := x.jd) (by omega) (by omega))
      have KA3 := AddF (Vq.fr (HFQ.out i) (by omega)) (Vq.fr ((hxf.1.add hxf.2.1).add hxf.2.2) (by omega))
      change Ret _ _ (FR (x.a + x.s)) at KA1
      change Ret _ _ (FR x.all) at KA2
      change Ret _ _ (FR (sumQ PrtS.all (xs.take i) + x.all)) at KA3
      change Ret _ #[FV (frN (x.a + x.s)) (frD (x.a + x.s)), _] _ at KA2
      change Ret _ #[_, FV (frN x.all) (frD x.all)] _ at KA3
      rw [← sumQ_take hx] at KA3
      unfold FR at KA1 KA2 KA3
      unfold FV at KA1 KA2 KA3
      subst hA
      obtain ⟨sn, hsn⟩ : ∃ y, frN (sumQ PrtS.all (xs.take i)) = y := ⟨_, rfl⟩
      obtain ⟨sd, hsd⟩ : ∃ y, frD (sumQ PrtS.all (xs.take i)) = y := ⟨_, rfl⟩
      obtain ⟨rn, hrn⟩ : ∃ y, frN (sumQ PrtS.all (xs.take (i + 1))) = y := ⟨_, rfl⟩
      obtain ⟨rd, hrd⟩ : ∃ y, frD (sumQ PrtS.all (xs.take (i + 1))) = y := ⟨_, rfl⟩
      have y13 := HSM.out.2
      rw [hsn, hsd] at KA3 y13
      rw [hrn, hrd] at KA3
      have HRN : Hid (frN (sumQ PrtS.all (xs.take (i + 1))) = rn ∧ frD (sumQ PrtS.all (xs.take (i + 1))) = rd) := ⟨hrn, hrd⟩
      generalize frN (x.a + x.s) = cn at *
      generalize frD (x.a + x.s) = cd at *
      generalize frN x.all = en at *
      generalize frD x.all = ed at *
      obtain ⟨f0, f1, f2, f3, f4, f5, f6⟩ := x
      have c0 : wr.cell? ⟨b, o + i * 7, none⟩ = some (.string f0) := hcx 0 _ rfl
      have c1' : wr.cell? ⟨b, o + i * 7 + 1, none⟩ = some (.string f1) := hcx 1 _ rfl
      have c2 : wr.cell? ⟨b, o + i * 7 + 2, none⟩ = some (.string f2) := hcx 2 _ rfl
      have c3 : wr.cell? ⟨b, o + i * 7 + 3, none⟩ = some (.string f3) := hcx 3 _ rfl
      have c4 : wr.cell? ⟨b, o + i * 7 + 4, none⟩ = some (.string f4) := hcx 4 _ rfl
      have c5 : wr.cell? ⟨b, o + i * 7 + 5, none⟩ = some (.string f5) := hcx 5 _ rfl
      have c6 : wr.cell? ⟨b, o + i * 7 + 6, none⟩ = some (.string f6) := hcx 6 _ rfl
      clear hcx hsn hsd hrn hrd hx hxl hxf hip
      dsimp only at KA1 KA2 KA3
      go_wp2_with fail
      have hbb : Below wr.heap.size wr (wr.alloc (.cells #[.string f0, .string f1, .string f2, .string f3, .string f4, .string f5, .string f6] 36)) := (Below.refl _ _).alloc (Nat.le_refl _) _
      have XP := Bx.new wr #[.string f0, .string f1, .string f2, .string f3, .string f4, .string f5, .string f6] 36
      have z13 := y13.on hbb
      have HLO : Hid (Below W8.heap.size W8 (wr.alloc (.cells #[.string f0, .string f1, .string f2, .string f3, .string f4, .string f5, .string f6] 36))) := HSM.out.1.trans (hbb.mono HSM.out.1.size)
      have hsw := (HLX.out.up hbb).st
      clear c0 c1' c2 c3 c4 c5 c6 y13 hbb HSM HLX
      generalize wr.alloc (.cells #[.string f0, .string f1, .string f2, .string f3, .string f4, .string f5, .string f6] 36) = Wa at *
      generalize wr.heap.size = bt at *
      have k0 := z13.bx.keeps (i := 0) (v := .string sn) rfl
      have k1 := z13.bx.keeps (i := 1) (v := .string sd) rfl
      have k2 := XP.keeps (i := 1) (v := .string f1) rfl
      have k3 := XP.keeps (i := 2) (v := .string f2) rfl
      have k4 := XP.keeps (i := 3) (v := .string f3) rfl
      have k5 := XP.keeps (i := 4) (v := .string f4) rfl
      have k6 := XP.keeps (i := 5) (v := .string f5) rfl
      have k7 := XP.keeps (i := 6) (v := .string f6) rfl
      refine wp_region_kept_tail 10 (by kernel_rfl) (by kernel_rfl) ?_
      simp only [List.take_succ_cons, List.take_zero, List.drop_succ_cons, List.drop_zero]
      repeat (go_big_quiet_step (first | (with_reducible exact KA1.kept hsw) | (with_reducible exact KA2.kept hsw) | (with_reducible exact KA3.kept hsw)))
      refine wpQuiet_nil ?_
      rintro _ ⟨u, rfl⟩
      have zu := z13.bx.kept u
      have g0 := zu.cell (i := 0) (v := .string sn) rfl
      have g1 := zu.cell (i := 1) (v := .string sd) rfl
      have z0 := zu.frozen 0
      have z1 := zu.frozen 1
      have HFI : Hid (Below W8.heap.size W8 ((u.W.setCell ⟨W8.heap.size, 0, none⟩ (.string rn)).setCell ⟨W8.heap.size, 1, none⟩ (.string rd)) ∧ BF ((u.W.setCell ⟨W8.heap.size, 0, none⟩ (.string rn)).setCell ⟨W8.heap.size, 1, none⟩ (.string rd)) W8.heap.size #[.string (frN (sumQ PrtS.all (xs.take (i + 1)))), .string (frD (sumQ PrtS.all (xs.take (i + 1))))]) := by
       refine ⟨((HLO.out.trans (u.low.mono HLO.out.size)).setCell (p := ⟨W8.heap.size, 0, none⟩) (Nat.le_refl _) _).setCell (p := ⟨W8.heap.size, 1, none⟩) (Nat.le_refl _) _, ?_⟩
       rw [HRN.out.1, HRN.out.2]
       exact bf_two (z13.on u.low)
      clear k0 k1 k2 k3 k4 k5 k6 k7 XP HLO hsw KA1 KA2 KA3 zu z13
      go_wp2_with fail
      go_roundw
      case rel => exact ⟨i + 1, by omega, by go_num, HFI⟩
      case measure => simp [intOf]; omega
    have htl : t < n := by omega
    have q2 : decide ((t : Int) < (n : Int)) = true := decide_eq_true (by omega)
    have q2n : decide (t < n) = true := decide_eq_true htl
    obtain ⟨d, hd⟩ : ∃ d, L[t]? = some d := ⟨L[t]'(by rw [HN.out]; exact htl), by simp⟩
    obtain ⟨b, o, v', hA, hb, hcell, B, cc, hv', hrow, hc1, hc2⟩ := HR.out t d hd
    have hda := HALL.out t d hd
    have hdl : d.length = p := hda.2.1.trans HP0.out
    subst hA hv'
    rw [hdl] at hcell hc1
    have hfew := HF.out.2 d (List.mem_of_getElem? hd)
    have xk : wr.cell? ⟨b, o + t, none⟩ = some (.slice B p cc) := (HLB.out.low.cell (p := ⟨b, o + t, none⟩) hb).trans hcell
    have KR := Return_any (A := B) hdl (.inr hfew) hc1
    have eo : retOwn d = ownQ d := if_pos hda.1
    have eb : retBen d = benQ d := if_pos hda.1
    rw [eo, eb, hda.1] at KR
    have hob := one_own hfew
    have hq := hfew.q
    have K1 := AddF (Vq.fr (FitQ.one (k := 1) (by omega)) (by omega)) (Vq.fr hq.2.2.1 (by omega))
    have K2 := AddF (Vq.fr (FitQ.one (k := 1) (by omega)) (by omega)) (Vq.fr hq.2.2.2 (by omega))
    have K3 := MulF (Vq.fr (grow_fit HF.out t (by rw [HN.out]; omega)) (by omega)) (Vq.fr hob.1 (by omega))
    have K4 := MulF (Vq.fr (ben_fit HF.out t (by rw [HN.out]; omega)) (by omega)) (Vq.fr hob.2 (by omega))
    have hdt : L.getD t [] = d := by
     rw [List.getD_eq_getElem?_getD, hd]
     rfl
    have e3 : growTo L (t + 1) = growTo L t * (1 + ownQ d) := by
     show growTo L t * (1 + ownQ (L.getD t [])) = _
     rw [hdt]
    have e4 : benTo L (t + 1) = benTo L t * (1 + benQ d) := by
     show benTo L t * (1 + benQ (L.getD t [])) = _
     rw [hdt]
    rw [← e3] at K3
    rw [← e4] at K4
    have HRD := Lib.hid hrow
    have hs5 := HLB.out.st
    unfold FR at KR K1 K2 K3 K4
    unfold FV at K1 K2 K3 K4
    rw [HON.out.1, HON.out.2] at K1 K2
    clear hd hb hcell hrow hda hdl hfew eo eb hob hq hdt e3 e4 htn
    generalize frN (ownQ d) = rn at *
    generalize frD (ownQ d) = rd at *
    generalize frN (benQ d) = bn at *
    generalize frD (benQ d) = bd at *
    generalize frN (1 + ownQ d) = rn1 at *
    generalize frD (1 + ownQ d) = rd1 at *
    generalize frN (1 + benQ d) = bn1 at *
    generalize frD (1 + benQ d) = bd1 at *
    obtain ⟨un, hun⟩ : ∃ y, frN (growTo L t) = y := ⟨_, rfl⟩
    obtain ⟨ud, hud⟩ : ∃ y, frD (growTo L t) = y := ⟨_, rfl⟩
    obtain ⟨vn, hvn⟩ : ∃ y, frN (benTo L t) = y := ⟨_, rfl⟩
    obtain ⟨vd, hvd⟩ : ∃ y, frD (benTo L t) = y := ⟨_, rfl⟩
    obtain ⟨un', hun'⟩ : ∃ y, frN (growTo L (t + 1)) = y := ⟨_, rfl⟩
    obtain ⟨ud', hud'⟩ : ∃ y, frD (growTo L (t + 1)) = y := ⟨_, rfl⟩
    obtain ⟨vn', hvn'⟩ : ∃ y, frN (benTo L (t + 1)) = y := ⟨_, rfl⟩
    obtain ⟨vd', hvd'⟩ : ∃ y, frD (benTo L (t + 1)) = y := ⟨_, rfl⟩
    rw [hun, hud, hun', hud'] at K3
    rw [hvn, hvd, hvn', hvd'] at K4
    have HUV : Hid ((frN (growTo L t) = un ∧ frD (growTo L t) = ud) ∧ (frN (benTo L t) = vn ∧ frD (benTo L t) = vd)) := ⟨⟨hun, hud⟩, hvn, hvd⟩
    have HUV' : Hid ((frN (growTo L (t + 1)) = un' ∧ frD (growTo L (t + 1)) = ud') ∧ (frN (benTo L (t + 1)) = vn' ∧ frD (benTo L (t + 1)) = vd')) := ⟨⟨hun', hud'⟩, hvn', hvd'⟩
    clear hun hud hvn hvd hun' hud' hvn' hvd'
    have q6 : ((0 : Int) != 0) = false := rfl
    go_wp2_with fail
    refine KR.step hs5 (HRD.out.on hs5.2) ?_
    intro w5 hs6 hb5
    have HL5 := Lib.hid (HLB.out.up hb5)
    clear xk hs5 hb5 HLB KR hs6
    go_wp2_with fail
    have hbb : Below w5.heap.size w5 ((w5.alloc (.cells #[.string rn, .string rd] 34)).alloc (.cells #[.string bn, .string bd] 34)) := ((Below.refl _ _).alloc (Nat.le_refl _) _).alloc (by simp) _
    have HL6 := Lib.hid (HL5.out.up hbb)
    have X10 := (Bx.new w5 #[.string rn, .string rd] 34).alloc (.cells #[.string bn, .string bd] 34)
    have X11 := Bx.new1 w5 (.cells #[.string rn, .string rd] 34) #[.string bn, .string bd] 34
    clear hbb HL5
    generalize (w5.alloc (.cells #[.string rn, .string rd] 34)).alloc (.cells #[.string bn, .string bd] 34) = W6 at *
    have y5 := HL6.out.x5
    have y6 := HL6.out.x6
    have y7 := HL6.out.x7
    rw [HON.out.1, HON.out.2] at y5
    rw [HUV.out.1.1, HUV.out.1.2] at y6
    rw [HUV.out.2.1, HUV.out.2.2] at y7
    have k0 := y5.bx.keeps (i := 0) (v := .string on) rfl
    have k1 := y5.bx.keeps (i := 1) (v := .string od) rfl
    have k2 := y6.bx.keeps (i := 0) (v := .string un) rfl
    have k3 := y6.bx.keeps (i := 1) (v := .string ud) rfl
    have k4 := y7.bx.keeps (i := 0) (v := .string vn) rfl
    have k5 := y7.bx.keeps (i := 1) (v := .string vd) rfl
    have k6 := X10.keeps (i := 0) (v := .string rn) rfl
    have k7 := X10.keeps (i := 1) (v := .string rd) rfl
    have k8 := X11.keeps (i := 0) (v := .string bn) rfl
    have k9 := X11.keeps (i := 1) (v := .string bd) rfl
    have hs7 := HL6.out.st
    have hne := HL6.out.ne
    have hn1 : ¬ b6 = b7 := hne.1
    have hn2 : ¬ b7 = b6 := fun e => hne.1 e.symm
    clear X10 X11 y5 hne
    refine wp_region_kept_tail 10 (by kernel_rfl) (by kernel_rfl) ?_
    simp only [List.take_succ_cons, List.take_zero, List.drop_succ_cons, List.drop_zero]
    repeat (go_big_quiet_step (first | (with_reducible exact K1.kept hs7) | (with_reducible exact K2.kept hs7) | (with_reducible exact K3.kept hs7) | (with_reducible exact K4.kept hs7)))
    refine wpQuiet_nil ?_
    rintro _ ⟨u, rfl⟩
    have yu := y6.bx.kept u
    have yv := y7.bx.kept u
    have g0 := yu.cell (i := 0) (v := .string un) rfl
    have g1 := yu.cell (i := 1) (v := .string ud) rfl
    have g2 := yv.cell (i := 0) (v := .string vn) rfl
    have g3 := yv.cell (i := 1) (v := .string vd) rfl
    have z0 := yu.frozen 0
    have z1 := yu.frozen 1
    have z2 := yv.frozen 0
    have z3 := yv.frozen 1
    have HNX := Lib.hid ((HL6.out.up u.low).set HUV'.out.1 HUV'.out.2)
    clear k0 k1 k2 k3 k4 k5 k6 k7 k8 k9 HL6 hs7 K1 K2 K3 K4 yu yv y6 y7
    go_wp2_with fail
    go_roundw
    case rel => exact ⟨t + 1, by omega, by go_num, HNX⟩
    case measure => simp [intOf]; omega
  ·have e1 : linkR L = [] := if_neg he
   rw [e1] at KL
   have q2 : (linkE L != 0) = true := by simpa using he
   generalize linkE L = le at *
   clear ht hn hm hz hr hb hl hp e1 he
   go_enter Tryz.func4, Tryz.ntmps4
   go_wp2_with fail
   refine KG.step hs HR.out ?_
   intro w1 hs _
   go_wp2_with fail
   refine (KL.out _ hs.gl (HR.out.on hs.2)).mono ?_
   rintro e w2 ⟨v1, rfl, ho1, hb2⟩
   obtain ⟨A1, c1, hv1, hr1⟩ := ho1.row
   subst hv1
   replace hs := hs.on hb2
   clear ho1 hr1 hb2
   go_wp2_with fail
   refine AW.step hs ?_
   intro wa hs _
   go_wp2_with fail
   go_ret
   exact ⟨rfl, hs.2⟩
end Go.Proofs.YticfdeaphiifeaaGreatDoor
