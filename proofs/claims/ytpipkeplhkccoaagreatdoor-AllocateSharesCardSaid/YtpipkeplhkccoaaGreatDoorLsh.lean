/- Walk of AllocateShares. Condition: sizes that strings and slices can have. -/
import Derived.Test.YtpipkeplhkccoaaGreatDoorAw4
import Derived.Test.YtpipkeplhkccoaaGreatDoorLw4
import Derived.Test.YtpipkeplhkccoaaGreatDoorWb
import Derived.Test.YtpipkeplhkccoaaGreatDoorR4u
import Derived.Test.YtpipkeplhkccoaaGreatDoorFrz
namespace Go.Proofs.YtpipkeplhkccoaaGreatDoor
open Go.RowKit Go.Shelf SP Dec QQ

/-- a fraction whose numbers are too long for the law -/
def gbig (s : PqS) : Bool := decide (12 < s.n.size) || decide (12 < s.d.size)
theorem gbig_false {s : PqS} : gbig s = false ↔ s.n.size ≤ 12 ∧ s.d.size ≤ 12 := by
  unfold gbig
  rw [Bool.or_eq_false_iff, decide_eq_false_iff_not, decide_eq_false_iff_not]
  omega
set_option maxRecDepth 100000 in
set_option maxHeartbeats 4000000 in
theorem shares1 {s : PqS} (h1 : s.n.size ≤ 9223372036854775807) (h2 : s.d.size ≤ 9223372036854775807) : Ret 29 #[pqV s] (.bool (gbig s)) := by
  intro w hg
  obtain ⟨sn, sd⟩ := s
  unfold gbig pqV
  dsimp only at h1 h2 ⊢
  have hs := (St.refl hg).alloc (.cells #[.string sn, .string sd] 36)
  have X := Bx.new w #[.string sn, .string sd] 36
  have x0 := X.cell (i := 0) (v := .string sn) rfl
  have x1 := X.cell (i := 1) (v := .string sd) rfl
  by_cases a : 12 < sn.size
  · have q : decide ((12 : Int) < (sn.size : Int)) = true := decide_eq_true (by omega)
    have qn : decide (12 < sn.size) = true := decide_eq_true a
    rw [qn, Bool.true_or]
    clear a
    go_enter Tryz.func29, Tryz.ntmps29
    go_wp2_with fail
    go_ret
    exact ⟨rfl, hs.2⟩
  · have q : decide ((12 : Int) < (sn.size : Int)) = false := decide_eq_false (by omega)
    have qn : decide (12 < sn.size) = false := decide_eq_false a
    rw [qn, Bool.false_or]
    clear a
    have q2 : decide ((12 : Int) < (sd.size : Int)) = decide (12 < sd.size) := by rw [decide_eq_decide]; omega
    generalize decide (12 < sd.size) = bb at *
    go_enter Tryz.func29, Tryz.ntmps29
    go_wp2_with fail
    go_ret
    exact ⟨rfl, hs.2⟩
set_option maxRecDepth 100000 in
set_option maxHeartbeats 8000000 in
theorem shares04_any {A : Option Addr} {n c : Nat} {t p a : ByteArray} {l : List PqS} (z0 : t.size ≤ 9223372036854775807) (z1 : p.size ≤ 9223372036854775807) (z2 : a.size ≤ 9223372036854775807) (hn : l.length = n) (hm : n ≤ 9223372036854775807) (hbig : ∀ s ∈ l, s.n.size ≤ 9223372036854775807 ∧ s.d.size ≤ 9223372036854775807) :
    ∀ w, Gl w → Row w A (flatG pqcells l) → Calls Tryz.prog 5 #[.string t, .string p, .string a, .slice A n c] w fun e w' => e = .returned (.bool true) ∧ Below w.heap.size w w' := by
  intro w hg hr
  have hs := St.refl hg
  have HR := Lib.hid hr
  have KA := awake04
  have HR1 : Hid (Row (w.alloc (.cells #[.string t, .string p, .string a] 22)) (some ⟨w.heap.size, 0, none⟩) ([t, p, a].map sv)) := Row.of (Bx.new w #[.string t, .string p, .string a] 22)
  have KG1 := great4_any (A := some ⟨w.heap.size, 0, none⟩) (n := 3) (c := 3) (l := [t, p, a]) rfl (by decide) (by intro s hs; simp at hs; rcases hs with rfl | rfl | rfl <;> assumption)
  clear hr
  cases hG1 : great4 [t, p, a] with
  | true =>
    rw [hG1] at KG1
    clear hG1 hn hbig
    go_enter Tryz.func5, Tryz.ntmps5
    go_wp2_with fail
    refine KG1.step (hs.alloc _) HR1.out ?_
    intro w1 hs hb
    go_wp2_with fail
    refine KA.step hs ?_
    intro w2 hs hb
    go_wp2_with fail
    go_ret
    exact ⟨rfl, hs.2⟩
  | false =>
  rw [hG1] at KG1
  have y0 : t.size ≤ 30 := great4_one hG1 (by simp) t (by simp)
  have y1 : p.size ≤ 30 := great4_one hG1 (by simp) p (by simp)
  have y2 : a.size ≤ 30 := great4_one hG1 (by simp) a (by simp)
  clear hG1 z0 z1 z2
  have K1 := shr_any (t := t) (p := p) (a := a) (k0 := 30) (by decide) y0 y1 y2
  have K2 := rshr_any (t := t) (p := p) (a := a) (k0 := 30) (by decide) y0 y1 y2
  generalize shS t p a = r1 at *
  generalize shR t p a = r2 at *
  generalize shE t p a = r3 at *
  by_cases hbn : 1005 < n
  · have q6 : decide ((6 : Int) < (n : Int)) = true := decide_eq_true (by omega)
    have q1 : decide ((n : Int) ≤ (1000 : Int)) = false := decide_eq_false (by omega)
    have q5 : decide ((1005 : Int) < (n : Int)) = true := decide_eq_true (by omega)
    have q6n : decide (6 < n) = true := decide_eq_true (by omega)
    have q1n : decide (n ≤ 1000) = false := decide_eq_false (by omega)
    have q5n : decide (1005 < n) = true := decide_eq_true (by omega)
    clear hn hbig y0 y1 y2 hbn
    go_enter Tryz.func5, Tryz.ntmps5
    go_wp2_with fail
    refine KG1.step (hs.alloc _) HR1.out ?_
    intro w1 hs hb
    go_wp2_with fail
    refine KA.step hs ?_
    intro w2 hs hb
    go_wp2_with fail
    go_ret
    exact ⟨rfl, hs.2⟩
  have q5 : decide ((1005 : Int) < (n : Int)) = false := decide_eq_false (by omega)
  have q5n : decide (1005 < n) = false := decide_eq_false hbn
  have KC := containsPq (A := A) (c := c) (cap := #[]) (f := 29) (p := gbig) (l := l) (I := fun _ => True) (n := n) (fun _ _ _ _ => trivial) hn (by omega) (fun _ _ => rfl) (fun s hs => (shares1 (hbig s hs).1 (hbig s hs).2).i _)
  clear hbig
  by_cases hlo : n ≤ 6
  · have q6 : decide ((6 : Int) < (n : Int)) = false := decide_eq_false (by omega)
    have q6n : decide (6 < n) = false := decide_eq_false (by omega)
    cases hC : l.any gbig with
    | true =>
      rw [hC] at KC
      clear hC hn y0 y1 y2 hlo
      go_enter Tryz.func5, Tryz.ntmps5
      go_wp2_with fail
      refine KG1.step (hs.alloc _) HR1.out ?_
      intro w1 hs hb
      go_wp2_with fail
      refine KC.step hs ⟨HR.out.on hs.2, trivial⟩ ?_
      intro w2 hs hb
      go_wp2_with fail
      refine KA.step hs ?_
      intro w3 hs hb
      go_wp2_with fail
      go_ret
      exact ⟨rfl, hs.2⟩
    | false =>
      rw [hC] at KC
      have hz : ∀ s ∈ l, s.n.size ≤ 12 ∧ s.d.size ≤ 12 := fun s hs => gbig_false.1 (by simpa using List.any_eq_false.1 hC s hs)
      have KF1 := Lib.hid (fun (u : World) (hg : Gl u) (hr : Row u A (flatG pqcells l)) => frs_any (A := A) (c := c) (n := n) (t := t) (l := l) hn (by omega) (by omega) (by omega) (fun s hs => ⟨Nat.le_trans (hz s hs).1 (by decide), Nat.le_trans (hz s hs).2 (by decide)⟩) u hg hr)
      have KF2 := Lib.hid (fun (u : World) (hg : Gl u) (hr : Row u A (flatG pqcells l)) => rfr_any (A := A) (c := c) (n := n) (t := t) (l := l) hn (by omega) (by omega) (by omega) (fun s hs => ⟨Nat.le_trans (hz s hs).1 (by decide), Nat.le_trans (hz s hs).2 (by decide)⟩) u hg hr)
      have hl0 : (frL t l).length ≤ 4611686018427387904 := Nat.le_trans (frL_le (by omega)) (by decide)
      generalize frL t l = l1 at *
      generalize frE t l = e1 at *
      clear hC hn y0 y1 y2 hz hlo
      go_enter Tryz.func5, Tryz.ntmps5
      go_wp2_with fail
      refine KG1.step (hs.alloc _) HR1.out ?_
      intro w1 hs hb
      go_wp2_with fail
      refine KC.step hs ⟨HR.out.on hs.2, trivial⟩ ?_
      intro w2 hs hb
      go_wp2_with fail
      refine K1.step hs ?_
      intro w3 hs hb
      go_wp2_with fail
      refine K2.step hs ?_
      intro w4 hs hb
      go_wp2_with fail
      refine (KF1.out w4 hs.gl (HR.out.on hs.2)).mono ?_
      rintro e w5 ⟨v, rfl, hov, hb5⟩
      obtain ⟨A1, c1, rfl, hrow⟩ := hov.row
      replace hs := hs.on hb5
      have R1 := Lib.hid hrow
      clear hov hrow hb5
      go_wp2_with fail
      refine (KF2.out w5 hs.gl (HR.out.on hs.2)).mono ?_
      rintro e w6 ⟨v, rfl, hov, hb6⟩
      obtain ⟨A2, c2, rfl, hrow⟩ := hov.row
      replace hs := hs.on hb6
      replace R1 := Lib.hid (R1.out.on hb6)
      have R2 := Lib.hid hrow
      clear hov hrow hb6
      go_wp2_with fail
      refine (equalI (A := A1) (A' := A2) (c := c1) (c' := c2) rfl hl0).step hs ⟨R1.out, R2.out⟩ ?_
      intro w7 hs hb
      go_wp2_with fail
      refine KA.step hs ?_
      intro w8 hs hb
      go_wp2_with fail
      go_ret
      exact ⟨rfl, hs.2⟩
  by_cases hmid : n ≤ 1000
  · have q6 : decide ((6 : Int) < (n : Int)) = true := decide_eq_true (by omega)
    have q1 : decide ((n : Int) ≤ (1000 : Int)) = true := decide_eq_true (by omega)
    have q6n : decide (6 < n) = true := decide_eq_true (by omega)
    have q1n : decide (n ≤ 1000) = true := decide_eq_true hmid
    clear hn y0 y1 y2 hbn hlo hmid KC
    go_enter Tryz.func5, Tryz.ntmps5
    go_wp2_with fail
    refine KG1.step (hs.alloc _) HR1.out ?_
    intro w1 hs hb
    go_wp2_with fail
    refine KA.step hs ?_
    intro w2 hs hb
    go_wp2_with fail
    go_ret
    exact ⟨rfl, hs.2⟩
  · have q6 : decide ((6 : Int) < (n : Int)) = true := decide_eq_true (by omega)
    have q1 : decide ((n : Int) ≤ (1000 : Int)) = false := decide_eq_false (by omega)
    have q6n : decide (6 < n) = true := decide_eq_true (by omega)
    have q1n : decide (n ≤ 1000) = false := decide_eq_false hmid
    cases hC : l.any gbig with
    | true =>
      rw [hC] at KC
      clear hC hn y0 y1 y2 hlo
      go_enter Tryz.func5, Tryz.ntmps5
      go_wp2_with fail
      refine KG1.step (hs.alloc _) HR1.out ?_
      intro w1 hs hb
      go_wp2_with fail
      refine KC.step hs ⟨HR.out.on hs.2, trivial⟩ ?_
      intro w2 hs hb
      go_wp2_with fail
      refine KA.step hs ?_
      intro w3 hs hb
      go_wp2_with fail
      go_ret
      exact ⟨rfl, hs.2⟩
    | false =>
      rw [hC] at KC
      have hz : ∀ s ∈ l, s.n.size ≤ 12 ∧ s.d.size ≤ 12 := fun s hs => gbig_false.1 (by simpa using List.any_eq_false.1 hC s hs)
      have KF1 := Lib.hid (fun (u : World) (hg : Gl u) (hr : Row u A (flatG pqcells l)) => frs_any (A := A) (c := c) (n := n) (t := t) (l := l) hn (by omega) (by omega) (by omega) (fun s hs => ⟨Nat.le_trans (hz s hs).1 (by decide), Nat.le_trans (hz s hs).2 (by decide)⟩) u hg hr)
      have KF2 := Lib.hid (fun (u : World) (hg : Gl u) (hr : Row u A (flatG pqcells l)) => rfr_any (A := A) (c := c) (n := n) (t := t) (l := l) hn (by omega) (by omega) (by omega) (fun s hs => ⟨Nat.le_trans (hz s hs).1 (by decide), Nat.le_trans (hz s hs).2 (by decide)⟩) u hg hr)
      have hl0 : (frL t l).length ≤ 4611686018427387904 := Nat.le_trans (frL_le (by omega)) (by decide)
      generalize frL t l = l1 at *
      generalize frE t l = e1 at *
      clear hC hn y0 y1 y2 hz hlo
      go_enter Tryz.func5, Tryz.ntmps5
      go_wp2_with fail
      refine KG1.step (hs.alloc _) HR1.out ?_
      intro w1 hs hb
      go_wp2_with fail
      refine KC.step hs ⟨HR.out.on hs.2, trivial⟩ ?_
      intro w2 hs hb
      go_wp2_with fail
      refine K1.step hs ?_
      intro w3 hs hb
      go_wp2_with fail
      refine K2.step hs ?_
      intro w4 hs hb
      go_wp2_with fail
      refine (KF1.out w4 hs.gl (HR.out.on hs.2)).mono ?_
      rintro e w5 ⟨v, rfl, hov, hb5⟩
      obtain ⟨A1, c1, rfl, hrow⟩ := hov.row
      replace hs := hs.on hb5
      have R1 := Lib.hid hrow
      clear hov hrow hb5
      go_wp2_with fail
      refine (KF2.out w5 hs.gl (HR.out.on hs.2)).mono ?_
      rintro e w6 ⟨v, rfl, hov, hb6⟩
      obtain ⟨A2, c2, rfl, hrow⟩ := hov.row
      replace hs := hs.on hb6
      replace R1 := Lib.hid (R1.out.on hb6)
      have R2 := Lib.hid hrow
      clear hov hrow hb6
      go_wp2_with fail
      refine (equalI (A := A1) (A' := A2) (c := c1) (c' := c2) rfl hl0).step hs ⟨R1.out, R2.out⟩ ?_
      intro w7 hs hb
      go_wp2_with fail
      refine KA.step hs ?_
      intro w8 hs hb
      go_wp2_with fail
      go_ret
      exact ⟨rfl, hs.2⟩
end Go.Proofs.YtpipkeplhkccoaaGreatDoor
