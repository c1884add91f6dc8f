/- Attribution: what the statements examine. Conditions: lengths that a machine has. -/
import Derived.Test.YticfdeaphiifeaaGreatDoorFd
import Derived.Test.YticfdeaphiifeaaGreatDoorAt4
import Derived.Test.YticfdeaphiifeaaGreatDoorOpS
set_option maxHeartbeats 4000000
set_option maxRecDepth 100000
namespace Go.Proofs.YticfdeaphiifeaaGreatDoor
open Go.RowKit Go.Shelf Dec QQ
def longF (s : FrS) : Bool := decide (12 < s.n.size) || decide (12 < s.d.size)
theorem long_1 (a b : ByteArray) (h1 : a.size ≤ 9223372036854775807) (h2 : b.size ≤ 9223372036854775807) : Ret 86 #[.agg #[.string a, .string b]] (.bool (longF ⟨a, b⟩)) := by
 intro w hg
 have hs := (St.refl hg).alloc (.cells #[.string a, .string b] 34)
 unfold longF
 dsimp only
 by_cases h : 12 < a.size
 ·have q : decide ((12 : Int) < (a.size : Int)) = true := decide_eq_true (by omega)
  have qn : decide (12 < a.size) = true := decide_eq_true h
  rw [qn, Bool.true_or]
  clear h
  go_enter Tryz.func86, Tryz.ntmps86
  go_wp2_with fail
  go_ret
  exact ⟨rfl, hs.2⟩
 ·have q : decide ((12 : Int) < (a.size : Int)) = false := decide_eq_false (by omega)
  have qn : decide (12 < a.size) = false := decide_eq_false h
  have e : decide ((12 : Int) < (b.size : Int)) = decide (12 < b.size) := decide_eq_decide.2 (by omega)
  rw [qn, Bool.false_or]
  clear h
  generalize decide (12 < b.size) = t at *
  go_enter Tryz.func86, Tryz.ntmps86
  go_wp2_with fail
  go_ret
  exact ⟨rfl, hs.2⟩
theorem long_any {A : Option Addr} {n c : Nat} {l : List FrS} (hn : l.length = n) (hm : n ≤ 4611686018427387904) (hl : ∀ s ∈ l, s.n.size ≤ 9223372036854775807 ∧ s.d.size ≤ 9223372036854775807) : RetI (fun w => Row w A (flatG fcells l)) 35 #[.slice A n c] (.bool (l.any longF)) := by
 intro w hg hi
 have hs := St.refl hg
 have K := containsF (A := A) (c := c) (l := l) (f := 86) (cap := #[]) (p := longF) stays_true hn hm (fun _ _ => rfl) (fun s hs => (long_1 s.n s.d (hl s hs).1 (hl s hs).2).i _)
 generalize l.any longF = v at *
 have Hi := Lib.hid hi
 clear hn hi hl
 go_enter Tryz.func35, Tryz.ntmps35
 go_wp2_with fail
 refine K.step hs ⟨Hi.out, trivial⟩ ?_
 intro w1 hs _
 go_wp2_with fail
 go_ret
 exact ⟨rfl, hs.2⟩
def secBig (s : SecS) : Bool := decide (20 < s.nm.size) || ([⟨s.wn, s.wd⟩, ⟨s.rn, s.rd⟩, ⟨s.vn, s.vd⟩, ⟨s.bn, s.bd⟩] : List FrS).any longF
theorem great_1 (s : SecS) (h : s.big) : Ret 34 #[secV s] (.bool (secBig s)) := by
 intro w hg
 unfold secBig SecS.big at *
 obtain ⟨f0, f1, f2, f3, f4, f5, f6, f7, f8⟩ := s
 dsimp only [secV] at h ⊢
 have hs := (St.refl hg).alloc (.cells #[.string f0, .string f1, .string f2, .string f3, .string f4, .string f5, .string f6, .string f7, .string f8] 73)
 by_cases h20 : 20 < f0.size
 ·have q : decide ((20 : Int) < (f0.size : Int)) = true := decide_eq_true (by omega)
  have qn : decide (20 < f0.size) = true := decide_eq_true h20
  rw [qn, Bool.true_or]
  clear h h20
  go_enter Tryz.func34, Tryz.ntmps34
  go_wp2_with fail
  go_ret
  exact ⟨rfl, hs.2⟩
 ·have q : decide ((20 : Int) < (f0.size : Int)) = false := decide_eq_false (by omega)
  have qn : decide (20 < f0.size) = false := decide_eq_false h20
  have K := long_any (A := some ⟨w.heap.size + 1, 0, none⟩) (n := 4) (c := 4) (l := [⟨f1, f2⟩, ⟨f3, f4⟩, ⟨f5, f6⟩, ⟨f7, f8⟩]) rfl (by omega) (by intro s hs; simp at hs; rcases hs with rfl | rfl | rfl | rfl <;> (constructor <;> (dsimp only; omega)))
  have HR : Hid (Row ((w.alloc (.cells #[.string f0, .string f1, .string f2, .string f3, .string f4, .string f5, .string f6, .string f7, .string f8] 73)).alloc (.cells #[.string f1, .string f2, .string f3, .string f4, .string f5, .string f6, .string f7, .string f8] 34)) (some ⟨w.heap.size + 1, 0, none⟩) (flatG fcells [⟨f1, f2⟩, ⟨f3, f4⟩, ⟨f5, f6⟩, ⟨f7, f8⟩])) := Row.of (Bx.new1 w (.cells #[.string f0, .string f1, .string f2, .string f3, .string f4, .string f5, .string f6, .string f7, .string f8] 73) #[.string f1, .string f2, .string f3, .string f4, .string f5, .string f6, .string f7, .string f8] 34)
  rw [qn, Bool.false_or]
  generalize ([⟨f1, f2⟩, ⟨f3, f4⟩, ⟨f5, f6⟩, ⟨f7, f8⟩] : List FrS).any longF = t at *
  clear h h20
  go_enter Tryz.func34, Tryz.ntmps34
  go_wp2_with fail
  refine K.step (hs.alloc _) HR.out ?_
  intro w1 hs _
  go_wp2_with fail
  go_ret
  exact ⟨rfl, hs.2⟩
def greatB (l : List SecS) : Bool := if (5 < l.length ∧ l.length ≤ 32) ∨ 34 < l.length then true else l.any secBig
theorem great48 {A : Option Addr} {n c : Nat} {l : List SecS} (hn : l.length = n) (hm : n ≤ 9223372036854775807) (hz : ∀ s ∈ l, s.big) :
  RetI (fun w => Row w A (flatG scells l)) 8 #[.slice A n c] (.bool (greatB l)) := by
 intro w hg hi
 have hs := St.refl hg
 have Hi := Lib.hid hi
 unfold greatB
 rw [hn]
 by_cases h6 : 5 < n
 ·have q6 : decide ((5 : Int) < (n : Int)) = true := decide_eq_true (by omega)
  have q6n : decide (5 < n) = true := decide_eq_true h6
  by_cases h4 : n ≤ 32
  ·have q4 : decide ((n : Int) ≤ 32) = true := decide_eq_true (by omega)
   have q4n : decide (n ≤ 32) = true := decide_eq_true h4
   rw [if_pos (.inl ⟨h6, h4⟩)]
   clear hi hn hz
   go_enter Tryz.func8, Tryz.ntmps8
   go_wp2_with fail
   go_ret
   exact ⟨rfl, hs.2⟩
  ·have q4 : decide ((n : Int) ≤ 32) = false := decide_eq_false (by omega)
   have q4n : decide (n ≤ 32) = false := decide_eq_false h4
   by_cases h2 : 34 < n
   ·have q2 : decide ((34 : Int) < (n : Int)) = true := decide_eq_true (by omega)
    have q2n : decide (34 < n) = true := decide_eq_true h2
    rw [if_pos (.inr h2)]
    clear hi hn hz
    go_enter Tryz.func8, Tryz.ntmps8
    go_wp2_with fail
    go_ret
    exact ⟨rfl, hs.2⟩
   ·have q2 : decide ((34 : Int) < (n : Int)) = false := decide_eq_false (by omega)
    have q2n : decide (34 < n) = false := decide_eq_false h2
    rw [if_neg (by omega)]
    have K := containsS (A := A) (c := c) (l := l) (f := 34) (cap := #[]) (p := secBig) stays_true hn (by omega) (fun _ _ => rfl) (fun s hs => (great_1 s (hz s hs)).i _)
    generalize l.any secBig = v at *
    clear hi hn hz
    go_enter Tryz.func8, Tryz.ntmps8
    go_wp2_with fail
    refine K.step hs ⟨Hi.out, trivial⟩ ?_
    intro w1 hs _
    go_wp2_with fail
    go_ret
    exact ⟨rfl, hs.2⟩
 ·have q6 : decide ((5 : Int) < (n : Int)) = false := decide_eq_false (by omega)
  have q6n : decide (5 < n) = false := decide_eq_false h6
  have q2 : decide ((34 : Int) < (n : Int)) = false := decide_eq_false (by omega)
  have q2n : decide (34 < n) = false := decide_eq_false (by omega)
  rw [if_neg (by omega)]
  have K := containsS (A := A) (c := c) (l := l) (f := 34) (cap := #[]) (p := secBig) stays_true hn (by omega) (fun _ _ => rfl) (fun s hs => (great_1 s (hz s hs)).i _)
  generalize l.any secBig = v at *
  clear hi hn hz
  go_enter Tryz.func8, Tryz.ntmps8
  go_wp2_with fail
  refine K.step hs ⟨Hi.out, trivial⟩ ?_
  intro w1 hs _
  go_wp2_with fail
  go_ret
  exact ⟨rfl, hs.2⟩
theorem greatB_not {l : List SecS} (h : greatB l = false) : 32 < l.length ∨ FewS 12 l := by
 unfold greatB at h
 by_cases hc : (5 < l.length ∧ l.length ≤ 32) ∨ 34 < l.length
 ·rw [if_pos hc] at h; cases h
 ·rw [if_neg hc] at h
  by_cases h5 : l.length ≤ 5
  ·refine .inr ⟨h5, by decide, by decide, fun s hs => ?_⟩
   have hb := List.any_eq_false.1 h s hs
   unfold secBig longF at hb
   simp at hb
   unfold SecS.le
   omega
  ·exact .inl (by omega)
def prtBig (s : PrtS) : Bool := decide (20 < s.nm.size) || ([⟨s.an, s.ad⟩, ⟨s.sn, s.sd⟩, ⟨s.jn, s.jd⟩] : List FrS).any longF
def manyB (l : List PrtS) : Bool := if (5 < l.length ∧ l.length ≤ 32) ∨ 34 < l.length then true else l.any prtBig
theorem manyB_not {l : List PrtS} (h : manyB l = false) : 32 < l.length ∨ FewP 12 l := by
 unfold manyB at h
 by_cases hc : (5 < l.length ∧ l.length ≤ 32) ∨ 34 < l.length
 ·rw [if_pos hc] at h; cases h
 ·rw [if_neg hc] at h
  by_cases h5 : l.length ≤ 5
  ·refine .inr ⟨h5, by decide, by decide, fun s hs => ?_⟩
   have hb := List.any_eq_false.1 h s hs
   unfold prtBig longF at hb
   simp at hb
   unfold PrtS.le
   omega
  ·exact .inl (by omega)
end Go.Proofs.YticfdeaphiifeaaGreatDoor
