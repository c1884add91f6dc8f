/- Fees: the opposite of a fraction, nearness, long numbers. Conditions: numbers of bounded length. -/
import Derived.Test.YticfdeaphiifeaaGreatDoorDh
import Derived.Test.YticfdeaphiifeaaGreatDoorFpl
import Derived.Test.YticfdeaphiifeaaGreatDoorFd
import Derived.Test.YticfdeaphiifeaaGreatDoorGr
set_option maxHeartbeats 4000000
set_option maxRecDepth 100000
namespace Go.Proofs.YticfdeaphiifeaaGreatDoor
open Go.RowKit Go.Shelf Dec QQ
theorem rlongR {a : ByteArray} (h : a.size ≤ 9223372036854775807) : Ret 57 #[.string a] (.bool (decide (13 < a.size))) := by
 intro w hg
 have hs := St.refl hg
 have q : decide ((13 : Int) < (a.size : Int)) = decide (13 < a.size) := by rw [decide_eq_decide]; omega
 generalize decide (13 < a.size) = v at *
 go_enter Tryz.func57, Tryz.ntmps57
 go_wp2_with fail
 go_ret
 exact ⟨rfl, hs.2⟩
theorem long45_any {A : Option Addr} {n c : Nat} {l : List ByteArray} (hn : l.length = n) (hm : n ≤ 4611686018427387904) (hl : ∀ s ∈ l, s.size ≤ 9223372036854775807) :
  RetI (fun w => Row w A (l.map sv)) 20 #[.slice A n c] (.bool (l.any fun s => decide (13 < s.size))) := by
 intro w hg hi
 have hs := St.refl hg
 have K1 := contains_any (A := A) (c := c) (cap := #[]) (f := 57) (p := fun s => decide (13 < s.size)) (I := fun _ => True) (fun _ _ _ _ => trivial) hn hm (fun _ _ => rfl) (fun s hs => (rlongR (hl s hs)).i _)
 clear hl
 generalize (l.any fun s => decide (13 < s.size)) = v1 at *
 have Hi := Lib.hid hi
 clear hi hn
 go_enter Tryz.func20, Tryz.ntmps20
 go_wp2_with fail
 refine K1.step hs ⟨Hi.out, trivial⟩ ?_
 intro w1 hs hb
 go_wp2_with fail
 go_ret
 exact ⟨rfl, hs.2⟩
structure FnS where
 n : ByteArray
 d : ByteArray
def fncells (s : FnS) : List Value := [.string s.n, .string s.d]
theorem fncells_len (s : FnS) : (fncells s).length = 2 := rfl
def lngF (s : FnS) : Bool := decide (13 < s.n.size) || decide (13 < s.d.size)
theorem rlongF {A : Option Addr} {n c : Nat} {l : List FnS} (hn : l.length = n) (hm : n ≤ 1000000) (hl : ∀ s ∈ l, s.n.size ≤ 9223372036854775807 ∧ s.d.size ≤ 9223372036854775807) : RetI (fun w => Row w A (flatG fncells l)) 55 #[.slice A n c] (.bool (l.any lngF)) := by
 intro w hg hi
 have hs := St.refl hg
 have HN := Lib.hid hn
 have HI := Lib.hid hi
 have HL := Lib.hid hl
 obtain ⟨v, hv⟩ : ∃ v, l.any lngF = v := ⟨_, rfl⟩
 rw [hv]
 have HV := Lib.hid hv
 clear hn hi hl hv
 go_enter Tryz.func55, Tryz.ntmps55
 go_wp2_with fail
 go_loopw [3] (fun s wr => ∃ k : Nat, k ≤ n ∧ s = .int .i64 (k : Int) ∧ St w wr ∧ Hid (∀ i, i < k → ∀ t, l[i]? = some t → lngF t = false)) (fun s _ => (n - intOf s).toNat)
 case atStart => exact ⟨0, by omega, rfl, hs, fun i h => by omega⟩
 case round =>
  obtain ⟨k, hk, rfl, hs, HP⟩ := hrel
  by_cases hkn : k = n
  ·subst hkn
   have q : decide ((k : Int) < (k : Int)) = false := decide_eq_false (by omega)
   have hv : v = false := by
    rw [← HV.out, List.any_eq_false]
    intro s hs
    obtain ⟨i, hi, rfl⟩ := List.mem_iff_getElem.1 hs
    rw [HP.out i (by have := HN.out; omega) _ (List.getElem?_eq_getElem hi)]
    decide
   subst hv
   go_wp2_with fail
   go_ret
   exact ⟨rfl, hs.2⟩
  ·have hkl : k < n := by omega
   have q : decide ((k : Int) < (n : Int)) = true := decide_eq_true (by omega)
   have qn : decide (k < n) = true := decide_eq_true hkl
   obtain ⟨d, hd⟩ : ∃ d, l[k]? = some d := ⟨l[k]'(by rw [HN.out]; exact hkl), by simp⟩
   obtain ⟨b, o, hA, hb, hcells⟩ := row_at (cs := fncells) (m := 2) fncells_len (by decide) (HI.out.on hs.2) hd
   subst hA
   have hz := HL.out d (List.mem_of_getElem? hd)
   have HD := Lib.hid hd
   clear hd hkn
   obtain ⟨f0, f1⟩ := d
   have x0 : wr.cell? ⟨b, o + k * 2, none⟩ = some (.string f0) := hcells 0 _ rfl
   have x1 : wr.cell? ⟨b, o + k * 2 + 1, none⟩ = some (.string f1) := hcells 1 _ rfl
   clear hcells
   dsimp only at hz
   obtain ⟨hz0, hz1⟩ := hz
   obtain ⟨t1, q1⟩ : ∃ t, decide (13 < f0.size) = t := ⟨_, rfl⟩
   obtain ⟨t2, q2⟩ : ∃ t, decide (13 < f1.size) = t := ⟨_, rfl⟩
   have q1i : decide ((13 : Int) < (f0.size : Int)) = t1 := by rw [← q1, decide_eq_decide]; omega
   have q2i : decide ((13 : Int) < (f1.size : Int)) = t2 := by rw [← q2, decide_eq_decide]; omega
   have HLN : Hid (lngF ⟨f0, f1⟩ = (t1 || t2)) := by
    show (decide (13 < f0.size) || decide (13 < f1.size)) = _
    rw [q1, q2]
   clear q1 q2
   have yes : (t1 || t2) = true → v = true := fun h => by
    rw [← HV.out, List.any_eq_true]
    exact ⟨_, List.mem_of_getElem? HD.out, by rw [HLN.out]; exact h⟩
   cases t1 with
   | true =>
    obtain rfl : v = true := yes rfl
    clear yes
    go_wp2_with fail
    go_ret
    exact ⟨rfl, hs.2⟩
   | false =>
    cases t2 with
    | true =>
     obtain rfl : v = true := yes rfl
     clear yes
     go_wp2_with fail
     go_ret
     exact ⟨rfl, hs.2⟩
    | false =>
     clear yes
     go_wp2_with fail
     go_roundw
     case rel =>
      refine ⟨k + 1, by omega, by go_num, hs, fun i hi t ht => ?_⟩
      by_cases e : i = k
      ·subst e
       rw [HD.out] at ht
       cases ht
       exact HLN.out
      ·exact HP.out i (by omega) t ht
     case measure => simp [intOf]; omega
def lngT (T : TermS) : Bool := lngF ⟨T.mn, T.md⟩ || lngF ⟨T.pn, T.pd⟩
def TermS.big (T : TermS) : Prop := T.mn.size ≤ 9223372036854775807 ∧ T.md.size ≤ 9223372036854775807 ∧ T.pn.size ≤ 9223372036854775807 ∧ T.pd.size ≤ 9223372036854775807
theorem lngF_false {s : FnS} (h : lngF s = false) : s.n.size ≤ 13 ∧ s.d.size ≤ 13 := by
 unfold lngF at h
 simp at h
 exact h
theorem lngT_false {T : TermS} (h : lngT T = false) : T.le 13 := by
 unfold lngT at h
 rw [Bool.or_eq_false_iff] at h
 have h1 := lngF_false h.1
 have h2 := lngF_false h.2
 exact ⟨h1.1, h1.2, h2.1, h2.2⟩
theorem longT_any {A : Option Addr} {n c : Nat} {l : List FnS} {T : TermS} (hT : T.big) (hn : l.length = n) (hm : n ≤ 1000000) (hl : ∀ s ∈ l, s.n.size ≤ 9223372036854775807 ∧ s.d.size ≤ 9223372036854775807) :
  RetI (fun w => Row w A (flatG fncells l)) 19 #[tval T, .slice A n c] (.bool (lngT T || l.any lngF)) := by
 intro w hg hi
 obtain ⟨mn, md, pn, pd, ct⟩ := T
 unfold tval
 dsimp only
 have hs := ((St.refl hg).alloc (.cells #[.string mn, .string md, .string pn, .string pd, .int .i64 ct] 44)).alloc (.cells #[.string mn, .string md, .string pn, .string pd] 34)
 have XS := Bx.new1 w (.cells #[.string mn, .string md, .string pn, .string pd, .int .i64 ct] 44) #[.string mn, .string md, .string pn, .string pd] 34
 have a0 := (Bx.new w #[.string mn, .string md, .string pn, .string pd, .int .i64 ct] 44).cell (i := 0) (v := .string mn) rfl
 have a1 := (Bx.new w #[.string mn, .string md, .string pn, .string pd, .int .i64 ct] 44).cell (i := 1) (v := .string md) rfl
 have a2 := (Bx.new w #[.string mn, .string md, .string pn, .string pd, .int .i64 ct] 44).cell (i := 2) (v := .string pn) rfl
 have a3 := (Bx.new w #[.string mn, .string md, .string pn, .string pd, .int .i64 ct] 44).cell (i := 3) (v := .string pd) rfl
 have KL := rlongF (A := some ⟨w.heap.size + 1, 0, none⟩) (n := 2) (c := 2) (l := [⟨mn, md⟩, ⟨pn, pd⟩]) rfl (by decide) (by
  intro s hs
  simp at hs
  rcases hs with rfl | rfl
  ·exact ⟨hT.1, hT.2.1⟩
  ·exact ⟨hT.2.2.1, hT.2.2.2⟩)
 have KA := rlongF (A := A) (c := c) hn hm hl
 have e : [(⟨mn, md⟩ : FnS), ⟨pn, pd⟩].any lngF = lngT ⟨mn, md, pn, pd, ct⟩ := by
  show (lngF ⟨mn, md⟩ || (lngF ⟨pn, pd⟩ || false)) = _
  rw [Bool.or_false]
  rfl
 rw [e] at KL
 have HR : Hid (Row ((w.alloc (.cells #[.string mn, .string md, .string pn, .string pd, .int .i64 ct] 44)).alloc (.cells #[.string mn, .string md, .string pn, .string pd] 34)) (some ⟨w.heap.size + 1, 0, none⟩) (flatG fncells [⟨mn, md⟩, ⟨pn, pd⟩])) := Row.of XS
 have HI := Lib.hid hi
 clear hi hl hn e XS hT
 generalize lngT ⟨mn, md, pn, pd, ct⟩ = t1 at *
 generalize l.any lngF = t2 at *
 cases t1
 all_goals
  go_enter Tryz.func19, Tryz.ntmps19
  go_wp2_with fail
  refine KL.step hs HR.out ?_
  intro w1 hs hb
  clear a0 a1 a2 a3
  go_wp2_with fail
  try
   refine KA.step hs (HI.out.on hs.2) ?_
   intro w2 hs hb
   go_wp2_with fail
  go_ret
  exact ⟨by rfl, hs.2⟩
end Go.Proofs.YticfdeaphiifeaaGreatDoor
