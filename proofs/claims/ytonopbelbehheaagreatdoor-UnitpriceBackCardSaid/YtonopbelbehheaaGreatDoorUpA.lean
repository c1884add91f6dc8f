/- Unit prices: contracts of check, issue, cancel. Conditions: strings of up to a hundred thousand bytes. -/
import Derived.Test.YtonopbelbehheaaGreatDoorSl
namespace Go.Proofs.YtonopbelbehheaaGreatDoor
open Go.RowKit Go.Shelf Dec QQ

theorem DivA {a b : ByteArray} {x y : Int} (h1 : Vs a x) (h2 : Vs b y) : Ret 17 #[.string a, .string b] (.tuple #[.string (divR x y).1, .string (divR x y).2.1, .int .i64 (divR x y).2.2]) := fun w hg => DivV h1 h2 w hg
/-- why numbers are not valid -/
def ucheck (l : List ByteArray) : Int := if l.any (fun s => chk s != 0) then 1 else if l.any (fun s => decide (valS s < 0)) then 2 else 0
def nil : ByteArray := ⟨#[]⟩
def isNil (s : ByteArray) : Bool := s.toList == []
theorem isNil_iff {s : ByteArray} : isNil s = true ↔ s = nil := by
  unfold isNil nil
  rw [toList_bytes, beq_iff_eq]
  constructor
  · intro h
    have : bytes s = bytes ⟨#[]⟩ := h
    exact bytes_inj this
  · intro h; rw [h]; rfl
set_option maxRecDepth 100000 in
set_option maxHeartbeats 4000000 in
theorem ucheck1 {s : ByteArray} (h : s.size ≤ 1000000) : Ret 149 #[.string s] (.bool (chk s != 0)) := by
  intro w hg
  have hs := St.refl hg
  have K := ChkR h
  generalize chk s = c at *
  go_enter Tryz.func149, Tryz.ntmps149
  go_wp2_with fail
  refine K.step hs ?_
  intro w1 hs _
  go_wp2_with fail
  go_ret
  exact ⟨rfl, hs.2⟩
set_option maxRecDepth 100000 in
set_option maxHeartbeats 4000000 in
theorem ucheck2 {s : ByteArray} (h : s.size ≤ 1000000) : Ret 151 #[.string s] (.bool (decide (valS s < 0))) := by
  intro w hg
  have hs := St.refl hg
  have K := CmpR (Vs.arg h) Vs.nil
  have q := cmpI_lt (x := valS s) (y := 0)
  generalize decide (valS s < 0) = v at *
  generalize cmpI (valS s) 0 = c at *
  go_enter Tryz.func151, Tryz.ntmps151
  go_wp2_with fail
  refine K.step hs ?_
  intro w1 hs _
  go_wp2_with fail
  go_ret
  exact ⟨rfl, hs.2⟩
set_option maxRecDepth 100000 in
set_option maxHeartbeats 4000000 in
theorem ucheck_any {A : Option Addr} {n c : Nat} {l : List ByteArray} (hn : l.length = n) (hm : n ≤ 4611686018427387904) (hl : ∀ s ∈ l, s.size ≤ 1000000) :
    RetI (fun w => Row w A (l.map sv)) 91 #[.slice A n c] (.int .i64 (ucheck l)) := by
  intro w hg hi
  have hs := St.refl hg
  have K1 := contains_any (A := A) (c := c) (cap := #[]) (f := 149) (I := fun _ => True) (fun _ _ _ _ => trivial) hn hm (fun _ _ => rfl) (fun s hs => (ucheck1 (hl s hs)).i _)
  have K2 := contains_any (A := A) (c := c) (cap := #[]) (f := 151) (I := fun _ => True) (fun _ _ _ _ => trivial) hn hm (fun _ _ => rfl) (fun s hs => (ucheck2 (hl s hs)).i _)
  have e : ucheck l = if l.any (fun s => chk s != 0) then 1 else if l.any (fun s => decide (valS s < 0)) then 2 else 0 := rfl
  rw [e]
  clear e hl
  generalize l.any (fun s => chk s != 0) = v1 at *
  generalize l.any (fun s => decide (valS s < 0)) = v2 at *
  have Hi := Lib.hid hi
  clear hi hn
  cases v1 with
  | true =>
    go_enter Tryz.func91, Tryz.ntmps91
    go_wp2_with fail
    refine K1.step hs ⟨Hi.out, trivial⟩ ?_
    intro w1 hs hb
    go_wp2_with fail
    go_ret
    exact ⟨rfl, hs.2⟩
  | false =>
    cases v2
    all_goals
      go_enter Tryz.func91, Tryz.ntmps91
      go_wp2_with fail
      refine K1.step hs ⟨Hi.out, trivial⟩ ?_
      intro w1 hs hb
      go_wp2_with fail
      refine K2.step hs ⟨Hi.out.on hb, trivial⟩ ?_
      intro w1 hs hb
      go_wp2_with fail
      go_ret
      exact ⟨rfl, hs.2⟩
/-- the units for an amount -/
def issueR (v u p : ByteArray) : ByteArray × Int := if isNil p || isNil u then (p, 0) else ((divR (valS p * valS u) (valS v)).1, (divR (valS p * valS u) (valS v)).2.2)
/-- the amount for units -/
def cancelR (v u b : ByteArray) : ByteArray × Int := if decide (cmpI (valS b) (valS u) > 0) then (nil, 15) else if isNil b then (nil, 0) else ((divR (valS v * valS b) (valS u)).1, (divR (valS v * valS b) (valS u)).2.2)
theorem vmul {a b : ByteArray} (h1 : a.size ≤ 100000) (h2 : b.size ≤ 100000) : Vs (canS (valS a * valS b)) (valS a * valS b) := Vs.mul (k := 100000) (m := 100000) (Fit.val h1) (Fit.val h2) (by omega)
set_option maxRecDepth 100000 in
set_option maxHeartbeats 4000000 in
theorem issue_any {v u p : ByteArray} (h1 : v.size ≤ 100000) (h2 : u.size ≤ 100000) (h3 : p.size ≤ 100000) :
    Ret 97 #[.agg #[.string v, .string u], .string p] (.tuple #[.string (issueR v u p).1, .int .i64 (issueR v u p).2]) := by
  intro w hg
  have K1 := MulR (Vs.arg (s := p) (by omega)) (Vs.arg (s := u) (by omega))
  have K2 := DivA (vmul h3 h2) (Vs.arg (s := v) (by omega))
  unfold issueR
  generalize (divR (valS p * valS u) (valS v)).1 = q1 at *
  generalize (divR (valS p * valS u) (valS v)).2.1 = q2 at *
  generalize (divR (valS p * valS u) (valS v)).2.2 = q3 at *
  generalize canS (valS p * valS u) = m at *
  have hs := (St.refl hg).alloc (.cells #[.string v, .string u] 115)
  have B := Bx.new w #[.string v, .string u] 115
  have x0 := B.keeps (i := 0) (v := .string v) rfl
  have x1 := B.keeps (i := 1) (v := .string u) rfl
  obtain ⟨t1, ht1⟩ : ∃ t, isNil p = t := ⟨_, rfl⟩
  obtain ⟨t2, ht2⟩ : ∃ t, isNil u = t := ⟨_, rfl⟩
  rw [ht1, ht2]
  unfold isNil at ht1 ht2
  cases t1 with
  | true =>
    go_enter Tryz.func97, Tryz.ntmps97
    go_wp2_with fail
    go_ret2
    exact ⟨rfl, hs.2⟩
  | false =>
    cases t2 with
    | true =>
      go_enter Tryz.func97, Tryz.ntmps97
      go_wp2_with fail
      go_ret2
      exact ⟨rfl, hs.2⟩
    | false =>
      go_enter Tryz.func97, Tryz.ntmps97
      go_wp2_with fail
      refine wp_region_kept (by kernel_rfl) (by kernel_rfl) ?_
      repeat (go_big_quiet_step (first | (with_reducible exact K1.kept hs) | (with_reducible exact K2.kept hs)))
      refine wpQuiet_nil ?_
      rintro _ ⟨u1, rfl⟩
      go_wp2_with fail
      go_ret2
      exact ⟨rfl, (hs.kept u1).2⟩
set_option maxRecDepth 100000 in
set_option maxHeartbeats 4000000 in
theorem cancel_any {v u b : ByteArray} (h1 : v.size ≤ 100000) (h2 : u.size ≤ 100000) (h3 : b.size ≤ 100000) :
    Ret 92 #[.agg #[.string v, .string u], .string b] (.tuple #[.string (cancelR v u b).1, .int .i64 (cancelR v u b).2]) := by
  intro w hg
  have K0 := CmpR (Vs.arg (s := b) (by omega)) (Vs.arg (s := u) (by omega))
  have K1 := MulR (Vs.arg (s := v) (by omega)) (Vs.arg (s := b) (by omega))
  have K2 := DivA (vmul h1 h3) (Vs.arg (s := u) (by omega))
  unfold cancelR nil
  generalize (divR (valS v * valS b) (valS u)).1 = q1 at *
  generalize (divR (valS v * valS b) (valS u)).2.1 = q2 at *
  generalize (divR (valS v * valS b) (valS u)).2.2 = q3 at *
  generalize canS (valS v * valS b) = m at *
  generalize cmpI (valS b) (valS u) = cc at *
  have hs := St.refl hg
  obtain ⟨t1, ht1⟩ : ∃ t, decide (cc > 0) = t := ⟨_, rfl⟩
  obtain ⟨t2, ht2⟩ : ∃ t, isNil b = t := ⟨_, rfl⟩
  rw [ht1, ht2]
  unfold isNil at ht2
  have q : decide (0 < cc) = t1 := ht1
  clear ht1
  cases t1 with
  | true =>
    go_enter Tryz.func92, Tryz.ntmps92
    go_wp2_with fail
    refine K0.step (hs.alloc _) ?_
    intro w1 hs _
    go_wp2_with fail
    go_ret2
    exact ⟨rfl, hs.2⟩
  | false =>
    cases t2 with
    | true =>
      go_enter Tryz.func92, Tryz.ntmps92
      go_wp2_with fail
      refine K0.step (hs.alloc _) ?_
      intro w1 hs _
      go_wp2_with fail
      go_ret2
      exact ⟨rfl, hs.2⟩
    | false =>
      go_enter Tryz.func92, Tryz.ntmps92
      go_wp2_with fail
      refine K0.step (hs.alloc _) ?_
      intro w1 hs hb
      have B := (Bx.new w #[.string v, .string u] 115).on hb
      have x0 := B.keeps (i := 0) (v := .string v) rfl
      have x1 := B.keeps (i := 1) (v := .string u) rfl
      go_wp2_with fail
      refine wp_region_kept (by kernel_rfl) (by kernel_rfl) ?_
      repeat (go_big_quiet_step (first | (with_reducible exact K1.kept hs) | (with_reducible exact K2.kept hs)))
      refine wpQuiet_nil ?_
      rintro _ ⟨u1, rfl⟩
      go_wp2_with fail
      go_ret2
      exact ⟨rfl, (hs.kept u1).2⟩
end Go.Proofs.YtonopbelbehheaaGreatDoor
