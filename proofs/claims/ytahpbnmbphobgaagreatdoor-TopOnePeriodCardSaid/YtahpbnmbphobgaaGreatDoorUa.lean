/- Unit prices: contracts of check, issue, cancel. Conditions: strings of up to a hundred thousand bytes. Unit prices: contracts of deal, Issue, Cancel, Deal, Price. Conditions: strings of up to ten thousand bytes. Unit prices: the law's look at sizes and its anchor. Condition: the library's table and error lie as the program's text lays them. -/
import Derived.Test.YtahpbnmbphobgaaGreatDoorOwn
namespace Go.Proofs.YtahpbnmbphobgaaGreatDoor
open Go.RowKit Go.Shelf Dec QQ

/-- why numbers are not valid -/
def ucheck (l : List ByteArray) : Int := if l.any (fun s => chk s != 0) then 1 else if l.any (fun s => decide (valS s < 0)) then 2 else 0
set_option maxRecDepth 100000 in
set_option maxHeartbeats 4000000 in
theorem ucheck1 {s : ByteArray} (h : s.size ≤ 1000000) : Ret 161 #[.string s] (.bool (chk s != 0)) := by
  intro w hg
  have hs := St.refl hg
  have K := ChkR h
  generalize chk s = c at *
  go_enter Tryz.func161, Tryz.ntmps161
  go_wp2_with fail
  refine K.step hs ?_
  intro w1 hs _
  go_wp2_with fail
  go_ret
  exact ⟨rfl, hs.2⟩
set_option maxRecDepth 100000 in
set_option maxHeartbeats 4000000 in
theorem ucheck2 {s : ByteArray} (h : s.size ≤ 1000000) : Ret 162 #[.string s] (.bool (decide (valS s < 0))) := by
  intro w hg
  have hs := St.refl hg
  have K := CmpR (Vs.arg h) Vs.nil
  have q := cmpI_lt (x := valS s) (y := 0)
  generalize decide (valS s < 0) = v at *
  generalize cmpI (valS s) 0 = c at *
  go_enter Tryz.func162, Tryz.ntmps162
  go_wp2_with fail
  refine K.step hs ?_
  intro w1 hs _
  go_wp2_with fail
  go_ret
  exact ⟨rfl, hs.2⟩
set_option maxRecDepth 100000 in
set_option maxHeartbeats 4000000 in
theorem ucheck_any {A : Option Addr} {n c : Nat} {l : List ByteArray} (hn : l.length = n) (hm : n ≤ 4611686018427387904) (hl : ∀ s ∈ l, s.size ≤ 1000000) :
    RetI (fun w => Row w A (l.map sv)) 121 #[.slice A n c] (.int .i64 (ucheck l)) := by
  intro w hg hi
  have hs := St.refl hg
  have K1 := contains_any (A := A) (c := c) (cap := #[]) (f := 161) (I := fun _ => True) (fun _ _ _ _ => trivial) hn hm (fun _ _ => rfl) (fun s hs => (ucheck1 (hl s hs)).i _)
  have K2 := contains_any (A := A) (c := c) (cap := #[]) (f := 162) (I := fun _ => True) (fun _ _ _ _ => trivial) hn hm (fun _ _ => rfl) (fun s hs => (ucheck2 (hl s hs)).i _)
  have e : ucheck l = if l.any (fun s => chk s != 0) then 1 else if l.any (fun s => decide (valS s < 0)) then 2 else 0 := rfl
  rw [e]
  clear e hl
  generalize l.any (fun s => chk s != 0) = v1 at *
  generalize l.any (fun s => decide (valS s < 0)) = v2 at *
  have Hi := Lib.hid hi
  clear hi hn
  cases v1 with
  | true =>
    go_enter Tryz.func121, Tryz.ntmps121
    go_wp2_with fail
    refine K1.step hs ⟨Hi.out, trivial⟩ ?_
    intro w1 hs hb
    go_wp2_with fail
    go_ret
    exact ⟨rfl, hs.2⟩
  | false =>
    cases v2
    all_goals
      go_enter Tryz.func121, Tryz.ntmps121
      go_wp2_with fail
      refine K1.step hs ⟨Hi.out, trivial⟩ ?_
      intro w1 hs hb
      go_wp2_with fail
      refine K2.step hs ⟨Hi.out.on hb, trivial⟩ ?_
      intro w1 hs hb
      go_wp2_with fail
      go_ret
      exact ⟨rfl, hs.2⟩
/-- the units for an amount -/
def issueR (v u p : ByteArray) : ByteArray × Int := if isNil p || isNil u then (p, 0) else ((divR (valS p * valS u) (valS v)).1, (divR (valS p * valS u) (valS v)).2.2)
/-- the amount for units -/
def cancelR (v u b : ByteArray) : ByteArray × Int := if decide (cmpI (valS b) (valS u) > 0) then (nil, 15) else if isNil b then (nil, 0) else ((divR (valS v * valS b) (valS u)).1, (divR (valS v * valS b) (valS u)).2.2)
theorem vmul {a b : ByteArray} (h1 : a.size ≤ 100000) (h2 : b.size ≤ 100000) : Vs (canS (valS a * valS b)) (valS a * valS b) := Vs.mul (k := 100000) (m := 100000) (Fit.val h1) (Fit.val h2) (by omega)
set_option maxRecDepth 100000 in
set_option maxHeartbeats 4000000 in
theorem issue_any {v u p : ByteArray} (h1 : v.size ≤ 100000) (h2 : u.size ≤ 100000) (h3 : p.size ≤ 100000) :
    Ret 163 #[.agg #[.string v, .string u], .string p] (.tuple #[.string (issueR v u p).1, .int .i64 (issueR v u p).2]) := by
  intro w hg
  have K1 := MulR (Vs.arg (s := p) (by omega)) (Vs.arg (s := u) (by omega))
  have K2 := DivA (vmul h3 h2) (Vs.arg (s := v) (by omega))
  unfold issueR
  generalize (divR (valS p * valS u) (valS v)).1 = q1 at *
  generalize (divR (valS p * valS u) (valS v)).2.1 = q2 at *
  generalize (divR (valS p * valS u) (valS v)).2.2 = q3 at *
  generalize canS (valS p * valS u) = m at *
  have hs := (St.refl hg).alloc (.cells #[.string v, .string u] 185)
  have B := Bx.new w #[.string v, .string u] 185
  have x0 := B.keeps (i := 0) (v := .string v) rfl
  have x1 := B.keeps (i := 1) (v := .string u) rfl
  obtain ⟨t1, ht1⟩ : ∃ t, isNil p = t := ⟨_, rfl⟩
  obtain ⟨t2, ht2⟩ : ∃ t, isNil u = t := ⟨_, rfl⟩
  rw [ht1, ht2]
  unfold isNil at ht1 ht2
  cases t1 with
  | true =>
    go_enter Tryz.func163, Tryz.ntmps163
    go_wp2_with fail
    go_ret2
    exact ⟨rfl, hs.2⟩
  | false =>
    cases t2 with
    | true =>
      go_enter Tryz.func163, Tryz.ntmps163
      go_wp2_with fail
      go_ret2
      exact ⟨rfl, hs.2⟩
    | false =>
      go_enter Tryz.func163, Tryz.ntmps163
      go_wp2_with fail
      refine wp_region_kept (by kernel_rfl) (by kernel_rfl) ?_
      repeat (go_big_quiet_step (first | (with_reducible exact K1.kept hs) | (with_reducible exact K2.kept hs)))
      refine wpQuiet_nil ?_
      rintro _ ⟨u1, rfl⟩
      go_wp2_with fail
      go_ret2
      exact ⟨rfl, (hs.kept u1).2⟩
set_option maxRecDepth 100000 in
set_option maxHeartbeats 4000000 in
theorem cancel_any {v u b : ByteArray} (h1 : v.size ≤ 100000) (h2 : u.size ≤ 100000) (h3 : b.size ≤ 100000) :
    Ret 164 #[.agg #[.string v, .string u], .string b] (.tuple #[.string (cancelR v u b).1, .int .i64 (cancelR v u b).2]) := by
  intro w hg
  have K0 := CmpR (Vs.arg (s := b) (by omega)) (Vs.arg (s := u) (by omega))
  have K1 := MulR (Vs.arg (s := v) (by omega)) (Vs.arg (s := b) (by omega))
  have K2 := DivA (vmul h1 h3) (Vs.arg (s := u) (by omega))
  unfold cancelR nil
  generalize (divR (valS v * valS b) (valS u)).1 = q1 at *
  generalize (divR (valS v * valS b) (valS u)).2.1 = q2 at *
  generalize (divR (valS v * valS b) (valS u)).2.2 = q3 at *
  generalize canS (valS v * valS b) = m at *
  generalize cmpI (valS b) (valS u) = cc at *
  have hs := St.refl hg
  obtain ⟨t1, ht1⟩ : ∃ t, decide (cc > 0) = t := ⟨_, rfl⟩
  obtain ⟨t2, ht2⟩ : ∃ t, isNil b = t := ⟨_, rfl⟩
  rw [ht1, ht2]
  unfold isNil at ht2
  have q : decide (0 < cc) = t1 := ht1
  clear ht1
  cases t1 with
  | true =>
    go_enter Tryz.func164, Tryz.ntmps164
    go_wp2_with fail
    refine K0.step (hs.alloc _) ?_
    intro w1 hs _
    go_wp2_with fail
    go_ret2
    exact ⟨rfl, hs.2⟩
  | false =>
    cases t2 with
    | true =>
      go_enter Tryz.func164, Tryz.ntmps164
      go_wp2_with fail
      refine K0.step (hs.alloc _) ?_
      intro w1 hs _
      go_wp2_with fail
      go_ret2
      exact ⟨rfl, hs.2⟩
    | false =>
      go_enter Tryz.func164, Tryz.ntmps164
      go_wp2_with fail
      refine K0.step (hs.alloc _) ?_
      intro w1 hs hb
      have B := (Bx.new w #[.string v, .string u] 185).on hb
      have x0 := B.keeps (i := 0) (v := .string v) rfl
      have x1 := B.keeps (i := 1) (v := .string u) rfl
      go_wp2_with fail
      refine wp_region_kept (by kernel_rfl) (by kernel_rfl) ?_
      repeat (go_big_quiet_step (first | (with_reducible exact K1.kept hs) | (with_reducible exact K2.kept hs)))
      refine wpQuiet_nil ?_
      rintro _ ⟨u1, rfl⟩
      go_wp2_with fail
      go_ret2
      exact ⟨rfl, (hs.kept u1).2⟩
end Go.Proofs.YtahpbnmbphobgaaGreatDoor
namespace Go.Proofs.YtahpbnmbphobgaaGreatDoor
open Go.RowKit Go.Shelf Dec QQ

theorem nil_size (s : ByteArray) (h : isNil s = true) : s.size = 0 := by rw [isNil_iff.1 h]; rfl
theorem size_divR {x y : Int} {k : Nat} (h : Fit k x) : (divR x y).1.size ≤ k + 2 := by
  unfold divR
  split
  · exact Nat.zero_le _
  · exact (h.fdiv (y := y)).size
theorem issue_size (v u p : ByteArray) : (issueR v u p).1.size ≤ p.size + u.size + 2 := by
  unfold issueR
  split
  · show p.size ≤ _; omega
  · exact size_divR ((Fit.val (Nat.le_refl p.size)).mul (Fit.val (Nat.le_refl u.size)))
theorem cancel_size (v u b : ByteArray) : (cancelR v u b).1.size ≤ v.size + b.size + 2 := by
  unfold cancelR
  split
  · exact Nat.zero_le _
  · split
    · exact Nat.zero_le _
    · exact size_divR ((Fit.val (Nat.le_refl v.size)).mul (Fit.val (Nat.le_refl b.size)))
/-- what came of a day: units issued, amount paid out, units, value, error -/
structure DealtR where
  issued : ByteArray
  paid : ByteArray
  units : ByteArray
  value : ByteArray
  err : Int
def DealtR.val (d : DealtR) : Value := .agg #[.string d.issued, .string d.paid, .string d.units, .string d.value]
def dealR (u v p b : ByteArray) : DealtR :=
  if (issueR v u p).2 != 0 then ⟨nil, nil, nil, nil, (issueR v u p).2⟩
  else if (cancelR v u b).2 != 0 then ⟨nil, nil, nil, nil, (cancelR v u b).2⟩
  else ⟨(issueR v u p).1, (cancelR v u b).1, canS (valS u + valS (issueR v u p).1 - valS b), canS (valS v + valS p - valS (cancelR v u b).1), 0⟩
def dealV (day : Int) (v p b : ByteArray) : Value := .agg #[.int .i64 day, .string v, .string p, .string b]
theorem vadd {a b : ByteArray} {k : Nat} (h1 : a.size ≤ k) (h2 : b.size ≤ k) (hk : k ≤ 500000) : Vs (canS (valS a + valS b)) (valS a + valS b) := Vs.can ((Fit.val h1).add (Fit.val h2)) (by omega)
set_option maxRecDepth 100000 in
set_option maxHeartbeats 4000000 in
theorem deal_any {v0 u v p b : ByteArray} (day : Int) (h1 : v.size ≤ 100000) (h2 : u.size ≤ 100000) (h3 : p.size ≤ 100000) (h4 : b.size ≤ 100000) :
    Ret 122 #[.agg #[.string v0, .string u], dealV day v p b] (.tuple #[(dealR u v p b).val, .int .i64 (dealR u v p b).err]) := by
  intro w hg
  have K1 := issue_any h1 h2 h3
  have K2 := cancel_any h1 h2 h4
  have i1 := issue_size v u p
  have i2 := cancel_size v u b
  have K3 := AddR (Vs.arg (s := u) (by omega)) (Vs.arg (s := (issueR v u p).1) (by omega))
  have K4 := SubR (vadd (a := u) (b := (issueR v u p).1) (k := 300000) (by omega) (by omega) (by omega)) (Vs.arg (s := b) (by omega))
  have K5 := AddR (Vs.arg (s := v) (by omega)) (Vs.arg (s := p) (by omega))
  have K6 := SubR (vadd (a := v) (b := p) (k := 300000) (by omega) (by omega) (by omega)) (Vs.arg (s := (cancelR v u b).1) (by omega))
  unfold dealR DealtR.val dealV nil
  generalize canS (valS u + valS (issueR v u p).1 - valS b) = r1 at *
  generalize canS (valS v + valS p - valS (cancelR v u b).1) = r2 at *
  generalize canS (valS u + valS (issueR v u p).1) = r3 at *
  generalize canS (valS v + valS p) = r4 at *
  clear i1 i2
  generalize (issueR v u p).1 = is at *
  generalize (issueR v u p).2 = e1 at *
  generalize (cancelR v u b).1 = ca at *
  generalize (cancelR v u b).2 = e2 at *
  have hs := St.refl hg
  obtain ⟨t1, q1⟩ : ∃ t, (e1 != 0) = t := ⟨_, rfl⟩
  obtain ⟨t2, q2⟩ : ∃ t, (e2 != 0) = t := ⟨_, rfl⟩
  rw [q1, q2]
  cases t1 with
  | true =>
    go_enter Tryz.func122, Tryz.ntmps122
    go_wp2_with fail
    refine K1.step (((hs.alloc _).alloc _).alloc _) ?_
    intro w1 hs hb
    have B := (Bx.new2 w _ _ #[.string ⟨#[]⟩, .string ⟨#[]⟩, .string ⟨#[]⟩, .string ⟨#[]⟩] 129).on hb
    have xB0 := B.cell (i := 0) (v := .string ⟨#[]⟩) rfl
    have fB0 := B.frozen 0
    have xB1 := B.cell (i := 1) (v := .string ⟨#[]⟩) rfl
    have fB1 := B.frozen 1
    have xB2 := B.cell (i := 2) (v := .string ⟨#[]⟩) rfl
    have fB2 := B.frozen 2
    have xB3 := B.cell (i := 3) (v := .string ⟨#[]⟩) rfl
    have fB3 := B.frozen 3
    go_wp2_with fail
    have C1 := ((((B).set 0 (.string ⟨#[]⟩)).set 1 (.string ⟨#[]⟩)).set 2 (.string ⟨#[]⟩)).set 3 (.string ⟨#[]⟩)
    have y0 := C1.cell (i := 0) (v := .string ⟨#[]⟩) rfl
    have y1 := C1.cell (i := 1) (v := .string ⟨#[]⟩) rfl
    have y2 := C1.cell (i := 2) (v := .string ⟨#[]⟩) rfl
    have y3 := C1.cell (i := 3) (v := .string ⟨#[]⟩) rfl
    have hs4 := ((((hs).set (b := w.heap.size + 2) (by omega) 0 (.string ⟨#[]⟩)).set (b := w.heap.size + 2) (by omega) 1 (.string ⟨#[]⟩)).set (b := w.heap.size + 2) (by omega) 2 (.string ⟨#[]⟩)).set (b := w.heap.size + 2) (by omega) 3 (.string ⟨#[]⟩)
    exact bodyPost_ret (v := .tuple #[.agg #[.string ⟨#[]⟩, .string ⟨#[]⟩, .string ⟨#[]⟩, .string ⟨#[]⟩], .int .i64 (e1)]) (by simp [results, Tryz.results122, go_sem, y0, y1, y2, y3]) rfl ⟨rfl, hs4.2⟩
  | false =>
    cases t2 with
    | true =>
      go_enter Tryz.func122, Tryz.ntmps122
      go_wp2_with fail
      refine K1.step (((hs.alloc _).alloc _).alloc _) ?_
      intro w1 hs hb
      have B1 := ((Bx.new1 w _ #[.int .i64 day, .string v, .string p, .string b] 133).alloc _).on hb
      have B0 := (((Bx.new w #[.string v, .string u] 185).alloc _).alloc _).on hb
      have B := (Bx.new2 w _ _ #[.string ⟨#[]⟩, .string ⟨#[]⟩, .string ⟨#[]⟩, .string ⟨#[]⟩] 129).on hb
      have x0 := B0.cell (i := 0) (v := .string v) rfl
      have x1 := B0.cell (i := 1) (v := .string u) rfl
      have x2 := B1.cell (i := 3) (v := .string b) rfl
      go_wp2_with fail
      refine K2.step hs ?_
      intro w2 hs hb
      have C := B.on hb
      have xC0 := C.cell (i := 0) (v := .string ⟨#[]⟩) rfl
      have fC0 := C.frozen 0
      have xC1 := C.cell (i := 1) (v := .string ⟨#[]⟩) rfl
      have fC1 := C.frozen 1
      have xC2 := C.cell (i := 2) (v := .string ⟨#[]⟩) rfl
      have fC2 := C.frozen 2
      have xC3 := C.cell (i := 3) (v := .string ⟨#[]⟩) rfl
      have fC3 := C.frozen 3
      go_wp2_with fail
      have C1 := ((((C).set 0 (.string ⟨#[]⟩)).set 1 (.string ⟨#[]⟩)).set 2 (.string ⟨#[]⟩)).set 3 (.string ⟨#[]⟩)
      have y0 := C1.cell (i := 0) (v := .string ⟨#[]⟩) rfl
      have y1 := C1.cell (i := 1) (v := .string ⟨#[]⟩) rfl
      have y2 := C1.cell (i := 2) (v := .string ⟨#[]⟩) rfl
      have y3 := C1.cell (i := 3) (v := .string ⟨#[]⟩) rfl
      have hs4 := ((((hs).set (b := w.heap.size + 2) (by omega) 0 (.string ⟨#[]⟩)).set (b := w.heap.size + 2) (by omega) 1 (.string ⟨#[]⟩)).set (b := w.heap.size + 2) (by omega) 2 (.string ⟨#[]⟩)).set (b := w.heap.size + 2) (by omega) 3 (.string ⟨#[]⟩)
      exact bodyPost_ret (v := .tuple #[.agg #[.string ⟨#[]⟩, .string ⟨#[]⟩, .string ⟨#[]⟩, .string ⟨#[]⟩], .int .i64 (e2)]) (by simp [results, Tryz.results122, go_sem, y0, y1, y2, y3]) rfl ⟨rfl, hs4.2⟩
    | false =>
      go_enter Tryz.func122, Tryz.ntmps122
      go_wp2_with fail
      refine K1.step (((hs.alloc _).alloc _).alloc _) ?_
      intro w1 hs hb
      have B1 := ((Bx.new1 w _ #[.int .i64 day, .string v, .string p, .string b] 133).alloc _).on hb
      have B0 := (((Bx.new w #[.string v, .string u] 185).alloc _).alloc _).on hb
      have B := (Bx.new2 w _ _ #[.string ⟨#[]⟩, .string ⟨#[]⟩, .string ⟨#[]⟩, .string ⟨#[]⟩] 129).on hb
      have x0 := B0.cell (i := 0) (v := .string v) rfl
      have x1 := B0.cell (i := 1) (v := .string u) rfl
      have x2 := B1.cell (i := 3) (v := .string b) rfl
      go_wp2_with fail
      refine K2.step hs ?_
      intro w2 hs hb
      have D0 := B0.on hb
      have D1 := B1.on hb
      have D := B.on hb
      have z1 := D0.keeps (i := 1) (v := .string u) rfl
      have z2 := D1.keeps (i := 1) (v := .string v) rfl
      have z3 := D1.keeps (i := 2) (v := .string p) rfl
      have z4 := D1.keeps (i := 3) (v := .string b) rfl
      go_wp2_with fail
      refine wp_region_kept_tail 17 (by kernel_rfl) (by kernel_rfl) ?_
      simp only [List.take_succ_cons, List.take_zero, List.drop_succ_cons, List.drop_zero]
      repeat (go_big_quiet_step (first | (with_reducible exact K3.kept hs) | (with_reducible exact K4.kept hs) | (with_reducible exact K5.kept hs) | (with_reducible exact K6.kept hs)))
      refine wpQuiet_nil ?_
      rintro _ ⟨u1, rfl⟩
      have hs3 := hs.kept u1
      have C := D.kept u1
      have xC0 := C.cell (i := 0) (v := .string ⟨#[]⟩) rfl
      have fC0 := C.frozen 0
      have xC1 := C.cell (i := 1) (v := .string ⟨#[]⟩) rfl
      have fC1 := C.frozen 1
      have xC2 := C.cell (i := 2) (v := .string ⟨#[]⟩) rfl
      have fC2 := C.frozen 2
      have xC3 := C.cell (i := 3) (v := .string ⟨#[]⟩) rfl
      have fC3 := C.frozen 3
      go_wp2_with fail
      have C1 := ((((C).set 0 (.string is)).set 1 (.string ca)).set 2 (.string r1)).set 3 (.string r2)
      have y0 := C1.cell (i := 0) (v := .string is) rfl
      have y1 := C1.cell (i := 1) (v := .string ca) rfl
      have y2 := C1.cell (i := 2) (v := .string r1) rfl
      have y3 := C1.cell (i := 3) (v := .string r2) rfl
      have hs4 := ((((hs3).set (b := w.heap.size + 2) (by omega) 0 (.string is)).set (b := w.heap.size + 2) (by omega) 1 (.string ca)).set (b := w.heap.size + 2) (by omega) 2 (.string r1)).set (b := w.heap.size + 2) (by omega) 3 (.string r2)
      exact bodyPost_ret (v := .tuple #[.agg #[.string is, .string ca, .string r1, .string r2], .int .i64 (0)]) (by simp [results, Tryz.results122, go_sem, y0, y1, y2, y3]) rfl ⟨rfl, hs4.2⟩
def IssueR (v u p : ByteArray) : ByteArray × Int := if ucheck [v, u, p] != 0 then (nil, ucheck [v, u, p]) else issueR v u p
def CancelR (v u p : ByteArray) : ByteArray × Int := if ucheck [v, u, p] != 0 then (nil, ucheck [v, u, p]) else cancelR v u p
def DealR (u v p b : ByteArray) : DealtR := if ucheck [u, v, p, b] != 0 then ⟨nil, nil, nil, nil, ucheck [u, v, p, b]⟩ else dealR u v p b
set_option maxRecDepth 100000 in
set_option maxHeartbeats 4000000 in
theorem Deal_any {u v p b : ByteArray} (day : Int) (h1 : v.size ≤ 100000) (h2 : u.size ≤ 100000) (h3 : p.size ≤ 100000) (h4 : b.size ≤ 100000) :
    Ret 81 #[.string u, dealV day v p b] (.tuple #[(DealR u v p b).val, .int .i64 (DealR u v p b).err]) := by
  intro w hg
  have K1 := ucheck_any (A := some ⟨w.heap.size + 1 + 1, 0, none⟩) (c := 4) (n := 4) (l := [u, v, p, b]) rfl (by omega) (by intro s hs; simp at hs; rcases hs with rfl | rfl | rfl | rfl <;> omega)
  have K2 := deal_any (v0 := nil) day h1 h2 h3 h4
  have R1 := Row.of (Bx.new2 w (.cells #[.int .i64 day, .string v, .string p, .string b] 133) (.cells #[.string ⟨#[]⟩, .string ⟨#[]⟩, .string ⟨#[]⟩, .string ⟨#[]⟩] 129) #[.string u, .string v, .string p, .string b] 27)
  unfold DealR
  unfold DealtR.val at K2 ⊢
  unfold dealV nil at K2
  unfold dealV nil
  generalize ucheck [u, v, p, b] = e1 at *
  have hs := St.refl hg
  have HR := Lib.hid R1
  clear R1
  obtain ⟨t1, qq⟩ : ∃ t, (e1 != 0) = t := ⟨_, rfl⟩
  rw [qq]
  cases t1 with
  | true =>
    go_enter Tryz.func81, Tryz.ntmps81
    go_wp2_with fail
    refine K1.step (((hs.alloc _).alloc _).alloc _) HR.out ?_
    intro w1 hs hb
    have B := ((Bx.new1 w _ #[.string ⟨#[]⟩, .string ⟨#[]⟩, .string ⟨#[]⟩, .string ⟨#[]⟩] 129).alloc _).on hb
    have xB0 := B.cell (i := 0) (v := .string ⟨#[]⟩) rfl
    have fB0 := B.frozen 0
    have xB1 := B.cell (i := 1) (v := .string ⟨#[]⟩) rfl
    have fB1 := B.frozen 1
    have xB2 := B.cell (i := 2) (v := .string ⟨#[]⟩) rfl
    have fB2 := B.frozen 2
    have xB3 := B.cell (i := 3) (v := .string ⟨#[]⟩) rfl
    have fB3 := B.frozen 3
    go_wp2_with fail
    have C1 := ((((B).set 0 (.string ⟨#[]⟩)).set 1 (.string ⟨#[]⟩)).set 2 (.string ⟨#[]⟩)).set 3 (.string ⟨#[]⟩)
    have y0 := C1.cell (i := 0) (v := .string ⟨#[]⟩) rfl
    have y1 := C1.cell (i := 1) (v := .string ⟨#[]⟩) rfl
    have y2 := C1.cell (i := 2) (v := .string ⟨#[]⟩) rfl
    have y3 := C1.cell (i := 3) (v := .string ⟨#[]⟩) rfl
    have hs4 := ((((hs).set (b := w.heap.size + 1) (by omega) 0 (.string ⟨#[]⟩)).set (b := w.heap.size + 1) (by omega) 1 (.string ⟨#[]⟩)).set (b := w.heap.size + 1) (by omega) 2 (.string ⟨#[]⟩)).set (b := w.heap.size + 1) (by omega) 3 (.string ⟨#[]⟩)
    exact bodyPost_ret (v := .tuple #[.agg #[.string ⟨#[]⟩, .string ⟨#[]⟩, .string ⟨#[]⟩, .string ⟨#[]⟩], .int .i64 (e1)]) (by simp [results, Tryz.results81, go_sem, y0, y1, y2, y3]) rfl ⟨rfl, hs4.2⟩
  | false =>
    simp only [Bool.false_eq_true, if_false]
    generalize (dealR u v p b).issued = q1 at *
    generalize (dealR u v p b).paid = q2 at *
    generalize (dealR u v p b).units = q3 at *
    generalize (dealR u v p b).value = q4 at *
    generalize (dealR u v p b).err = q5 at *
    go_enter Tryz.func81, Tryz.ntmps81
    go_wp2_with fail
    refine K1.step (((hs.alloc _).alloc _).alloc _) HR.out ?_
    intro w1 hs hb
    have B0 := (((Bx.new w #[.int .i64 day, .string v, .string p, .string b] 133).alloc _).alloc _).on hb
    have B1 := ((Bx.new1 w _ #[.string ⟨#[]⟩, .string ⟨#[]⟩, .string ⟨#[]⟩, .string ⟨#[]⟩] 129).alloc _).on hb
    have x0 := B0.cell (i := 0) (v := .int .i64 day) rfl
    have x1 := B0.cell (i := 1) (v := .string v) rfl
    have x2 := B0.cell (i := 2) (v := .string p) rfl
    have x3 := B0.cell (i := 3) (v := .string b) rfl
    go_wp2_with fail
    refine K2.step hs ?_
    intro w2 hs hb
    have B := B1.on hb
    have xB0 := B.cell (i := 0) (v := .string ⟨#[]⟩) rfl
    have fB0 := B.frozen 0
    have xB1 := B.cell (i := 1) (v := .string ⟨#[]⟩) rfl
    have fB1 := B.frozen 1
    have xB2 := B.cell (i := 2) (v := .string ⟨#[]⟩) rfl
    have fB2 := B.frozen 2
    have xB3 := B.cell (i := 3) (v := .string ⟨#[]⟩) rfl
    have fB3 := B.frozen 3
    go_wp2_with fail
    have C1 := ((((B).set 0 (.string q1)).set 1 (.string q2)).set 2 (.string q3)).set 3 (.string q4)
    have y0 := C1.cell (i := 0) (v := .string q1) rfl
    have y1 := C1.cell (i := 1) (v := .string q2) rfl
    have y2 := C1.cell (i := 2) (v := .string q3) rfl
    have y3 := C1.cell (i := 3) (v := .string q4) rfl
    have hs4 := ((((hs).set (b := w.heap.size + 1) (by omega) 0 (.string q1)).set (b := w.heap.size + 1) (by omega) 1 (.string q2)).set (b := w.heap.size + 1) (by omega) 2 (.string q3)).set (b := w.heap.size + 1) (by omega) 3 (.string q4)
    exact bodyPost_ret (v := .tuple #[.agg #[.string q1, .string q2, .string q3, .string q4], .int .i64 (q5)]) (by simp [results, Tryz.results81, go_sem, y0, y1, y2, y3]) rfl ⟨rfl, hs4.2⟩
/-- the price of a unit: its fraction and its error -/
def PriceR (v u : ByteArray) : Rat × Int := if ucheck [v, u] != 0 then (0, ucheck [v, u]) else if isNil u then (0, 10) else (rat (valS v) (valS u), 0)
set_option maxRecDepth 100000 in
set_option maxHeartbeats 4000000 in
theorem Price_any {v u : ByteArray} (h1 : v.size ≤ 100000) (h2 : u.size ≤ 100000) :
    Ret 82 #[.string v, .string u] (.tuple #[FR (PriceR v u).1, .int .i64 (PriceR v u).2]) := by
  intro w hg
  have K1 := ucheck_any (A := some ⟨w.heap.size + 1, 0, none⟩) (c := 2) (n := 2) (l := [v, u]) rfl (by omega) (by intro s hs; simp at hs; rcases hs with rfl | rfl <;> omega)
  have R1 := Row.of (Bx.new1 w (.cells #[.string ⟨#[]⟩, .string ⟨#[]⟩] 32) #[.string v, .string u] 27)
  have hs := St.refl hg
  have HR := Lib.hid R1
  clear R1
  unfold PriceR
  have hc : ucheck [v, u] = 0 → isNil u = false → valS u ≠ 0 := by
    intro hc hu h0
    have hcu : chk u = 0 := by
      unfold ucheck at hc
      split at hc
      · omega
      · rename_i hh; simp at hh; exact hh.2
    have : canS (valS u) = u := by
      unfold chk at hcu
      split at hcu
      · rename_i h; exact h.symm
      · omega
    rw [h0] at this
    have h3 : isNil u = true := isNil_iff.2 (by rw [← this]; decide +kernel)
    rw [hu] at h3
    cases h3
  obtain ⟨e1, he1⟩ : ∃ t, ucheck [v, u] = t := ⟨_, rfl⟩
  rw [he1] at K1 hc ⊢
  clear he1
  obtain ⟨t1, qq⟩ : ∃ t, (e1 != 0) = t := ⟨_, rfl⟩
  rw [qq]
  cases t1 with
  | true =>
    simp only [if_true]
    unfold FR
    rw [frN_zero, frD_zero]
    clear hc
    go_enter Tryz.func82, Tryz.ntmps82
    go_wp2_with fail
    refine K1.step ((hs.alloc _).alloc _) HR.out ?_
    intro w1 hs hb
    have B := ((Bx.new w #[.string ⟨#[]⟩, .string ⟨#[]⟩] 32).alloc _).on hb
    have xB0 := B.cell (i := 0) (v := .string ⟨#[]⟩) rfl
    have fB0 := B.frozen 0
    have xB1 := B.cell (i := 1) (v := .string ⟨#[]⟩) rfl
    have fB1 := B.frozen 1
    go_wp2_with fail
    have C1 := ((B).set 0 (.string ⟨#[]⟩)).set 1 (.string ⟨#[]⟩)
    have y0 := C1.cell (i := 0) (v := .string ⟨#[]⟩) rfl
    have y1 := C1.cell (i := 1) (v := .string ⟨#[]⟩) rfl
    have hs4 := ((hs).set (b := w.heap.size) (Nat.le_refl _) 0 (.string ⟨#[]⟩)).set (b := w.heap.size) (Nat.le_refl _) 1 (.string ⟨#[]⟩)
    exact bodyPost_ret (v := .tuple #[.agg #[.string ⟨#[]⟩, .string ⟨#[]⟩], .int .i64 (e1)]) (by simp [results, Tryz.results82, go_sem, y0, y1]) rfl ⟨rfl, hs4.2⟩
  | false =>
    have hc1 := hc (by simpa using qq)
    clear hc
    obtain ⟨t2, q2⟩ : ∃ t, isNil u = t := ⟨_, rfl⟩
    rw [q2] at hc1 ⊢
    unfold isNil at q2
    cases t2 with
    | true =>
      clear hc1
      simp only [if_true, Bool.false_eq_true, if_false]
      unfold FR
      rw [frN_zero, frD_zero]
      go_enter Tryz.func82, Tryz.ntmps82
      go_wp2_with fail
      refine K1.step ((hs.alloc _).alloc _) HR.out ?_
      intro w1 hs hb
      have B := ((Bx.new w #[.string ⟨#[]⟩, .string ⟨#[]⟩] 32).alloc _).on hb
      have xB0 := B.cell (i := 0) (v := .string ⟨#[]⟩) rfl
      have fB0 := B.frozen 0
      have xB1 := B.cell (i := 1) (v := .string ⟨#[]⟩) rfl
      have fB1 := B.frozen 1
      go_wp2_with fail
      have C1 := ((B).set 0 (.string ⟨#[]⟩)).set 1 (.string ⟨#[]⟩)
      have y0 := C1.cell (i := 0) (v := .string ⟨#[]⟩) rfl
      have y1 := C1.cell (i := 1) (v := .string ⟨#[]⟩) rfl
      have hs4 := ((hs).set (b := w.heap.size) (Nat.le_refl _) 0 (.string ⟨#[]⟩)).set (b := w.heap.size) (Nat.le_refl _) 1 (.string ⟨#[]⟩)
      exact bodyPost_ret (v := .tuple #[.agg #[.string ⟨#[]⟩, .string ⟨#[]⟩], .int .i64 (10)]) (by simp [results, Tryz.results82, go_sem, y0, y1]) rfl ⟨rfl, hs4.2⟩
    | false =>
      have K2 := NewF (Vs.arg (s := v) (by omega)) (Vs.arg (s := u) (by omega)) (by omega) (by omega) (hc1 rfl)
      clear hc1
      simp only [Bool.false_eq_true, if_false]
      unfold FR at K2 ⊢
      generalize frN (rat (valS v) (valS u)) = rn at *
      generalize frD (rat (valS v) (valS u)) = rd at *
      go_enter Tryz.func82, Tryz.ntmps82
      go_wp2_with fail
      refine K1.step ((hs.alloc _).alloc _) HR.out ?_
      intro w1 hs hb
      have B0 := ((Bx.new w #[.string ⟨#[]⟩, .string ⟨#[]⟩] 32).alloc _).on hb
      go_wp2_with fail
      refine K2.step hs ?_
      intro w2 hs hb
      have B := B0.on hb
      have xB0 := B.cell (i := 0) (v := .string ⟨#[]⟩) rfl
      have fB0 := B.frozen 0
      have xB1 := B.cell (i := 1) (v := .string ⟨#[]⟩) rfl
      have fB1 := B.frozen 1
      go_wp2_with fail
      have C1 := ((B).set 0 (.string rn)).set 1 (.string rd)
      have y0 := C1.cell (i := 0) (v := .string rn) rfl
      have y1 := C1.cell (i := 1) (v := .string rd) rfl
      have hs4 := ((hs).set (b := w.heap.size) (Nat.le_refl _) 0 (.string rn)).set (b := w.heap.size) (Nat.le_refl _) 1 (.string rd)
      exact bodyPost_ret (v := .tuple #[.agg #[.string rn, .string rd], .int .i64 (0)]) (by simp [results, Tryz.results82, go_sem, y0, y1]) rfl ⟨rfl, hs4.2⟩
end Go.Proofs.YtahpbnmbphobgaaGreatDoor
namespace Go.Proofs.YtahpbnmbphobgaaGreatDoor
open Go.RowKit Go.Shelf Dec QQ

theorem aw44d : (DealR ⟨#[51, 48, 48]⟩ ⟨#[49, 48, 48, 48]⟩ ⟨#[49, 48, 49]⟩ ⟨#[53, 48]⟩).val = .agg #[.string ⟨#[51, 48]⟩, .string ⟨#[49, 54, 54]⟩, .string ⟨#[50, 56, 48]⟩, .string ⟨#[57, 51, 53]⟩] ∧ (DealR ⟨#[51, 48, 48]⟩ ⟨#[49, 48, 48, 48]⟩ ⟨#[49, 48, 49]⟩ ⟨#[53, 48]⟩).err = 0 := by
  have h1 : (DealR ⟨#[51, 48, 48]⟩ ⟨#[49, 48, 48, 48]⟩ ⟨#[49, 48, 49]⟩ ⟨#[53, 48]⟩).issued = ⟨#[51, 48]⟩ := by decide +kernel
  have h2 : (DealR ⟨#[51, 48, 48]⟩ ⟨#[49, 48, 48, 48]⟩ ⟨#[49, 48, 49]⟩ ⟨#[53, 48]⟩).paid = ⟨#[49, 54, 54]⟩ := by decide +kernel
  have h3 : (DealR ⟨#[51, 48, 48]⟩ ⟨#[49, 48, 48, 48]⟩ ⟨#[49, 48, 49]⟩ ⟨#[53, 48]⟩).units = ⟨#[50, 56, 48]⟩ := by decide +kernel
  have h4 : (DealR ⟨#[51, 48, 48]⟩ ⟨#[49, 48, 48, 48]⟩ ⟨#[49, 48, 49]⟩ ⟨#[53, 48]⟩).value = ⟨#[57, 51, 53]⟩ := by decide +kernel
  exact ⟨by unfold DealtR.val; rw [h1, h2, h3, h4], by decide +kernel⟩
theorem aw44p : FR (PriceR ⟨#[49, 48, 48, 48]⟩ ⟨#[51, 48, 48]⟩).1 = .agg #[.string ⟨#[49, 48]⟩, .string ⟨#[51]⟩] ∧ (PriceR ⟨#[49, 48, 48, 48]⟩ ⟨#[51, 48, 48]⟩).2 = 0 := by
  have h1 : frN (PriceR ⟨#[49, 48, 48, 48]⟩ ⟨#[51, 48, 48]⟩).1 = ⟨#[49, 48]⟩ := by decide +kernel
  have h2 : frD (PriceR ⟨#[49, 48, 48, 48]⟩ ⟨#[51, 48, 48]⟩).1 = ⟨#[51]⟩ := by decide +kernel
  exact ⟨by unfold FR; rw [h1, h2], by decide +kernel⟩
theorem eqlD (a b c d a' b' c' d' : ByteArray) (u : World) : (binOp .eql 129 (.agg #[.string a, .string b, .string c, .string d]) (.agg #[.string a', .string b', .string c', .string d'])).run Tryz.prog u = .ok (.bool ((a.toList == a'.toList) && (b.toList == b'.toList) && (c.toList == c'.toList) && (d.toList == d'.toList))) u := by
  simp [go_sem]
  repeat' split
  all_goals simp_all
set_option maxRecDepth 100000 in
set_option maxHeartbeats 4000000 in
theorem awake44 : Ret 43 #[] (.bool true) := by
  intro w hg
  have hs := St.refl hg
  have K1 := Deal_any (u := ⟨#[51, 48, 48]⟩) (v := ⟨#[49, 48, 48, 48]⟩) (p := ⟨#[49, 48, 49]⟩) (b := ⟨#[53, 48]⟩) 0 (by decide) (by decide) (by decide) (by decide)
  have K2 := Price_any (v := ⟨#[49, 48, 48, 48]⟩) (u := ⟨#[51, 48, 48]⟩) (by decide) (by decide)
  rw [aw44d.1, aw44d.2] at K1
  rw [aw44p.1, aw44p.2] at K2
  unfold dealV at K1
  have e1 := fun u => eqlD ⟨#[51, 48]⟩ ⟨#[49, 54, 54]⟩ ⟨#[50, 56, 48]⟩ ⟨#[57, 51, 53]⟩ ⟨#[51, 48]⟩ ⟨#[49, 54, 54]⟩ ⟨#[50, 56, 48]⟩ ⟨#[57, 51, 53]⟩ u
  have e2 := fun u => eqlF ⟨#[49, 48]⟩ ⟨#[51]⟩ ⟨#[49, 48]⟩ ⟨#[51]⟩ u
  simp only [beq_self_eq_true, Bool.and_true] at e1 e2
  go_enter Tryz.func43, Tryz.ntmps43
  go_wp2_with fail
  refine K1.step hs ?_
  intro w1 hs _
  go_wp2_with fail
  refine K2.step (hs.alloc _) ?_
  intro w2 hs hb
  have B := (Bx.new w1 #[.string ⟨#[51, 48]⟩, .string ⟨#[49, 54, 54]⟩, .string ⟨#[50, 56, 48]⟩, .string ⟨#[57, 51, 53]⟩] 129).on hb
  have B2 := B.alloc (.cells #[.string ⟨#[49, 48]⟩, .string ⟨#[51]⟩] 32)
  have x0 := B.cell (i := 0) (v := .string ⟨#[51, 48]⟩) rfl
  have x1 := B.cell (i := 1) (v := .string ⟨#[49, 54, 54]⟩) rfl
  have x2 := B.cell (i := 2) (v := .string ⟨#[50, 56, 48]⟩) rfl
  have x3 := B.cell (i := 3) (v := .string ⟨#[57, 51, 53]⟩) rfl
  have hlt : w1.heap.size < w2.heap.size := B.lt
  go_wp2_with fail
  go_ret
  exact ⟨rfl, (hs.alloc _).2⟩
end Go.Proofs.YtahpbnmbphobgaaGreatDoor
