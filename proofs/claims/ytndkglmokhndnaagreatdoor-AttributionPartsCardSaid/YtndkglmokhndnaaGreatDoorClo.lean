/- Attribution: slices.Clone of rows of sectors and of parts. Condition: short rows. -/
import Derived.Test.YtndkglmokhndnaaGreatDoorEqG
namespace Go.Proofs.YtndkglmokhndnaaGreatDoor
open Go.RowKit Go.Shelf Dec QQ

/-- a row, as append reads it -/
theorem row_reads {w : World} {A : Option Addr} {vs : List Value} {m n : Nat} (h : Row w A vs) (hl : vs.length = n * m) (h0 : 0 < m) : Reads w w.heap.size m A n vs := by
  refine ⟨hl, fun hn => ?_⟩
  have hp : 0 < vs.length := by rw [hl]; exact Nat.mul_pos hn h0
  obtain ⟨b, o, hA, hB, _⟩ := h 0 _ (List.getElem?_eq_getElem hp)
  refine ⟨_, hA, hB, fun j u hu => ?_⟩
  obtain ⟨b', o', hA', _, hc⟩ := h j u hu
  rw [hA] at hA'
  injection hA' with e
  injection e with e1 e2
  subst e1 e2
  rw [show (⟨b, o, none⟩ : Addr).add j = ⟨b, o + j, none⟩ by unfold Addr.add; by_cases h : j = 0 <;> simp [h]]
  exact hc
theorem row_none {w : World} {vs : List Value} {m n : Nat} (h : Row w none vs) (hl : vs.length = n * m) (h0 : 0 < m) : n = 0 := by
  rcases Nat.eq_zero_or_pos n with e | e
  · exact e
  · have hp : 0 < vs.length := by rw [hl]; exact Nat.mul_pos e h0
    obtain ⟨b, o, hA, _⟩ := h 0 _ (List.getElem?_eq_getElem hp)
    cases hA
theorem own_empty (w : World) (T : TypeId) (m : Nat) : World.ownsRow (w.alloc (.cells #[] T)) w.heap.size T m (.slice (some ⟨w.heap.size, 0, none⟩) 0 0) 0 [] := by
  refine ⟨by simp, .inr ⟨w.heap.size, 0, #[], rfl, Nat.le_refl _, heap_new w _, Nat.le_refl _, by unfold maxLen; omega, by simp, by simp⟩⟩
theorem own_bound {w : World} {base n m : Nat} {T : TypeId} {v : Value} {xs : List Value} (h : w.ownsRow base T m v n xs) : ∀ k, v.ownBlock = some k → base ≤ k := by
  intro k hk
  rcases h.2 with ⟨rfl, _⟩ | ⟨g, cap, cur, rfl, hb, _⟩
  · cases hk
  · injection hk with hk
    subst hk
    exact hb
theorem infoS48 : (Tryz.prog.info? 54).map (fun i => (i.zero, i.size, i.bytes)) = some (some (.agg #[.string ⟨#[]⟩, .string ⟨#[]⟩, .string ⟨#[]⟩, .string ⟨#[]⟩, .string ⟨#[]⟩, .string ⟨#[]⟩, .string ⟨#[]⟩, .string ⟨#[]⟩, .string ⟨#[]⟩]), 9, 144) := by kernel_rfl
theorem infoP48 : (Tryz.prog.info? 52).map (fun i => (i.zero, i.size, i.bytes)) = some (some (.agg #[.string ⟨#[]⟩, .string ⟨#[]⟩, .string ⟨#[]⟩, .string ⟨#[]⟩, .string ⟨#[]⟩, .string ⟨#[]⟩, .string ⟨#[]⟩]), 7, 112) := by kernel_rfl
theorem pcells_one7 (p : PrtS) : ∀ u ∈ pcells p, u.oneCell' = true := by
  intro u hu
  simp [pcells] at hu
  rcases hu with rfl | rfl | rfl | rfl | rfl | rfl | rfl <;> rfl
theorem scells_one (p : SecS) : ∀ u ∈ scells p, u.oneCell' = true := by
  intro u hu
  simp [scells] at hu
  rcases hu with rfl | rfl | rfl | rfl | rfl | rfl | rfl | rfl | rfl <;> rfl
theorem flat_one {α : Type} {cs : α → List Value} (h : ∀ a, ∀ u ∈ cs a, u.oneCell' = true) (l : List α) : ∀ u ∈ flatG cs l, u.oneCell' = true := by
  intro u hu
  obtain ⟨a, _, hu⟩ := List.mem_flatMap.1 hu
  exact h a u hu
set_option maxRecDepth 100000 in
set_option maxHeartbeats 4000000 in
theorem cloneS {A : Option Addr} {n c : Nat} {l : List SecS} (hn : l.length = n) (hm : n ≤ 1000000) (w : World) (hr : Row w A (flatG scells l)) :
    Calls Tryz.prog 27 #[.slice A n c] w fun e w' => ∃ v, e = .returned v ∧ OutG scells 54 9 w.heap.size w' v n l ∧ Below w.heap.size w w' := by
  have hlen : (flatG scells l).length = n * 9 := by rw [flatG_len scells_len, hn, Nat.mul_comm]
  have HN := Lib.hid hn
  have HL := Lib.hid hlen
  cases A with
  | none =>
    have h0 : n = 0 := row_none hr hlen (by decide)
    subst h0
    have hnil : l = [] := List.length_eq_zero_iff.1 hn
    subst hnil
    clear hn hlen hr
    have k : ∀ u : World, (binOp .eql 39 (.slice none 0 c) (.slice none 0 0)).run Tryz.prog u = .ok (.bool true) u := fun u => Lib.run_eql_slice_nil u _ 54 none _ _ _ _ (by kernel_rfl)
    go_enter Tryz.func27, Tryz.ntmps27
    go_wp2_with fail
    go_ret
    exact ⟨_, rfl, ⟨rfl, World.ownsRow_nil _ _ _ _⟩, Below.refl _ _⟩
  | some ad =>
    have k : ∀ u : World, (binOp .eql 39 (.slice (some ad) n c) (.slice none 0 0)).run Tryz.prog u = .ok (.bool false) u := fun u => Lib.run_eql_slice_nil u _ 54 (some ad) _ _ _ _ (by kernel_rfl)
    obtain ⟨i0, hi, hz0, hz1, hz2⟩ := info_parts infoS48
    have Hi := Lib.hid hi
    have Hz0 := Lib.hid hz0
    have Hz1 := Lib.hid hz1
    have Hz2 := Lib.hid hz2
    clear hi hz0 hz1 hz2 hn hlen
    have HR := Lib.hid (row_reads (hr.on ((Below.refl _ w).alloc (Nat.le_refl _) (.cells #[] 54))) HL.out (by decide))
    have HO := Lib.hid (own_empty w 54 9)
    clear hr
    go_enter Tryz.func27, Tryz.ntmps27
    go_wp2_with (at_builtin; refine wpList_append_any _ rfl (.tmp 5) (.tmp 6) 39 rfl w.heap.size 54 i0 (.agg #[.string ⟨#[]⟩, .string ⟨#[]⟩, .string ⟨#[]⟩, .string ⟨#[]⟩, .string ⟨#[]⟩, .string ⟨#[]⟩, .string ⟨#[]⟩, .string ⟨#[]⟩, .string ⟨#[]⟩]) 9 144 (by kernel_rfl) Hi.out Hz0.out Hz1.out Hz2.out rfl (by omega) (.slice (some ⟨w.heap.size, 0, none⟩) 0 0) 0 [] rfl HO.out _ (some ad) n c (flatG scells l) rfl HR.out (flat_one scells_one l) (by unfold maxLen; omega) (by omega) (by simp) ?_; intro v3 w3 hown3 hg3 _; have HO3 := Lib.hid hown3; have HG3 := Lib.hid hg3; clear hown3 hg3)
    go_ret
    have hb3 : Below w.heap.size w w3 := ((Below.refl _ _).alloc (Nat.le_refl _) _).grown HG3.out (by simp) (fun k hk => by simp [Value.ownBlock] at hk; omega)
    have ho := HO3.out
    rw [Nat.zero_add, List.nil_append] at ho
    exact ⟨_, rfl, ⟨HN.out, ho⟩, hb3⟩
set_option maxRecDepth 100000 in
set_option maxHeartbeats 4000000 in
theorem cloneP {A : Option Addr} {n c : Nat} {l : List PrtS} (hn : l.length = n) (hm : n ≤ 1000000) (w : World) (hr : Row w A (flatG pcells l)) :
    Calls Tryz.prog 28 #[.slice A n c] w fun e w' => ∃ v, e = .returned v ∧ OutG pcells 52 7 w.heap.size w' v n l ∧ Below w.heap.size w w' := by
  have hlen : (flatG pcells l).length = n * 7 := by rw [flatG_len pcells_len, hn, Nat.mul_comm]
  have HN := Lib.hid hn
  have HL := Lib.hid hlen
  cases A with
  | none =>
    have h0 : n = 0 := row_none hr hlen (by decide)
    subst h0
    have hnil : l = [] := List.length_eq_zero_iff.1 hn
    subst hnil
    clear hn hlen hr
    have k : ∀ u : World, (binOp .eql 45 (.slice none 0 c) (.slice none 0 0)).run Tryz.prog u = .ok (.bool true) u := fun u => Lib.run_eql_slice_nil u _ 52 none _ _ _ _ (by kernel_rfl)
    go_enter Tryz.func28, Tryz.ntmps28
    go_wp2_with fail
    go_ret
    exact ⟨_, rfl, ⟨rfl, World.ownsRow_nil _ _ _ _⟩, Below.refl _ _⟩
  | some ad =>
    have k : ∀ u : World, (binOp .eql 45 (.slice (some ad) n c) (.slice none 0 0)).run Tryz.prog u = .ok (.bool false) u := fun u => Lib.run_eql_slice_nil u _ 52 (some ad) _ _ _ _ (by kernel_rfl)
    obtain ⟨i0, hi, hz0, hz1, hz2⟩ := info_parts infoP48
    have Hi := Lib.hid hi
    have Hz0 := Lib.hid hz0
    have Hz1 := Lib.hid hz1
    have Hz2 := Lib.hid hz2
    clear hi hz0 hz1 hz2 hn hlen
    have HR := Lib.hid (row_reads (hr.on ((Below.refl _ w).alloc (Nat.le_refl _) (.cells #[] 52))) HL.out (by decide))
    have HO := Lib.hid (own_empty w 52 7)
    clear hr
    go_enter Tryz.func28, Tryz.ntmps28
    go_wp2_with (at_builtin; refine wpList_append_any _ rfl (.tmp 5) (.tmp 6) 45 rfl w.heap.size 52 i0 (.agg #[.string ⟨#[]⟩, .string ⟨#[]⟩, .string ⟨#[]⟩, .string ⟨#[]⟩, .string ⟨#[]⟩, .string ⟨#[]⟩, .string ⟨#[]⟩]) 7 112 (by kernel_rfl) Hi.out Hz0.out Hz1.out Hz2.out rfl (by omega) (.slice (some ⟨w.heap.size, 0, none⟩) 0 0) 0 [] rfl HO.out _ (some ad) n c (flatG pcells l) rfl HR.out (flat_one pcells_one7 l) (by unfold maxLen; omega) (by omega) (by simp) ?_; intro v3 w3 hown3 hg3 _; have HO3 := Lib.hid hown3; have HG3 := Lib.hid hg3; clear hown3 hg3)
    go_ret
    have hb3 : Below w.heap.size w w3 := ((Below.refl _ _).alloc (Nat.le_refl _) _).grown HG3.out (by simp) (fun k hk => by simp [Value.ownBlock] at hk; omega)
    have ho := HO3.out
    rw [Nat.zero_add, List.nil_append] at ho
    exact ⟨_, rfl, ⟨HN.out, ho⟩, hb3⟩
end Go.Proofs.YtndkglmokhndnaaGreatDoor
