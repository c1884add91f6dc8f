/- Fees: the walk of FeeTotals: for every input it returns true. Condition: the library's table and error lie as the program's text lays them. -/
import Derived.Test.YtgagjpjlnlandaaGreatDoorFe5
import Derived.Test.YtgagjpjlnlandaaGreatDoorFeM
namespace Go.Proofs.YtgagjpjlnlandaaGreatDoor
open Go.RowKit Go.Shelf Dec QQ

def ChS.big45 (c : ChS) : Prop := c.mg.size ≤ 9223372036854775807 ∧ c.pf.size ≤ 9223372036854775807
theorem row_nil (w : World) (A : Option Addr) : Row w A (flatG chcells []) := fun i v hv => by simp [flatG] at hv
set_option maxRecDepth 100000 in
set_option maxHeartbeats 4000000 in
theorem totals_many {A : Option Addr} {n c x : Nat} (h : 12 < n) (_hn : n ≤ 9223372036854775807) (w : World) (hg : Gl w) : Calls Tryz.prog 10 #[.slice A n c, .int .u8 (x : Int)] w fun e w' => e = .returned (.bool true) ∧ Below w.heap.size w w' := by
  have hs := St.refl hg
  have AW := awake45
  have q : decide ((12 : Int) < (n : Int)) = true := decide_eq_true (by omega)
  go_enter Tryz.func10, Tryz.ntmps10
  go_wp2_with fail
  refine AW.step hs ?_
  intro w9 hs hb
  go_wp2_with fail
  go_ret
  exact ⟨rfl, hs.2⟩
set_option maxRecDepth 100000 in
set_option maxHeartbeats 4000000 in
theorem totals_long {A : Option Addr} {n c x : Nat} {l : List ChS} (hl : l.length = n) (h : n ≤ 12) (hbig : ∀ s ∈ l, ChS.big45 s) (hL : l.any lngC = true) (w : World) (hg : Gl w) (hr : Row w A (flatG chcells l)) : Calls Tryz.prog 10 #[.slice A n c, .int .u8 (x : Int)] w fun e w' => e = .returned (.bool true) ∧ Below w.heap.size w w' := by
  have hs := St.refl hg
  have AW := awake45
  have q : decide ((12 : Int) < (n : Int)) = false := decide_eq_false (by omega)
  have KC := containsC (A := A) (n := n) (c := c) (cap := #[]) (f := 52) (p := lngC) (l := l) (I := fun _ => True) (fun _ _ _ _ => trivial) hl (by omega) (fun _ _ => rfl) (fun s hs => (totals_1 s (hbig s hs).1 (hbig s hs).2).i _)
  rw [hL] at KC
  have HR := Lib.hid hr
  clear hr hbig hL hl
  go_enter Tryz.func10, Tryz.ntmps10
  go_wp2_with fail
  refine KC.step hs ⟨HR.out, trivial⟩ ?_
  intro w2 hs hb
  go_wp2_with fail
  refine AW.step hs ?_
  intro w9 hs hb
  go_wp2_with fail
  go_ret
  exact ⟨rfl, hs.2⟩
set_option maxRecDepth 100000 in
set_option maxHeartbeats 4000000 in
theorem totals_some {b o n c x : Nat} {l : List ChS} (hl : l.length = n) (h0 : 0 < n) (h : n ≤ 12) (hc : n ≤ c) (_hc2 : c ≤ 9223372036854775807) (hx : x ≤ 255) (hbig : ∀ s ∈ l, ChS.big45 s) (hL : l.any lngC = false) (hck : c ≠ x % (n + 1)) (w : World) (hg : Gl w) (hr : Row w (some ⟨b, o, none⟩) (flatG chcells l)) : Calls Tryz.prog 10 #[.slice (some ⟨b, o, none⟩) n c, .int .u8 (x : Int)] w fun e w' => e = .returned (.bool true) ∧ Below w.heap.size w w' := by
  have hs := St.refl hg
  have AW := awake45
  have q : decide ((12 : Int) < (n : Int)) = false := decide_eq_false (by omega)
  have KC := containsC (A := some ⟨b, o, none⟩) (n := n) (c := c) (cap := #[]) (f := 52) (p := lngC) (l := l) (I := fun _ => True) (fun _ _ _ _ => trivial) hl (by omega) (fun _ _ => rfl) (fun s hs => (totals_1 s (hbig s hs).1 (hbig s hs).2).i _)
  rw [hL] at KC
  have hsz : ∀ s ∈ l, s.mg.size ≤ 13 ∧ s.pf.size ≤ 13 := fun s hs => lngC_false (by
    have := List.any_eq_false.1 hL s hs
    simpa using this)
  obtain ⟨k, hkd⟩ : ∃ k : Nat, x % (n + 1) = k := ⟨_, rfl⟩
  have hkn : k ≤ n := by have := Nat.mod_lt x (show 0 < n + 1 by omega); omega
  have hmod : ((x : Int)).tmod ((n : Int) + 1) = (k : Int) := by
    show Int.tmod (Int.ofNat x) (Int.ofNat (n + 1)) = Int.ofNat k
    rw [← hkd]
    rfl
  have KT := tot_any (A := some ⟨b, o, none⟩) (c := c) (K := 13) hl (by omega) (by omega) hsz
  have KR := rtot_any (A := some ⟨b, o, none⟩) (c := c) (K := 13) hl (by omega) (by omega) hsz
  have KA := tot_any (A := some ⟨b, o, none⟩) (n := k) (c := c) (K := 13) (l := l.take k) (by rw [List.length_take]; omega) (by omega) (by omega) (fun s hs => hsz s (List.mem_of_mem_take hs))
  have KB := tot_any (A := some ⟨b, o + k * 5, none⟩) (n := n - k) (c := c - k) (K := 13) (l := l.drop k) (by rw [List.length_drop]; omega) (by omega) (by omega) (fun s hs => hsz s (List.mem_of_mem_drop hs))
  have hf1 := fun j => tot_fit (K := 13) chMg (fun s hs => Fit.val (hsz s hs).1) (show l.length ≤ 12 by omega) j
  have hf2 := fun j => tot_fit (K := 13) chPf (fun s hs => Fit.val (hsz s hs).2) (show l.length ≤ 12 by omega) j
  have hd1 := tot_fit (K := 13) (l := l.drop k) chMg (fun s hs => Fit.val (hsz s (List.mem_of_mem_drop hs)).1) (by rw [List.length_drop]; omega) (l.drop k).length
  have hd2 := tot_fit (K := 13) (l := l.drop k) chPf (fun s hs => Fit.val (hsz s (List.mem_of_mem_drop hs)).2) (by rw [List.length_drop]; omega) (l.drop k).length
  rw [List.take_of_length_le (Nat.le_refl _)] at hd1 hd2
  have KP1 := AddR (Vs.can (hf1 k) (by omega)) (Vs.can hd1 (by omega))
  have KP2 := AddR (Vs.can (hf2 k) (by omega)) (Vs.can hd2 (by omega))
  rw [← sumI_split] at KP1 KP2
  have HR := Lib.hid hr
  have HRA : Hid (Row w (some ⟨b, o, none⟩) (flatG chcells (l.take k))) := RowG.cut chcells_len hr k
  have HRB : Hid (Row w (some ⟨b, o + k * 5, none⟩) (flatG chcells (l.drop k))) := chrow_drop hr k (by omega)
  have hck2 : ¬ c = k := by omega
  have hadd : (⟨b, o, none⟩ : Addr).add (k * 5) = ⟨b, o + k * 5, none⟩ := by unfold Addr.add; by_cases h : k * 5 = 0 <;> simp [h]
  clear hck hr hL hf1 hf2 hd1 hd2 hsz hkd hbig
  generalize canS (sumI chMg (l.take k)) = a1 at *
  generalize canS (sumI chPf (l.take k)) = a2 at *
  generalize canS (sumI chMg (l.drop k)) = b1 at *
  generalize canS (sumI chPf (l.drop k)) = b2 at *
  generalize canS (sumI chMg l) = r1 at *
  generalize canS (sumI chPf l) = r2 at *
  have hc00 : ¬ c = 0 := by omega
  have qk1 : decide ((k : Int) ≤ (c : Int)) = true := decide_eq_true (by omega)
  have qk2 : decide ((k : Int) ≤ (n : Int)) = true := decide_eq_true (by omega)
  have qk3 : decide ((0 : Int) ≤ (k : Int)) = true := decide_eq_true (by omega)
  go_enter Tryz.func10, Tryz.ntmps10
  go_wp2_with fail
  refine KC.step hs ⟨HR.out, trivial⟩ ?_
  intro w1 hs hb
  go_wp2_with fail
  refine KT.step hs (HR.out.on hs.2) ?_
  intro w2 hs hb
  go_wp2_with fail
  refine KR.step hs (HR.out.on hs.2) ?_
  intro w3 hs hb
  go_wp2_with fail
  refine KA.step hs (HRA.out.on hs.2) ?_
  intro w4 hs hb
  go_wp2_with fail
  refine KB.step hs (HRB.out.on hs.2) ?_
  intro w5 hs hb
  go_wp2_with fail
  refine KP1.step hs ?_
  intro w6 hs hb
  go_wp2_with fail
  refine KP2.step hs ?_
  intro w7 hs hb
  go_wp2_with fail
  refine AW.step hs ?_
  intro w9 hs hb
  go_wp2_with fail
  go_ret
  exact ⟨rfl, hs.2⟩
set_option maxRecDepth 100000 in
set_option maxHeartbeats 4000000 in
theorem totals_full {b o n c x : Nat} {l : List ChS} (hl : l.length = n) (h0 : 0 < n) (h : n ≤ 12) (hc : n ≤ c) (_hc2 : c ≤ 9223372036854775807) (hx : x ≤ 255) (hbig : ∀ s ∈ l, ChS.big45 s) (hL : l.any lngC = false) (hck : c = x % (n + 1)) (w : World) (hg : Gl w) (hr : Row w (some ⟨b, o, none⟩) (flatG chcells l)) : Calls Tryz.prog 10 #[.slice (some ⟨b, o, none⟩) n c, .int .u8 (x : Int)] w fun e w' => e = .returned (.bool true) ∧ Below w.heap.size w w' := by
  have hnc : c = n := by have := Nat.mod_lt x (show 0 < n + 1 by omega); omega
  subst hnc
  have hs := St.refl hg
  have AW := awake45
  have q : decide ((12 : Int) < (c : Int)) = false := decide_eq_false (by omega)
  have KC := containsC (A := some ⟨b, o, none⟩) (n := c) (c := c) (cap := #[]) (f := 52) (p := lngC) (l := l) (I := fun _ => True) (fun _ _ _ _ => trivial) hl (by omega) (fun _ _ => rfl) (fun s hs => (totals_1 s (hbig s hs).1 (hbig s hs).2).i _)
  rw [hL] at KC
  have hsz : ∀ s ∈ l, s.mg.size ≤ 13 ∧ s.pf.size ≤ 13 := fun s hs => lngC_false (by
    have := List.any_eq_false.1 hL s hs
    simpa using this)
  obtain ⟨k, hkd⟩ : ∃ k : Nat, x % (c + 1) = k := ⟨_, rfl⟩
  have hkn : k ≤ c := by have := Nat.mod_lt x (show 0 < c + 1 by omega); omega
  have hmod : ((x : Int)).tmod ((c : Int) + 1) = (k : Int) := by
    show Int.tmod (Int.ofNat x) (Int.ofNat (c + 1)) = Int.ofNat k
    rw [← hkd]
    rfl
  have KT := tot_any (A := some ⟨b, o, none⟩) (c := c) (K := 13) hl (by omega) (by omega) hsz
  have KR := rtot_any (A := some ⟨b, o, none⟩) (c := c) (K := 13) hl (by omega) (by omega) hsz
  have KA := tot_any (A := some ⟨b, o, none⟩) (n := k) (c := c) (K := 13) (l := l.take k) (by rw [List.length_take]; omega) (by omega) (by omega) (fun s hs => hsz s (List.mem_of_mem_take hs))
  have KB := tot_any (A := some ⟨b, o, none⟩) (n := 0) (c := 0) (K := 13) (l := l.drop k) (by rw [List.length_drop]; omega) (by omega) (by omega) (fun s hs => hsz s (List.mem_of_mem_drop hs))
  have hf1 := fun j => tot_fit (K := 13) chMg (fun s hs => Fit.val (hsz s hs).1) (show l.length ≤ 12 by omega) j
  have hf2 := fun j => tot_fit (K := 13) chPf (fun s hs => Fit.val (hsz s hs).2) (show l.length ≤ 12 by omega) j
  have hd1 := tot_fit (K := 13) (l := l.drop k) chMg (fun s hs => Fit.val (hsz s (List.mem_of_mem_drop hs)).1) (by rw [List.length_drop]; omega) (l.drop k).length
  have hd2 := tot_fit (K := 13) (l := l.drop k) chPf (fun s hs => Fit.val (hsz s (List.mem_of_mem_drop hs)).2) (by rw [List.length_drop]; omega) (l.drop k).length
  rw [List.take_of_length_le (Nat.le_refl _)] at hd1 hd2
  have KP1 := AddR (Vs.can (hf1 k) (by omega)) (Vs.can hd1 (by omega))
  have KP2 := AddR (Vs.can (hf2 k) (by omega)) (Vs.can hd2 (by omega))
  rw [← sumI_split] at KP1 KP2
  have HR := Lib.hid hr
  have HRA : Hid (Row w (some ⟨b, o, none⟩) (flatG chcells (l.take k))) := RowG.cut chcells_len hr k
  have HRB : Hid (Row w (some ⟨b, o, none⟩) (flatG chcells (l.drop k))) := by rw [List.drop_eq_nil_of_le (by omega)]; exact row_nil _ _
  have hck2 : c = k := by omega
  clear hck hr hL hf1 hf2 hd1 hd2 hsz hkd hbig
  generalize canS (sumI chMg (l.take k)) = a1 at *
  generalize canS (sumI chPf (l.take k)) = a2 at *
  generalize canS (sumI chMg (l.drop k)) = b1 at *
  generalize canS (sumI chPf (l.drop k)) = b2 at *
  generalize canS (sumI chMg l) = r1 at *
  generalize canS (sumI chPf l) = r2 at *
  have hc00 : ¬ c = 0 := by omega
  have qk1 : decide ((k : Int) ≤ (c : Int)) = true := decide_eq_true (by omega)
  have qk2 : decide ((k : Int) ≤ (c : Int)) = true := decide_eq_true (by omega)
  subst hck2
  have hcc : ((c : Nat) = c) = True := eq_self c
  clear hcc
  go_enter Tryz.func10, Tryz.ntmps10
  go_wp2_with fail
  refine KC.step hs ⟨HR.out, trivial⟩ ?_
  intro w1 hs hb
  go_wp2_with fail
  refine KT.step hs (HR.out.on hs.2) ?_
  intro w2 hs hb
  go_wp2_with fail
  refine KR.step hs (HR.out.on hs.2) ?_
  intro w3 hs hb
  go_wp2_with fail
  refine KA.step hs (HRA.out.on hs.2) ?_
  intro w4 hs hb
  go_wp2_with fail
  refine KB.step hs (HRB.out.on hs.2) ?_
  intro w5 hs hb
  go_wp2_with fail
  refine KP1.step hs ?_
  intro w6 hs hb
  go_wp2_with fail
  refine KP2.step hs ?_
  intro w7 hs hb
  go_wp2_with fail
  refine AW.step hs ?_
  intro w9 hs hb
  go_wp2_with fail
  go_ret
  exact ⟨rfl, hs.2⟩
set_option maxRecDepth 100000 in
set_option maxHeartbeats 4000000 in
theorem totals_zero {A : Option Addr} {c x : Nat} (hx : x ≤ 255) (w : World) (hg : Gl w) : Calls Tryz.prog 10 #[.slice A 0 c, .int .u8 (x : Int)] w fun e w' => e = .returned (.bool true) ∧ Below w.heap.size w w' := by
  have hs := St.refl hg
  have AW := awake45
  have q : decide ((12 : Int) < (0 : Int)) = false := by decide
  have hmod : ((x : Int)).tmod ((0 : Int) + 1) = 0 := by
    show Int.tmod (Int.ofNat x) (Int.ofNat 1) = _
    show Int.ofNat (x % 1) = _
    rw [Nat.mod_one]
    rfl
  have KE := fun (A : Option Addr) (c : Nat) => tot_any (A := A) (n := 0) (c := c) (K := 13) (l := []) rfl (by decide) (by decide) (fun s hs => by cases hs)
  have KR := fun (A : Option Addr) (c : Nat) => rtot_any (A := A) (n := 0) (c := c) (K := 13) (l := []) rfl (by decide) (by decide) (fun s hs => by cases hs)
  have KC := fun (A : Option Addr) (c : Nat) => containsC (A := A) (n := 0) (c := c) (cap := #[]) (f := 52) (p := lngC) (l := []) (I := fun _ => True) (fun _ _ _ _ => trivial) rfl (by decide) (fun _ _ => rfl) (fun s hs => by cases hs)
  have KP := AddR Vs.nil Vs.nil
  rw [show canS (0 + 0) = ⟨#[]⟩ from canS_zero] at KP
  rw [show canS (sumI chMg []) = ⟨#[]⟩ from canS_zero, show canS (sumI chPf []) = ⟨#[]⟩ from canS_zero] at KE KR
  have HN := Lib.hid row_nil
  rcases A with _ | ⟨b, o, sp⟩
  all_goals
    have hadd : ∀ a : Addr, a.add (0 * 5) = a := fun a => by simp [Addr.add]
    by_cases hc : c = 0
    · subst hc
      go_enter Tryz.func10, Tryz.ntmps10
      go_wp2_with fail
      refine (KC _ _).step hs ⟨HN.out _ _, trivial⟩ ?_
      intro w1 hs hb
      go_wp2_with fail
      refine (KE _ _).step hs (HN.out _ _) ?_
      intro w1 hs hb
      go_wp2_with fail
      refine (KR _ _).step hs (HN.out _ _) ?_
      intro w1 hs hb
      go_wp2_with fail
      refine (KE _ _).step hs (HN.out _ _) ?_
      intro w1 hs hb
      go_wp2_with fail
      refine (KE _ _).step hs (HN.out _ _) ?_
      intro w1 hs hb
      go_wp2_with fail
      refine KP.step hs ?_
      intro w1 hs hb
      go_wp2_with fail
      refine KP.step hs ?_
      intro w1 hs hb
      go_wp2_with fail
      refine AW.step hs ?_
      intro w1 hs hb
      go_wp2_with fail
      go_ret
      exact ⟨rfl, hs.2⟩
    · have hc0 : ¬ (c = 0) := hc
      have qc : decide ((0 : Int) ≤ (c : Int)) = true := decide_eq_true (by omega)
      go_enter Tryz.func10, Tryz.ntmps10
      go_wp2_with fail
      refine (KC _ _).step hs ⟨HN.out _ _, trivial⟩ ?_
      intro w1 hs hb
      go_wp2_with fail
      refine (KE _ _).step hs (HN.out _ _) ?_
      intro w1 hs hb
      go_wp2_with fail
      refine (KR _ _).step hs (HN.out _ _) ?_
      intro w1 hs hb
      go_wp2_with fail
      refine (KE _ _).step hs (HN.out _ _) ?_
      intro w1 hs hb
      go_wp2_with fail
      refine (KE _ _).step hs (HN.out _ _) ?_
      intro w1 hs hb
      go_wp2_with fail
      refine KP.step hs ?_
      intro w1 hs hb
      go_wp2_with fail
      refine KP.step hs ?_
      intro w1 hs hb
      go_wp2_with fail
      refine AW.step hs ?_
      intro w1 hs hb
      go_wp2_with fail
      go_ret
      exact ⟨rfl, hs.2⟩
theorem totals_any {A : Option Addr} {n c x : Nat} {l : List ChS} (hl : l.length = n) (hc : n ≤ c) (hc2 : c ≤ 9223372036854775807) (hx : x ≤ 255) (hbig : ∀ s ∈ l, ChS.big45 s) (w : World) (hg : Gl w) (hr : Row w A (flatG chcells l)) : Calls Tryz.prog 10 #[.slice A n c, .int .u8 (x : Int)] w fun e w' => e = .returned (.bool true) ∧ Below w.heap.size w w' := by
  by_cases h : 12 < n
  · exact totals_many h (by omega) w hg
  · cases hL : l.any lngC with
    | true => exact totals_long hl (by omega) hbig hL w hg hr
    | false =>
      by_cases h0 : n = 0
      · subst h0
        exact totals_zero hx w hg
      · have hd : l[0]? = some l[0] := List.getElem?_eq_getElem (by omega)
        obtain ⟨b, o, hA, _, _⟩ := row_at (cs := chcells) (m := 5) chcells_len (by decide) hr hd
        subst hA
        by_cases hck : c = x % (n + 1)
        · exact totals_full hl (by omega) (by omega) hc hc2 hx hbig hL hck w hg hr
        · exact totals_some hl (by omega) (by omega) hc hc2 hx hbig hL hck w hg hr
end Go.Proofs.YtgagjpjlnlandaaGreatDoor
