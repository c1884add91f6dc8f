/- slices.Repeat of one text, up to twelve times. Condition: that number. -/
import Derived.Test.YtpipkeplhkccoaaGreatDoorPzg
import Derived.Laws.CopyOwn
import Derived.Deep.RegionLaw
namespace Go.Proofs.YtpipkeplhkccoaaGreatDoor
open Go.RowKit Go.Shelf Go.Sort SP Dec

set_option maxRecDepth 100000 in
set_option maxHeartbeats 4000000 in
theorem mul64_few {n : Nat} (h1 : 1 ≤ n) (h12 : n ≤ 12) (w : World) : Calls Tryz.prog 177 #[.int .u64 1, .int .u64 (n : Int)] w fun e w' => e = .returned (.tuple #[.int .u64 0, .int .u64 (n : Int)]) ∧ w' = w := by
  obtain h | h | h | h | h | h | h | h | h | h | h | h : n = 1 ∨ n = 2 ∨ n = 3 ∨ n = 4 ∨ n = 5 ∨ n = 6 ∨ n = 7 ∨ n = 8 ∨ n = 9 ∨ n = 10 ∨ n = 11 ∨ n = 12 := by omega
  all_goals
    subst h
    go_enter Tryz.func177, Tryz.ntmps177
    go_wp2_with fail
    go_ret2
    exact ⟨rfl, rfl⟩
set_option maxRecDepth 100000 in
set_option maxHeartbeats 4000000 in
theorem mul_few {n : Nat} (h1 : 1 ≤ n) (h12 : n ≤ 12) (w : World) : Calls Tryz.prog 141 #[.int .u64 1, .int .u64 (n : Int)] w fun e w' => e = .returned (.tuple #[.int .u64 0, .int .u64 (n : Int)]) ∧ w' = w := by
  have K := mul64_few h1 h12 w
  have hw : IntKind.u64.wrap (n : Int) = (n : Int) := by simp [IntKind.wrap, IntKind.bits, IntKind.signed]; omega
  clear h1 h12
  go_enter Tryz.func141, Tryz.ntmps141
  go_wp2_with fail
  refine K.mono ?_
  rintro e w1 ⟨rfl, rfl⟩
  go_wp2_with fail
  go_ret2
  exact ⟨rfl, rfl⟩
theorem splice_len {L : List Value} {k m : Nat} {x : Value} (h : k + m ≤ L.length) : (splice L k (List.replicate m x)).length = L.length := by
  unfold splice
  rw [List.length_append, List.length_append, List.length_take, List.length_replicate, List.length_drop]
  omega
theorem splice_fil {L : List Value} {k m : Nat} {x : Value} (hL : ∀ i, i < k → L[i]? = some x) (h : k + m ≤ L.length) : ∀ i, i < k + m → (splice L k (List.replicate m x))[i]? = some x := by
  intro i hi
  unfold splice
  by_cases h1 : i < k
  · rw [List.getElem?_append_left (by rw [List.length_take]; omega), List.getElem?_take, if_pos h1]
    exact hL i h1
  · rw [List.getElem?_append_right (by rw [List.length_take]; omega), List.length_take, Nat.min_eq_left (by omega), List.getElem?_append_left (by rw [List.length_replicate]; omega), List.getElem?_replicate, if_pos (by omega)]
theorem rep_fil {W : World} {P n k m : Nat} {T : TypeId} {L : List Value} {x : Value} (hg : W.heap[P]? = some (.cells (splice L k (List.replicate m x)).toArray T (0, 0))) (hl : L.length = n) (hk : k + m ≤ n) (hL : ∀ i, i < k → L[i]? = some x) : Fil W P T n (k + m) (fun _ => x) :=
  ⟨_, hg, by rw [List.size_toArray, splice_len (by omega), hl], fun i hi => by rw [List.getElem?_toArray]; exact splice_fil hL (by omega) i hi⟩
theorem step_copy_at {P : Program} {ops : Array Oper} {o : Oper} {a : Act} {w : World} {K : Act → World → Prop} {Q : Exit → Act → World → Prop} {E : Prop} (hgd : o.guard = none) (d s : Operand) (dT sT : TypeId)
    (ho : o.op = .call { callee := .builtin .copy, args := #[d, s], argTypes := #[dT, sT] }) (dd : Tmp) (hdst : o.dst = some dd) (elem : TypeId) (hu : P.underlying dT = some (.slice elem)) (hsz : (P.info? elem).map (·.size) = some 1)
    (dp sp : Option Addr) (dLen dCap sLen sCap : Nat) (hd : a.eval d = .slice dp dLen dCap) (hs : a.eval s = .slice sp sLen sCap)
    (g off : Nat) (cur : List Value) (t : TypeId) (hg : w.heap[g]? = some (.cells cur.toArray t (0, 0))) (cs : List Value) (m : Nat) (hm : cs.length = m) (hn : cs.length = Nat.min sLen dLen)
    (hpos : 0 < cs.length → dp = some ⟨g, off, none⟩ ∧ ∃ ad, sp = some ad ∧ ∀ j v, cs[j]? = some v → w.cell? (ad.add j) = some v)
    (hfit : off + cs.length ≤ cur.length) (h1 : ∀ v ∈ cs, v.oneCell' = true) (B : Nat) (w0 : World) (hb : RowKit.Below B w0 w) (hBg : B ≤ g)
    (h : ∀ w', RowKit.Hid (w'.heap[g]? = some (.cells (splice cur off cs).toArray t (0, 0))) → RowKit.Below B w0 w' → K (a.put (some dd) (.int .i64 (m : Int))) w') :
    if Region.wanted o (yielded ops a.tmps) = true then Oper.wp P o a w K Q else E :=
  step_copy_splice hgd d s dT sT ho elem hu hsz dp sp dLen dCap sLen sCap hd hs g off cur t hg cs hn hpos hfit h1 B w0 hb hBg (fun w' h2 h3 => by
    rw [hdst, hm]
    exact h w' h2 h3)
set_option maxRecDepth 100000 in
set_option maxHeartbeats 4000000 in
theorem rep4_any {b n : Nat} {s : ByteArray} (h1 : 1 ≤ n) (h12 : n ≤ 12) (w : World) (hx : w.cell? ⟨b, 0, none⟩ = some (.string s)) :
    Calls Tryz.prog 77 #[.slice (some ⟨b, 0, none⟩) 1 1, .int .i64 (n : Int)] w fun e w' => ∃ P, e = .returned (.slice (some ⟨P, 0, none⟩) n n) ∧ w.heap.size ≤ P ∧ Fil w' P 22 n n (fun _ => .string s) ∧ Below w.heap.size w w' := by
  have KM := mul_few h1 h12 w
  obtain ⟨Z, hZ, hm⟩ := madeS h12
  have HMS : ∀ u : World, (Instr.makeSlice 25 (.int .i64 (n : Int)) (.int .i64 (n : Int))).run Tryz.prog u = .ok (.slice (some ⟨u.heap.size, 0, none⟩) n n) (u.alloc (.cells Z 22)) := hm
  have hw : IntKind.u64.wrap (n : Int) = (n : Int) := by simp [IntKind.wrap, IntKind.bits, IntKind.signed]; omega
  have hw2 : IntKind.i64.wrap (n : Int) = (n : Int) := by rw [IntKind.wrap_i64]; omega
  have q0 : decide ((n : Int) < 0) = false := decide_eq_false (by omega)
  have q1 : decide ((9223372036854775807 : Int) < (n : Int)) = false := decide_eq_false (by omega)
  have HX := Lib.hid hx
  have HZ := Lib.hid hZ
  clear hm hx hZ
  go_enter Tryz.func77, Tryz.ntmps77
  go_wp2_with fail
  refine KM.mono ?_
  rintro e w1 ⟨rfl, rfl⟩
  have hP := heap_new w1 (.cells Z 22)
  have HP0 : Hid ((w1.alloc (.cells Z 22)).heap[w1.heap.size]? = some (.cells Z.toList.toArray 22 (0, 0))) := by
    show _ = _
    rw [hP, Array.toArray_toList]
  have HB0 : Hid (Below w1.heap.size w1 (w1.alloc (.cells Z 22))) := (Below.refl _ _).alloc (Nat.le_refl _) _
  have HC0 : Hid ((w1.alloc (.cells Z 22)).cell? ⟨b, 0, none⟩ = some (.string s)) := (HB0.out.cell (p := ⟨b, 0, none⟩) (block_lt_of_cell HX.out)).trans HX.out
  clear hP
  go_wp2_with (show wpList _ _ _ (⟨some 33, _, _, _, _, _⟩ :: _) _ _; refine wpList_copy_splice rfl (.tmp 31) (.tmp 32) 25 25 rfl 22 Tryz.underlying25 (by kernel_rfl) (some ⟨w1.heap.size, 0, none⟩) (some ⟨b, 0, none⟩) n n 1 1 rfl rfl w1.heap.size 0 Z.toList 22 HP0.out (List.replicate 1 (.string s)) (by rw [List.length_replicate]; show 1 = min 1 n; omega) (fun _ => ⟨rfl, _, rfl, fun j v hv => by
    match j, hv with
    | 0, hv => simp at hv; subst hv; exact HC0.out⟩) (by rw [List.length_replicate, Array.length_toList, HZ.out]; omega) (by intro v hv; simp at hv; subst hv; rfl) w1.heap.size w1 HB0.out (Nat.le_refl _) ?_; intro w2 hg2 hb2)
  have HF : Hid (Fil w2 w1.heap.size 22 n (0 + 1) (fun _ => .string s) ∧ Below w1.heap.size w1 w2) := ⟨rep_fil hg2.out (by rw [Array.length_toList, HZ.out]) (by omega) (fun i hi => by omega), hb2⟩
  clear hg2 hb2 HP0 HB0 HC0 HMS
  try go_wp2_with fail
  go_loopw [8] (fun s' wr => ∃ k : Nat, 1 ≤ k ∧ k ≤ n ∧ s' = .int .i64 (k : Int) ∧ Hid (Fil wr w1.heap.size 22 n k (fun _ => .string s) ∧ Below w1.heap.size w1 wr)) (fun s' _ => (n - intOf s').toNat)
  case atStart => exact ⟨1, by omega, by omega, rfl, HF.out⟩
  case round =>
    clear HF
    obtain ⟨k, hk1, hk, rfl, HF⟩ := hrel
    by_cases hkn : k = n
    · subst hkn
      have q : decide ((k : Int) < (k : Int)) = false := decide_eq_false (by omega)
      go_wp2_with fail
      go_ret
      exact ⟨_, rfl, Nat.le_refl _, HF.out.1, HF.out.2⟩
    · have hkl : k < n := by omega
      have q : decide ((k : Int) < (n : Int)) = true := decide_eq_true (by omega)
      have qn : decide (k < n) = true := decide_eq_true hkl
      obtain ⟨cs, g1, g2, g3⟩ := HF.out.1
      obtain ⟨m, hmm⟩ : ∃ m, min k (n - k) = m := ⟨_, rfl⟩
      have HM : Hid (min k (n - k) = m) := hmm
      have HM2 : Hid (k + m ≤ n ∧ 0 < m) := ⟨by omega, by omega⟩
      have HG : Hid (wr.heap[w1.heap.size]? = some (.cells cs.toList.toArray 22 (0, 0))) := by show _ = _; rw [g1, Array.toArray_toList]
      have HC : Hid (cs.toList.length = n ∧ ∀ i, i < k → cs.toList[i]? = some (.string s)) := ⟨by rw [Array.length_toList, g2], fun i hi => by rw [Array.getElem?_toList]; exact g3 i hi⟩
      have HCE : Hid (∀ j, j < k → wr.cell? ⟨w1.heap.size, j, none⟩ = some (.string s)) := fun j hj => HF.out.1.cell hj
      have HBB := Lib.hid HF.out.2
      have HSRC : Hid (∀ j v, (List.replicate m (Value.string s))[j]? = some v → wr.cell? ((⟨w1.heap.size, 0, none⟩ : Addr).add j) = some v) := fun j v hv => by
        rw [List.getElem?_replicate] at hv
        split at hv
        · rename_i hj
          injection hv with hv
          subst hv
          have e : (⟨w1.heap.size, 0, none⟩ : Addr).add j = ⟨w1.heap.size, j, none⟩ := by unfold Addr.add; by_cases h : j = 0 <;> simp [h]
          rw [e]
          exact HCE.out j (by have := HM.out; omega)
        · cases hv
      have hadd : (⟨w1.heap.size, 0, none⟩ : Addr).add (k * 1) = ⟨w1.heap.size, k, none⟩ := by unfold Addr.add; by_cases h : k * 1 = 0 <;> simp [h] <;> omega
      have hadd1 : (⟨w1.heap.size, 0, none⟩ : Addr).add k = ⟨w1.heap.size, k, none⟩ := by rw [Nat.mul_one] at hadd; exact hadd
      have hadd0 : ∀ a : Addr, a.add (0 * 1) = a := fun a => by simp [Addr.add]
      have hcn : ¬ n = k := by omega
      have hcn2 : ¬ k = n := hkn
      have hn0 : ¬ n = 0 := by omega
      have kl2 : (k : Int) < (n : Int) := by omega
      have kl3 : (k : Int) ≤ (n : Int) := by omega
      clear hmm g1 g2 g3 HF hkn
      go_wp2_with fail
      go_region_law (refine step_copy_at rfl (.tmp 41) (.tmp 44) 25 25 rfl 45 rfl 22 Tryz.underlying25 (by kernel_rfl) (some ⟨w1.heap.size, k, none⟩) (some ⟨w1.heap.size, 0, none⟩) (n - k) (n - k) k n (by simp [Act.eval, Act.put]) (by simp [Act.eval, Act.put]) w1.heap.size k cs.toList 22 HG.out (List.replicate m (.string s)) m List.length_replicate (by rw [List.length_replicate]; exact HM.out.symm) (fun _ => ⟨rfl, _, rfl, HSRC.out⟩) (by rw [List.length_replicate, HC.out.1]; exact HM2.out.1) (by intro v hv; have := List.eq_of_mem_replicate hv; subst this; rfl) w1.heap.size w1 (by first | exact HBB.out | exact HBB.out.drew) (Nat.le_refl _) ?_; intro w4 hg4 hb4; (try simp only [Act.put]); (try simp only [List.setIfInBounds_toArray]); (try simp only [List.set_cons_succ]); (try simp only [List.set_cons_zero]))
      all_goals
        have HF4 : Hid (Fil w4 w1.heap.size 22 n (k + m) (fun _ => .string s) ∧ Below w1.heap.size w1 w4) := ⟨rep_fil hg4.out HC.out.1 HM2.out.1 HC.out.2, hb4⟩
        clear hg4 hb4
        go_wp2_with fail
        go_roundw
        case rel =>
          iterate 14 apply Exists.intro
          refine And.intro ?_ ?_
          rotate_left 1
          · rfl
          exact ⟨k + m, by omega, HM2.out.1, by show Value.int IntKind.i64 (IntKind.i64.wrap ((k : Int) + (m : Int))) = _; have := HM2.out; have hw3 : IntKind.i64.wrap ((k : Int) + (m : Int)) = (k : Int) + (m : Int) := (by rw [IntKind.wrap_i64]; omega); rw [hw3]; rfl, HF4.out⟩
        case measure =>
          show (n - intOf (Value.int IntKind.i64 (IntKind.i64.wrap ((k : Int) + (m : Int))))).toNat < (n - intOf (Value.int IntKind.i64 (k : Int))).toNat
          have := HM2.out
          have hw3 : IntKind.i64.wrap ((k : Int) + (m : Int)) = (k : Int) + (m : Int) := by rw [IntKind.wrap_i64]; omega
          rw [hw3]
          simp [intOf]
          omega
end Go.Proofs.YtpipkeplhkccoaaGreatDoor
